/-
  Texts of this claim, one behind the other.
-/
import Derived.Test.YtjaioajjfiaheaaGreatDoorR1
import Derived.Test.YtjaioajjfiaheaaGreatDoorR18
import Derived.Test.YtjaioajjfiaheaaGreatDoorR10
import Derived.Test.YtjaioajjfiaheaaGreatDoorR14
import Derived.Test.YtjaioajjfiaheaaGreatDoorR7
import Derived.Test.YtjaioajjfiaheaaGreatDoorR9
import Derived.Test.YtjaioajjfiaheaaGreatDoorR12
import Derived.Test.YtjaioajjfiaheaaGreatDoorR17
import Derived.Test.YtjaioajjfiaheaaGreatDoorR15
import Derived.Laws.Append
import Derived.Laws.AppendOwn
import Derived.Lib.Hide
set_option linter.unusedVariables false
set_option linter.unusedSimpArgs false
set_option maxHeartbeats 16000000
set_option maxRecDepth 100000
namespace Go.Cells
open Go.RowKit Go.Mem
structure Up (S:Nat→Prop) (w w':World):Prop where
 size:w.heap.size≤w'.heap.size
 block:∀ k,S k→k < w.heap.size→w'.heap[k]? = w.heap[k]?
theorem Up.refl (S:Nat→Prop) (w:World):Up S w w:=⟨Nat.le_refl _,fun _ _ _=>rfl⟩
theorem Up.trans {S:Nat→Prop} {u v w:World} (h:Up S u v) (k:Up S v w):Up S u w:=⟨Nat.le_trans h.size k.size,fun i hi hl=>(k.block i hi (Nat.lt_of_lt_of_le hl h.size)).trans (h.block i hi hl)⟩
theorem Up.mono {S T:Nat→Prop} {u v:World} (h:Up S u v) (hc:∀ i,T i→S i):Up T u v:=⟨h.size,fun i hi hl=>h.block i (hc i hi) hl⟩
theorem Up.of_onlyB {S:Nat→Prop} {sb:Nat} {w w':World} (h:zI sb w w') (hs:¬ S sb):Up S w w':=⟨h.size,fun i hi hl=>h.block i hl (fun e=>hs (e ▸ hi))⟩
theorem Up.of_only {S:Nat→Prop} {sb:Nat} {w w':World} (h:Only sb w w') (hs:¬ S sb):Up S w w':=Up.of_onlyB (zI.of_only h) hs
theorem Up.of_below {S:Nat→Prop} {w w':World} (h:Below w.heap.size w w'):Up S w w':=⟨h.size,fun i _ hl=>h.block i hl⟩
theorem Blk.up {S:Nat→Prop} {w w':World} {b:Nat} {vs:List Value} {ty:TypeId} (h:Blk w b vs ty) (hu:Up S w w') (hb:S b):Blk w' b vs ty:=(hu.block b hb h.lt).trans h
def Std (base:Nat) (L:List Nat) (w:World) (X:World→Prop):Prop:=∀ S w',(∀ i,base≤i∨i∈L→S i)→Up S w w'→X w'
theorem Std.self {base:Nat} {L:List Nat} {w:World} {X:World→Prop} (h:Std base L w X):X w:=h (fun _=>True) w (fun _ _=>trivial) (Up.refl _ w)
theorem Std.later {base:Nat} {L:List Nat} {w w':World} {X:World→Prop} (h:Std base L w X) (hb:Below w.heap.size w w'):Std base L w' X:=fun S w'' hS hu=>h S w'' hS ((Up.of_below hb).trans hu)
theorem Std.mono {b c:Nat} {L M:List Nat} {w:World} {X:World→Prop} (h:Std b L w X) (hb:c≤b) (hl:∀ i∈L,c≤i∨i∈M):Std c M w X:=fun S w'' hS hu=>h S w'' (fun i hi=>hi.elim (fun hi=>hS i (.inl (Nat.le_trans hb hi))) fun hi=>hS i (hl i hi)) hu
theorem Std.at {base:Nat} {L:List Nat} {w w':World} {X:World→Prop} (h:Std base L w X) (hu:Up (fun i=>base≤i∨i∈L) w w'):Std base L w' X:=fun S w'' hS hv=>h (fun i=>base≤i∨i∈L) w'' (fun _ h=>h) (hu.trans (hv.mono hS))
theorem Std.only {base sb:Nat} {L:List Nat} {w w':World} {X:World→Prop} (h:Std base L w X) (ho:Only sb w w') (h1:sb < base) (h2:sb∉L):Std base L w' X:=h.at (Up.of_only ho (fun e=>e.elim (fun e=>by omega) h2))
theorem Std.imp {base:Nat} {L:List Nat} {w:World} {X Y:World→Prop} (h:Std base L w X) (hi:∀ w',X w'→Y w'):Std base L w Y:=fun S w' hS hu=>hi w' (h S w' hS hu)
end Go.Cells
namespace Go.Proofs.YtjaioajjfiaheaaGreatDoor
open Go.RowKit Go.Mem Go.Ops Go.Cells Go.Oct Go.Trn Go.Blake Go.Prime Go.Adi
attribute [local irreducible] zE zN zO zM yJ
theorem zdo {w:World} {base n cap sb:Nat} {ao:Option Addr} {xs:List Value} (h:w.ownsRow base 5 1 (.slice ao n cap) n xs) (hsb:sb < base):∀ w',zI sb w w'→zr w' ao xs:=by
 intro w' ho
 have h':w'.ownsRow base 5 1 (.slice ao n cap) n xs:=by
  refine ⟨h.1,h.2.imp id ?_⟩
  rintro ⟨g,c,cur,hv,hg,hh,rest⟩
  exact ⟨g,c,cur,hv,hg,(ho.block g (Array.getElem?_eq_some_iff.1 hh).1 (by omega)).trans hh,rest⟩
 obtain ⟨ao',cap',hv,_,_,hl⟩:=zw h'
 cases hv
 exact hl
theorem VP:(Tryz.prog.info? 295).map (·.zero)=some (some (.pointer none)):=by kernel_rfl
theorem VQ:(Tryz.prog.info? 295).map (·.size)=some 1:=by kernel_rfl
theorem ky (b:List UInt8):(kF b 16).length % 16=0∧(kF b 16).length≤b.length+15:=by
 unfold kF j8
 rw [List.length_append,List.length_replicate]
 omega
theorem zk2 (kb:Nat) (kt km:List UInt8) (ws:List UInt32) (ao:Option Addr) (n cap:Nat) (b:List UInt8) (w:World) (hk:Y3 w kb kt km ws) (hn:b.length=n) (hn6:n≤1000000) (hl:zr w ao (b.map B)) :
  Calls Tryz.prog 218 #[.pointer (some ⟨kb,0,none⟩),.slice ao n cap] w fun e w'=>e=.returned (.agg (zQ (vZ km ws b)).toArray)∧Below w.heap.size w w':=by
 have HN:=znq hn
 have HL:=znq hl
 have HK:=znq hk
 obtain ⟨wa,wc,hkb,_,_⟩:=hk.blk
 have HKB:=znq hkb
 have HK16:=znq (And.intro hk.kt16 hk.km16)
 have HKV:=znq (show (km.map B).length=16 by rw [List.length_map];exact hk.km16)
 have hkb':=hkb.lt
 obtain ⟨r,hr⟩:∃ r,r=rOf km:=⟨_,rfl⟩
 have HR:=znq (show rOf km=r∧r < PP from ⟨hr.symm,by rw [hr];exact zke _⟩)
 obtain ⟨d,hd⟩:∃ d,d=kF b 16:=⟨_,rfl⟩
 obtain ⟨dn,hdn⟩:∃ x,x=d.length:=⟨_,rfl⟩
 have HD:=znq (show kF b 16=d∧d.length=dn from ⟨hd.symm,hdn.symm⟩)
 have HDN:=znq (show n+j8 n 16=dn from by rw [hdn,hd,kF,List.length_append,List.length_replicate,hn])
 have hd16:dn % 16=0:=by rw [hdn,hd];exact (ky b).1
 obtain ⟨v1,p1,hA⟩:∃ v1 p1,qz ws r 0 [] d=(v1,p1):=⟨_,_,rfl⟩
 have hs:=KA ws r _ 0 [] d (Nat.le_refl _) (by decide:0 < PP) (by decide)
 rw [hA] at hs
 have HA:=znq (And.intro hA trivial)
 have HV1:=znq (show v1 < PP∧True from ⟨hs.1,trivial⟩)
 have hp1:p1.length < 16:=hs.2
 have HRES:=znq (show vZ km ws b=xo (Z7 (qq r v1 p1))∧True from ⟨by
  unfold vZ
  rw [HR.znr.1,HD.znr.1,hA],trivial⟩)
 rw [HRES.znr.1]
 have HS:=znq (St.start w)
 clear hn hl hk hkb hr hd hdn hA hs HRES
 go_enter Tryz.func218,Tryz.ntmps218
 go_wp2_with (refine zh 188 _ [.pointer (some ⟨kb,0,none⟩)] _ rfl rfl rfl rfl ?_)
 intro w1 hb hbel
 have HKB:=znq (HKB.znr.below hbel hkb')
 have HS:=znq (HS.znr.push hb hbel)
 have hlt1:=hb.lt
 clear hb hbel
 generalize hbb:w.heap.size=bb at *
 have HBB:=znq hbb
 clear hbb
 go_wp2_with (refine ze 119 [L 0,L 0] _ rfl rfl zT rfl ?_)
 intro w2 hb hbel
 have HKB:=znq (HKB.znr.below hbel HKB.znr.lt)
 have HS:=znq (HS.znr.push hb hbel)
 have hlt2:=hb.lt
 clear hb hbel
 generalize w1.heap.size=b1 at *
 have hc2:=(HS.znr.get 1 rfl).cell 0 _ rfl
 go_wp2_with (refine HKB.znr.wloadAt (off:=16) rfl rfl rfl zc (zh1 HK16.znr.1 HK16.znr.2) HKV.znr ?_)
 refine (zge km _ HK16.znr.2).mono ?_
 rintro e w5 ⟨sb,rfl,hsb,hb,hbel⟩
 rw [HR.znr.1] at hb
 have HSB:=znq hb
 have HS:=znq (HS.znr.later hbel)
 have hn1:b1≠sb:=by omega
 have hn2:bb≠sb:=by omega
 have hn3:bb≤sb:=by omega
 have hsb5:=hb.lt
 have hkbs:kb≠sb:=by omega
 clear hb hbel HKB hc2
 go_wp2_with (refine ze 295 [.pointer none] _ rfl rfl VP rfl ?_)
 intro w6 hb hbel
 have HSB:=znq (HSB.znr.below hbel hsb5)
 have h1:b1 < w5.heap.size:=HS.znr.ne _ (List.mem_of_getElem? (i:=0) rfl)
 have h2:bb < w5.heap.size:=HS.znr.ne _ (List.mem_of_getElem? (i:=1) rfl)
 have HS:=znq (HS.znr.push hb hbel)
 have hlt6:=hb.lt
 clear hb hbel
 generalize w5.heap.size=b5 at *
 go_wp2_with (refine (HS.znr.get 0 rfl).wset1 0 (.pointer (some ⟨sb,0,none⟩)) rfl rfl rfl rfl VQ rfl rfl (by simp) ?_)
 intro w7 hb ho
 have HSB:=znq (HSB.znr.only ho (by omega))
 have HS:=znq (show St w bb w7 [(b5,[.pointer (some ⟨sb,0,none⟩)],295),(b1,[L 0,L 0],119),(bb,[.pointer (some ⟨kb,0,none⟩)],188)] from HS.znr.change 0 hb ho (by omega) (by simp;omega))
 clear hb ho
 go_wp2_with fail
 refine (Zh ao n cap 16 b _ HN.znr (by omega) (by omega) (by omega) (HL.znr.below (by rw [HBB.znr];exact HS.znr.bel))).mono ?_
 rintro e w8 ⟨v8,rfl,hown,hbel⟩
 rw [HDN.znr] at hown
 obtain ⟨a8,c8,rfl,hc8,_,_⟩:=zw hown
 rw [HD.znr.1] at hown
 have HOWN:=znq hown
 have hsb8:sb < w7.heap.size:=HSB.znr.lt
 have HSB:=znq (HSB.znr.below hbel HSB.znr.lt)
 have HS:=znq (HS.znr.later hbel)
 clear hown hbel
 simp only [id]
 go_wp2_with fail
 refine (zh6 bb b5 kb sb r 0 0 kt km ws (zf 16) [] a8 dn c8 d _ (fun w' ho=>⟨(HS.znr.get 2 rfl).onlyB ho hn2,(HS.znr.get 0 rfl).onlyB ho (by omega),HK.znr.far (by rw [HBB.znr];exact HS.znr.bel) (by rw [HBB.znr];exact hn3) w' ho⟩) HSB.znr (zd 16) rfl rfl (by omega) HR.znr.2 (by decide) HD.znr.2 hc8 hd16 (fun w' ho=>zdo HOWN.znr hsb8 w' ho)).mono ?_
 rintro e w9 ⟨⟨x9,rfl⟩,⟨r1,hr1l,hr1t,hb⟩,ho⟩
 rw [HA.znr.1] at hr1t hb
 have HSB:=znq hb
 have HR1:=znq (And.intro hr1l hr1t)
 have HS:=znq (HS.znr.offB ho hn3 (by simp;omega))
 clear hb hr1l hr1t ho
 have hc5:=(HS.znr.get 0 rfl).cell 0 _ rfl
 go_wp2_with fail
 refine (Kx sb r v1 r1 p1 p1.length _ HSB.znr HR1.znr.1 HR1.znr.2 rfl hp1 HR.znr.2 HV1.znr.1).mono ?_
 rintro e w10 ⟨rfl,hbel⟩
 have HS:=znq (HS.znr.later hbel)
 clear hbel hc5
 go_wp2_with (refine (HS.znr.get 1 rfl).wstore rfl rfl rfl (cs:=zQ (xo (Z7 (qq r v1 p1)))) rfl zq rfl rfl (zX _) ?_)
 intro w11 hb ho
 have HE:=znq (zk HS.znr.bel ho (by omega))
 clear ho
 go_wp2
 refine hb.result rfl rfl rfl zq rfl ⟨rfl,?_⟩
 rw [HBB.znr]
 exact HE.znr
theorem KR (kb:Nat) (kt km:List UInt8) (ws:List UInt32) (ao:Option Addr) (n cap:Nat) (tw:List UInt8) (bo:Option Addr) (m cb:Nat) (b:List UInt8) (w:World) (hk:Y3 w kb kt km ws) (hn:tw.length=n) (hc:n≤cap) (hn6:n≤1000000) (hl:zr w ao (tw.map B)) (hm:b.length=m) (hm6:m≤1000000) (hlb:zr w bo (b.map B)) :
  Calls Tryz.prog 210 #[.pointer (some ⟨kb,0,none⟩),.slice ao n cap,.slice bo m cb] w fun e w'=>e=.returned (.agg (zQ (plusW (vY kt tw m) (vZ km ws b))).toArray)∧Below w.heap.size w w':=by
 have HK:=znq hk
 have HN:=znq hn
 have HL:=znq hl
 have HM:=znq hm
 have HLB:=znq hlb
 have HS:=znq (St.start w)
 clear hk hn hl hm hlb
 go_enter Tryz.func210,Tryz.ntmps210
 go_wp2_with (refine ze 119 [L 0,L 0] _ rfl rfl zT rfl ?_)
 intro w1 hb hbel
 have HS:=znq (HS.znr.push hb hbel)
 clear hb hbel
 generalize hbb:w.heap.size=bb at *
 have HBB:=znq hbb
 have HB:=znq (show ∀ wz,St w bb wz [(bb,[L 0,L 0],119)]→Below w.heap.size w wz from fun wz h=>by rw [hbb];exact h.bel)
 clear hbb
 go_wp2_with fail
 refine (zm5 kb kt km ws ao n cap tw m _ (HK.znr.below (HB.znr _ HS.znr)) HN.znr hc hn6 hm6 (HL.znr.below (HB.znr _ HS.znr))).mono ?_
 rintro e w2 ⟨rfl,hbel⟩
 have HS:=znq (HS.znr.later hbel)
 clear hbel
 go_wp2_with fail
 refine (zk2 kb kt km ws bo m cb b _ (HK.znr.below (HB.znr _ HS.znr)) HM.znr hm6 (HLB.znr.below (HB.znr _ HS.znr))).mono ?_
 rintro e w3 ⟨rfl,hbel⟩
 have HS:=znq (HS.znr.later hbel)
 clear hbel
 go_wp2_with fail
 refine (J6 (vY kt tw m) (vZ km ws b) _).mono ?_
 rintro e w4 ⟨rfl,hbel⟩
 have HS:=znq (HS.znr.later hbel)
 clear hbel
 go_wp2_with (refine (HS.znr.get 0 rfl).wstore rfl rfl rfl (cs:=zQ (plusW (vY kt tw m) (vZ km ws b))) rfl zq rfl rfl (zX _) ?_)
 intro w5 hb ho
 have HE:=znq (zk HS.znr.bel ho (by omega))
 clear ho
 go_wp2
 refine hb.result rfl rfl rfl zq rfl ⟨rfl,?_⟩
 rw [HBB.znr]
 exact HE.znr
theorem zdp {a b:List UInt8} (ha:a.length=16) (hb:b.length=16) (wa:Option Addr) (m wc:Nat):Tryz.prog.built 233 [(0,.agg (a.map B).toArray),(1,.agg (b.map B).toArray),(2,.slice wa m wc)]=some (ZV a b (.slice wa m wc)).toArray:=by
 obtain ⟨a0,a1,a2,a3,a4,a5,a6,a7,a8,a9,a10,a11,a12,a13,a14,a15,rfl⟩:=ZI ha
 obtain ⟨b0,b1,b2,b3,b4,b5,b6,b7,b8,b9,b10,b11,b12,b13,b14,b15,rfl⟩:=ZI hb
 kernel_rfl
theorem zm7 (ao:Option Addr) (cap:Nat) (key:List UInt8) (w:World) (hk:key.length=1104) (hc:1104≤cap) (hl:zr w ao (key.map B)) :
  Calls Tryz.prog 130 #[.slice ao 1104 cap] w fun e w'=>∃ kb,e=.returned (.tuple #[.pointer (some ⟨kb,0,none⟩),.int .i64 0])∧Std w.heap.size [] w' (fun w''=>Y3 w'' kb (block key) (block (key.drop 16)) (Za (key.drop 32)))∧Below w.heap.size w w':=by
 have HK:=znq hk
 have HL:=znq hl
 have HS:=znq (St.start w)
 clear hk hl
 have hsl:=fun (w':World)=>yv (P:=Tryz.prog) w' 22 5 1 Tryz.underlying22 zl ao 1104 cap 32 32 rfl (by omega)
 have HL32:=znq (show zr w (yy ao cap 32) ((key.drop 32).map B) from zr.dropA HL.znr (by rw [HK.znr];exact hc) 32)
 have HL16:=znq (show zr w (yy ao cap 16) ((key.drop 16).map B) from zr.dropA HL.znr (by rw [HK.znr];exact hc) 16)
 go_enter Tryz.func130,Tryz.ntmps130
 go_wp2_with fail
 refine (zh3 (yy ao cap 32) (cap - 32) (key.drop 32) _ (by rw [List.length_drop,HK.znr]) HL32.znr).mono ?_
 rintro e w1 ⟨wb,rfl,hwb,hb,hbel⟩
 have HWB:=znq hwb
 clear hwb
 have HS:=znq (HS.znr.push (b:=wb) (vs:=(Za (key.drop 32)).map W) (ty:=149) hb hbel)
 clear hb hbel hsl
 have hsl:=fun (w':World)=>yv (P:=Tryz.prog) w' 22 5 1 Tryz.underlying22 zl ao 1104 cap 16 16 rfl (by omega)
 go_wp2_with fail
 refine zn [0,2,3,5,1,4,6,7,8,9] (by kernel_rfl) (by kernel_rfl) ?_
 rintro w2 rfl
 refine mqR ?_
 clear hsl
 have HS:=znq HS.znr.drew
 refine zi rfl rfl (by rfl) (fun K hK=>?_)
 go_simp
 refine (yQ ao 1104 cap key _ HK.znr (HL.znr.below HS.znr.bel)).mono ?_
 rintro e w3 ⟨rfl,hbel⟩
 have HS:=znq (HS.znr.later hbel)
 go_simp
 refine hK _ _ hbel ?_
 clear hK K hbel
 refine zi rfl rfl (by rfl) (fun K hK=>?_)
 go_simp
 refine (yQ (yy ao cap 16) 1088 (cap - 16) (key.drop 16) _ (by rw [List.length_drop,HK.znr]) (HL16.znr.below HS.znr.bel)).mono ?_
 rintro e w4 ⟨rfl,hbel⟩
 have HS:=znq (HS.znr.later hbel)
 go_simp
 refine hK _ _ hbel ?_
 clear hK K hbel
 refine kQ rfl rfl (by rfl) 233 _ _ _ rfl rfl (zdp (zA key) (zA (key.drop 16)) (some ⟨wb,0,none⟩) 268 268) (fun K hK=>?_)
 go_simp
 refine hK _ ?_
 clear hK K
 refine zi rfl rfl (by rfl) (fun K hK=>?_)
 have HZ4:=znq HS.znr.size
 refine zj5 233 _ (ZV (block key) (block (key.drop 16)) (.slice (some ⟨wb,0,none⟩) 268 268)) _ rfl rfl rfl (fun w5 hb hbel=>hK _ _ hbel ?_)
 clear hK K
 have HS:=znq (HS.znr.push hb hbel)
 clear hb hbel
 go_simp
 refine mqR ?_
 refine zo ?_
 go_wp2
 go_ret2
 exact ⟨_,rfl,fun S w'' hS ho=>⟨⟨_,_,(HS.znr.get 0 rfl).up ho (hS _ (.inl HZ4.znr)),((HS.znr.get 1 rfl).up ho (hS _ (.inl HWB.znr))).lies,by omega⟩,zA _,zA _,VL _⟩,HS.znr.bel⟩
end Go.Proofs.YtjaioajjfiaheaaGreatDoor
namespace Go.Mem
open Go.RowKit Go.Cells Go.Ops
theorem WI {P:Program} {w:World} {o:Oper} {a:Act} {K:Act→World→Prop} {Q:Exit→Act→World→Prop} (s x:Operand) (t e:TypeId) (z:Value) (by':Nat)
  (ho:o.op=.call { callee:=.builtin .append,args:=#[s,x],argTypes:=#[t,t] }) (ht:P.underlying t=some (.slice e)) (hi5:(P.info? e).map (fun i=>(i.zero,i.size,i.bytes))=some (some z,1,by')) (hzs:z.cells.size=1)
  (b:Addr) (hs:a.eval s=.slice (some b) 0 0) (ao:Option Addr) (m c:Nat) (news:List Value) (hx:a.eval x=.slice ao m c) (hl:news.length=m) (hlies:zr w ao news) (h1:∀ u∈news,u.oneCell'=true)
  (h63:m≤140737488355328) (hby:by'=1)
  (h:∀ a' c' w',m≤c'→c'≤maxLen→zr w' a' news→(0 < m→w'.ownsRow w.heap.size e 1 (.slice a' m c') m news)→Below w.heap.size w w'→K (a.put o.dst (.slice a' m c')) w'):o.wp P a w K Q:=by
 subst hby
 obtain ⟨i,hi,hzz⟩:=Option.map_eq_some_iff.1 hi5
 simp only [Prod.mk.injEq] at hzz
 obtain ⟨hz,hsz,hby⟩:=hzz
 by_cases hm:m=0
 ·subst hm
  obtain rfl:news=[]:=List.eq_nil_of_length_eq_zero hl
  have hrun:(Builtin.append_ #[t,t] o.type #[.slice (some b) 0 0,.slice ao 0 c]).run P w=.ok (.slice (some b) 0 0) w:=by
   cases ao <;> simp [Builtin.append_,run_underlying ht,sizeOf,typeInfo,hi,Builtin.lenOf,Builtin.firstCells,storeCells,loadCells,loadCellsFrom]
  unfold Oper.wp
  simp [execOp,ho,resolve,invoke,builtin,hs,hx,hrun,Result.andThen]
  exact h _ _ _ (Nat.le_refl _) (by simp [maxLen]) (zr.nil _ _) (fun h=>absurd h (by omega)) (Below.refl _ _)
 ·obtain ⟨b',off,rfl,_,hc⟩:=hlies.at (by rintro rfl;simp at hl;omega)
  have hr:=run_append_grow (P:=P) w t o.type e i z ht hi hz b 0 0 [] (by simp) (by intro j v hj;simp at hj) ⟨b',off,none⟩ m c news (by rw [hl,hsz,Nat.mul_one]) hlies.news (by omega) (by omega) (growslice_fits (by omega) (by rw [hby];omega))
  simp only [Nat.zero_add] at hr
  have hge:=grownCap_ge w m 0 e
  have hcm:grownCap w m 0 e≤maxLen:=grownCap_le_maxLen w m 0 e (by unfold maxLen;omega)
  generalize grownCap w m 0 e=cap at hr hge hcm
  have hzc:(Builtin.zeroCells z.cells (cap - m)).size=cap - m:=by rw [size_zeroCells,hzs];omega
  have hown:World.ownsRow (w.drew.alloc (.cells ([].toArray++news.toArray++Builtin.zeroCells z.cells (cap - m)) e)) w.heap.size e 1 (.slice (some ⟨w.heap.size,0,none⟩) m cap) m news:=by
   refine ⟨by rw [hl,Nat.mul_one],.inr ⟨w.heap.size,cap,_,rfl,Nat.le_refl _,heap_alloc_new w.drew _,hge,hcm,?_,?_⟩⟩
   ·simp [hzc,hl];omega
   ·simp [hl]
  unfold Oper.wp
  simp [execOp,ho,resolve,invoke,builtin,hs,hx,hr,Result.andThen]
  have hbel:Below w.heap.size w (w.drew.alloc (.cells ([].toArray++news.toArray++Builtin.zeroCells z.cells (cap - m)) e)):=(Below.refl _ _).drew.alloc (Nat.le_refl _) _
  have hk:=h (some ⟨w.heap.size,0,none⟩) cap _ hge hcm (zr.of_own hown) (fun _=>hown) hbel
  simp at hk
  exact hk
theorem YK {w:World} {base n:Nat} {e:TypeId} {v:Value} {xs:List Value} (h:w.ownsRow base e 1 v n xs) (hn:0 < n):∃ g cap tl,v=.slice (some ⟨g,0,none⟩) n cap∧Blk w g (xs++tl) e∧base≤g∧n≤cap:=by
 rcases h.2 with ⟨_,h0⟩ | ⟨g,cap,cur,rfl,hb,hg,h1,h2,h3,ht⟩
 ·omega
 ·refine ⟨g,cap,cur.toList.drop (n*1),rfl,?_,hb,h1⟩
  rw [← ht,List.take_append_drop]
  unfold Blk
  rw [hg]
theorem ZY {w:World} {g:Nat} {xs tl:List Value} {ty:TypeId} (h:Blk w g (xs++tl) ty):zr w (some ⟨g,0,none⟩) xs:=by
 have:=h.lies.take xs.length
 rwa [List.take_left] at this
end Go.Mem
namespace Go.Cells
open Go.RowKit Go.Mem
def Zt (S:Nat→Prop) (w:World) (X:World→Prop):Prop:=∀ w',Up S w w'→X w'
theorem Zt.later {S:Nat→Prop} {w w':World} {X:World→Prop} (h:Zt S w X) (hb:Below w.heap.size w w'):Zt S w' X:=fun w'' hu=>h w'' ((Up.of_below hb).trans hu)
theorem Zt.only {S:Nat→Prop} {b:Nat} {w w':World} {X:World→Prop} (h:Zt S w X) (ho:Only b w w') (hn:¬ S b):Zt S w' X:=fun w'' hu=>h w'' ((Up.of_only ho hn).trans hu)
end Go.Cells
namespace Go.Mem
open Go.RowKit Go.Cells Go.Ops
theorem zr.offs {w w1:World} {ao:Option Addr} {xs:List Value} (h0:zr w ao xs) (h1:zr w1 ao xs) {g:Nat} (hg:w.heap.size≤g):∀ w',zI g w1 w'→zr w' ao xs:=by
 intro w' ho j u hu
 obtain ⟨b,off,e,hc⟩:=h1 j u hu
 obtain ⟨b',off',e',hc'⟩:=h0 j u hu
 rw [e] at e'
 cases e'
 have hb:=block_lt_of_cell hc'
 refine ⟨b,off,e,?_⟩
 have hbk:=ho.block b (block_lt_of_cell hc) (by omega)
 simp only [World.cell?] at hc ⊢
 rw [hbk]
 exact hc
theorem zI.of_grown {w w':World} {g:Nat} (h:w.grownBy w' (some g)):zI g w w':=⟨h.os,h.tape,h.output,h.size,fun k hk hne=>h.block k hk (fun e=>hne (Option.some.inj e))⟩
def Far (g:Nat) (w:World) (s:Str):Prop:=s.bs.length≤s.cap∧∀ w',zI g w w'→zr w' s.a (s.bs.map B)
theorem Far.str {g:Nat} {w:World} {s:Str} (h:Far g w s):s.In w:=⟨h.1,h.2 w (zI.refl _ _)⟩
theorem Far.onlyB {g:Nat} {w w':World} {s:Str} (h:Far g w s) (ho:zI g w w'):Far g w' s:=⟨h.1,fun w'' h2=>h.2 w'' (ho.trans h2)⟩
theorem Far.move {g g':Nat} {w w':World} {s:Str} (h:Far g w s) (ho:zI g w w') (hg:g'=g∨w.heap.size≤g'):Far g' w' s:=by
 rcases hg with rfl | hg
 ·exact h.onlyB ho
 ·exact ⟨h.1,(h.2 w (zI.refl _ _)).offs (h.2 w' ho) hg⟩
end Go.Mem
namespace Go.Hct
open Go.Ops Go.Oct Go.Trn Go.Aes Go.AesI Go.Adi
open Go.Ezt (plusB xz vF YP yr kg ZF)
def upR (w:UInt64×UInt64):UInt64×UInt64:=(qf (xf w.1 1) (yp w.2 63),qf (qf (xf w.2 1) (yp w.1 63)) (xP (yp w.2 63) 13979173243358019584))
def downR (w:UInt64×UInt64):UInt64×UInt64:=(qf (yp w.1 1) (xf w.2 63),qf (yp w.2 1) (xP (xk w.1 1) 16212958658533785600))
def bitR (w:UInt64×UInt64) (i:Nat):UInt64:=if i < 64 then xk (yp w.1 i) 1 else xk (yp w.2 (i - 64)) 1
def plusR (a b:UInt64×UInt64) (f:UInt64):UInt64×UInt64:=(qf a.1 (xP f b.1),qf a.2 (xP f b.2))
def zgc (x y:UInt64×UInt64):Nat→UInt64×UInt64
 | 0=>(0,0)
 | i+1=>downR (plusR (zgc x y i) x (bitR y i))
def dotR (x y:UInt64×UInt64):UInt64×UInt64:=zgc x y 128
def Qt (h:List UInt8):Nat→UInt64×UInt64
 | 0=>dotR (xo h) (1,0)
 | k+1=>upR (Qt h k)
def atP (t:List (UInt64×UInt64)) (i:Nat):UInt64×UInt64:=t.getD i (0,0)
def jX (h:List UInt8):Nat→List (UInt64×UInt64)
 | 0=>List.replicate 16 (0,0)
 | m+1=>(jX h m).set (m+1) (plusR (atP (jX h m) (m+1 - 2 ^ (m+1).log2)) (Qt h (m+1).log2) 1)
def zcy (h:List UInt8):List (UInt64×UInt64):=jX h 15
theorem ZS (h:List UInt8):∀ m,(jX h m).length=16
 | 0=>by simp [jX]
 | m+1=>by rw [jX,List.length_set,ZS h m]
def zcz (t:List (UInt64×UInt64)) (s:UInt64×UInt64) (n:UInt8):UInt64×UInt64:=plusR (upR (upR (upR (upR s)))) (atP t n.toNat) 1
def JY (t:List (UInt64×UInt64)) (a:List UInt8):Nat→UInt64×UInt64
 | 0=>(0,0)
 | i+1=>zcz t (zcz t (JY t a i) (shr8 (at8 a (15 - i)) 4)) (and8 (at8 a (15 - i)) 15)
def dotT (t:List (UInt64×UInt64)) (a:List UInt8):List UInt8:=z7 (JY t a 16)
theorem YD (t:List (UInt64×UInt64)) (a:List UInt8):(dotT t a).length=16:=zZ _
def jq (t:List (UInt64×UInt64)) (v b:List UInt8):List UInt8:=if h:b.length=0 then v else jq t (dotT t (block (xorL v b))) (b.drop 16)
termination_by b.length
decreasing_by simp;omega
theorem Wx (t:List (UInt64×UInt64)) (v:List UInt8):jq t v []=v:=by unfold jq;simp
theorem JZ {t:List (UInt64×UInt64)} {v b:List UInt8} (h:b.length≠0):jq t v b=jq t (dotT t (block (xorL v b))) (b.drop 16):=by
 conv=>lhs;unfold jq
 rw [dif_neg h]
theorem ZT (t:List (UInt64×UInt64)):∀ (n:Nat) (v b:List UInt8),b.length≤n→v.length=16→(jq t v b).length=16
 | n,v,b,h,hv=>by
  by_cases h0:b.length=0
  ·rw [List.eq_nil_of_length_eq_zero h0,Wx];exact hv
  ·rw [JZ h0]
   match n,h with
   | 0,h=>omega
   | n+1,h=>exact ZT t n _ _ (by rw [List.length_drop];omega) (YD _ _)
def kD (n:Nat) (kind:UInt64):List UInt8:=z7 (wi (xf (UInt64.ofNat n) 4) kind,yp (UInt64.ofNat n) 60)
def kE (tweak m:List UInt8):List UInt8:=if m.length % 16=0 then kD tweak.length 2++kF tweak 16++m else kD tweak.length 3++kF tweak 16++qv m 1 16
def hashV (h tweak m:List UInt8):List UInt8:=jq (zcy h) (zf 16) (kF (kE tweak m) 16)
theorem hashV_length (h tweak m:List UInt8):(hashV h tweak m).length=16:=ZT _ _ _ _ (Nat.le_refl _) (zd 16)
def zak (start:List UInt8) (i:Nat):List UInt8:=(List.range 16).map fun j=>if j < 8 then ya (at8 start j) (at8 (zz (UInt64.ofNat i)) j) else at8 start j
def j7 (ks:List (List UInt8)) (start:List UInt8) (i:Nat):List UInt8:=enc ks (zak start i)
theorem Zb (ks:List (List UInt8)) (start:List UInt8) (i:Nat):(j7 ks start i).length=16:=xJ _ _
def xS (ks:List (List UInt8)) (start b:List UInt8):List UInt8:=(List.range b.length).map fun j=>ya (at8 b j) (at8 (j7 ks start (1+j / 16)) (j % 16))
theorem jH (ks:List (List UInt8)) (start b:List UInt8):(xS ks start b).length=b.length:=by simp [xS]
theorem zal (ks:List (List UInt8)) (start b:List UInt8):xS ks start (xS ks start b)=b:=by
 apply List.ext_getElem?
 intro i
 by_cases h:i < b.length
 ·have h1:(xS ks start b)[i]? = some (ya (at8 b i) (at8 (j7 ks start (1+i / 16)) (i % 16))):=by simp [xS,h]
  have h2:(xS ks start (xS ks start b))[i]? = some (ya (at8 (xS ks start b) i) (at8 (j7 ks start (1+i / 16)) (i % 16))):=by
   conv=>lhs;unfold xS
   rw [List.getElem?_map,List.getElem?_range (by simp [h])]
   rfl
  rw [h2,Oct.at8_some h1,ZF,Oct.at8_get h]
 ·rw [List.getElem?_eq_none (by rw [jH,jH];omega),List.getElem?_eq_none (by omega)]
structure ka where
 ks:List (List UInt8)
 h:List UInt8
 l:List UInt8
def J0 (n:Nat) (long:Bool) (key:List UInt8):ka:=⟨expand n long key,enc (expand n long key) (zf 16),enc (expand n long key) (1::zf 15)⟩
theorem YW (a b:List UInt8) (h:a.length=16):plusB [a,b]=both a b:=by
 show both (both (zf 16) a) b=_
 rw [YP h]
theorem ze3 (a b l:List UInt8):plusB [a,b,l]=plusB [b,a,l]:=by
 show both (both (both (zf 16) a) b) l=both (both (both (zf 16) b) a) l
 rw [xz (zf 16) a b,vF a b,← xz]
def Zc (k:ka) (tweak m:List UInt8):List UInt8:=plusB [block (m.take 16),hashV k.h tweak (m.drop 16)]
def doesH (k:ka) (tweak m two:List UInt8):List UInt8 :=
 plusB [two,hashV k.h tweak (xS k.ks (plusB [Zc k tweak m,two,k.l]) (m.drop 16))]++xS k.ks (plusB [Zc k tweak m,two,k.l]) (m.drop 16)
def zam (k:ka) (tweak m:List UInt8):List UInt8:=doesH k tweak m (enc k.ks (Zc k tweak m))
def zan (k:ka) (tweak m:List UInt8):List UInt8:=doesH k tweak m (dec k.ks (Zc k tweak m))
theorem plusB_length (a b:List UInt8):(plusB [a,b]).length=16:=zB _ _
theorem YE (k:ka) (tweak m:List UInt8):(Zc k tweak m).length=16:=plusB_length _ _
theorem Qu (k:ka) (tweak m two:List UInt8) (h:16≤m.length):(doesH k tweak m two).length=m.length:=by
 unfold doesH
 rw [List.length_append,plusB_length,jH,List.length_drop]
 omega
theorem zc0 (k:ka) (tweak m:List UInt8) (h:16≤m.length):(zam k tweak m).length=m.length:=Qu _ _ _ _ h
theorem zc1 (k:ka) (tweak m:List UInt8) (h:16≤m.length):(zan k tweak m).length=m.length:=Qu _ _ _ _ h
theorem vP {b:List UInt8} (h:b.length=16):block b=b:=by
 apply List.ext_getElem?
 intro i
 by_cases hi:i < 16
 ·rw [Oct.at8_get (by omega:i < b.length)]
  simp [block,hi]
 ·rw [List.getElem?_eq_none (by rw [zA];omega),List.getElem?_eq_none (by omega)]
theorem Wy (k:ka) (tweak m two:List UInt8) (h:16≤m.length) (h2:two.length=16) :
  Zc k tweak (doesH k tweak m two)=two∧doesH k tweak (doesH k tweak m two) (Zc k tweak m)=m:=by
 have hd:(doesH k tweak m two).drop 16=xS k.ks (plusB [Zc k tweak m,two,k.l]) (m.drop 16):=by
  unfold doesH
  rw [List.drop_append_of_le_length (by rw [plusB_length];omega),List.drop_eq_nil_of_le (by rw [plusB_length];omega),List.nil_append]
 have ht:(doesH k tweak m two).take 16=plusB [two,hashV k.h tweak (xS k.ks (plusB [Zc k tweak m,two,k.l]) (m.drop 16))]:=by
  unfold doesH
  rw [List.take_append_of_le_length (by rw [plusB_length];omega),List.take_of_length_le (by rw [plusB_length];omega)]
 have ho:Zc k tweak (doesH k tweak m two)=two:=by
  unfold Zc
  rw [ht,hd,vP (plusB_length _ _),YW _ _ (plusB_length _ _),YW _ _ h2,yr h2]
 refine ⟨ho,?_⟩
 have hb:block (m.take 16)=m.take 16:=vP (by rw [List.length_take];omega)
 have h1:Zc k tweak m=both (m.take 16) (hashV k.h tweak (m.drop 16)):=by
  unfold Zc
  rw [hb,YW _ _ (by rw [List.length_take];omega)]
 generalize doesH k tweak m two=z at *
 unfold doesH
 rw [ho,hd,ze3 two,zal,YW _ _ (YE _ _ _),h1,yr (by rw [List.length_take];omega),List.take_append_drop]
theorem zho (k:ka) (hk:2≤k.ks.length) (tweak:List UInt8) {m:List UInt8} (h:16≤m.length):zan k tweak (zam k tweak m)=m:=by
 obtain ⟨h1,h2⟩:=Wy k tweak m (enc k.ks (Zc k tweak m)) h (xJ _ _)
 unfold zan zam
 rw [h1,zf7 hk (YE _ _ _),h2]
theorem zhp (k:ka) (hk:2≤k.ks.length) (tweak:List UInt8) {m:List UInt8} (h:16≤m.length):zam k tweak (zan k tweak m)=m:=by
 obtain ⟨h1,h2⟩:=Wy k tweak m (dec k.ks (Zc k tweak m)) h (kG _ _)
 unfold zan zam
 rw [h1,zf8 hk (YE _ _ _),h2]
end Go.Hct
namespace Go.Wid
open Go.Ops Go.Oct Go.Aes Go.Ezk Go.Aez Go.Adi Go.Hct
inductive ku where
 | adi (k:kV)
 | hct (k:ka)
 | aez (k:zv)
def ku.alg:ku→Nat
 | .adi _=>1
 | .hct _=>2
 | .aez _=>3
def ku.least:ku→Nat
 | .adi _=>16
 | .hct _=>16
 | .aez _=>1
def ku.Fit:ku→Prop
 | .adi k=>2≤k.ks.length
 | .hct k=>2≤k.ks.length
 | .aez _=>True
def xM (k:ku) (tweak m:List UInt8) (back:Bool):List UInt8 :=
 match k with
 | .adi k=>if back then XL k tweak m else XK k tweak m
 | .hct k=>if back then zan k tweak m else zam k tweak m
 | .aez k=>rowA k [tweak] m back
theorem q7 {k:ku} (tweak:List UInt8) {m:List UInt8} (back:Bool) (h:k.least≤m.length):(xM k tweak m back).length=m.length:=by
 cases k with
 | adi k=>cases back;exact zcv _ _ h;exact zcw _ _ h
 | hct k=>cases back;exact zc0 _ _ _ h;exact zc1 _ _ _ h
 | aez k=>exact Kg _ _ _ _
theorem XM {k:ku} (hk:k.Fit) (tweak:List UInt8) {m:List UInt8} (back:Bool) (h:k.least≤m.length):xM k tweak (xM k tweak m back) (!back)=m:=by
 cases k with
 | adi k=>cases back;exact zhm _ hk _ h;exact zhn _ hk _ h
 | hct k=>cases back;exact zho _ hk _ h;exact zhp _ hk _ h
 | aez k=>exact zg8 _ _ _ _
def znv (alg:Int) (n:Nat):Nat :=
 if alg=1 then (if n=32 then 0 else 2)
 else if alg=2 then (if n=16∨n=24∨n=32 then 0 else 2)
 else if alg=3 then (if 0 < n∧n≤128 then 0 else 2)
 else 8
def jy (alg:Int) (key:List UInt8):ku :=
 if alg=1 then .adi (zkf key) else if alg=2 then .hct (J0 (key.length / 4) (key.length==32) key) else .aez (ko key)
theorem we (alg:Int) (key:List UInt8):(jy alg key).Fit:=by
 unfold jy
 split
 ·exact zkg key
 ·split
  ·show 2≤(expand _ _ _).length
   rw [wJ]
   omega
  ·trivial
def wg (alg:Int):Nat:=if alg=3 then 1 else 16
theorem jz {alg:Int} {key:List UInt8} (h:znv alg key.length=0):(jy alg key).least=wg alg:=by
 unfold jy wg
 by_cases h1:alg=1
 ·subst h1;rfl
 ·by_cases h2:alg=2
  ·subst h2;rfl
  ·by_cases h3:alg=3
   ·subst h3;rfl
   ·unfold znv at h
    rw [if_neg h1,if_neg h2,if_neg h3] at h
    omega
end Go.Wid
namespace Go.Wid
open Go.Ops Go.Oct Go.Aes Go.Ezk Go.Aez Go.Adi Go.Hct
def zpz (b:List UInt8):List UInt8:=zz (UInt64.ofNat b.length)++b
def putsV (out:List UInt8) (l:List (List UInt8)):List UInt8:=l.foldl (fun s b=>s++zpz b) out
def zoi (t:Nat) (nonce:List UInt8) (ad:List (List UInt8)):List UInt8:=putsV (putsV (UInt8.ofNat t::zz (UInt64.ofNat ad.length)) [nonce]) ad
theorem zn2 (l:List (List UInt8)):∀ out,(putsV out l).length=out.length+(l.map fun b=>8+b.length).sum:=by
 induction l with
 | nil=>intro out;simp [putsV]
 | cons b r ih =>
  intro out
  show (putsV (out++zpz b) r).length=_
  rw [ih,List.length_append,zpz,List.length_append,zK]
  simp only [List.map_cons,List.sum_cons]
  omega
def zn1 (k:ku) (t:Nat) (nonce:List UInt8) (ad:List (List UInt8)) (m:List UInt8):List UInt8 :=
 match k with
 | .aez p=>zn6 p (zns t nonce ad) t m
 | k=>xM k (zoi t nonce ad) (m++zf t) false
def zoq (k:ku) (tweak:List UInt8) (t:Nat) (b:List UInt8):Option (List UInt8) :=
 if b.length < t then none else if b.length < k.least then none
 else if (xM k tweak b true).drop (b.length - t)=zf t then some ((xM k tweak b true).take (b.length - t)) else none
def zoa (k:ku) (t:Nat) (nonce:List UInt8) (ad:List (List UInt8)) (b:List UInt8):Option (List UInt8) :=
 match k with
 | .aez p=>zn9 p (zns t nonce ad) t b
 | k=>zoq k (zoi t nonce ad) t b
def ku.room (k:ku) (t n:Nat):Prop:=k.alg=3∨k.least≤n+t
theorem zo0 {k:ku} (hk:k.Fit) (tweak:List UInt8) (t:Nat) (m:List UInt8) (h:k.least≤m.length+t):zoq k tweak t (xM k tweak (m++zf t) false)=some m:=by
 have hl:(m++zf t).length=m.length+t:=by rw [List.length_append,zd]
 have hb:=XM hk tweak (m:=m++zf t) false (by rw [hl];exact h)
 have hn:=q7 (k:=k) tweak (m:=m++zf t) false (by rw [hl];exact h)
 rw [hl] at hn
 unfold zoq
 rw [hn,if_neg (by omega),if_neg (by omega),show m.length+t - t=m.length by omega]
 have hb:xM k tweak (xM k tweak (m++zf t) false) true=m++zf t:=hb
 rw [hb,List.drop_left,List.take_left,if_pos rfl]
theorem qc {k:ku} (hk:k.Fit) {tweak:List UInt8} {t:Nat} {b m:List UInt8} (h:zoq k tweak t b=some m):xM k tweak (m++zf t) false=b∧m.length+t=b.length∧k.least≤b.length:=by
 unfold zoq at h
 split at h
 ·cases h
 ·split at h
  ·cases h
  ·split at h
   ·next h1 h2 h3 =>
    have hm:=Option.some.inj h
    have hl:=q7 (k:=k) tweak (m:=b) true (by omega)
    have hml:m.length=b.length - t:=by rw [← hm,List.length_take,hl];omega
    refine ⟨?_,by omega,by omega⟩
    rw [← hm,← h3,List.take_append_drop]
    exact XM hk tweak (m:=b) true (by omega)
   ·cases h
theorem zob {k:ku} (t:Nat) (nonce:List UInt8) (ad:List (List UInt8)) {m:List UInt8} (h:k.room t m.length):(zn1 k t nonce ad m).length=m.length+t:=by
 cases k with
 | aez p=>exact zop _ _ _ _
 | adi k =>
  have h:16≤m.length+t:=h.elim (fun h=>absurd h (by simp [ku.alg])) id
  have e:zn1 (.adi k) t nonce ad m=xM (.adi k) (zoi t nonce ad) (m++zf t) false:=rfl
  rw [e]
  rw [q7 _ _ (by rw [List.length_append,zd];exact h),List.length_append,zd]
 | hct k =>
  have h:16≤m.length+t:=h.elim (fun h=>absurd h (by simp [ku.alg])) id
  have e:zn1 (.hct k) t nonce ad m=xM (.hct k) (zoi t nonce ad) (m++zf t) false:=rfl
  rw [e]
  rw [q7 _ _ (by rw [List.length_append,zd];exact h),List.length_append,zd]
theorem zol {k:ku} (hk:k.Fit) (t:Nat) (nonce:List UInt8) (ad:List (List UInt8)) {m:List UInt8} (h:k.room t m.length):zoa k t nonce ad (zn1 k t nonce ad m)=some m:=by
 cases k with
 | aez p=>exact zqc _ _ _ _
 | adi k=>exact zo0 hk _ _ _ (h.elim (fun h=>absurd h (by simp [ku.alg])) id)
 | hct k=>exact zo0 hk _ _ _ (h.elim (fun h=>absurd h (by simp [ku.alg])) id)
theorem xc {k:ku} (hk:k.Fit) {t:Nat} {nonce:List UInt8} {ad:List (List UInt8)} {b m:List UInt8} (h:zoa k t nonce ad b=some m):zn1 k t nonce ad m=b∧m.length+t=b.length∧k.room t m.length:=by
 cases k with
 | aez p=>exact ⟨(vj h).1,(vj h).2,.inl rfl⟩
 | adi k=>have:=qc hk h;exact ⟨this.1,this.2.1,.inr (by rw [this.2.1];exact this.2.2)⟩
 | hct k=>have:=qc hk h;exact ⟨this.1,this.2.1,.inr (by rw [this.2.1];exact this.2.2)⟩
end Go.Wid
namespace Go.Proofs.YtjaioajjfiaheaaGreatDoor
open Go.RowKit Go.Mem Go.Ops Go.Cells Go.Oct Go.Gf Go.Trn Go.Aes Go.Ring Go.Ezk Go.Ezh Go.Ezt Go.Ezc Go.Aez Go.Blake Go.CutP Go.Fl Go.Adi Go.Hct Go.Wid
attribute [local irreducible] zE zN zO zM yu
def zot (t:Int):Int:=if 0≤t∧t≤16 then 0 else 4
theorem zo8 (t:Int) (w:World):Calls Tryz.prog 56 #[.int .i64 t] w fun e w'=>e=.returned (.int .i64 (zot t))∧w=w':=by
 unfold zot
 by_cases h0:0≤t
 ·have d0:decide (t < 0)=false:=by simp;omega
  by_cases h1:t≤16
  ·have d1:decide (t > 16)=false:=by simp;omega
   rw [if_pos ⟨h0,h1⟩]
   go_enter Tryz.func56,Tryz.ntmps56
   go_wp2
   go_ret
   exact ⟨rfl,rfl⟩
  ·have d1:decide (t > 16)=true:=by simp;omega
   rw [if_neg (fun h=>h1 h.2)]
   go_enter Tryz.func56,Tryz.ntmps56
   go_wp2
   go_ret
   exact ⟨rfl,rfl⟩
 ·have d0:decide (t < 0)=true:=by simp;omega
  rw [if_neg (fun h=>h0 h.1)]
  go_enter Tryz.func56,Tryz.ntmps56
  go_wp2
  go_ret
  exact ⟨rfl,rfl⟩
theorem zpg:(Tryz.prog.info? 22).map (fun i=>(i.zero,i.size,i.bytes))=some (some (.slice none 0 0),1,24):=by kernel_rfl
theorem wF (t:Int) (n a:Value) (w:World) (ht:zot t=4) :
  Calls Tryz.prog 22 #[.int .i64 t,n,a] w fun e w'=>e=.returned (.tuple #[.slice none 0 0,.int .i64 4])∧w=w':=by
 go_enter Tryz.func22,Tryz.ntmps22
 go_wp2_with fail
 refine (zo8 t _).mono ?_
 rintro e w0 ⟨rfl,rfl⟩
 rw [ht]
 go_wp2
 go_ret2
 exact ⟨rfl,rfl⟩
theorem zoh (t:Nat) (no:Option Addr) (nn nc:Nat) (nonce:List UInt8) (ado:Option Addr) (N adc:Nat) (ss:List Str) (w:World) (ht:t≤16) (hn:nonce.length=nn) (hnb:nn≤10000) (hl:zr w no (nonce.map B)) (hN:ss.length=N) (hNb:N≤400) (hs:xY w ado ss) (hsb:∀ s∈ss,s.bs.length≤10000) :
  Calls Tryz.prog 22 #[.int .i64 t,.slice no nn nc,.slice ado N adc] w fun e w'=>∃ g cap sts,e=.returned (.tuple #[.slice (some ⟨g,0,none⟩) (2+N) cap,.int .i64 0])∧sts.length=2+N∧rowOf sts=zns t nonce (rowOf ss)∧xY w' (some ⟨g,0,none⟩) sts∧Below w.heap.size w w':=by
 obtain ⟨i0,hi0,hz0,hz1,hz2⟩:=info_parts zpg
 have HI:=znq (And.intro hi0 (And.intro hz0 (And.intro hz1 hz2)))
 have HN:=znq hn
 have HL:=znq hl
 have HNN:=znq hN
 have HSS:=znq hs
 have HSB:=znq hsb
 have hr:zot t=0:=by unfold zot;rw [if_pos (by omega)]
 obtain ⟨x8,l8z,hx8,hw8,hw9⟩:∃ (x8:UInt8) (l8z:Int),x8=UInt8.ofNat (8*t)∧IntKind.i64.wrap (8*(t:Int))=l8z∧l8z % 256=(x8.toNat:Int):=by
  refine ⟨_,8*t,rfl,by rw [IntWalk.i64_in] <;> omega,?_⟩
  rw [UInt8.toNat_ofNat_of_lt' (by show _ < 256;omega)]
  omega
 have HX:=znq (And.intro hx8 trivial)
 clear hx8
 clear hi0 hz0 hz1 hz2 hn hl hN hs hsb
 go_enter Tryz.func22,Tryz.ntmps22
 go_wp2_with fail
 refine (zo8 t _).mono ?_
 rintro e w0 ⟨rfl,rfl⟩
 rw [hr]
 go_wp2_with (at_make;refine jJ 22 5 (.int .u8 0) 1 16 rfl rfl rfl rfl Tryz.underlying22 yq rfl rfl rfl (by omega) (by unfold maxLen;omega) ?_)
 intro w1 hb1 hbel1
 have hb1:Blk w1 w.heap.size ((zf 16).map B) 5:=hb1
 have hc:=hb1.cell 15 (B 0) rfl
 have hf:=hb1.free 15
 have HB1:=znq (show Blk (w1.setCell ⟨w.heap.size,15,none⟩ (B x8)) w.heap.size ((zf 15++[x8]).map B) 5 from hb1.set 15 (B x8))
 have HBE:=znq (hbel1.setCell (p:=⟨w.heap.size,15,none⟩) (Nat.le_refl _) (B x8))
 clear hb1 hbel1
 go_wp2_with fail
 generalize w1.setCell ⟨w.heap.size,15,none⟩ (B x8)=w2 at *
 clear hc hf
 refine (YR no nn nc (nonce.map B) _ (by rw [List.length_map];exact HN.znr) (by omega) (HL.znr.below HBE.znr) (zg _)).mono ?_
 rintro e w3 ⟨v3,rfl,hown3,hbel3⟩
 obtain ⟨ao3,cap3,rfl,hcap3,_,hl3⟩:=zw hown3
 have HB1:=znq (HB1.znr.below hbel3 HB1.znr.lt)
 have HBE:=znq (HBE.znr.trans (hbel3.mono HBE.znr.size))
 have HL3:=znq hl3
 clear hown3 hl3 hbel3
 simp only [id]
 go_wp2
 have HZ:=znq HBE.znr.size
 have HBE:=znq (HBE.znr.trans ((zD w3 (.cells #[.slice (some ⟨w.heap.size,0,none⟩) 16 16,.slice ao3 nn cap3] 22)).mono HZ.znr))
 have HF1:=znq (show Far w3.heap.size (w3.alloc (.cells #[.slice (some ⟨w.heap.size,0,none⟩) 16 16,.slice ao3 nn cap3] 22)) ⟨some ⟨w.heap.size,0,none⟩,16,zf 15++[x8]⟩ from ⟨by simp [zf],(HB1.znr.lies).far (zD _ _) (Nat.le_refl _)⟩)
 have HF2:=znq (show Far w3.heap.size (w3.alloc (.cells #[.slice (some ⟨w.heap.size,0,none⟩) 16 16,.slice ao3 nn cap3] 22)) ⟨ao3,cap3,nonce⟩ from ⟨by rw [HN.znr];exact hcap3,HL3.znr.far (zD _ _) (Nat.le_refl _)⟩)
 have hown:World.ownsRow (w3.alloc (.cells #[.slice (some ⟨w.heap.size,0,none⟩) 16 16,.slice ao3 nn cap3] 22)) w.heap.size 22 1 (.slice (some ⟨w3.heap.size,0,none⟩) 2 2) 2 (([⟨some ⟨w.heap.size,0,none⟩,16,zf 15++[x8]⟩,⟨ao3,cap3,nonce⟩]:List Str).map Str.val):=by
  have hb:=Blk.new w3 [.slice (some ⟨w.heap.size,0,none⟩) 16 16,.slice ao3 nn cap3] 22
  refine KY ?_ HZ.znr rfl (by simp [maxLen])
  simpa [Str.val,HN.znr,zf] using hb
 have HO:=znq hown
 generalize w3.alloc (.cells #[.slice (some ⟨w.heap.size,0,none⟩) 16 16,.slice ao3 nn cap3] 22)=w4 at *
 clear hown
 rw [hw9]
 clear hw8 hw9
 go_loopw [10,30] (fun z c wr=>∃ (i g cap:Nat) (sts:List Str),i≤N∧c=.int .i64 i∧z=.slice (some ⟨g,0,none⟩) (2+i) cap∧Hid (wr.ownsRow w.heap.size 22 1 (.slice (some ⟨g,0,none⟩) (2+i) cap) (2+i) (sts.map Str.val))∧Hid (∀ s∈sts,Far g wr s)∧Hid (rowOf sts=(zf 15++[x8])::nonce::(rowOf ss).take i∧True)∧Hid (Below w.heap.size w wr)) (fun _ c _=>N - (intOf c).toNat)
 case atStart =>
  refine ⟨0,w3.heap.size,2,[⟨some ⟨w.heap.size,0,none⟩,16,zf 15++[x8]⟩,⟨ao3,cap3,nonce⟩],by omega,rfl,rfl,HO,?_,⟨rfl,trivial⟩,HBE⟩
  intro s hs
  simp only [List.mem_cons,List.not_mem_nil,or_false] at hs
  rcases hs with rfl | rfl
  ·exact HF1.znr
  ·exact HF2.znr
 case round =>
  clear HO HF1 HF2 HBE
  obtain ⟨i,g,cap,sts,hi,rfl,rfl,HO,HF,HR,HBE⟩:=hrel
  have hg:=(HO.znr.lt g rfl).2
  by_cases hlt:i < N
  ·obtain ⟨⟨sa,sc,sb⟩,hs⟩:∃ s,ss[i]? = some s:=⟨ss[i]'(by rw [HNN.znr];exact hlt),by simp⟩
   have HSI:=znq (HSS.znr.each _ (List.mem_of_getElem? hs))
   have hsb:=HSB.znr _ (List.mem_of_getElem? hs)
   simp only at hsb
   obtain ⟨b,off,rfl,hc⟩:=(HSS.znr.below HBE.znr).lies i (.slice sa sb.length sc) (by rw [List.getElem?_map,hs];rfl)
   have HRN:=znq (show (rowOf ss).take (i+1)=(rowOf ss).take i++[sb] by rw [List.take_add_one];unfold rowOf;rw [List.getElem?_map,hs];rfl)
   clear hs
   go_wp2_with fail
   refine (YR sa sb.length sc (sb.map B) _ (List.length_map _) (by omega) (HSI.znr.lies.below HBE.znr) (zg _)).mono ?_
   rintro e w5 ⟨v5,rfl,hown5,hbel5⟩
   obtain ⟨a5,c5,rfl,hc5,_,_⟩:=zw hown5
   have HN5:=znq (show Far g w5 ⟨a5,c5,sb⟩ from ⟨hc5,zdo hown5 hg⟩)
   have HO:=znq (zm HO.znr hbel5)
   have HF:=znq (show ∀ s∈sts,Far g w5 s from fun s hs=>(HF.znr s hs).onlyB (zI.of_below hbel5))
   have hz5:=HBE.znr.size
   have HBE:=znq (HBE.znr.trans (hbel5.mono hz5))
   have hz6:=HBE.znr.size
   have hb6:=Blk.new w5 [.slice a5 sb.length c5] 22
   have hb6l:=zD w5 (.cells #[.slice a5 sb.length c5] 22)
   have HB6:=znq (And.intro hb6 hb6l)
   clear hown5 hbel5 hc hb6 hb6l
   simp only [id]
   go_wp2_with (at_builtin;refine wpList_append_lies _ rfl (.tmp 34) (.tmp 37) 23 rfl w.heap.size 22 i0 (.slice none 0 0) 1 24 Tryz.underlying23 HI.znr.1 HI.znr.2.1 HI.znr.2.2.1 HI.znr.2.2.2 rfl (by decide) _ (2+i) (sts.map Str.val) rfl (zm HO.znr HB6.znr.2) ⟨w5.heap.size,0,none⟩ 1 1 [.slice a5 sb.length c5] rfl rfl HB6.znr.1.lies.news (by intro u hu;simp at hu;subst hu;rfl) (by omega) (by unfold maxLen;omega) (by omega) (Nat.le_trans hz6 HB6.znr.2.size) _ rfl ?_)
   intro g' cap' w7 hown7 hg7 hgg hlt7
   have ho7:=zI.of_grown hg7
   have hgg:g'=g∨(w5.alloc (.cells #[.slice a5 sb.length c5] 22)).heap.size≤g':=hgg.imp (fun e=>(Option.some.inj e).symm) (fun e=>by rw [e];show (w5.heap.push _).size≤_;rw [Array.size_push];exact Nat.le_refl _)
   have HF:=znq (show ∀ s∈sts++[⟨a5,c5,sb⟩],Far g' w7 s from by
    intro s hs
    have h5:Far g w5 s:=by
     rcases List.mem_append.1 hs with h | h
     ·exact HF.znr s h
     ·simp at h;subst h;exact HN5.znr
    exact (h5.onlyB (zI.of_below HB6.znr.2)).move ho7 hgg)
   have HBE:=znq (z8 (HBE.znr.trans (HB6.znr.2.mono hz6)) (zm HO.znr HB6.znr.2) hg7 (Nat.le_refl _) (Nat.le_trans hz6 HB6.znr.2.size))
   have HO:=znq (show w7.ownsRow w.heap.size 22 1 (.slice (some ⟨g',0,none⟩) (2+(i+1)) cap') (2+(i+1)) ((sts++[(⟨a5,c5,sb⟩:Str)]).map Str.val) from by rw [List.map_append];exact hown7)
   have HR:=znq (show rowOf (sts++[(⟨a5,c5,sb⟩:Str)])=(zf 15++[x8])::nonce::(rowOf ss).take (i+1)∧True from ⟨by
    have h:=HR.znr.1
    rw [HRN.znr]
    unfold rowOf at h ⊢
    rw [List.map_append,h]
    rfl,trivial⟩)
   clear hown7 hg7 ho7 hgg HB6 HN5
   go_wp2
   go_roundw
   case rel=>exact ⟨i+1,g',cap',_,by omega,by go_num,rfl,HO,HF,HR,HBE⟩
   case measure=>simp [intOf];omega
  ·obtain rfl:i=N:=by omega
   have HST:=znq (show xY wr (some ⟨g,0,none⟩) sts from ⟨zr.of_own HO.znr,fun s hs=>(HF.znr s hs).str⟩)
   have HLN:=znq (show sts.length=2+i from by have:=HO.znr.1;rw [List.length_map] at this;omega)
   go_wp2
   go_ret2
   refine ⟨g,cap,sts,rfl,HLN.znr,?_,HST.znr,HBE.znr⟩
   rw [HR.znr.1,zns,HX.znr.1,List.take_of_length_le]
   unfold rowOf
   rw [List.length_map,HNN.znr]
   exact Nat.le_refl _
theorem zo1 {n:Nat} (h:n≤1000000):Value.int .u64 (n:Int)=L (UInt64.ofNat n)∧True:=⟨by
 have:(UInt64.ofNat n).toNat=n:=UInt64.toNat_ofNat_of_lt' (by show n < 18446744073709551616;omega)
 simp [L,this],trivial⟩
theorem zp0 (out:List UInt8) (l:List (List UInt8)) (b:List UInt8):putsV out (l++[b])=putsV out l++(zz (UInt64.ofNat b.length)++b):=by
 unfold putsV
 rw [List.foldl_append]
 rfl
theorem zp8 (oo:Option Addr) (on oc:Nat) (out:List UInt8) (po:Option Addr) (N pc:Nat) (ss:List Str) (w:World) (hon:out.length=on) (hob:on≤20000) (hoc:on≤oc) (hol:zr w oo (out.map B)) (hN:ss.length=N) (hNb:N≤20) (hs:xY w po ss) (hsb:∀ s∈ss,s.bs.length≤10000) :
  Calls Tryz.prog 62 #[.slice oo on oc,.slice po N pc] w fun e w'=>∃ ao cap,e=.returned (.slice ao (putsV out (rowOf ss)).length cap)∧(putsV out (rowOf ss)).length≤cap∧zr w' ao ((putsV out (rowOf ss)).map B)∧Below w.heap.size w w':=by
 subst hon
 have HOL:=znq hol
 have HNN:=znq hN
 have HSS:=znq hs
 have HSB:=znq hsb
 clear hol hN hs hsb
 go_enter Tryz.func62,Tryz.ntmps62
 go_wp2
 go_loopw [0,10] (fun z c wr=>∃ (i cap:Nat) (ao:Option Addr) (o:List UInt8),i≤N∧c=.int .i64 i∧z=.slice ao o.length cap∧Hid (o=putsV out ((rowOf ss).take i)∧True)∧o.length≤20000+i*10008∧o.length≤cap∧Hid (zr wr ao (o.map B))∧Hid (Below w.heap.size w wr)) (fun _ c _=>N - (intOf c).toNat)
 case atStart=>exact ⟨0,oc,oo,out,by omega,rfl,rfl,⟨rfl,trivial⟩,by omega,hoc,HOL,Below.refl _ _⟩
 case round =>
  obtain ⟨i,cap,ao,o,hi,rfl,rfl,HO,hol,hoc2,HL,HBE⟩:=hrel
  by_cases hlt:i < N
  ·obtain ⟨⟨sa,sc,sb⟩,hs⟩:∃ s,ss[i]? = some s:=⟨ss[i]'(by rw [HNN.znr];exact hlt),by simp⟩
   have HSI:=znq (HSS.znr.each _ (List.mem_of_getElem? hs))
   have hsb:=HSB.znr _ (List.mem_of_getElem? hs)
   simp only at hsb
   obtain ⟨b,off,rfl,hc⟩:=(HSS.znr.below HBE.znr).lies i (.slice sa sb.length sc) (by rw [List.getElem?_map,hs];rfl)
   have HRN:=znq (show (rowOf ss).take (i+1)=(rowOf ss).take i++[sb] by rw [List.take_add_one];unfold rowOf;rw [List.getElem?_map,hs];rfl)
   have HLN:=znq (zo1 (n:=sb.length) (by omega))
   have HPL:=znq (zK (UInt64.ofNat sb.length))
   obtain ⟨pl,hpl⟩:∃ x,x=zz (UInt64.ofNat sb.length):=⟨_,rfl⟩
   rw [← hpl] at HPL
   have HPE:=znq (show zz (UInt64.ofNat sb.length)=pl∧True from ⟨hpl.symm,trivial⟩)
   have HZ:=znq HBE.znr.size
   clear hs hpl
   go_wp2_with fail
   rw [HLN.znr.1]
   refine (kH _ _).mono ?_
   rintro e w1 ⟨rfl,hbel1⟩
   rw [HPE.znr.1]
   have HBE:=znq (HBE.znr.trans (hbel1.mono HZ.znr))
   have HL:=znq (HL.znr.below hbel1)
   have hz1:=HBE.znr.size
   clear hbel1 hc
   go_wp2_with (refine ze 97 ((zf 8).map B) _ rfl rfl vJ rfl ?_)
   intro w2 hb2 hbel2
   go_wp2_with (refine hb2.wstore rfl rfl rfl (cs:=pl.map B) rfl kM (by simp [zd]) (by simp [HPL.znr]) (zg _) ?_)
   intro w3 hb3 ho3
   have HBE:=znq (zk (HBE.znr.trans (hbel2.mono hz1)) ho3 hz1)
   have HL:=znq (HL.znr.below (zk hbel2 ho3 (Nat.le_refl _)))
   have HB3:=znq hb3
   have hz3:=HBE.znr.size
   generalize w1.heap.size=b8 at *
   clear hb2 hbel2 hb3 ho3
   go_wp2_with fail
   generalize hw4:w3.alloc (.cells #[.slice ao o.length cap,.slice (some ⟨b8,0,none⟩) 8 8,.slice sa sb.length sc] 22)=w4
   have HSS4:=znq (show xY w4 (some ⟨w3.heap.size,0,none⟩) [⟨ao,cap,o⟩,⟨some ⟨b8,0,none⟩,8,pl⟩,⟨sa,sc,sb⟩] from by
    rw [← hw4]
    refine ⟨?_,?_⟩
    ·have:=(Blk.new w3 [.slice ao o.length cap,.slice (some ⟨b8,0,none⟩) 8 8,.slice sa sb.length sc] 22).lies
     simpa [Str.val,HPL.znr] using this
    ·intro s hs
     simp only [List.mem_cons,List.not_mem_nil,or_false] at hs
     rcases hs with rfl | rfl | rfl
     ·exact ⟨hoc2,HL.znr.below (zD _ _)⟩
     ·exact ⟨by rw [HPL.znr];exact Nat.le_refl _,HB3.znr.lies.below (zD _ _)⟩
     ·exact ⟨HSI.znr.le,(HSI.znr.lies.below HBE.znr).below (zD _ _)⟩)
   have HBE:=znq (show Below w.heap.size w w4 by rw [← hw4];exact HBE.znr.trans ((zD _ _).mono hz3))
   have hz4:=HBE.znr.size
   clear hw4 HB3 HL
   obtain ⟨r,hr⟩:∃ r,r=q4 [⟨ao,cap,o⟩,⟨some ⟨b8,0,none⟩,8,pl⟩,⟨sa,sc,sb⟩]:=⟨_,rfl⟩
   have hrl:r.length≤o.length+8+sb.length:=by rw [hr];simp [q4,HPL.znr];omega
   have HR:=znq (show r=putsV out ((rowOf ss).take (i+1))∧True from ⟨by rw [hr,HRN.znr,zp0,← HO.znr.1,HPE.znr.1];simp [q4],trivial⟩)
   refine (YU (some ⟨w3.heap.size,0,none⟩) 3 3 [⟨ao,cap,o⟩,⟨some ⟨b8,0,none⟩,8,pl⟩,⟨sa,sc,sb⟩] _ rfl (by omega) HSS4.znr (by rw [← hr];omega)).mono ?_
   rintro e w5 ⟨v5,rfl,hown,hbel5⟩
   rw [← hr] at hown
   obtain ⟨a5,c5,rfl,hc5,_,hl5⟩:=zw hown
   have HL:=znq hl5
   have HBE:=znq (HBE.znr.trans (hbel5.mono hz4))
   clear hown hl5 hbel5 hr
   go_wp2
   go_roundw
   case rel=>exact ⟨i+1,c5,a5,r,by omega,by go_num,rfl,HR,by omega,hc5,HL,HBE⟩
   case measure=>simp [intOf];omega
  ·obtain rfl:i=N:=by omega
   have HR:=znq (show o=putsV out (rowOf ss)∧True from ⟨by
    rw [HO.znr.1,List.take_of_length_le]
    unfold rowOf
    rw [List.length_map,HNN.znr]
    exact Nat.le_refl _,trivial⟩)
   go_wp2
   go_ret
   rw [← HR.znr.1]
   exact ⟨ao,cap,rfl,hoc2,HL.znr,HBE.znr⟩
theorem zp1 (t:Nat) (no:Option Addr) (nn nc:Nat) (nonce:List UInt8) (ado:Option Addr) (N adc:Nat) (ss:List Str) (w:World) (ht:t≤16) (hn:nonce.length=nn) (hnb:nn≤5000) (hnc:nn≤nc) (hl:zr w no (nonce.map B)) (hN:ss.length=N) (hNb:N≤20) (hs:xY w ado ss) (hsb:∀ s∈ss,s.bs.length≤10000) :
  Calls Tryz.prog 25 #[.int .i64 t,.slice no nn nc,.slice ado N adc] w fun e w'=>∃ ao cap,e=.returned (.tuple #[.slice ao (zoi t nonce (rowOf ss)).length cap,.int .i64 0])∧(zoi t nonce (rowOf ss)).length≤cap∧zr w' ao ((zoi t nonce (rowOf ss)).map B)∧Below w.heap.size w w':=by
 obtain ⟨i0,hi0,hz0,hz1,hz2⟩:=info_parts yq
 have HI:=znq (And.intro hi0 (And.intro hz0 (And.intro hz1 hz2)))
 have HN:=znq hn
 have HL:=znq hl
 have HNN:=znq hN
 have HSS:=znq hs
 have HSB:=znq hsb
 have HLN:=znq (zo1 (n:=N) (by omega))
 have HPL:=znq (zK (UInt64.ofNat N))
 obtain ⟨pl,hpl⟩:∃ x,x=zz (UInt64.ofNat N):=⟨_,rfl⟩
 rw [← hpl] at HPL
 have HPE:=znq (show zz (UInt64.ofNat N)=pl∧True from ⟨hpl.symm,trivial⟩)
 have hr:zot t=0:=by unfold zot;rw [if_pos (by omega)]
 obtain ⟨x8,hx8,hw9⟩:∃ (x8:UInt8),x8=UInt8.ofNat t∧(t:Int) % 256=(x8.toNat:Int):=by
  refine ⟨_,rfl,?_⟩
  rw [UInt8.toNat_ofNat_of_lt' (by show _ < 256;omega)]
  omega
 have HX:=znq (And.intro hx8 trivial)
 have HXT:=znq (show Value.int .u8 (t:Int)=B x8∧True from ⟨by
  have:(t:Int)=x8.toNat:=by rw [← hw9];omega
  rw [this],trivial⟩)
 clear hx8 hpl hw9
 clear hi0 hz0 hz1 hz2 hn hl hN hs hsb
 go_enter Tryz.func25,Tryz.ntmps25
 go_wp2_with fail
 refine (zo8 t _).mono ?_
 rintro e w0 ⟨rfl,rfl⟩
 rw [hr]
 go_wp2_with fail
 rw [HLN.znr.1]
 refine (kH _ _).mono ?_
 rintro e w1 ⟨rfl,hbel1⟩
 rw [HPE.znr.1]
 go_wp2_with (refine ze 97 ((zf 8).map B) _ rfl rfl vJ rfl ?_)
 intro w2 hb2 hbel2
 go_wp2_with (refine hb2.wstore rfl rfl rfl (cs:=pl.map B) rfl kM (by simp [zd]) (by simp [HPL.znr]) (zg _) ?_)
 intro w3 hb3 ho3
 have hz1:=hbel1.size
 have HBE:=znq (zk (hbel1.trans (hbel2.mono hz1)) ho3 hz1)
 have HB3:=znq hb3
 have hz3:=HBE.znr.size
 generalize w1.heap.size=b8 at *
 clear hb2 hbel2 hb3 ho3 hbel1 hz1
 have hl4:=zD w3 (.cells #[.int .u8 (t:Int)] 5)
 have hown:World.ownsRow (w3.alloc (.cells #[.int .u8 (t:Int)] 5)) w.heap.size 5 1 (.slice (some ⟨w3.heap.size,0,none⟩) 1 1) 1 ([x8].map B):=by
  have hb:=Blk.new w3 [.int .u8 (t:Int)] 5
  refine KY ?_ hz3 rfl (by simp [maxLen])
  have e:[x8].map B=[Value.int .u8 (t:Int)]:=by show [B x8]=_;rw [← HXT.znr.1]
  rw [e]
  exact hb
 have HO:=znq hown
 have HB4:=znq hl4
 clear hown hl4
 go_wp2_with (at_builtin;refine yD rfl (.tmp 21) (.tmp 22) 22 rfl w.heap.size 5 i0 (.int .u8 0) 1 Tryz.underlying22 HI.znr.1 HI.znr.2.1 HI.znr.2.2.1 HI.znr.2.2.2 rfl _ 1 ([x8].map B) rfl HO.znr (some ⟨b8,0,none⟩) 8 8 (pl.map B) rfl (by rw [List.length_map];exact HPL.znr) (HB3.znr.lies.below HB4.znr) (zg _) (by unfold maxLen;omega) (by omega) (Nat.le_trans hz3 HB4.znr.size) ?_)
 intro v5 w5 hown5 hg5
 have HBE:=znq (z8 (HBE.znr.trans (HB4.znr.mono hz3)) HO.znr hg5 (Nat.le_refl _) (Nat.le_trans hz3 HB4.znr.size))
 obtain ⟨a5,c5,rfl,hc5,_,hl5⟩:=zw hown5
 have HL5:=znq (show zr w5 a5 ((x8::pl).map B) from by simpa using hl5)
 have hz5:=HBE.znr.size
 clear hown5 hg5 hl5 HO HB4 HB3
 go_wp2_with fail
 have HS6:=znq (show xY (w5.alloc (.cells #[.slice no nn nc] 22)) (some ⟨w5.heap.size,0,none⟩) [⟨no,nc,nonce⟩] from by
  refine ⟨?_,?_⟩
  ·have:=(Blk.new w5 [.slice no nn nc] 22).lies
   simpa [Str.val,HN.znr] using this
  ·intro s hs
   simp only [List.mem_cons,List.not_mem_nil,or_false] at hs
   subst hs
   exact ⟨by rw [HN.znr];exact hnc,(HL.znr.below HBE.znr).below (zD _ _)⟩)
 have HBE:=znq (HBE.znr.trans ((zD w5 (.cells #[.slice no nn nc] 22)).mono hz5))
 have HL5:=znq (HL5.znr.below (zD w5 (.cells #[.slice no nn nc] 22)))
 have hz6:=HBE.znr.size
 generalize w5.alloc (.cells #[.slice no nn nc] 22)=w6 at *
 refine (zp8 a5 9 c5 (x8::pl) (some ⟨w5.heap.size,0,none⟩) 1 1 [⟨no,nc,nonce⟩] _ (by simp [HPL.znr]) (by omega) hc5 HL5.znr rfl (by omega) HS6.znr (by intro s hs;simp at hs;subst hs;have:=HN.znr;simp;omega)).mono ?_
 rintro e w7 ⟨a7,c7,rfl,hc7,hl7,hbel7⟩
 have HL7:=znq hl7
 have HBE:=znq (HBE.znr.trans (hbel7.mono hz6))
 have hz7:=HBE.znr.size
 have hl9:(putsV (x8::pl) (rowOf [(⟨no,nc,nonce⟩:Str)])).length≤20000:=by
  rw [zn2]
  have:=HN.znr
  simp [rowOf,HPL.znr]
  omega
 have HEN:=znq (show putsV (putsV (x8::pl) (rowOf [(⟨no,nc,nonce⟩:Str)])) (rowOf ss)=zoi t nonce (rowOf ss)∧True from ⟨by
  unfold zoi
  rw [← HX.znr.1,show (rowOf ss).length=N by unfold rowOf;rw [List.length_map];exact HNN.znr,HPE.znr.1]
  rfl,trivial⟩)
 generalize putsV (x8::pl) (rowOf [(⟨no,nc,nonce⟩:Str)])=o7 at *
 clear hl7 hbel7 HS6 HL5
 go_wp2_with fail
 refine (zp8 a7 o7.length c7 o7 ado N adc ss _ rfl hl9 hc7 HL7.znr HNN.znr hNb (HSS.znr.below HBE.znr) HSB.znr).mono ?_
 rintro e w8 ⟨a8,c8,rfl,hc8,hl8,hbel8⟩
 rw [HEN.znr.1] at hc8 hl8 ⊢
 have HL8:=znq hl8
 have HBE:=znq (HBE.znr.trans (hbel8.mono hz7))
 clear hl8 hbel8
 go_wp2
 go_ret2
 exact ⟨a8,c8,rfl,hc8,HL8.znr,HBE.znr⟩
end Go.Proofs.YtjaioajjfiaheaaGreatDoor
namespace Go.Hct
open Go.Ops Go.Oct Go.Trn Go.Aes
def vB (start:List UInt8) (p:List UInt8):Nat→List UInt8
 | 0=>start
 | k+1=>(vB start p k).set k (ya (at8 (vB start p k) k) (at8 p k))
theorem YJ (s p:List UInt8):∀ k,(vB s p k).length=s.length
 | 0=>rfl
 | k+1=>by rw [vB,List.length_set,YJ s p k]
theorem zdr {s:List UInt8} (h:s.length=16) (i:Nat):vB s (zz (UInt64.ofNat i)) 8=zak s i:=by
 match s,h with
 | [b0,b1,b2,b3,b4,b5,b6,b7,b8,b9,b10,b11,b12,b13,b14,b15],_=>rfl
def xGo (ks:List (List UInt8)) (start:List UInt8) (i:Nat) (b:List UInt8):List UInt8 :=
 if h:b.length=0 then [] else xorL b (j7 ks start i)++xGo ks start (i+1) (b.drop 16)
termination_by b.length
decreasing_by simp;omega
theorem zgg (ks:List (List UInt8)) (start:List UInt8) (i:Nat):xGo ks start i []=[]:=by unfold xGo;simp
theorem zds {ks:List (List UInt8)} {start:List UInt8} {i:Nat} {b:List UInt8} (h:b.length≠0):xGo ks start i b=xorL b (j7 ks start i)++xGo ks start (i+1) (b.drop 16):=by
 conv=>lhs;unfold xGo
 rw [dif_neg h]
theorem zh9 (b:List UInt8) (k j:Nat):at8 (b.drop k) j=at8 b (k+j):=by
 unfold at8
 rw [List.getD_eq_getElem?_getD,List.getD_eq_getElem?_getD,List.getElem?_drop]
theorem zgh (ks:List (List UInt8)) (start:List UInt8):∀ (n i:Nat) (b:List UInt8),b.length≤n→xGo ks start i b=(List.range b.length).map fun j=>ya (at8 b j) (at8 (j7 ks start (i+j / 16)) (j % 16))
 | n,i,b,h=>by
  by_cases h0:b.length=0
  ·rw [List.eq_nil_of_length_eq_zero h0,zgg];rfl
  ·rw [zds h0]
   match n,h with
   | 0,h=>omega
   | n+1,h =>
    rw [zgh ks start n (i+1) (b.drop 16) (by rw [List.length_drop];omega)]
    apply List.ext_getElem?
    intro j
    have hxl:(xorL b (j7 ks start i)).length=min b.length 16:=by rw [Oct.xorL_length,Zb]
    by_cases hj:j < min b.length 16
    ·rw [List.getElem?_append_left (by rw [hxl];exact hj)]
     rw [List.getElem?_map,List.getElem?_range (by omega)]
     have e1:j / 16=0:=by omega
     have e2:j % 16=j:=by omega
     simp only [Option.map_some,e1,e2,Nat.add_zero]
     unfold xorL
     rw [List.getElem?_map,List.getElem?_range (by rw [Zb];exact hj)]
     rfl
    ·rw [List.getElem?_append_right (by rw [hxl];omega),hxl]
     by_cases hl:j < b.length
     ·have hm:min b.length 16=16:=by omega
      rw [hm,List.getElem?_map,List.getElem?_map,List.getElem?_range (by rw [List.length_drop];omega),List.getElem?_range hl]
      simp only [Option.map_some,zh9]
      have e1:16+(j - 16)=j:=by omega
      have e2:i+1+(j - 16) / 16=i+j / 16:=by omega
      have e3:(j - 16) % 16=j % 16:=by omega
      rw [e1,e2,e3]
     ·rw [List.getElem?_eq_none (by simp;omega),List.getElem?_eq_none (by simp;omega)]
theorem zia (ks:List (List UInt8)) (start b:List UInt8):xGo ks start 1 b=xS ks start b:=zgh ks start b.length 1 b (Nat.le_refl _)
end Go.Hct
namespace Go.Proofs.YtjaioajjfiaheaaGreatDoor
open Go.RowKit Go.Mem Go.Ops Go.Cells Go.Oct Go.Trn Go.Aes Go.Hct
attribute [local irreducible] zE zN zO zM yJ
theorem zib (kp q p:Nat) (ks:List (List UInt8)) (kb koff n cap:Nat) (s:List UInt8) (i:Nat) (u:UInt64) (w:World) (hk:qV w kp q p ks kb koff n cap) (hs:s.length=16) (hu:u=UInt64.ofNat i) :
  Calls Tryz.prog 253 #[.pointer (some ⟨kp,0,none⟩),.agg (s.map B).toArray,L u] w fun e w'=>e=.returned (.agg ((j7 ks s i).map B).toArray)∧Below w.heap.size w w':=by
 have HK:=znq hk
 have HX:=znq (show s.length=16∧True from ⟨hs,trivial⟩)
 obtain ⟨pl,hpl⟩:∃ x,x=zz u:=⟨_,rfl⟩
 have HPL:=znq (show zz u=pl∧pl.length=8 from ⟨hpl.symm,by rw [hpl];exact zK u⟩)
 have HALL:=znq (show vB s pl 8=zak s i∧True from ⟨by rw [hpl,hu];exact zdr hs i,trivial⟩)
 have HS:=znq (St.start w)
 clear hk hs hu hpl
 go_enter Tryz.func253,Tryz.ntmps253
 go_wp2_with (refine zh 117 _ (s.map B) _ rfl rfl rfl rfl ?_)
 intro w1 hb hbel;have HS:=znq (HS.znr.push hb hbel);have hlt1:=hb.lt;clear hb hbel
 go_wp2_with (refine ze 117 ((zf 16).map B) _ rfl rfl zj rfl ?_)
 intro w2 hb hbel;have HS:=znq (HS.znr.push hb hbel);have hlt2:=hb.lt;clear hb hbel
 generalize hbb:w.heap.size=bb at *
 generalize w1.heap.size=b1 at *
 have HBB:=znq hbb
 have HBW:=znq (show ∀ wz L,St w bb wz L→Below w.heap.size w wz from fun wz L h=>by rw [hbb];exact h.bel)
 clear hbb
 go_wp2_with fail
 refine (kH u _).mono ?_
 rintro e w3 ⟨rfl,hbel⟩
 rw [HPL.znr.1]
 have HS:=znq (HS.znr.later hbel)
 clear hbel
 go_wp2
 go_loopw [11] (fun c wr=>∃ (j:Nat) (l:List UInt8),j≤8∧c=.int .i64 j∧Hid (l=vB s pl j∧True)∧Hid (St w bb wr [(b1,(zf 16).map B,117),(bb,l.map B,117)])) (fun c _=>8 - (intOf c).toNat)
 case atStart=>exact ⟨0,s,by omega,rfl,znq ⟨rfl,trivial⟩,HS⟩
 case round =>
  clear HS
  obtain ⟨j,l,hj,rfl,HE,HS⟩:=hrel
  have HL16:=znq (show l.length=16∧True from ⟨by rw [HE.znr.1,YJ];exact HX.znr.1,trivial⟩)
  by_cases hlt:j < 8
  ·have hd:decide ((j:Int) < 8)=true:=by simp;omega
   have hix:=fun w':World=>qF (P:=Tryz.prog) w' 97 5 8 (pl.map B).toArray .i64 j (B (at8 pl j)) Tryz.underlying97 (by kernel_rfl) zl (by rw [List.getElem?_toArray];exact zU (at8_get (by rw [HPL.znr.2];exact hlt))) hlt
   have hc:=(HS.znr.get 1 rfl).cell j _ (zU (at8_get (b:=l) (i:=j) (by rw [HL16.znr.1];omega)))
   have HN:=znq (show l.set j (ya (at8 l j) (at8 pl j))=vB s pl (j+1)∧True from ⟨by rw [vB,← HE.znr.1],trivial⟩)
   go_wp2_with (refine (HS.znr.get 1 rfl).wset (i:=j) (v:=B (ya (at8 l j) (at8 pl j))) rfl rfl rfl rfl zl rfl rfl (by rw [List.length_map,HL16.znr.1];omega) ?_)
   intro w4 hb ho
   rw [ym] at hb
   have HS:=znq (HS.znr.change 1 hb ho (by omega) (by simp;omega))
   clear hb ho hc hix
   go_wp2
   go_roundw
   case rel=>exact ⟨j+1,_,by omega,by go_num,HN,HS⟩
   case measure=>simp [intOf];omega
  ·obtain rfl:j=8:=by omega
   have HE:=znq (show l=zak s i∧True from ⟨by rw [HE.znr.1,HALL.znr.1],trivial⟩)
   have HLV:=znq (show (l.map B).length=16 by rw [List.length_map];exact HL16.znr.1)
   go_wp2_with (refine (HS.znr.get 1 rfl).wload rfl rfl rfl zc HLV.znr ?_)
   refine (K7 kp q p ks kb koff n cap l _ (HK.znr.later (HBW.znr _ _ HS.znr)) HL16.znr.1).mono ?_
   rintro e w4 ⟨rfl,hbel⟩
   have HS:=znq (HS.znr.later hbel)
   clear hbel
   obtain ⟨v,hv⟩:∃ x,x=enc ks l:=⟨_,rfl⟩
   have HV:=znq (show j7 ks s i=v∧v.length=16 from ⟨by rw [hv,HE.znr.1];rfl,by rw [hv];exact xJ _ _⟩)
   have HVV:=znq (show (v.map B).length=16 by rw [List.length_map];exact HV.znr.2)
   rw [← hv]
   clear hv
   go_wp2_with (refine (HS.znr.get 0 rfl).wstore rfl rfl rfl (cs:=v.map B) rfl zc (by simp [zd]) HVV.znr (zg _) ?_)
   intro w5 hb ho
   go_wp2
   refine hb.result rfl rfl rfl zc HVV.znr ⟨by rw [HV.znr.1],?_⟩
   rw [HBB.znr]
   exact zk HS.znr.bel ho (by omega)
end Go.Proofs.YtjaioajjfiaheaaGreatDoor

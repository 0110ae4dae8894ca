/-
  Texts of this claim, one behind the other.
-/
import Derived.Test.YtjaioajjfiaheaaGreatDoorR1
import Derived.Test.YtjaioajjfiaheaaGreatDoorR23
import Derived.Lib.Hide
set_option linter.unusedVariables false
set_option linter.unusedSimpArgs false
set_option maxHeartbeats 16000000
set_option maxRecDepth 100000
namespace Go.Proofs.YtjaioajjfiaheaaGreatDoor
open Go.RowKit Go.Mem Go.Ops Go.Cells Go.Oct Go.Trn Go.Aes Go.Hct
attribute [local irreducible] zE zN zO zM yu
theorem Q0 (q p:Nat) (ao:Option Addr) (len cap:Nat) (key:List UInt8) (n:Nat) (long:Bool) (w:World)
  (hexp:Calls Tryz.prog 129 #[.pointer (some ⟨q,0,none⟩),.slice ao len cap] w fun e w'=>∃ kp kb koff kcap,e=.returned (.tuple #[.pointer (some ⟨kp,0,none⟩),.int .i64 0])∧qV w' kp q p (expand n long key) kb koff (n+7) kcap∧(w.heap.size≤kp∧w.heap.size≤kb)∧Below w.heap.size w w') :
  Calls Tryz.prog 94 #[.pointer (some ⟨q,0,none⟩),.slice ao len cap] w fun e w'=>∃ cp,e=.returned (.tuple #[.pointer (some ⟨cp,0,none⟩),.int .i64 0])∧Std w.heap.size [q,p] w' (fun w''=>Z5 w'' cp (J0 n long key))∧Below w.heap.size w w':=by
 have HEX:=znq hexp
 obtain ⟨ks,hks⟩:∃ x,x=expand n long key:=⟨_,rfl⟩
 obtain ⟨z0,hz0⟩:∃ x,x=zf 16:=⟨_,rfl⟩
 obtain ⟨z1,hz1⟩:∃ x,x=1::zf 15:=⟨_,rfl⟩
 have HZ0:=znq (show z0.length=16∧True from ⟨by rw [hz0];rfl,trivial⟩)
 have HZ1:=znq (show z1.length=16∧True from ⟨by rw [hz1];rfl,trivial⟩)
 obtain ⟨h,hh⟩:∃ x,x=enc ks z0:=⟨_,rfl⟩
 obtain ⟨l,hl⟩:∃ x,x=enc ks z1:=⟨_,rfl⟩
 have HKEY:=znq (show J0 n long key=⟨ks,h,l⟩∧expand n long key=ks from ⟨by rw [hh,hl,hks,hz0,hz1];rfl,hks.symm⟩)
 have HHH:=znq (show enc ks z0=h∧h.length=16 from ⟨hh.symm,by rw [hh];exact xJ _ _⟩)
 have HLL:=znq (show enc ks z1=l∧l.length=16 from ⟨hl.symm,by rw [hl];exact xJ _ _⟩)
 have hb0:Tryz.prog.built 117 []=some (z0.map B).toArray:=by rw [hz0];exact zid
 have hb1:Tryz.prog.built 117 [(0,.int .u8 1)]=some (z1.map B).toArray:=by rw [hz1];exact zie
 have hbc:∀ kp,Tryz.prog.built 198 [(0,.pointer (some ⟨kp,0,none⟩))]=some (hcV kp z0 z0).toArray:=by rw [hz0];exact znc
 have HB0:=znq hb0
 have HB1:=znq hb1
 have HBC:=znq hbc
 rw [HKEY.znr.1]
 have HS:=znq (St.start w)
 clear hexp hks hz0 hz1 hh hl hb0 hb1 hbc
 go_enter Tryz.func94,Tryz.ntmps94
 generalize hbb:w.heap.size=bb at *
 have HBB:=znq hbb
 clear hbb
 go_wp2_with fail
 refine HEX.znr.mono ?_
 rintro e w1 ⟨kp,kb,koff,kcap,rfl,hak,hge,hbel⟩
 rw [HKEY.znr.2] at hak
 have HK:=znq hak
 have HKB:=znq hge
 have hkp:kp < w1.heap.size∧q < w1.heap.size∧p < w1.heap.size∧kb < w1.heap.size:=⟨hak.blk.lt,hak.tab.tab.lt,hak.tab.boxes.lt,(hak.range 0 (by have:=hak.two;omega)).2⟩
 have HS:=znq (HS.znr.later (by rw [HBB.znr];exact hbel))
 have hz1:=HS.znr.size
 clear hak hge hbel
 have hbc:=HBC.znr kp
 go_wp2_with (first | (refine xZ 198 _ _ _ rfl rfl rfl hbc ?_) | refine zh 198 _ (hcV kp z0 z0) _ rfl rfl rfl rfl ?_)
 intro w2 hb hbel
 have HK:=znq (HK.znr.later hbel)
 have HS:=znq (HS.znr.push hb hbel)
 clear hb hbel hbc
 generalize w1.heap.size=cp at *
 have hc0:=fun (x:xR (fun u v=>Below u.heap.size u v) w2.drew)=>((HS.znr.drew.later x.2).get 0 rfl).cell 0 _ rfl
 go_wp2_with fail
 refine kW (fun u v=>Below u.heap.size u v) [16,19] [(0,2),(1,2),(2,2),(3,2),(4,2),(5,1),(6,2),(8,2),(9,2),(10,2),(11,1),(12,2),(7,0),(13,0),(14,2),(15,2),(16,0),(17,2),(18,2),(19,0)] (fun a=>Below.refl _ a) (fun _ _ _ h1 h2=>h1.trans (h2.mono h1.size)) (by kernel_rfl) (by kernel_rfl) ?_
 rintro w3 rfl
 refine mqN ?_
 clear hc0
 rw [show (#[Value.int IntKind.u8 0,Value.int IntKind.u8 0,Value.int IntKind.u8 0,Value.int IntKind.u8 0,Value.int IntKind.u8 0,Value.int IntKind.u8 0,Value.int IntKind.u8 0,Value.int IntKind.u8 0,Value.int IntKind.u8 0,Value.int IntKind.u8 0,Value.int IntKind.u8 0,Value.int IntKind.u8 0,Value.int IntKind.u8 0,Value.int IntKind.u8 0,Value.int IntKind.u8 0,Value.int IntKind.u8 0]:Array Value)=(z0.map B).toArray from Option.some.inj HB0.znr,show (#[Value.int IntKind.u8 1,Value.int IntKind.u8 0,Value.int IntKind.u8 0,Value.int IntKind.u8 0,Value.int IntKind.u8 0,Value.int IntKind.u8 0,Value.int IntKind.u8 0,Value.int IntKind.u8 0,Value.int IntKind.u8 0,Value.int IntKind.u8 0,Value.int IntKind.u8 0,Value.int IntKind.u8 0,Value.int IntKind.u8 0,Value.int IntKind.u8 0,Value.int IntKind.u8 0,Value.int IntKind.u8 0]:Array Value)=(z1.map B).toArray from Option.some.inj HB1.znr]
 have HK:=znq HK.znr.drew
 have HS:=znq HS.znr.drew
 refine yS rfl (by rfl) (fun K hK=>?_)
 go_simp
 refine (K7 kp q p ks kb koff (n+7) kcap z0 _ HK.znr HZ0.znr.1).mono ?_
 rintro e w4 ⟨rfl,hbel⟩
 rw [HHH.znr.1]
 have HK:=znq (HK.znr.later hbel)
 have HS:=znq (HS.znr.later hbel)
 go_simp
 refine hK _ _ (fun _=>hbel) ?_
 clear hK K hbel
 refine yS rfl (by rfl) (fun K hK=>?_)
 go_simp
 refine (K7 kp q p ks kb koff (n+7) kcap z1 _ HK.znr HZ1.znr.1).mono ?_
 rintro e w5 ⟨rfl,hbel⟩
 rw [HLL.znr.1]
 have HK:=znq (HK.znr.later hbel)
 have HS:=znq (HS.znr.later hbel)
 go_simp
 refine hK _ _ (fun _=>hbel) ?_
 clear hK K hbel
 refine mqN ?_
 refine yS rfl (by rfl) (fun K hK=>?_)
 refine (HS.znr.get 0 rfl).opstoreAt (o:=1) (cs:=h.map B) rfl rfl rfl zc (by rw [List.length_map];exact HHH.znr.2) (by rw [XO HZ0.znr.1 HZ0.znr.1];omega) (zg _) (fun w6 hb ho=>hK _ _ (fun h=>by cases h) ?_)
 clear hK K
 rw [zk4 HZ0.znr.1 HHH.znr.2] at hb
 have HK:=znq (HK.znr.only ho (by omega) (by omega) (by omega) (by omega))
 have HS:=znq (HS.znr.change 0 hb ho (by omega) (by simp))
 clear hb ho
 go_simp
 refine mqN ?_
 refine yS rfl (by rfl) (fun K hK=>?_)
 refine (HS.znr.get 0 rfl).opstoreAt (o:=17) (cs:=l.map B) rfl rfl rfl zc (by rw [List.length_map];exact HLL.znr.2) (by rw [XO HHH.znr.2 HZ0.znr.1];omega) (zg _) (fun w7 hb ho=>hK _ _ (fun h=>by cases h) ?_)
 clear hK K
 rw [zk5 HHH.znr.2 HZ0.znr.1 HLL.znr.2] at hb
 have HK:=znq (HK.znr.only ho (by omega) (by omega) (by omega) (by omega))
 have HS:=znq (HS.znr.change 0 hb ho (by omega) (by simp))
 clear hb ho
 go_simp
 refine jA ?_
 go_wp2
 go_ret2
 exact ⟨_,rfl,fun S w'' hS hu=>⟨HHH.znr.2,HLL.znr.2,kp,q,p,kb,koff,n+7,kcap,(HS.znr.get 0 rfl).up hu (hS _ (.inl (by omega))),HK.znr.up hu (hS _ (.inl (by have:=HKB.znr;omega))) (hS _ (.inr (by simp))) (hS _ (.inr (by simp))) (hS _ (.inl (by have:=HKB.znr;omega)))⟩,HS.znr.bel⟩
theorem zlc (q p:Nat) (ao:Option Addr) (cap:Nat) (key:List UInt8) (w:World) (ht:Tab w q p) (hlen:key.length=32) (hl:zr w ao (key.map B)) :
  Calls Tryz.prog 94 #[.pointer (some ⟨q,0,none⟩),.slice ao 32 cap] w fun e w'=>∃ cp,e=.returned (.tuple #[.pointer (some ⟨cp,0,none⟩),.int .i64 0])∧Std w.heap.size [q,p] w' (fun w''=>Z5 w'' cp (J0 8 true key))∧Below w.heap.size w w' :=
 Q0 q p ao 32 cap key 8 true w (Q7 q p ao cap key w ht hlen hl)
theorem zld (q p:Nat) (ao:Option Addr) (cap:Nat) (key:List UInt8) (w:World) (ht:Tab w q p) (hlen:key.length=24) (hl:zr w ao (key.map B)) :
  Calls Tryz.prog 94 #[.pointer (some ⟨q,0,none⟩),.slice ao 24 cap] w fun e w'=>∃ cp,e=.returned (.tuple #[.pointer (some ⟨cp,0,none⟩),.int .i64 0])∧Std w.heap.size [q,p] w' (fun w''=>Z5 w'' cp (J0 6 false key))∧Below w.heap.size w w' :=
 Q0 q p ao 24 cap key 6 false w (zbp q p ao cap key w ht hlen hl)
theorem zle (q p:Nat) (ao:Option Addr) (cap:Nat) (key:List UInt8) (w:World) (ht:Tab w q p) (hlen:key.length=16) (hl:zr w ao (key.map B)) :
  Calls Tryz.prog 94 #[.pointer (some ⟨q,0,none⟩),.slice ao 16 cap] w fun e w'=>∃ cp,e=.returned (.tuple #[.pointer (some ⟨cp,0,none⟩),.int .i64 0])∧Std w.heap.size [q,p] w' (fun w''=>Z5 w'' cp (J0 4 false key))∧Below w.heap.size w w' :=
 Q0 q p ao 16 cap key 4 false w (zbo q p ao cap key w ht hlen hl)
end Go.Proofs.YtjaioajjfiaheaaGreatDoor
namespace Go.Proofs.YtjaioajjfiaheaaGreatDoor
open Go.RowKit Go.Mem Go.Ops Go.Cells Go.Oct Go.Gf Go.Trn Go.Aes Go.Blake Go.Prime Go.Adi Go.Cha Go.Fl Go.Ezh
attribute [local irreducible] zE zN zO zM yJ
structure ACx (w:World) (cp kp q p kb koff n kcap hb:Nat) (k:kV):Prop where
 blk:Blk w cp (acV k.key [.pointer (some ⟨kp,0,none⟩),.pointer (some ⟨hb,0,none⟩)]) 190
 key:qV w kp q p k.ks kb koff n kcap
 hash:Y3 w hb k.kt k.km k.ws
theorem ACx.later {w w':World} {cp kp q p kb koff n kcap hb:Nat} {k:kV} (h:ACx w cp kp q p kb koff n kcap hb k) (hl:Below w.heap.size w w'):ACx w' cp kp q p kb koff n kcap hb k:=⟨h.blk.below hl h.blk.lt,h.key.later hl,h.hash.below hl⟩
theorem zlf {key:List UInt8} (h:key.length=32) (a b:Value):(acV key [a,b])[32]? = some a:=by
 unfold acV
 rw [List.getElem?_append_right (by simp [h])]
 simp [h]
theorem za2 {key:List UInt8} (h:key.length=32) (a b:Value):(acV key [a,b])[33]? = some b:=by
 unfold acV
 rw [List.getElem?_append_right (by simp [h])]
 simp [h]
theorem zlg (cp:Nat) (k:kV) (ao:Option Addr) (tn tc:Nat) (t:List UInt8) (bo:Option Addr) (n cb:Nat) (m:List UInt8) (w:World) (hk:Vm w cp k) (ht:t.length=tn) (ht1:tn≤10000) (htc:tn≤tc) (hlt:zr w ao (t.map B))
  (hn:m.length=n) (h1:16≤n) (h31:n≤20000) (hcb:n≤cb) (hl:zr w bo (m.map B)) :
  Calls Tryz.prog 207 #[.pointer (some ⟨cp,0,none⟩),.slice ao tn tc,.slice bo n cb] w fun e w'=>∃ v,e=.returned (.tuple #[v,.int .i64 0])∧w'.ownsRow w.heap.size 5 1 v n ((XK k t m).map B)∧Below w.heap.size w w':=by
 obtain ⟨kp,q,p,kb,koff,kn,kcap,hb,e1,e2,e3⟩:=hk.ex
 have HX:=znq (show ACx w cp kp q p kb koff kn kcap hb k from ⟨e1,e2,e3⟩)
 have HK32:=znq hk.key32
 have HT:=znq ht
 have HLT:=znq hlt
 have HN:=znq hn
 have HL:=znq hl
 obtain ⟨a,ha⟩:∃ a,a=n - 16:=⟨_,rfl⟩
 obtain ⟨bulk,hbulk⟩:∃ x,x=m.take a:=⟨_,rfl⟩
 obtain ⟨rt,hrt⟩:∃ x,x=xo (m.drop a):=⟨_,rfl⟩
 have HBL:=znq (show bulk.length=a from by rw [hbulk,List.length_take,hn];omega)
 obtain ⟨sm,hsm⟩:∃ x,x=plusW (vY k.kt t a) (vZ k.km k.ws bulk):=⟨_,rfl⟩
 have HSM:=znq (show plusW (vY k.kt t a) (vZ k.km k.ws bulk)=sm∧True from ⟨hsm.symm,trivial⟩)
 obtain ⟨pl,hpl⟩:∃ x,x=plusW rt sm:=⟨_,rfl⟩
 have HPL:=znq (show plusW rt sm=pl∧True from ⟨hpl.symm,trivial⟩)
 obtain ⟨mid,hmid⟩:∃ x,x=xo (enc k.ks (z7 pl)):=⟨_,rfl⟩
 have HMID:=znq (show xo (enc k.ks (z7 pl))=mid∧True from ⟨hmid.symm,trivial⟩)
 obtain ⟨bk2,hbk2⟩:∃ x,x=jT k.key (z7 mid++[1]++zf 7) 12 bulk:=⟨_,rfl⟩
 have HBK2:=znq (show jT k.key (z7 mid++[1]++zf 7) 12 bulk=bk2∧bk2.length=a from ⟨hbk2.symm,by rw [hbk2,vy];exact HBL.znr⟩)
 obtain ⟨sm2,hsm2⟩:∃ x,x=plusW (vY k.kt t a) (vZ k.km k.ws bk2):=⟨_,rfl⟩
 have HSM2:=znq (show plusW (vY k.kt t a) (vZ k.km k.ws bk2)=sm2∧True from ⟨hsm2.symm,trivial⟩)
 obtain ⟨rt2,hrt2⟩:∃ x,x=qp mid sm2:=⟨_,rfl⟩
 have HRT2:=znq (show qp mid sm2=rt2∧True from ⟨hrt2.symm,trivial⟩)
 have HRES:=znq (show XK k t m=bk2++z7 rt2∧(xo (m.drop (n - 16))=rt∧m.take (n - 16)=bulk) from ⟨by
  unfold XK jF jj zcu
  rw [hn,← ha,← hbulk,← hrt,HBL.znr,← hsm,← hpl,← hmid,← hbk2,HBK2.znr.2,← hsm2,← hrt2],by rw [← ha];exact ⟨hrt.symm,hbulk.symm⟩⟩)
 have han:a+16=n:=by omega
 have HAA:=znq (show n - 16=a∧True from ⟨ha.symm,trivial⟩)
 have HS:=znq (St.start w)
 rw [HRES.znr.1]
 clear hk e1 e2 e3 ht hlt hn hl ha hbulk hrt hsm hpl hmid hbk2 hsm2 hrt2
 go_enter Tryz.func207,Tryz.ntmps207
 generalize hbb:w.heap.size=bb at *
 have HBB:=znq hbb
 clear hbb
 go_wp2_with fail
 refine (Vj cp bo n cb _ h1).mono ?_
 rintro e w1 ⟨rfl,rfl⟩
 go_wp2_with fail
 refine (Vk bo n cb m _ HN.znr hcb h1 (by omega) HL.znr).mono ?_
 rintro e w2 ⟨v2,rfl,hown,hbel⟩
 rw [HRES.znr.2.1]
 rw [HRES.znr.2.2,HAA.znr.1] at hown
 obtain ⟨a2,c2,rfl,hac2,_,_⟩:=zw hown
 have HO2:=znq hown
 have HS:=znq (HS.znr.later hbel)
 have hz2:=HS.znr.size
 have HBW:=znq (show ∀ wz L,St w bb wz L→Below w.heap.size w wz from fun wz L h=>by rw [HBB.znr];exact h.bel)
 clear hown hbel
 go_wp2_with (refine ze 119 [L 0,L 0] _ rfl rfl zT rfl ?_)
 intro w3 hb' hbel
 have HO2:=znq (zm HO2.znr hbel)
 have HS:=znq (HS.znr.push hb' hbel)
 clear hb' hbel
 generalize hb2:w2.heap.size=b2 at *
 clear hb2
 go_wp2_with (refine (HS.znr.get 0 rfl).wstore rfl rfl rfl (cs:=zQ rt) rfl zq rfl rfl (zX _) ?_)
 intro w4 hb' ho
 have HO2:=znq (zu HO2.znr (HS.znr.get 0 rfl) (by decide) ho)
 have HS:=znq (show St w bb w4 [(b2,zQ rt,119)] from HS.znr.change 0 hb' ho hz2 (by simp))
 clear hb' ho
 have hx32:=fun (x:zG w4.drew)=>((HX.znr.later (HBW.znr _ _ (HS.znr.drew.later x.later))).blk).cell 32 _ (zlf HK32.znr _ _)
 have hx33:=fun (x:zG w4.drew)=>((HX.znr.later (HBW.znr _ _ (HS.znr.drew.later x.later))).blk).cell 33 _ (za2 HK32.znr _ _)
 have hb2':b2 < w4.heap.size:=HS.znr.ne _ (List.mem_of_getElem? (i:=0) rfl)
 go_wp2_with fail
 refine yn [0,1,2,3,4,5,6,7,8,9,10,11] [12,13,14] [16] [zH.var 15 11 119 [L 0,L 0]] (by kernel_rfl) (by kernel_rfl) ?_
 rintro w5 rfl
 refine mq0 ?_
 refine zL (HS.znr.get 0 rfl).range (HS.znr.get 0 rfl).lt zq rfl rfl rfl rfl (fun K hK=>?_)
 go_simp;refine hK _ ?_;clear hK K
 refine mq0 ?_
 clear hx32 hx33
 have HO2:=znq (zm HO2.znr (Below.refl _ _).drew)
 have HS:=znq HS.znr.drew
 refine yK ⟨?_,?_,Nat.le_refl _⟩
 ·intro f hf
  simp only [List.mem_singleton] at hf
  subst hf
  exact y6 _ _ _ _ _ _ rfl rfl rfl rfl (by simp) zT rfl
 refine zC rfl rfl (fun uz wa hla K hK=>?_)
 go_simp
 have HO2:=znq (zm HO2.znr hla)
 have HS:=znq (HS.znr.later hla)
 refine (KR hb k.kt k.km k.ws ao tn tc t a2 a c2 bulk _ (HX.znr.later (HBW.znr _ _ HS.znr)).hash HT.znr htc (by omega) (HLT.znr.below (HBW.znr _ _ HS.znr)) HBL.znr (by omega) (zr.of_own HO2.znr)).mono ?_
 rintro e w6 ⟨rfl,hbel⟩
 rw [HSM.znr.1]
 have HO2:=znq (zm HO2.znr hbel)
 have HS:=znq (HS.znr.later hbel)
 go_simp
 refine hK _ _ hbel ?_
 clear hK K hbel hla
 refine zC rfl rfl (fun uz wa hla K hK=>?_)
 go_simp
 have HO2:=znq (zm HO2.znr hla)
 have HS:=znq (HS.znr.later hla)
 refine (J6 rt sm _).mono ?_
 rintro e w7 ⟨rfl,hbel⟩
 rw [HPL.znr.1]
 have HO2:=znq (zm HO2.znr hbel)
 have HS:=znq (HS.znr.later hbel)
 go_simp
 refine hK _ _ hbel ?_
 clear hK K hbel hla
 refine zC rfl rfl (fun uz wa hla K hK=>?_)
 go_simp
 have HO2:=znq (zm HO2.znr hla)
 have HS:=znq (HS.znr.later hla)
 refine (zif kp q p k.ks kb koff kn kcap pl _ (HX.znr.later (HBW.znr _ _ HS.znr)).key).mono ?_
 rintro e w8 ⟨rfl,hbel⟩
 rw [HMID.znr.1]
 have HO2:=znq (zm HO2.znr hbel)
 have HS:=znq (HS.znr.later hbel)
 go_simp
 refine hK _ _ hbel ?_
 clear hK K hbel hla
 refine yZ (fun b5 wb hlb hb5 hbn=>?_)
 go_simp
 have HO2:=znq (zm HO2.znr hlb)
 have HS:=znq ((HS.znr.later hlb).add (show Blk wb b5 [L 0,L 0] 119 from hbn))
 clear hlb hbn
 generalize w4.heap.size=b4 at *
 have hb5b:bb≤b5:=by omega
 refine zp rfl rfl (by rfl) (fun K hK=>?_)
 refine (HS.znr.get 0 rfl).opstore rfl rfl rfl zq rfl rfl (zX _) (fun w9 hb' ho=>hK _ _ ?_)
 clear hK K
 have HO2:=znq (zu HO2.znr (HS.znr.get 0 rfl) (by decide) ho)
 have HS:=znq (show St w bb w9 [(b5,zQ mid,119),(b2,zQ rt,119)] from HS.znr.change 0 hb' ho hb5b (by simp;omega))
 clear hb' ho
 go_simp
 refine zo ?_
 go_wp2_with (refine (HS.znr.get 0 rfl).wload rfl rfl rfl zq rfl ?_)
 refine (KC cp k.key _ mid a2 a c2 bulk _ (HX.znr.later (HBW.znr _ _ HS.znr)).blk HK32.znr HBL.znr hac2 (by omega) (zr.of_own HO2.znr)).mono ?_
 rintro e w10 ⟨v10,rfl,hown,hbel⟩
 rw [HBK2.znr.1] at hown
 obtain ⟨a10,c10,rfl,hac10,_,hl10⟩:=zw hown
 have HL10:=znq hl10
 have HS:=znq (HS.znr.later hbel)
 clear hown hl10 hbel HO2
 have hx33:=fun (x:zG w10.drew)=>((HX.znr.later (HBW.znr _ _ (HS.znr.drew.later x.later))).blk).cell 33 _ (za2 HK32.znr _ _)
 go_wp2_with fail
 refine zn [0,1,2,3,4,5,6,7,8,9,10,11,12] (by kernel_rfl) (by kernel_rfl) ?_
 rintro w11 rfl
 have HS:=znq HS.znr.drew
 have HL10:=znq (HL10.znr.below (Below.refl _ _).drew)
 refine mqR ?_
 refine zt (HS.znr.get 0 rfl).range (HS.znr.get 0 rfl).lt zq rfl rfl rfl rfl rfl (fun K hK=>?_)
 go_simp;refine hK _ ?_;clear hK K
 refine mqR ?_
 clear hx33
 refine zi rfl rfl (by rfl) (fun K hK=>?_)
 go_simp
 refine (KR hb k.kt k.km k.ws ao tn tc t a10 a c10 bk2 _ (HX.znr.later (HBW.znr _ _ HS.znr)).hash HT.znr htc (by omega) (HLT.znr.below (HBW.znr _ _ HS.znr)) HBK2.znr.2 (by omega) HL10.znr).mono ?_
 rintro e w12 ⟨rfl,hbel⟩
 rw [HSM2.znr.1]
 have HL10:=znq (HL10.znr.below hbel)
 have HS:=znq (HS.znr.later hbel)
 go_simp
 refine hK _ _ hbel ?_
 clear hK K hbel
 refine zi rfl rfl (by rfl) (fun K hK=>?_)
 go_simp
 refine (WB mid sm2 _).mono ?_
 rintro e w13 ⟨rfl,hbel⟩
 rw [HRT2.znr.1]
 have HL10:=znq (HL10.znr.below hbel)
 have HS:=znq (HS.znr.later hbel)
 go_simp
 refine hK _ _ hbel ?_
 clear hK K hbel
 refine zi rfl rfl (by rfl) (fun K hK=>?_)
 go_simp
 refine (KB a10 a c10 bk2 rt2 _ HBK2.znr.2 hac10 (by omega) HL10.znr).mono ?_
 rintro e w14 ⟨v14,rfl,hown,hbel⟩
 rw [han] at hown
 have HO:=znq (yi hown HS.znr.size)
 have HS:=znq (HS.znr.later hbel)
 go_simp
 refine hK _ _ hbel ?_
 clear hK K hbel hown
 refine mqR ?_
 refine zo ?_
 go_wp2
 go_ret2
 exact ⟨_,rfl,HO.znr,HS.znr.bel⟩
theorem zlh (cp:Nat) (k:kV) (ao:Option Addr) (tn tc:Nat) (t:List UInt8) (bo:Option Addr) (n cb:Nat) (m:List UInt8) (w:World) (hk:Vm w cp k) (ht:t.length=tn) (ht1:tn≤10000) (htc:tn≤tc) (hlt:zr w ao (t.map B))
  (hn:m.length=n) (h1:16≤n) (h31:n≤20000) (hcb:n≤cb) (hl:zr w bo (m.map B)) :
  Calls Tryz.prog 206 #[.pointer (some ⟨cp,0,none⟩),.slice ao tn tc,.slice bo n cb] w fun e w'=>∃ v,e=.returned (.tuple #[v,.int .i64 0])∧w'.ownsRow w.heap.size 5 1 v n ((XL k t m).map B)∧Below w.heap.size w w':=by
 obtain ⟨kp,q,p,kb,koff,kn,kcap,hb,e1,e2,e3⟩:=hk.ex
 have HX:=znq (show ACx w cp kp q p kb koff kn kcap hb k from ⟨e1,e2,e3⟩)
 have HK32:=znq hk.key32
 have HT:=znq ht
 have HLT:=znq hlt
 have HN:=znq hn
 have HL:=znq hl
 obtain ⟨a,ha⟩:∃ a,a=n - 16:=⟨_,rfl⟩
 obtain ⟨bulk,hbulk⟩:∃ x,x=m.take a:=⟨_,rfl⟩
 obtain ⟨rt,hrt⟩:∃ x,x=xo (m.drop a):=⟨_,rfl⟩
 have HBL:=znq (show bulk.length=a from by rw [hbulk,List.length_take,hn];omega)
 obtain ⟨sm,hsm⟩:∃ x,x=plusW (vY k.kt t a) (vZ k.km k.ws bulk):=⟨_,rfl⟩
 have HSM:=znq (show plusW (vY k.kt t a) (vZ k.km k.ws bulk)=sm∧True from ⟨hsm.symm,trivial⟩)
 obtain ⟨pl,hpl⟩:∃ x,x=plusW rt sm:=⟨_,rfl⟩
 have HPL:=znq (show plusW rt sm=pl∧True from ⟨hpl.symm,trivial⟩)
 obtain ⟨bk2,hbk2⟩:∃ x,x=jT k.key (z7 pl++[1]++zf 7) 12 bulk:=⟨_,rfl⟩
 have HBK2:=znq (show jT k.key (z7 pl++[1]++zf 7) 12 bulk=bk2∧bk2.length=a from ⟨hbk2.symm,by rw [hbk2,vy];exact HBL.znr⟩)
 obtain ⟨sm2,hsm2⟩:∃ x,x=plusW (vY k.kt t a) (vZ k.km k.ws bk2):=⟨_,rfl⟩
 have HSM2:=znq (show plusW (vY k.kt t a) (vZ k.km k.ws bk2)=sm2∧True from ⟨hsm2.symm,trivial⟩)
 obtain ⟨mid,hmid⟩:∃ x,x=xo (dec k.ks (z7 pl)):=⟨_,rfl⟩
 have HMID:=znq (show xo (dec k.ks (z7 pl))=mid∧True from ⟨hmid.symm,trivial⟩)
 obtain ⟨rt2,hrt2⟩:∃ x,x=qp mid sm2:=⟨_,rfl⟩
 have HRT2:=znq (show qp mid sm2=rt2∧True from ⟨hrt2.symm,trivial⟩)
 have HRES:=znq (show XL k t m=bk2++z7 rt2∧(xo (m.drop (n - 16))=rt∧m.take (n - 16)=bulk) from ⟨by
  unfold XL jG jj zcu
  rw [hn,← ha,← hbulk,← hrt,HBL.znr,← hsm,← hpl,← hbk2,HBK2.znr.2,← hsm2,← hmid,← hrt2],by rw [← ha];exact ⟨hrt.symm,hbulk.symm⟩⟩)
 have han:a+16=n:=by omega
 have HAA:=znq (show n - 16=a∧True from ⟨ha.symm,trivial⟩)
 have HS:=znq (St.start w)
 rw [HRES.znr.1]
 clear hk e1 e2 e3 ht hlt hn hl ha hbulk hrt hsm hpl hmid hbk2 hsm2 hrt2
 go_enter Tryz.func206,Tryz.ntmps206
 generalize hbb:w.heap.size=bb at *
 have HBB:=znq hbb
 clear hbb
 go_wp2_with fail
 refine (Vj cp bo n cb _ h1).mono ?_
 rintro e w1 ⟨rfl,rfl⟩
 go_wp2_with fail
 refine (Vk bo n cb m _ HN.znr hcb h1 (by omega) HL.znr).mono ?_
 rintro e w2 ⟨v2,rfl,hown,hbel⟩
 rw [HRES.znr.2.1]
 rw [HRES.znr.2.2,HAA.znr.1] at hown
 obtain ⟨a2,c2,rfl,hac2,_,_⟩:=zw hown
 have HO2:=znq hown
 have HS:=znq (HS.znr.later hbel)
 have hz2:=HS.znr.size
 have HBW:=znq (show ∀ wz L,St w bb wz L→Below w.heap.size w wz from fun wz L h=>by rw [HBB.znr];exact h.bel)
 clear hown hbel
 go_wp2_with (refine ze 119 [L 0,L 0] _ rfl rfl zT rfl ?_)
 intro w3 hb' hbel
 have HO2:=znq (zm HO2.znr hbel)
 have HS:=znq (HS.znr.push hb' hbel)
 clear hb' hbel
 generalize hb2:w2.heap.size=b2 at *
 clear hb2
 go_wp2_with (refine (HS.znr.get 0 rfl).wstore rfl rfl rfl (cs:=zQ rt) rfl zq rfl rfl (zX _) ?_)
 intro w4 hb' ho
 have HO2:=znq (zu HO2.znr (HS.znr.get 0 rfl) (by decide) ho)
 have HS:=znq (show St w bb w4 [(b2,zQ rt,119)] from HS.znr.change 0 hb' ho hz2 (by simp))
 clear hb' ho
 have hx33:=fun (x:zG w4.drew)=>((HX.znr.later (HBW.znr _ _ (HS.znr.drew.later x.later))).blk).cell 33 _ (za2 HK32.znr _ _)
 have hb2':b2 < w4.heap.size:=HS.znr.ne _ (List.mem_of_getElem? (i:=0) rfl)
 go_wp2_with fail
 refine yn [0,1,2,3,4,5,6] [7,8] [10] [zH.var 9 11 119 [L 0,L 0]] (by kernel_rfl) (by kernel_rfl) ?_
 rintro w5 rfl
 refine zL (HS.znr.get 0 rfl).range (HS.znr.get 0 rfl).lt zq rfl rfl rfl rfl (fun K hK=>?_)
 go_simp;refine hK _ ?_;clear hK K
 refine mq0 ?_
 clear hx33
 have HO2:=znq (zm HO2.znr (Below.refl _ _).drew)
 have HS:=znq HS.znr.drew
 refine yK ⟨?_,?_,Nat.le_refl _⟩
 ·intro f hf
  simp only [List.mem_singleton] at hf
  subst hf
  exact y6 _ _ _ _ _ _ rfl rfl rfl rfl (by simp) zT rfl
 refine zC rfl rfl (fun uz wa hla K hK=>?_)
 go_simp
 have HO2:=znq (zm HO2.znr hla)
 have HS:=znq (HS.znr.later hla)
 refine (KR hb k.kt k.km k.ws ao tn tc t a2 a c2 bulk _ (HX.znr.later (HBW.znr _ _ HS.znr)).hash HT.znr htc (by omega) (HLT.znr.below (HBW.znr _ _ HS.znr)) HBL.znr (by omega) (zr.of_own HO2.znr)).mono ?_
 rintro e w6 ⟨rfl,hbel⟩
 rw [HSM.znr.1]
 have HO2:=znq (zm HO2.znr hbel)
 have HS:=znq (HS.znr.later hbel)
 go_simp
 refine hK _ _ hbel ?_
 clear hK K hbel hla
 refine zC rfl rfl (fun uz wa hla K hK=>?_)
 go_simp
 have HO2:=znq (zm HO2.znr hla)
 have HS:=znq (HS.znr.later hla)
 refine (J6 rt sm _).mono ?_
 rintro e w7 ⟨rfl,hbel⟩
 rw [HPL.znr.1]
 have HO2:=znq (zm HO2.znr hbel)
 have HS:=znq (HS.znr.later hbel)
 go_simp
 refine hK _ _ hbel ?_
 clear hK K hbel hla
 refine yZ (fun b5 wb hlb hb5 hbn=>?_)
 go_simp
 have HO2:=znq (zm HO2.znr hlb)
 have HS:=znq ((HS.znr.later hlb).add (show Blk wb b5 [L 0,L 0] 119 from hbn))
 clear hlb hbn
 generalize w4.heap.size=b4 at *
 have hb5b:bb≤b5:=by omega
 refine zp rfl rfl (by rfl) (fun K hK=>?_)
 refine (HS.znr.get 0 rfl).opstore rfl rfl rfl zq rfl rfl (zX _) (fun w9 hb' ho=>hK _ _ ?_)
 clear hK K
 have HO2:=znq (zu HO2.znr (HS.znr.get 0 rfl) (by decide) ho)
 have HS:=znq (show St w bb w9 [(b5,zQ pl,119),(b2,zQ rt,119)] from HS.znr.change 0 hb' ho hb5b (by simp;omega))
 clear hb' ho
 go_simp
 refine zo ?_
 go_wp2_with (refine (HS.znr.get 0 rfl).wload rfl rfl rfl zq rfl ?_)
 refine (KC cp k.key _ pl a2 a c2 bulk _ (HX.znr.later (HBW.znr _ _ HS.znr)).blk HK32.znr HBL.znr hac2 (by omega) (zr.of_own HO2.znr)).mono ?_
 rintro e w10 ⟨v10,rfl,hown,hbel⟩
 rw [HBK2.znr.1] at hown
 obtain ⟨a10,c10,rfl,hac10,_,hl10⟩:=zw hown
 have HL10:=znq hl10
 have HS:=znq (HS.znr.later hbel)
 clear hown hl10 hbel HO2
 have hx32:=fun (x:zG w10.drew)=>((HX.znr.later (HBW.znr _ _ (HS.znr.drew.later x.later))).blk).cell 32 _ (zlf HK32.znr _ _)
 have hx33:=fun (x:zG w10.drew)=>((HX.znr.later (HBW.znr _ _ (HS.znr.drew.later x.later))).blk).cell 33 _ (za2 HK32.znr _ _)
 go_wp2_with fail
 refine zn [0,1,2,3,4,5,6,8,9,10,11,12,13,7,14,15,16,17,18] (by kernel_rfl) (by kernel_rfl) ?_
 rintro w11 rfl
 have HS:=znq HS.znr.drew
 have HL10:=znq (HL10.znr.below (Below.refl _ _).drew)
 refine mqR ?_
 refine zt (HS.znr.get 0 rfl).range (HS.znr.get 0 rfl).lt zq rfl rfl rfl rfl rfl (fun K hK=>?_)
 go_simp;refine hK _ ?_;clear hK K
 refine mqR ?_
 clear hx32 hx33
 refine zi rfl rfl (by rfl) (fun K hK=>?_)
 go_simp
 refine (zig kp q p k.ks kb koff kn kcap pl _ (HX.znr.later (HBW.znr _ _ HS.znr)).key).mono ?_
 rintro e w8 ⟨rfl,hbel⟩
 rw [HMID.znr.1]
 have HL10:=znq (HL10.znr.below hbel)
 have HS:=znq (HS.znr.later hbel)
 go_simp
 refine hK _ _ hbel ?_
 clear hK K hbel
 refine zi rfl rfl (by rfl) (fun K hK=>?_)
 go_simp
 refine (KR hb k.kt k.km k.ws ao tn tc t a10 a c10 bk2 _ (HX.znr.later (HBW.znr _ _ HS.znr)).hash HT.znr htc (by omega) (HLT.znr.below (HBW.znr _ _ HS.znr)) HBK2.znr.2 (by omega) HL10.znr).mono ?_
 rintro e w12 ⟨rfl,hbel⟩
 rw [HSM2.znr.1]
 have HL10:=znq (HL10.znr.below hbel)
 have HS:=znq (HS.znr.later hbel)
 go_simp
 refine hK _ _ hbel ?_
 clear hK K hbel
 refine zi rfl rfl (by rfl) (fun K hK=>?_)
 go_simp
 refine (WB mid sm2 _).mono ?_
 rintro e w13 ⟨rfl,hbel⟩
 rw [HRT2.znr.1]
 have HL10:=znq (HL10.znr.below hbel)
 have HS:=znq (HS.znr.later hbel)
 go_simp
 refine hK _ _ hbel ?_
 clear hK K hbel
 refine zi rfl rfl (by rfl) (fun K hK=>?_)
 go_simp
 refine (KB a10 a c10 bk2 rt2 _ HBK2.znr.2 hac10 (by omega) HL10.znr).mono ?_
 rintro e w14 ⟨v14,rfl,hown,hbel⟩
 rw [han] at hown
 have HO:=znq (yi hown HS.znr.size)
 have HS:=znq (HS.znr.later hbel)
 go_simp
 refine hK _ _ hbel ?_
 clear hK K hbel hown
 refine mqR ?_
 refine zo ?_
 go_wp2
 go_ret2
 exact ⟨_,rfl,HO.znr,HS.znr.bel⟩
end Go.Proofs.YtjaioajjfiaheaaGreatDoor
namespace Go.Proofs.YtjaioajjfiaheaaGreatDoor
open Go.RowKit Go.Mem Go.Ops Go.Cells Go.Oct Go.Trn Go.Aes Go.Hct Go.Ezt Go.Ezh Go.Fl
attribute [local irreducible] zE zN zO zM yu
theorem zgj (F xb cp:Nat) (k:ka) (f:List UInt8→List UInt8) (ao:Option Addr) (tn tc:Nat) (t:List UInt8) (bo:Option Addr) (n cb:Nat) (m:List UInt8) (w:World) (hk:Z5 w cp k)
  (hcf:∀ args w,(callFunc F args).run Tryz.prog w=.ok (.enter F args) w) (hf:∀ w' b,Below w.heap.size w w'→b.length=16→Calls Tryz.prog F #[.agg (b.map B).toArray,.pointer (some ⟨xb,0,none⟩)] w' fun e w''=>e=.returned (.agg ((f b).map B).toArray)∧Below w'.heap.size w' w'') (hfl:∀ b,(f b).length=16)
  (ht:t.length=tn) (ht1:tn≤10000) (htc:tn≤tc) (hlt:zr w ao (t.map B)) (hn:m.length=n) (h1:16≤n) (h31:n≤20000) (hcb:n≤cb) (hl:zr w bo (m.map B)) :
  Calls Tryz.prog 245 #[.pointer (some ⟨cp,0,none⟩),.slice ao tn tc,.slice bo n cb,.func (.func F) #[] #[.pointer (some ⟨xb,0,none⟩)]] w fun e w'=>∃ v,e=.returned (.tuple #[v,.int .i64 0])∧w'.ownsRow w.heap.size 5 1 v n ((doesH k t m (f (Zc k t m))).map B)∧Below w.heap.size w w':=by
 obtain ⟨kp,q,p,kb,koff,kn,kcap,hx⟩:=hk.ex
 have HX:=znq hx
 have HH16:=znq (show k.h.length=16∧k.l.length=16 from ⟨hk.h16,hk.l16⟩)
 have HHV:=znq (show (k.h.map B).length=16 by rw [List.length_map];exact hk.h16)
 have HLV:=znq (show (k.l.map B).length=16 by rw [List.length_map];exact hk.l16)
 have HF:=znq hf
 have HCF:=znq hcf
 have HT:=znq ht
 have HLT:=znq hlt
 have HN:=znq hn
 have HL:=znq hl
 obtain ⟨a,ha⟩:∃ a,a=n - 16:=⟨_,rfl⟩
 have ea:(n:Int) - 16=(a:Int):=by omega
 have hcvt:floatOfInt .f64 (a:Int)=fl a:=rfl
 have hd16:decide ((n:Int) < 16)=false:=by simp;omega
 have han:a≤20000:=by omega
 have HAN:=znq (show a+16=n from by omega)
 obtain ⟨lf,hlf⟩:∃ x,x=m.take 16:=⟨_,rfl⟩
 obtain ⟨bk,hbk⟩:∃ x,x=m.drop 16:=⟨_,rfl⟩
 have HLF:=znq (show lf.length=16∧True from ⟨by rw [hlf,List.length_take];omega,trivial⟩)
 have HBK:=znq (show bk.length=a∧True from ⟨by rw [hbk,List.length_drop,hn];omega,trivial⟩)
 have HC1:=znq (show wC 0 4625196817309499392 n=some (0,16) from by have:=jR 0 16 n (by omega) (by omega);rw [Qc,zk8] at this;exact this)
 have HC2:=znq (show wC 4625196817309499392 (fl a) n=some (16,a) from by have:=jR 16 a n (by omega) (by omega);rw [zk8] at this;exact this)
 have HTD:=znq (show (m.drop 0).take 16=lf∧(m.drop 16).take a=bk from ⟨hlf.symm,by rw [hbk,List.take_of_length_le (by rw [List.length_drop,hn];omega)]⟩)
 obtain ⟨lb,hlb⟩:∃ x,x=block lf:=⟨_,rfl⟩
 have HLB:=znq (show block lf=lb∧lb.length=16 from ⟨hlb.symm,by rw [hlb];exact zA _⟩)
 obtain ⟨hv,hhv⟩:∃ x,x=Go.Hct.hashV k.h t bk:=⟨_,rfl⟩
 have HHA:=znq (show Go.Hct.hashV k.h t bk=hv∧hv.length=16 from ⟨hhv.symm,by rw [hhv];exact Go.Hct.hashV_length _ _ _⟩)
 obtain ⟨one,hone⟩:∃ x,x=plusB [lb,hv]:=⟨_,rfl⟩
 have HONE:=znq (show plusB [lb,hv]=one∧one.length=16 from ⟨hone.symm,by rw [hone];exact Go.Hct.plusB_length _ _⟩)
 have HONV:=znq (show (one.map B).length=16 by rw [List.length_map];exact HONE.znr.2)
 obtain ⟨two,htwo⟩:∃ x,x=f one:=⟨_,rfl⟩
 have HTWO:=znq (show f one=two∧two.length=16 from ⟨htwo.symm,by rw [htwo];exact hfl _⟩)
 have HTWV:=znq (show (two.map B).length=16 by rw [List.length_map];exact HTWO.znr.2)
 obtain ⟨mid,hmid⟩:∃ x,x=plusB [one,two,k.l]:=⟨_,rfl⟩
 have HMID:=znq (show plusB [one,two,k.l]=mid∧mid.length=16 from ⟨hmid.symm,by rw [hmid];exact zB _ _⟩)
 obtain ⟨bk2,hbk2⟩:∃ x,x=xS k.ks mid bk:=⟨_,rfl⟩
 have HBK2:=znq (show xS k.ks mid bk=bk2∧bk2.length=a from ⟨hbk2.symm,by rw [hbk2,jH];exact HBK.znr.1⟩)
 obtain ⟨hv2,hhv2⟩:∃ x,x=Go.Hct.hashV k.h t bk2:=⟨_,rfl⟩
 have HHA2:=znq (show Go.Hct.hashV k.h t bk2=hv2∧hv2.length=16 from ⟨hhv2.symm,by rw [hhv2];exact Go.Hct.hashV_length _ _ _⟩)
 obtain ⟨fs,hfs⟩:∃ x,x=plusB [two,hv2]:=⟨_,rfl⟩
 have HFS:=znq (show plusB [two,hv2]=fs∧fs.length=16 from ⟨hfs.symm,by rw [hfs];exact Go.Hct.plusB_length _ _⟩)
 have HFV:=znq (show (fs.map B).length=16 by rw [List.length_map];exact HFS.znr.2)
 have HRES:=znq (show doesH k t m (f (Zc k t m))=fs++bk2∧True from ⟨by
  have e:Zc k t m=one:=by unfold Zc;rw [← hlf,← hbk,← hlb,← hhv,← hone]
  rw [e,← htwo]
  unfold doesH
  rw [e,← hmid,← hbk,← hbk2,← hhv2,← hfs],trivial⟩)
 rw [HRES.znr.1]
 have HS:=znq (St.start w)
 clear hk hx hcf hf ht hlt hn hl ha hlf hbk hlb hhv hone htwo hmid hbk2 hhv2 hfs HRES
 go_enter Tryz.func245,Tryz.ntmps245
 generalize hbb:w.heap.size=bb at *
 have HBB:=znq hbb
 have HBW:=znq (show ∀ wz L,St w bb wz L→Below w.heap.size w wz from fun wz L h=>by rw [hbb];exact h.bel)
 clear hbb
 go_wp2_with fail
 refine (zb9 bo n cb m 0 4625196817309499392 0 16 _ HN.znr hcb (by omega) (HL.znr.below (HBW.znr _ _ HS.znr)) HC1.znr).mono ?_
 rintro e w1 ⟨v1,rfl,hown,hbel⟩
 rw [HTD.znr.1] at hown
 have HO1:=znq hown
 obtain ⟨a1,c1,rfl,hc1,_,_⟩:=zw hown
 have HS:=znq (HS.znr.later hbel)
 have hz1:=HS.znr.size
 clear hown hbel
 go_wp2_with fail
 refine (zb9 bo n cb m 4625196817309499392 (fl a) 16 a _ HN.znr hcb (by omega) (HL.znr.below (HBW.znr _ _ HS.znr)) HC2.znr).mono ?_
 rintro e w2 ⟨v2,rfl,hown,hbel⟩
 rw [HTD.znr.2] at hown
 have HO1:=znq (zm HO1.znr hbel)
 have HO2:=znq (yi hown hz1)
 obtain ⟨a2,c2,rfl,hc2,_,_⟩:=zw hown
 have HS:=znq (HS.znr.later hbel)
 clear hown hbel hcvt ea
 have hz2:=HS.znr.size
 go_wp2_with fail
 refine yn [0,2,3,4,5,6,7] [1,8,9,10] [12] [zH.var 11 14 117 ((zf 16).map B)] (by kernel_rfl) (by kernel_rfl) ?_
 rintro w3 rfl
 have HS:=znq HS.znr.drew
 have HO1:=znq (zm HO1.znr (Below.refl _ _).drew)
 have HO2:=znq (zm HO2.znr (Below.refl _ _).drew)
 have HX3:=znq (HX.znr.later (HBW.znr _ _ HS.znr))
 refine mq0 ?_
 refine zL (Blk.rangeIn HX3.znr.blk 1 16 _ (hcV_h HH16.znr.1)) HX3.znr.blk.lt zc HHV.znr rfl rfl rfl (fun K hK=>?_)
 go_simp;refine hK _ ?_;clear hK K
 refine mq0 ?_
 refine yK ⟨?_,?_,Nat.le_refl _⟩
 ·intro f hf
  simp only [List.mem_singleton] at hf
  subst hf
  exact y6 _ _ _ _ _ _ rfl rfl rfl rfl (by simp) zj rfl
 refine zC rfl rfl (fun uz wa hla K hK=>?_)
 go_simp
 have HO1:=znq (zm HO1.znr hla)
 have HO2:=znq (zm HO2.znr hla)
 have HS:=znq (HS.znr.later hla)
 refine (yQ a1 16 c1 lf _ HLF.znr.1 (zr.of_own HO1.znr)).mono ?_
 rintro e w4 ⟨rfl,hbel⟩
 rw [HLB.znr.1]
 have HO2:=znq (zm HO2.znr hbel)
 have HS:=znq (HS.znr.later hbel)
 clear HO1
 go_simp
 refine hK _ _ hbel ?_
 clear hK K hbel hla
 refine zC rfl rfl (fun uz wa hla K hK=>?_)
 go_simp
 have HO2:=znq (zm HO2.znr hla)
 have HS:=znq (HS.znr.later hla)
 refine (zdq k.h ao tn tc t a2 a c2 bk _ HH16.znr.1 HT.znr htc (by omega) (HLT.znr.below (HBW.znr _ _ HS.znr)) HBK.znr.1 hc2 (by omega) (zr.of_own HO2.znr)).mono ?_
 rintro e w5 ⟨rfl,hbel⟩
 rw [HHA.znr.1]
 have HO2:=znq (zm HO2.znr hbel)
 have HS:=znq (HS.znr.later hbel)
 go_simp
 refine hK _ _ hbel ?_
 clear hK K hbel hla
 refine zC rfl rfl (fun uz wa6 hla K hK=>?_)
 refine y8 171 117 16 2 _ [lb.map B,hv.map B] rfl rfl Tryz.underlying171 zF rfl (by omega) rfl (by omega) (by omega) (by simp [HLB.znr.2,HHA.znr.2]) ?_
 intro w6 hb hbel
 have HO2:=znq (zm HO2.znr (hla.trans hbel))
 have HS:=znq (HS.znr.later (hla.trans hbel))
 refine hK _ _ hbel ?_
 have HR:=znq (show yB 16 w6 (some ⟨wa6.heap.size,0,none⟩) [lb,hv] from ⟨by simp [HLB.znr.2,HHA.znr.2],by have:=hb.lies;simpa using this⟩)
 clear hK K hbel hla hb
 go_simp
 refine zC rfl rfl (fun uz wa7 hla K hK=>?_)
 go_simp
 refine (QZ (some ⟨wa6.heap.size,0,none⟩) 2 2 [lb,hv] _ rfl (by omega) (HR.znr.below hla)).mono ?_
 rintro e w7 ⟨rfl,hbel⟩
 have HO2:=znq (zm HO2.znr (hla.trans hbel))
 have HS:=znq (HS.znr.later (hla.trans hbel))
 rw [HONE.znr.1]
 go_simp
 refine hK _ _ hbel ?_
 clear hK K hbel hla HR
 refine yZ (fun b1 wb8 hlb hbx8 hbn=>?_)
 go_simp
 have HO2:=znq (zm HO2.znr hlb)
 have HS:=znq ((HS.znr.later hlb).add (show Blk wb8 b1 ((zf 16).map B) 117 from hbn))
 clear hlb hbn
 have h1b:bb≤b1:=by omega
 refine zp rfl rfl (by rfl) (fun K hK=>?_)
 refine (HS.znr.get 0 rfl).opstore rfl rfl rfl zc (by simp [zd]) HONV.znr (zg _) (fun w8 hb ho=>hK _ _ ?_)
 clear hK K
 have HO2:=znq (zu HO2.znr (HS.znr.get 0 rfl) (by decide) ho)
 have HS:=znq (show St w bb w8 [(b1,one.map B,117)] from HS.znr.change 0 hb ho h1b (by simp))
 clear hb ho
 go_simp
 refine zo ?_
 have hb1:=HS.znr.ne _ (List.mem_of_getElem? (i:=0) rfl)
 go_wp2_with (refine (HS.znr.get 0 rfl).wload rfl rfl rfl zc HONV.znr ?_)
 rw [HCF.znr]
 simp only [Oper.upon_enter]
 refine (HF.znr _ one HS.znr.bel HONE.znr.2).mono ?_
 rintro e w9 ⟨rfl,hbel⟩
 rw [HTWO.znr.1]
 have HO2:=znq (zm HO2.znr hbel)
 have HS:=znq (HS.znr.later hbel)
 have hb1':=HS.znr.ne _ (List.mem_of_getElem? (i:=0) rfl)
 clear hbel
 go_wp2_with (refine ze 117 ((zf 16).map B) _ rfl rfl zj rfl ?_)
 intro w10 hb hbel
 have HO2:=znq (zm HO2.znr hbel)
 have HS:=znq (HS.znr.push hb hbel)
 clear hb hbel
 generalize hb9:w9.heap.size=b2 at *
 clear hb9
 go_wp2_with (refine (HS.znr.get 0 rfl).wstore rfl rfl rfl (cs:=two.map B) rfl zc (by simp [zd]) HTWV.znr (zg _) ?_)
 intro w11 hb ho
 have HO2:=znq (zu HO2.znr (HS.znr.get 0 rfl) (by decide) ho)
 have HS:=znq (show St w bb w11 [(b2,two.map B,117),(b1,one.map B,117)] from HS.znr.change 0 hb ho (by omega) (by simp;omega))
 clear hb ho
 have HX3:=znq (HX.znr.later (HBW.znr _ _ HS.znr))
 have hc0:=fun (x:zG w11.drew)=>((HX.znr.later (HBW.znr _ _ (HS.znr.drew.later x.later))).blk).cell 0 _ rfl
 go_wp2_with fail
 refine zn [0,1,2,3,4,5,6,7,8,9,12,10,11,13,14,15,16,17] (by kernel_rfl) (by kernel_rfl) ?_
 rintro w12 rfl
 refine mqR ?_
 clear hc0
 have HO2:=znq (zm HO2.znr (Below.refl _ _).drew)
 have HS:=znq HS.znr.drew
 have HX3:=znq (HX.znr.later (HBW.znr _ _ HS.znr))
 refine zt (HS.znr.get 1 rfl).range (HS.znr.get 1 rfl).lt zc HONV.znr rfl rfl rfl rfl (fun K hK=>?_)
 go_simp;refine hK _ ?_;clear hK K
 refine zt (HS.znr.get 0 rfl).range (HS.znr.get 0 rfl).lt zc HTWV.znr rfl rfl rfl rfl (fun K hK=>?_)
 go_simp;refine hK _ ?_;clear hK K
 refine mqR ?_
 refine zt (Blk.rangeIn HX3.znr.blk 17 16 _ (hcV_l HH16.znr.1 HH16.znr.2)) HX3.znr.blk.lt zc HLV.znr rfl rfl rfl rfl (fun K hK=>?_)
 go_simp;refine hK _ ?_;clear hK K
 refine mqR ?_
 refine zi rfl rfl (by rfl) (fun K hK=>?_)
 refine y8 171 117 16 3 _ [one.map B,two.map B,k.l.map B] rfl rfl Tryz.underlying171 zF rfl (by omega) rfl (by omega) (by omega) (by simp [HONE.znr.2,HTWO.znr.2,HH16.znr.2]) ?_
 intro w13 hb hbel
 have HO2:=znq (zm HO2.znr hbel)
 have HS:=znq (HS.znr.later hbel)
 have HR:=znq (show yB 16 w13 (some ⟨w11.drew.heap.size,0,none⟩) [one,two,k.l] from ⟨by simp [HONE.znr.2,HTWO.znr.2,HH16.znr.2],by have:=hb.lies;simpa using this⟩)
 refine hK _ _ hbel ?_
 clear hK K hbel hb
 go_simp
 refine zi rfl rfl (by rfl) (fun K hK=>?_)
 go_simp
 refine (QZ (some ⟨w11.drew.heap.size,0,none⟩) 3 3 [one,two,k.l] _ rfl (by omega) HR.znr).mono ?_
 rintro e w14 ⟨rfl,hbel⟩
 have HO2:=znq (zm HO2.znr hbel)
 have HS:=znq (HS.znr.later hbel)
 rw [HMID.znr.1]
 go_simp
 refine hK _ _ hbel ?_
 clear hK K hbel HR
 refine zi rfl rfl (by rfl) (fun K hK=>?_)
 go_simp
 refine (zic kp q p k.ks kb koff kn kcap mid a2 a c2 bk _ (HX.znr.later (HBW.znr _ _ HS.znr)).key HMID.znr.2 HBK.znr.1 hc2 (by omega) (zr.of_own HO2.znr)).mono ?_
 rintro e w15 ⟨v15,rfl,hown,hbel⟩
 rw [HBK2.znr.1] at hown
 have hz14:=HS.znr.size
 have HO2:=znq (yi hown hz14)
 obtain ⟨a3,c3,rfl,hc3,_,_⟩:=zw hown
 have HS:=znq (HS.znr.later hbel)
 go_simp
 refine hK _ _ hbel ?_
 clear hK K hbel hown hz14
 refine mqR ?_
 refine zo ?_
 have hz15:=HS.znr.size
 have HNE:=znq HS.znr.ne
 have HX3:=znq (HX.znr.later (HBW.znr _ _ HS.znr))
 go_wp2_with fail
 refine yn [0,1,2,3,4,5,6] [7,8,9] [11] [zH.var 10 16 117 ((zf 16).map B)] (by kernel_rfl) (by kernel_rfl) ?_
 rintro w16 rfl
 have HS:=znq HS.znr.drew
 have HO2:=znq (zm HO2.znr (Below.refl _ _).drew)
 have HX3:=znq (HX.znr.later (HBW.znr _ _ HS.znr))
 refine mq0 ?_
 refine zL (HS.znr.get 0 rfl).range (HS.znr.get 0 rfl).lt zc HTWV.znr rfl rfl rfl (fun K hK=>?_)
 go_simp;refine hK _ ?_;clear hK K
 refine mq0 ?_
 refine zL (Blk.rangeIn HX3.znr.blk 1 16 _ (hcV_h HH16.znr.1)) HX3.znr.blk.lt zc HHV.znr rfl rfl rfl (fun K hK=>?_)
 go_simp;refine hK _ ?_;clear hK K
 refine mq0 ?_
 refine yK ⟨?_,?_,Nat.le_refl _⟩
 ·intro f hf
  simp only [List.mem_singleton] at hf
  subst hf
  exact y6 _ _ _ _ _ _ rfl rfl rfl rfl (by simp) zj rfl
 refine zC rfl rfl (fun uz wa hla K hK=>?_)
 go_simp
 have HO2:=znq (zm HO2.znr hla)
 have HS:=znq (HS.znr.later hla)
 refine (zdq k.h ao tn tc t a3 a c3 bk2 _ HH16.znr.1 HT.znr htc (by omega) (HLT.znr.below (HBW.znr _ _ HS.znr)) HBK2.znr.2 hc3 (by omega) (zr.of_own HO2.znr)).mono ?_
 rintro e w17 ⟨rfl,hbel⟩
 rw [HHA2.znr.1]
 have HO2:=znq (zm HO2.znr hbel)
 have HS:=znq (HS.znr.later hbel)
 go_simp
 refine hK _ _ hbel ?_
 clear hK K hbel hla
 refine zC rfl rfl (fun uz wa6 hla K hK=>?_)
 refine y8 171 117 16 2 _ [two.map B,hv2.map B] rfl rfl Tryz.underlying171 zF rfl (by omega) rfl (by omega) (by omega) (by simp [HTWO.znr.2,HHA2.znr.2]) ?_
 intro w18 hb hbel
 have HO2:=znq (zm HO2.znr (hla.trans hbel))
 have HS:=znq (HS.znr.later (hla.trans hbel))
 refine hK _ _ hbel ?_
 have HR:=znq (show yB 16 w18 (some ⟨wa6.heap.size,0,none⟩) [two,hv2] from ⟨by simp [HTWO.znr.2,HHA2.znr.2],by have:=hb.lies;simpa using this⟩)
 clear hK K hbel hla hb
 go_simp
 refine zC rfl rfl (fun uz wa7 hla K hK=>?_)
 go_simp
 refine (QZ (some ⟨wa6.heap.size,0,none⟩) 2 2 [two,hv2] _ rfl (by omega) (HR.znr.below hla)).mono ?_
 rintro e w19 ⟨rfl,hbel⟩
 have HO2:=znq (zm HO2.znr (hla.trans hbel))
 have HS:=znq (HS.znr.later (hla.trans hbel))
 rw [HFS.znr.1]
 go_simp
 refine hK _ _ hbel ?_
 clear hK K hbel hla HR
 refine yZ (fun b3 wb8 hlb hbx9 hbn=>?_)
 go_simp
 have HO2:=znq (zm HO2.znr hlb)
 have HS:=znq ((HS.znr.later hlb).add (show Blk wb8 b3 ((zf 16).map B) 117 from hbn))
 clear hlb hbn
 refine zp rfl rfl (by rfl) (fun K hK=>?_)
 refine (HS.znr.get 0 rfl).opstore rfl rfl rfl zc (by simp [zd]) HFV.znr (zg _) (fun w20 hb ho=>hK _ _ ?_)
 clear hK K
 have HO2:=znq (zu HO2.znr (HS.znr.get 0 rfl) (by decide) ho)
 have HS:=znq (show St w bb w20 [(b3,fs.map B,117),(b2,two.map B,117),(b1,one.map B,117)] from HS.znr.change 0 hb ho (by omega) (fun e he=>by have:=HNE.znr e he;omega))
 clear hb ho HNE
 go_simp
 refine zo ?_
 have HL2:=znq (zr.of_own HO2.znr)
 have HSS:=znq (show xY (w20.alloc (.cells #[.slice (some ⟨b3,0,none⟩) 16 16,.slice a3 a c3] 22)) (some ⟨w20.heap.size,0,none⟩) [⟨some ⟨b3,0,none⟩,16,fs⟩,⟨a3,c3,bk2⟩] from by
  refine ⟨?_,?_⟩
  ·have:=(Blk.new w20 [.slice (some ⟨b3,0,none⟩) 16 16,.slice a3 a c3] 22).lies
   simpa [Str.val,HFS.znr.2,HBK2.znr.2] using this
  ·intro s hs
   simp at hs
   rcases hs with rfl | rfl
   ·exact ⟨by rw [HFS.znr.2];exact Nat.le_refl _,(HS.znr.get 0 rfl).lies.below (zD _ _)⟩
   ·exact ⟨by rw [HBK2.znr.2];exact hc3,HL2.znr.below (zD _ _)⟩)
 have hz20:=HS.znr.size
 have HS:=znq (HS.znr.later (zD w20 (.cells #[.slice (some ⟨b3,0,none⟩) 16 16,.slice a3 a c3] 22)))
 have HCA:=znq (show q4 [⟨some ⟨b3,0,none⟩,16,fs⟩,⟨a3,c3,bk2⟩]=fs++bk2∧(fs++bk2).length=n from ⟨by simp [q4],by rw [List.length_append,HFS.znr.2,HBK2.znr.2];have:=HAN.znr;omega⟩)
 go_wp2_with fail
 have hz21:=HS.znr.size
 generalize hw21:w20.alloc (.cells #[.slice (some ⟨b3,0,none⟩) 16 16,.slice a3 a c3] 22)=w21 at *
 clear hw21
 refine (YU (some ⟨w20.heap.size,0,none⟩) 2 2 [⟨some ⟨b3,0,none⟩,16,fs⟩,⟨a3,c3,bk2⟩] _ rfl (by omega) HSS.znr (by rw [HCA.znr.1,HCA.znr.2];omega)).mono ?_
 rintro e w22 ⟨v22,rfl,hown,hbel⟩
 rw [HCA.znr.1,HCA.znr.2] at hown
 have HOWN:=znq (yi hown hz21)
 have HS:=znq (HS.znr.later hbel)
 clear hown hbel
 go_wp2
 go_ret2
 exact ⟨_,rfl,HOWN.znr,HS.znr.bel⟩
end Go.Proofs.YtjaioajjfiaheaaGreatDoor
namespace Go
theorem WH {P:Program} {f:FuncId} {fn:Func} (hf:P.funcs[f]? = some fn) (hname:(fn.name=="runtime.NumGoroutine")=false) (hb:fn.body.isSome=true) (args:Array Value) (w:World) :
  (callFunc f args).run P w=.ok (.enter f args) w:=by
 have h1:¬ fn.name="runtime.NumGoroutine":=by simpa using hname
 obtain ⟨c,hc⟩:=Option.isSome_iff_exists.1 hb
 simp [callFunc,hf,h1,hc]
end Go
namespace Go.Proofs.YtjaioajjfiaheaaGreatDoor
open Go.RowKit Go.Mem Go.Ops Go.Cells Go.Oct Go.Trn Go.Aes Go.Hct Go.Ezt Go.Ezh Go.Fl
attribute [local irreducible] zE zN zO zM yu
theorem VT (args:Array Value) (w:World):(callFunc 247 args).run Tryz.prog w=.ok (.enter 247 args) w:=WH Tryz.func247 (by kernel_rfl) (by kernel_rfl) args w
theorem VU (args:Array Value) (w:World):(callFunc 246 args).run Tryz.prog w=.ok (.enter 246 args) w:=WH Tryz.func246 (by kernel_rfl) (by kernel_rfl) args w
theorem zli (cp:Nat) (k:ka) (ao:Option Addr) (tn tc:Nat) (t:List UInt8) (bo:Option Addr) (n cb:Nat) (m:List UInt8) (w:World) (hk:Z5 w cp k) (ht:t.length=tn) (ht1:tn≤10000) (htc:tn≤tc) (hlt:zr w ao (t.map B))
  (hn:m.length=n) (h1:16≤n) (h31:n≤20000) (hcb:n≤cb) (hl:zr w bo (m.map B)) :
  Calls Tryz.prog 243 #[.pointer (some ⟨cp,0,none⟩),.slice ao tn tc,.slice bo n cb] w fun e w'=>∃ v,e=.returned (.tuple #[v,.int .i64 0])∧w'.ownsRow w.heap.size 5 1 v n ((zam k t m).map B)∧Below w.heap.size w w':=by
 have HK:=znq hk
 have HT:=znq ht
 have HLT:=znq hlt
 have HN:=znq hn
 have HL:=znq hl
 obtain ⟨r,hr⟩:∃ x,x=zam k t m:=⟨_,rfl⟩
 have HR:=znq (show doesH k t m (enc k.ks (Zc k t m))=r∧True from ⟨by rw [hr];rfl,trivial⟩)
 rw [← hr]
 have HS:=znq (St.start w)
 clear hk ht hlt hn hl hr
 go_enter Tryz.func243,Tryz.ntmps243
 go_wp2_with (refine zh 144 _ [.pointer (some ⟨cp,0,none⟩)] _ rfl rfl rfl rfl ?_)
 intro w1 hb hbel
 have HS:=znq (HS.znr.push hb hbel)
 have hlt1:=hb.lt
 clear hb hbel
 generalize hbb:w.heap.size=bb at *
 have HBB:=znq hbb
 have HBW:=znq (show ∀ wz L,St w bb wz L→Below w.heap.size w wz from fun wz L h=>by rw [hbb];exact h.bel)
 clear hbb
 have hc:=(HS.znr.get 0 rfl).cell 0 _ rfl
 go_wp2_with fail
 have HK1:=znq (HK.znr.later (HBW.znr _ _ HS.znr))
 obtain ⟨kp,q,p,kb,koff,kn,kcap,hx⟩:=HK1.znr.ex
 have HX:=znq hx
 clear hx
 refine (zgj 247 bb cp k (enc k.ks) ao tn tc t bo n cb m _ HK1.znr VT
  (fun w' b hb' hb16=>zk6 bb cp kp q p kb koff kn kcap k b w' ((hb'.cell (p:=⟨bb,0,none⟩) hlt1).trans hc) (HX.znr.later hb') hb16) (fun b=>xJ _ _) HT.znr ht1 htc (HLT.znr.below (HBW.znr _ _ HS.znr)) HN.znr h1 h31 hcb (HL.znr.below (HBW.znr _ _ HS.znr))).mono ?_
 rintro e w2 ⟨v2,rfl,hown,hbel⟩
 rw [HR.znr.1] at hown
 have HO:=znq (yi hown HS.znr.size)
 have HS:=znq (HS.znr.later hbel)
 clear hown hbel hc
 go_wp2
 go_ret2
 exact ⟨_,rfl,by rw [HBB.znr];exact HO.znr,by rw [HBB.znr];exact HS.znr.bel⟩
theorem zlj (cp:Nat) (k:ka) (ao:Option Addr) (tn tc:Nat) (t:List UInt8) (bo:Option Addr) (n cb:Nat) (m:List UInt8) (w:World) (hk:Z5 w cp k) (ht:t.length=tn) (ht1:tn≤10000) (htc:tn≤tc) (hlt:zr w ao (t.map B))
  (hn:m.length=n) (h1:16≤n) (h31:n≤20000) (hcb:n≤cb) (hl:zr w bo (m.map B)) :
  Calls Tryz.prog 242 #[.pointer (some ⟨cp,0,none⟩),.slice ao tn tc,.slice bo n cb] w fun e w'=>∃ v,e=.returned (.tuple #[v,.int .i64 0])∧w'.ownsRow w.heap.size 5 1 v n ((zan k t m).map B)∧Below w.heap.size w w':=by
 have HK:=znq hk
 have HT:=znq ht
 have HLT:=znq hlt
 have HN:=znq hn
 have HL:=znq hl
 obtain ⟨r,hr⟩:∃ x,x=zan k t m:=⟨_,rfl⟩
 have HR:=znq (show doesH k t m (dec k.ks (Zc k t m))=r∧True from ⟨by rw [hr];rfl,trivial⟩)
 rw [← hr]
 have HS:=znq (St.start w)
 clear hk ht hlt hn hl hr
 go_enter Tryz.func242,Tryz.ntmps242
 go_wp2_with (refine zh 144 _ [.pointer (some ⟨cp,0,none⟩)] _ rfl rfl rfl rfl ?_)
 intro w1 hb hbel
 have HS:=znq (HS.znr.push hb hbel)
 have hlt1:=hb.lt
 clear hb hbel
 generalize hbb:w.heap.size=bb at *
 have HBB:=znq hbb
 have HBW:=znq (show ∀ wz L,St w bb wz L→Below w.heap.size w wz from fun wz L h=>by rw [hbb];exact h.bel)
 clear hbb
 have hc:=(HS.znr.get 0 rfl).cell 0 _ rfl
 go_wp2_with fail
 have HK1:=znq (HK.znr.later (HBW.znr _ _ HS.znr))
 obtain ⟨kp,q,p,kb,koff,kn,kcap,hx⟩:=HK1.znr.ex
 have HX:=znq hx
 clear hx
 refine (zgj 246 bb cp k (dec k.ks) ao tn tc t bo n cb m _ HK1.znr VU
  (fun w' b hb' hb16=>zk7 bb cp kp q p kb koff kn kcap k b w' ((hb'.cell (p:=⟨bb,0,none⟩) hlt1).trans hc) (HX.znr.later hb') hb16) (fun b=>kG _ _) HT.znr ht1 htc (HLT.znr.below (HBW.znr _ _ HS.znr)) HN.znr h1 h31 hcb (HL.znr.below (HBW.znr _ _ HS.znr))).mono ?_
 rintro e w2 ⟨v2,rfl,hown,hbel⟩
 rw [HR.znr.1] at hown
 have HO:=znq (yi hown HS.znr.size)
 have HS:=znq (HS.znr.later hbel)
 clear hown hbel hc
 go_wp2
 go_ret2
 exact ⟨_,rfl,by rw [HBB.znr];exact HO.znr,by rw [HBB.znr];exact HS.znr.bel⟩
end Go.Proofs.YtjaioajjfiaheaaGreatDoor

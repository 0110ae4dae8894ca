/- Laws. -/
import Derived.Test.YtkochfajaaiekaaGreatDoorRows
import Derived.WalkKit
import Derived.WalkLawsBesides
import Derived.WalkSpells
import Derived.Lib.Hide
import Derived.Laws.AppendOwnNone
import Derived.Laws.CopyOwn
import Derived.Deep.AppendLies
import Derived.Deep.Onto
import Derived.OrdersHeld
import Derived.Deep.RegionHeld3
import Derived.Deep.QuietTactic
import Derived.BigQuiet
import Derived.RangeFuncNested
import Derived.OrdersIn
import Derived.RangeFuncCalls
import Derived.RangeFuncLeaves
import GoSem.Core.Float
import Derived.Laws.FloatArith
import Derived.Deep.MidRow
import Derived.OwnWalk
import Derived.Laws.OwnMore
import Derived.ScopeJumps
import Derived.Deep.Slices
import Derived.ChangeArms
import Derived.ChangeSlices
import Derived.ChangeShapes
import Derived.Deep.DeepCutAuto
import Derived.Deep.CutBlock
import Derived.Laws.Externs
import GoSem.Extern.MathBitsCarry
import Derived.ProofKit
import Derived.LaidMore
import Derived.OpenShut
import Derived.Stop.Joined
import Derived.Lib.SmallJoins
import Derived.RangeFuncFrom
import Derived.RangeFuncBound
import Derived.Shelf.Abstract
import Derived.OwnWalkIn
import Derived.TacticsInMore
import Derived.LoopNIn
import Derived.LoopIn
import Derived.Laws.Tables
import Derived.Lib.AppendZerosOnto
import Derived.Laws.StructEq
import Derived.Handy
import Derived.Laws.Append
import Derived.Laws.AppendOwn
import Derived.Laws.ComplexArith
import Derived.Laws.IdiomStrings
import Derived.Lib.Bytealg
import Derived.Lib.LazyBuf
import Derived.Lib.SlBytesConst
import Derived.Lib.ConvBytes
import Derived.Test.YtkochfajaaiekaaGreatDoorTie
set_option linter.all false
set_option maxHeartbeats 16000000
set_option maxRecDepth 100000
open Array renaming ext_getElem?->zc4,getD->zcz,getD_eq_getD_getElem?->zaF,getElem?_eq_getElem->zbX,getElem?_eq_none->zb9,getElem?_eq_some_iff->zaQ,getElem?_setIfInBounds_ne->za3,getElem?_setIfInBounds_self->zbd,replicate->zaY
open BitVec renaming isLt->zbA,ofInt->zaM,ofInt_natCast->zb8,ofNat_toNat->zch
open Int renaming compare_eq_eq->za8,compare_eq_gt->zbz,compare_eq_lt->zby,eq_ofNat_of_zero_le->zcT,lt_trichotomy->zdp,min_comm->zdF,mul_lt_mul_of_pos_right->zbu,natAbs_natCast->zdf,natCast_mul->zcF,neg_mul->zdN
open List renaming all_eq_true->zaw,contains_iff_mem->zaJ,eq_nil_of_length_eq_zero->zaI,filter_cons_of_neg->zaH,filter_cons_of_pos->zaG,filter_eq_nil_iff->zbv,filter_eq_self->zb6,getElem?_drop->zbw,getElem?_eq_some_iff->zbD,getElem?_map->zay,getElem?_take->zcv,length->zcs,length_cons->zaj,length_map->zaa,map_cons->zca,map_map->zcH,map_set->zct,mem_append_left->zaP,mem_cons->zau,mem_cons_of_mem->zaN,mem_filter->zaT,mem_filterMap->zc8,mem_map->zaz,mem_of_getElem?->zad,mem_range->zcg,nodup_cons->zcA,range->zax,replicate->zah,replicate_succ->zc2
open Nat renaming compare_eq_eq->zdo,compare_eq_lt->zdn,div_eq_of_lt->zcx,div_le_self->zbB,le_refl->zab,le_trans->zat,log2_lt->zdM,log2_self_le->zcw,lt_log2_self->zb7,lt_of_le_of_lt->zbk,lt_of_lt_of_le->za1,lt_or_ge->zbl,max_comm->zdG,min_eq_left->zbF,mod_eq_of_lt->zbG,mul_add_div->zdB,mul_add_mod->zdC,mul_assoc->zb4,mul_comm->zcu,mul_div_cancel->zdd,mul_le_mul_right->za0,mul_lt_mul_of_pos_right->za9,mul_one->zbU,mul_pos->zdL,one_mul->zbZ,pos_of_ne_zero->zde,pow_add->za7,pow_le_pow_right->zc6,pow_zero->zbY,shiftLeft_eq->zbf,two_pow_pos->za2,zero_le->zcr,zero_mul->zcj
open Option renaming getD_some->zbK,map_some->zbM,some.injEq->zc5
open UInt32 renaming ofNat->zbg,toNat_ofNat'->zce,toNat_ofNat_of_lt'->zaA
open UInt64 renaming ofNat->zae,toNat_ofNat'->zbm,toNat_ofNat_of_lt'->zaR
open UInt8 renaming ofNat->zaq,toNat_ofNat'->zbh,toNat_ofNat_of_lt'->zaO
namespace Go.Proofs.YtkochfajaaiekaaGreatDoor
open Go.Proofs.Tryz
open Go.Proofs.Tryz renaming prog->pgm
open RowKit
section
variable{P Q A_ B_ C_ D_ E_ F_ G_ I_ J_ K_:Prop}
def aa(h:P:=by rfl):P:=h
def ab(h:P:=by simp):P:=h
def ae(h:P:=by omega):P:=h
def af(h:P:=by simp[IntKind.bits];omega):P:=h
def al(h:P:=by show _<4294967296;omega):P:=h
def bk(h:P:=by simp[maxLen]):P:=h
def bq(h:P:=by simp;omega):P:=h
def bw(h:P:=by show _<256;omega):P:=h
def ar(h:P:=by decide +kernel):P:=h
def Aw(h:P:=by simp at h;omega):P:=h
def c6(h:P:=by simpa using ag):P:=h
def eb(h:P:=by simpa using hB1.1):P:=h
def ec(h:P:=by simp at AN;omega):P:=h
def ed(h:P:=by simp at AN |-;omega):P:=h
def eo(h:P:=by simp[Region.wanted,hg]):P:=h
def bd(h:P:=by decide):P:=h
def AE(h:P:=by rw[underlying264];rfl):P:=h
def e0(h:P:=by kernel_rfl):P:=h
def fm(h:P:=by rw[A2.o];omega):P:=h
def hM(h:P:=by go_num):P:=h
def AH(h:P:=by have:=PK.o;omega):P:=h
def As(h:P:=by simp[h]):P:=h
def c8(h:P:=by rw[aO];simp[hc]):P:=h
def c9(h:P:=by rw[hq] at hs;simpa using hs):P:=h
def cc(h:P:=by cases aN<;>simp_all[TypeDesc.isRow]):P:=h
def cn(h:P:=by have:=h.1;omega):P:=h
def cr(h:P:=by rw[zam];omega):P:=h
def cw(h:P:=by simpa using h):P:=h
def e6(h:P:=by simp[A0.1]):P:=h
def e7(h:P:=by trivial):P:=h
def eu(h:P:=by simp[Value.oneCell']):P:=h
def ev(h:P:=by simp[ze]):P:=h
def ew(h:P:=by unfold maxLen;omega):P:=h
def fb(h:P:=by rw[A0.o];omega):P:=h
def dd(h:P:=by rw[zI];omega):P:=h
def dk(h:P:=by unfold yu;omega):P:=h
def fo(h:P:=by rw[zaa,M3.o];omega):P:=h
def g7(h:P:=by rw[EM.o]):P:=h
def Ax(h:P:=by simp[hi]):P:=h
def dr(h:P:=by simpa[Lit.wf,IntKind.min,IntKind.max,IntKind.signed,IntKind.bits] using h):P:=h
def di(h:P:=by rw[hp.2];exact zab _):P:=h
def ga(h:P:=by rw[zaa];exact ze 16):P:=h
def gb(h:P:=by rw[zaa];exact zK _ _):P:=h
def gv(h:P:=by rw[zaa];exact q7 _):P:=h
def hG(h:P:=by rw[Nl.o];exact aB):P:=h
def hH(h:P:=by rw[zaa];exact ze 4):P:=h
def hP(h:P:=by rw[zaa];exact Om):P:=h
def AA(h:P:=by rw[beq_eq_false_iff_ne];omega):P:=h
def hR(h:P:=by rw[zaa];exact Nw):P:=h
def hU(h:P:=by rw[IT.o];omega):P:=h
def hV(h:P:=by rw[IZ.o];exact EW.bel):P:=h
def hX(h:P:=by rw[OD.o];exact zd.2):P:=h
def akn(h:P:=by rw[ER.o j (zab _)];exact a01 (by rw[Pn.o];omega)):P:=h
def j6(h:P:=by rw[No.o];omega):P:=h
def k5(h:P:=by have:=aF.lies;simpa using this):P:=h
def dj(h:P:=by rw[zan];omega):P:=h
def ki(h:P:=by show n<18446744073709551616;omega):P:=h
def kj(h:P:=by rw[zaa];exact Nl):P:=h
def bf(h:P:=by rw[cZ _ (by omega)];omega):P:=h
def ds(h:P:=by cases h):P:=h
def pt(h:P:=by rw[ER.1];omega):P:=h
def k6(h:P:=by simp[PH.o]):P:=h
def k4(h:P:=by rw[Nl.o];omega):P:=h
def l4(h:P:=by rw[zan,Nl.o]):P:=h
def l5(h:P:=by rw[Nl.o];exact SU):P:=h
def aoZ(h:P:=by rw[<-EM.1,zak (by rw[Nl.o];omega)];rfl):P:=h
def asv(h:P:=by simpa using zX (a01 (b:=zw (zae n)) (i:=i) (by rw[PH.o];exact aB))):P:=h
def lg(h:P:=by intro aK aL;simp at aL;rcases aL with rfl|rfl<;>rfl):P:=h
def m0(h:P:=by rw[IZ.o];exact NO):P:=h
def m4(h:P:=by rw[IZ.o];exact SM):P:=h
def m5(h:P:=by rw[<-IZ.o];exact SM.size):P:=h
def m6(h:P:=by intro v aL;simp at aL;rcases aL with rfl|rfl<;>rfl):P:=h
def AL(h:P:=by rw[hs,Zf _ _ _ _ _ (by rw[a0r.2];exact h31)];exact a0r.2):P:=h
def anC(h:P:=by simp[kx]):P:=h
def akL(h:P:=by intro au hu;rcases zaC.1 hu with hu|hu<;>exact zj _ _ hu):P:=h
def mb(h:P:=by intro e aJ;simp at aJ;rcases aJ with rfl|rfl<;>simp<;>omega):P:=h
def n3(h:P:=by rw[a1w.1];rfl):P:=h
def na(h:P:=by rw[a1s.o];exact zab _):P:=h
def nb(h:P:=by rw[zaa];exact Ox):P:=h
def nr(h:P:=by simp[a1L.o,P3.o]):P:=h
def nx(h:P:=by have:=hb.lies;simpa using this):P:=h
def o0(h:P:=by have:=pE (A:=A) (R:=R) (tl:=tl) (M:=eT++ax) (by simp[a1L.o,uX.o]);rw[a0G.o] at this;exact this):P:=h
def o2(h:P:=by have:=IZ.o;omega):P:=h
def o3(h:P:=by have:=EM.1;rwa [zak (by rw[a1s.o];exact zab _)] at this):P:=h
def o6(h:P:=by simpa using x):P:=h
def o7(h:P:=by simpa using y):P:=h
def p0(h:P:=by simp[yw]):P:=h
def p3(h:P:=by intro e;have:=(a4t _ e.symm).2.2;omega):P:=h
def p5(h:P:=by simpa using a4w.s2 oG (λg e=>by have:=(a4t g e).2.2;omega)):P:=h
def px(h:P:=by rw[zav];exact I3.1):P:=h
def py(h:P:=by rw[I3.1];exact h):P:=h
def q0(h:P:=by show 5<=j;exact h):P:=h
def anD(h:P:=by rw[<-a58.1];exact a58.2):P:=h
def s3(h:P:=by have:=A0.o;simp only[zaa,zav] at this |-;omega):P:=h
def r0(h:P:=by rw[zaa,ze]):P:=h
def s4(h:P:=by intro e aJ;simp at aJ;rcases aJ with rfl|rfl<;>simp):P:=h
def sm(h:P:=by rw[zaa,h];omega):P:=h
def AP(h:P:=by rw[At,ah,jM,zac,zbO,hn]):P:=h
def tp(h:P:=by rw[a0K];exact yd _):P:=h
def tx(h:P:=by rw[IZ.o];exact I9):P:=h
def pe(h:P:=by intro ej eg;simp[YJ] at eg;subst eg;rw[A3.o];exact ht1):P:=h
def sv(h:P:=by rw[zaa,hh];omega):P:=h
def u1(h:P:=by rw[OS.2.2.2.1];exact a9P.only oE (λe=>a1O e.symm)):P:=h
def um(h:P:=by unfold Vol.has at aD;omega):P:=h
def xa(h:P:=by simp[str,ByteArray.size]):P:=h
def xl(h:P:=by rcases hp with rfl|rfl|rfl<;>omega):P:=h
def xm(h:P:=by rw[uY.1,gz Ih.o (k:=k) (by rw[<-a1L.1];omega)];rfl):P:=h
def xn(h:P:=by rw[uY.1,Pu.1,if_pos ⟨h1,h2⟩]):P:=h
def y1(h:P:=by have:=oG 0;simpa using this.symm):P:=h
def y2(h:P:=by rw[EM.1,h1,Nl.2,zcU (by omega:b.length<=i+3)];simp[kV]):P:=h
def anF(h:P:=by show wr.ownsRow _ _ 1 _ acw ((O++[]).map B);rw[za5];exact I9):P:=h
def y3(h:P:=by rw[acD.1];exact VS _ acD.2):P:=h
def y4(h:P:=by have:=Nd.size;simp;omega):P:=h
def y5(h:P:=by have:=acE.size;exact this):P:=h
def anG(h:P:=by rw[MY.1,zaD,zal];exact NR):P:=h
def y6(h:P:=by rw[zac,<-PA.1];simp[yW]):P:=h
def yl(h:P:=by rw[beq_eq_false_iff_ne];simp at eJ;omega):P:=h
def z2(h:P:=by first|rfl|omega):P:=h
def z3(h:P:=by rw[beq_iff_eq];simp at eJ;omega):P:=h
def vb(h:P:=by rw[IZ.o];exact uX):P:=h
def vi(h:P:=by rw[<-MM.o];rfl):P:=h
def vu(h:P:=by simp[yy]):P:=h
def wm(h:P:=by have:=MM.o;omega):P:=h
def wq(h:P:=by rw[ai];exact yq.none [] w2.heap.size A4):P:=h
def x5(h:P:=by rw[ai];rfl):P:=h
def x6(h:P:=by simp[a1X 13 (by simp[yw])]):P:=h
def x7(h:P:=by first|exact Io.trans (uX.mono Io.size)|(rw[<-IZ.o];exact Io.trans (uX.mono Io.size))):P:=h
def x9(h:P:=by simp;exact ag):P:=h
def za(h:P:=by simp[a1X 9 (by simp[yw])]):P:=h
def zb(h:P:=by rw[<-PK.o];rfl):P:=h
def BS(h:P:=by show w3.heap.size<=w4.heap.size;omega):P:=h
def E1(h:P:=by rw[ai.1];exact⟨_,_,_,_,_,_,_,EB⟩):P:=h
def E2(h:P:=by rw[uY.o];unfold nG;rw[<-adn.o];simp only;rw[Nl.o,adq.o];rfl):P:=h
def EA(h:P:=by unfold ju;rw[if_neg (by have:=MM.o;omega),if_pos aD]):P:=h
def anH(h:P:=by have ag:=sj s (x:=x.c) (by have:=MM.o;omega);exact⟨Prod.ext ag.1 (by rw[eI]),by rw[eI];exact ag.2⟩):P:=h
def ES(h:P:=by rw[MM.o];rfl):P:=h
def ET(h:P:=by have:=MM.o;have:=PW.1;omega):P:=h
def EU(h:P:=by intro v hv;obtain⟨x,_,rfl⟩:=zaz.1 hv;exact x.zew):P:=h
def E5(h:P:=by rw[A0.o];exact XN.2):P:=h
def Ee(h:P:=by have ag:=(aeq rfl).1;have:=Nl.o;omega):P:=h
def Ky(h:P:=by have:=aer.1;have:=Nl.o;omega):P:=h
def QD(h:P:=by have:=aes.1;have:=OW.o;omega):P:=h
def a8M(h:P:=by rw[beq_eq_false_iff_ne];exact ag):P:=h
def alb(h:P:=by obtain⟨F,O,s,ag,aM⟩:=A6;exact⟨F,O,s,ag,aM.mono (by omega)⟩):P:=h
def aqA(q:Q)(h:Hid Q->P:=by intro h_;refine zf 146 [L 0,L 0] _ rfl rfl z4 rfl ?_;exact h_.out):P:=h q
def aqB(q:Q)(h:Hid Q->P:=by intro h_;refine zf 144 ((zg 16).map B) _ rfl rfl zl rfl ?_;exact h_.out):P:=h q
def aqC(q:Q)(h:Hid Q->P:=by intro h_;refine zh 144 _ (a.map B) _ rfl rfl rfl rfl ?_;exact h_.out):P:=h q
def aqD(q:Q)(h:Hid Q->P:=by intro h_;refine zh 144 _ (b.map B) _ rfl rfl rfl rfl ?_;exact h_.out):P:=h q
def aqE(q:Q)(h:Hid Q->P:=by intro h_;refine zh 144 _ (key.map B) _ rfl rfl rfl rfl ?_;exact h_.out):P:=h q
def F9(q:Q)(h:Hid Q->P:=by intro h_;refine EW.g0.zdP rfl rfl rfl rfl zd ev OD (zj _) ?_;exact h_.out):P:=h q
def aqF(q:Q)(h:Hid Q->P:=by intro h_;refine zf 161 ((zg 8).map B) _ rfl rfl kG rfl ?_;exact h_.out):P:=h q
def aqL(q:Q)(h:Hid Q->P:=by intro h_;refine zh 146 _ (zW p) _ rfl rfl rfl rfl ?_;exact h_.out):P:=h q
def aqM(q:Q)(h:Hid Q->P:=by intro h_;refine zf 146 ([L 0,L 0]) _ rfl rfl z4 rfl ?_;exact h_.out):P:=h q
def aqG(q:Q)(h:Hid Q->P:=by intro h_;refine zf 243 [.slice none 0 0,.slice none 0 0] _ rfl rfl vA rfl ?_;exact h_.out):P:=h q
def aqH(q:Q)(h:Hid Q->P:=by intro h_;refine zh 144 _ (h.map B) _ rfl rfl rfl rfl ?_;exact h_.out):P:=h q
def H4(q:Q)(h:Hid Q->P:=by intro h_;refine EW.g0.zdP rfl rfl rfl (cs:=[.slice eT n iy,.slice eU n A5]) rfl j1 rfl rfl m6 ?_;exact h_.out):P:=h q
def aqI(q:Q)(h:Hid Q->P:=by intro h_;refine zh 248 _ (Tz) _ rfl rfl rfl rfl ?_;exact h_.out):P:=h q
def aqN(q:Q)(h:Hid Q->P:=by intro h_;refine zf 230 ((zah 16 (0:UInt32)).map W) _ rfl rfl ky rfl ?_;exact h_.out):P:=h q
def aqO(q:Q)(h:Hid Q->P:=by intro h_;refine zf 327 ((zah 5 (0:UInt64)).map L) _ rfl rfl xM rfl ?_;exact h_.out):P:=h q
def aqP(q:Q)(h:Hid Q->P:=by intro h_;refine zf 318 ((zah 5 (0:UInt32)).map W) _ rfl rfl xX rfl ?_;exact h_.out):P:=h q
def aqQ(q:Q)(h:Hid Q->P:=by intro h_;refine zh 318 _ ((numOf n).map W) _ rfl rfl rfl rfl ?_;exact h_.out):P:=h q
def aqR(q:Q)(h:Hid Q->P:=by intro h_;refine zh 172 _ (key.map B) _ rfl rfl rfl rfl ?_;exact h_.out):P:=h q
def aqS(q:Q)(h:Hid Q->P:=by intro h_;refine zf 172 ((zg 32).map B) _ rfl rfl kI rfl ?_;exact h_.out):P:=h q
def HJ(q:Q)(h:Hid Q->P:=by intro h_;refine EW.g0.zdS rfl rfl rfl zv rfl ?_;exact h_.out):P:=h q
def HM(q:Q)(h:Hid Q->P:=by intro h_;refine EW.g0.zdP rfl rfl rfl (cs:=au.map B) rfl zd ev a3W (zj _) ?_;exact h_.out):P:=h q
def aqJ(q:Q)(h:Hid Q->P:=by intro h_;refine zf 158 [.pointer none] _ rfl rfl Yd rfl ?_;exact h_.out):P:=h q
def aqK(q:Q)(h:Hid Q->P:=by intro h_;refine zh 158 _ [.pointer (some ⟨kp,0,none⟩)] _ rfl rfl rfl rfl ?_;exact h_.out):P:=h q
def aqT(q:Q)(h:Hid Q->P:=by intro h_;refine zh 58 _ [.pointer (some ⟨vp,0,none⟩)] _ rfl rfl rfl rfl ?_;exact h_.out):P:=h q
def aqU(q:Q)(h:Hid Q->P:=by intro h_;refine zh 100 _ [.int .i64 alg,.int .i64 size,.int .i64 zdO] _ rfl rfl rfl rfl ?_;exact h_.out):P:=h q
def HP(q:Q)(h:Hid Q->P:=by intro h_;refine zh 3 _ ([.int .i64 t]) _ rfl rfl rfl rfl ?_;exact h_.out):P:=h q
def aqV(q:Q)(h:Hid Q->P:=by intro h_;refine zf 134 ([.nilFunc,.nilFunc,.nilFunc]) _ rfl rfl yY rfl ?_;exact h_.out):P:=h q
def HR(q:Q)(h:Hid Q->P:=by intro h_;refine EW.g0.zdP rfl rfl rfl (cs:=[.nilFunc,.nilFunc,.nilFunc]) rfl yx rfl rfl eu ?_;exact h_.out):P:=h q
def aqW(q:Q)(h:Hid Q->P:=by intro h_;refine zh 60 _ ([.pointer (some ⟨cp,0,none⟩)]) _ rfl rfl rfl rfl ?_;exact h_.out):P:=h q
def aqX(q:Q)(h:Hid Q->P:=by intro h_;refine zf 134 [.nilFunc,.nilFunc,.nilFunc] _ rfl rfl yY rfl ?_;exact h_.out):P:=h q
def aqY(q:Q)(h:Hid Q->P:=by intro h_;refine zh 38 _ (x.vals) _ rfl rfl rfl rfl ?_;exact h_.out):P:=h q
def aqZ(q:Q)(h:Hid Q->P:=by intro h_;refine zf 35 (yy) _ rfl rfl zM rfl ?_;exact h_.out):P:=h q
def HW(q:Q)(h:Hid Q->P:=by intro h_;refine abA.zdP rfl rfl rfl (cs:=[.int .i64 21,.int .i64 0,.slice none 0 0]) rfl zn rfl rfl (ye _ _ _ _ _) ?_;exact h_.out):P:=h q
def ar0(q:Q)(h:Hid Q->P:=by intro h_;refine zh 27 _ ([.pointer (some ⟨bp,0,none⟩)]) _ rfl rfl rfl rfl ?_;exact h_.out):P:=h q
def HY(q:Q)(h:Hid Q->P:=by intro h_;refine abz.zdS rfl rfl rfl qM rfl ?_;exact h_.out):P:=h q
def ar1(q:Q)(h:Hid Q->P:=by intro h_;refine zf 35 yy _ rfl rfl zM rfl ?_;exact h_.out):P:=h q
def HZ(q:Q)(h:Hid Q->P:=by intro h_;refine abA.zdP rfl rfl rfl (cs:=[.int .i64 An.1,.int .i64 0,.slice (some ⟨Na.heap.size,0,none⟩) An.2.2.length ade]) rfl zn rfl rfl (ye _ _ _ _ _) ?_;exact h_.out):P:=h q
def O5(q:Q)(h:Hid Q->P:=by intro h_;refine abA.zdP rfl rfl rfl (cs:=[.int .i64 An.2.1,.int .i64 An.2.2.1,.slice Ny An.2.2.2.length oF]) rfl zn rfl rfl (ye _ _ _ _ _) ?_;exact h_.out):P:=h q
def ar2(q:Q)(h:Hid Q->P:=by intro h_;refine I9.g0.zdP rfl rfl rfl (cs:=[.int .i64 An.2.1,.int .i64 An.2.2.1,.slice a7G An.2.2.2.length oX]) rfl zn rfl rfl (ye _ _ _ _ _) ?_;exact h_.out):P:=h q
def ar3(h:P:=by
 have IW:=ha_ (Ju (zfu NW)=numOf (qi ws0%PP)/\True) ⟨by rw[Vm A3.o,MY.2],trivial⟩;generalize zfu NW=a5a at*;go_wp2;go_loopw [26] (λc wr=>∃(i:Nat)(v:List UInt32),i<=5/\c=.int .i64 i/\Hid (v.length=5/\∀j,j<i->v[j]? = some (xy (at64 a5a j)))/\Hid (St w MN wr [(oq,v.map W,318),(om,(carried NW).map L,327),(ax,(zah 5 (0:UInt32)).map W,318),(MN,a5a.map L,327)])) (λc _=>5-(intOf c).toNat);case atStart=>exact⟨0,zah 5 0,ae,rfl,zc ⟨rfl,λj hj=>by omega⟩,EW⟩
 case round =>
  clear EW;obtain⟨i,v,aO,rfl,I3,EW⟩:=hrel;by_cases II:i<5
  ·have AV:=(EW.get 3 rfl).cell i _ (yR (yn (l:=a5a) (i:=i) (by rw[a59.o];exact II)));go_wp2_with (refine EW.g0.zeJ (i:=i) (v:=W (xy (at64 a5a i))) rfl rfl rfl rfl yP rfl rfl (by rw[zaa,I3.1];exact II) ?_);intro Nf MG TR;rw[qv] at MG;have EW:=zc (EW.change 0 MG TR ae bq);have I3:=ha_ ((v.set i (xy (at64 a5a i))).length=5/\∀j,j<i+1->(v.set i (xy (at64 a5a i)))[j]? = some (xy (at64 a5a j))) ⟨px,λj hj=>by
    rw[zbb];by_cases e:i=j
    ·subst e;rw[if_pos rfl,if_pos (by rw[I3.1];exact II)]
    ·rw[if_neg e];exact I3.2 j ae⟩
   clear AV;go_wp2;go_roundw;case rel=>exact⟨i+1,_,ae,hM,I3,EW⟩
   case measure=>simp[intOf];omega
  ·obtain rfl:i=5:=ae;have PI:=ha_ (v=Ju a5a/\True) ⟨by
    apply zaK;intro j;rcases zbl j 5 with h|h
    ·rw[I3.2 j h]
     match j,h with
     | 0,_=>rfl
     | 1,_=>rfl
     | 2,_=>rfl
     | 3,_=>rfl
     | 4,_=>rfl
    ·rw[zaf py,zaf q0],trivial⟩
   rw[PI.1,IW.1] at EW;go_wp2_with (first|(refine EW.g0.zdS rfl rfl rfl zS rfl ?_)|(refine EW.g2.zdP rfl rfl rfl (cs:=(numOf (qi ws0%PP)).map W) rfl zS rfl rfl (xr _) ?_));intro OG a5b a5c;have EM:=zc (zi EW.bel a5c ae);go_wp2;first|rw[Exit.zdZ]|skip
   refine a5b.result rfl rfl rfl zS rfl ⟨rfl,?_⟩;rw[IZ.o];exact EM):P:=h
def asw(h:P:=by
 have uY:=zc eI;generalize key ks i=Pp at*;clear Ac eI;go_wp2_with (first|(refine wpList_load_mid rfl 144 (.tmp 11) rfl Np (Nq+i*16) rfl _ _ uY underlying144 rfl hX ?_)|(refine zf 144 ((zg 16).map B) _ rfl rfl zl rfl ?_));intro A4 aF sy;have aT:=EW.g0.lt;have aT:=EW.g1.lt;have EW:=zc (EW.push aF sy);have aB:=aF.lt;generalize wr.heap.size=MO at*;go_wp2_with (refine F9 ?_);intro A4 aF oE;have EW:=zc (EW.change 0 aF oE ae bq);go_wp2;go_loopw [13] (λc wr=>∃(j:Nat)(l:La_),j<=16/\c=.int .i64 j/\Hid (l.length=16)/\Hid (∀i,i<j->l[i]? = some (yj (at8 y i) (at8 Pp i)))/\Hid (∀i,j<=i->l[i]? = y[i]?)/\Hid (St w MN wr [(MO,Pp.map B,144),(MP,l.map B,144),(MN,(zg 16).map B,144)])) (λc _=>16-(intOf c).toNat);case atStart=>exact⟨0,y,ae,rfl,Pn,λi hi=>absurd hi ae,λi _=>rfl,EW⟩
 case round =>
  clear EW;obtain⟨j,l,aA,rfl,M3,A0,ER,EW⟩:=hrel;by_cases II:j<16
  ·have ah:decide ((j:Int)<16)=true:=bq;have aH:l[j]? = some (at8 y j):=akn;have az:=λ(x:zL wr.drew)=>((EW.drew.later x.later).get 1 rfl).cell j _ (zX aH);have AV:=λ(x:zL wr.drew)=>((EW.drew.later x.later).get 0 rfl).cell j _ (zX (a01 (b:=Pp) (i:=j) j6));clear aH;go_wp2_with fail;refine zp [0,1,2,3,4,5,6,7,8] e0 e0 ?_;rintro A4 rfl;refine mqR ?_;clear az AV;refine zt rfl rfl aa (λK hK=>?_);refine(EW.drew.get 1 rfl).zd8 (v:=B (yj (at8 y j) (at8 Pp j))) rfl rfl rfl zm rfl rfl fo (λw6 hb6 ho6=>hK _ _ ?_);clear hK K;rw[yD] at hb6;have EW:=zc (EW.drew.change 1 hb6 ho6 ae bq);clear ho6 hb6;go_simp;refine zq ?_;go_wp2;go_roundw;case rel=>exact⟨j+1,_,ae,rfl,(by rw[zav];exact M3),(j0 II M3 A0 ER).1,(j0 II M3 A0 ER).2,EW⟩
   case measure=>simp[intOf];omega
  ·obtain rfl:j=16:=ae;have Pq:=QY M3 A0;rw[Pq] at EW;have EW:=zc EW.tail;clear Pq;go_wp2;go_roundw;case rel=>exact⟨i+1,_,ae,hM,zK _ _,EM,EW⟩
   case measure=>simp[intOf];omega):P:=h
def am7(q:Q)(h:Hid Q->P:=by intro h_;intro A4 aF sy;have EW:=zc (EW.push aF sy);have aB:=aF.lt;revert A4 aF sy EW aB;exact h_.out):P:=h q
def akM(q:Q)(h:Hid Q->P:=by intro h_;have EM:=zc (Ext.of_below (D:=O) EW.bel);have uX:=zc (A6.news (A:=[A4.heap.size,w.heap.size]) EW.bel bq);have EZ:=zc (EZ.news (A:=[A4.heap.size,w.heap.size]) EW.bel bq);have M8:=zc (M8.below EW.bel);have a9X:=zc (And.intro (A6.low (a:=A4.heap.size) ae) (And.intro (A6.low (a:=w.heap.size) (zab _)) A6.sub));have abz:=zc EW.g1;have abA:=zc EW.g0;have Ik:=uX.blk.lt;have aX:bp<w.heap.size:=A6.blk.lt;revert EM uX EZ M8 a9X abz abA Ik aX;exact h_.out):P:=h q
def Pm(q:Q)(h:Hid Q->P:=by intro h_;refine zk rfl rfl aa (λK hK=>?_);go_simp;revert K hK;exact h_.out):P:=h q
def Qm(q:Q)(h:Hid Q->P:=by intro h_;have EM:=zc (Ext.of_below (D:=O) EW.bel);have uX:=zc (A6.news (A:=[A4.heap.size,w.heap.size]) EW.bel bq);have EZ:=zc (EZ.news (A:=[A4.heap.size,w.heap.size]) EW.bel bq);have M8:=zc (M8.below EW.bel);revert EM uX EZ M8;exact h_.out):P:=h q
def Sm(q:Q)(h:Hid Q->P:=by intro h_;refine zk rfl rfl aa (λK hK=>?_);revert K hK;exact h_.out):P:=h q
def am9(h:P:=by go_simp;refine yB ?_;have adb:=zc (adb.only I9 ae);have EB:=zc (uX.ext (Ext.zd1 I9 (D:=[MQ]) ab) (λi hi=>by simp at hi;simp[hi]) (λi hi hm=>by simp at hm;have ag:=A6.tabs.lt _ (A6.sub _ hi);omega));have EM:=zc (EM.trans (Ext.zd1 I9 (D:=[MQ]) ab) (λi hi=>by simp at hi;right;omega));have a6q:=zc (mD a6q I9 MJ);go_wp2_with (first|(refine abA.zdS rfl rfl rfl zn rfl ?_)|(refine adb.zdP rfl rfl rfl (cs:=[.int .i64 (qe s x.c).2.1,.int .i64 0,.slice Ny (qe s x.c).2.2.2.length oF]) rfl zn rfl rfl (ye _ _ _ _ _) ?_));intro IX aF oE;have uX:=zc aF;have I9:=zc oE;go_wp2;refine uX.result rfl rfl rfl zn rfl ?_;have ai:=Vb s (x:=x.c) wm;exact yh.of (N:=[]) (A:=[MQ,Ev.heap.size,A4.heap.size,w.heap.size]) E1 a6q EM I9 (λi hi=>by cases hi) ab ae ae a9X.1 a9X.2 (by rw[ai.2])):P:=h
def ar5(h:P:=by
 have acD:=ha_ (xf a8l j=sgn (YN (kU a8l sh) 63).toNat/\(YN (kU a8l sh) 63).toNat<64) ⟨by unfold xf;rw[Ph],by rw[sN];omega⟩;have MY:=ha_ ((O++yW a8l (j+1)).map B=(O++yW a8l j).map B++[B (xf a8l j)]/\True) ⟨by rw[QO];simp,trivial⟩;clear Ph;generalize ((6*j:Nat):Int)=aq at*;go_wp2_with (first|(refine qU (YN (kU a8l sh) 63).toNat (xf a8l j) rfl rfl rfl rfl underlying9 rfl y3 ?_)|(at_builtin;refine z8 rfl (.tmp 61) (.tmp 69) 23 rfl w.heap.size 5 aS (.int .u8 0) 1 underlying23 NK.1 NK.2.1 NK.2.2.1 NK.2.2.2 rfl _ _ _ rfl (zo a4p (zu wr _)) _ 1 1 [B (xf a8l j)] rfl rfl (Blk.new wr [B (xf a8l j)] 5).lies (zj [xf a8l j]) ew ae y4 ?_));intro aK Ev NR oG;have acE:Below w.heap.size w (wr.alloc (.cells #[B (xf a8l j)] 5)):=Nd.trans ((zu wr _).mono Nd.size);have Nd:=zc (zU acE (zo a4p (zu wr _)) oG (zab _) y5);have a4p:=ha_ (Ev.ownsRow w.heap.size 5 1 aK (acw+(j+1)) ((O++yW a8l (j+1)).map B)) anG;clear oG acE;go_wp2;go_roundw;case rel=>exact⟨j+1,ae,hM,a4p,Nd⟩
 case measure=>simp[intOf];omega):P:=h
def amb(q:Q)(h:Hid Q->P:=by intro h_;intro Ev aF sy;have EW:=zc (EW.push aF sy);have aB:=aF.lt;revert Ev aF sy EW aB;exact h_.out):P:=h q
def aex(q:Q)(h:Hid Q->P:=by intro h_;have EW:=zc (EW.later sy);revert EW;exact h_.out):P:=h q
def aom(q:Q)(h:Hid Q->P:=by intro h_;have IJ:=ha_ (bp<w3.heap.size) ae;have Pp:=λ(z:zO (Below w3.heap.size) w4.drew)=>((EX.drew.get 2 rfl).below z.rel ae).cell 0 (.pointer (some ⟨bp,0,none⟩)) rfl;have TC:=λ(z:zO (Below w3.heap.size) w4.drew)=>((EX.drew.get 1 rfl).below z.rel ae).cell 2 (.int .i64 x.c.n) rfl;have a7K:=λ(z:zO (Below w3.heap.size) w4.drew)=>((EX.drew.get 1 rfl).below z.rel ae).cell 4 (.slice x.ko x.c.key.length x.kc) rfl;have a7L:=λ(z:zO (Below w3.heap.size) w4.drew)=>((EX.drew.get 1 rfl).below z.rel ae).cell 5 (.slice x.bo x.c.b.length x.bc) rfl;have Np:=λ(z:zO (Below w3.heap.size) w4.drew)=>(EB.blk.drew.below z.rel IJ).cell 4 abw rfl;revert IJ Pp TC a7K a7L Np;exact h_.out):P:=h q
def ali(q:Q)(h:Hid Q->P:=by intro h_;go_simp;refine hK _ ?_;exact h_.out):P:=h q
def aeA(q:Q)(h:Hid Q->P:=by intro h_;refine zt rfl rfl aa (λK hK=>?_);revert K hK;exact h_.out):P:=h q
def aeC(q:Q)(h:Hid Q->P:=by intro h_;have EW:=zc (St.start w);revert EW;exact h_.out):P:=h q
def ar6(h:P:=by rw[uY.1];clear aL a6M ht hlt hn h1 hl;go_enter func82,ntmps82;go_wp2_with fail;refine A0.mono ?_;rintro e A4⟨rfl,rfl⟩;go_wp2_with fail;refine A6.out.mono ?_;rintro e Ev⟨aK,rfl,I4,sy⟩;have I9:=zc I4;have uX:=zc sy;go_wp2;go_ret2;exact⟨_,rfl,I9,uX⟩):P:=h
def amd(h:P:=by clear hK K;have abA:=zc hb6;have I9:=zc ho6;clear hb6 ho6;go_simp;refine yB ?_;go_wp2_with (first|(refine abA.zdS rfl rfl rfl zn rfl ?_)|(refine abA.zdP rfl rfl rfl (cs:=[.int .i64 (z6 s x.c).2.1,.int .i64 0,.slice none 0 0]) rfl zn rfl rfl (ye _ _ _ _ _) ?_));intro Ev aF oE;have uX:=zc aF;have I9:=zc (I9.trans oE);go_wp2;refine uX.result rfl rfl rfl zn rfl ?_;have ai:=Va s (x:=x.c) wm;exact yh.of uY (ao:=none) (cap:=0) wq EM I9 (λi hi=>by cases hi) ab ae ae a9X.1 a9X.2.2 x5):P:=h
def asx(q:Q)(h:Hid Q->P:=by
 intro h_;have eg:a0d bp bb w2.drew A4:=⟨aF.blk.trans uX.blk.symm,(abz.drew.ext aJ a9X.2.1).trans abz.symm⟩
 have abA:=zc (abA.drew.ext aJ a9X.1);have EM:=zc (EM.trans ((Ext.of_below ah).trans aJ (λi hi=>.inl hi)) (λi hi=>.inl hi));have uY:=ha_ (xi ([]++([MP,bb]++F)) ([]++O) A4 bp (z6 s x.c).1) ⟨_,_,_,_,_,_,_,aF⟩;revert eg abA EM uY;exact h_.out):P:=h q
def asy(q:Q)(h:Hid Q->P:=by
 intro h_;have eg:a0d bp bb w2.drew A4:=⟨aF.blk.trans uX.blk.symm,(abz.drew.ext aJ a9X.2.1).trans abz.symm⟩
 have abA:=zc (abA.drew.ext aJ a9X.1);have EM:=zc (EM.trans ((Ext.of_below ah).trans aJ (λi hi=>.inl hi)) (λi hi=>.inl hi));revert eg abA EM;exact h_.out):P:=h q
def aeG(q:Q)(h:Hid Q->P:=by intro h_;obtain⟨eE,ey,ox,a6h,a4F,a2v,abw,hi⟩:=id h;have MM:=zc hk;have A6:=zc hi;have EZ:=zc hx;revert eE ey ox a6h a4F a2v abw hi MM A6 EZ;exact h_.out):P:=h q
def aeJ(h:P:=by go_wp2;go_ret;exact⟨rfl,rfl⟩):P:=h
def aeI(h:P:=by
 go_wp2;go_roundw;case rel=>first|exact⟨j+1,ae,hM,Pk⟩|exact⟨j+1,ae,hM,Pk,uX⟩
 case measure=>simp[intOf];omega):P:=h
def aeR(q:Q)(h:Hid Q->P:=by intro h_;refine zC rfl aa (λK hK=>?_);revert K hK;exact h_.out):P:=h q
def ame(q:Q)(h:Hid Q->P:=by intro h_;go_simp;refine hK _ _ sy ?_;exact h_.out):P:=h q
def aoo(q:Q)(h:Hid Q->P:=by intro h_;have IZ:=zc M1;have To:=ha_ (∀wz L,St w MN wz L->Below w.heap.size w wz) (λwz L h=>by rw[M1];exact h.bel);revert IZ To;exact h_.out):P:=h q
def aeN(q:Q)(h:Hid Q->P:=by intro h_;go_simp;refine hK _ _ sy ?_;exact h_.out):P:=h q
def aeO(q:Q)(h:Hid Q->P:=by intro h_;have aT:=EW.size;have EM:=zc (Ext.of_below (D:=O) EW.bel);have uX:=zc (A6.news (A:=[Ev.heap.size,A4.heap.size,w.heap.size]) EW.bel bq);have EZ:=zc (EZ.news (A:=[Ev.heap.size,A4.heap.size,w.heap.size]) EW.bel bq);have M8:=zc (M8.below EW.bel);have a9X:=zc (And.intro (A6.low (a:=Ev.heap.size) ae) A6.sub);have aX:bp<w.heap.size:=A6.blk.lt;revert aT EM uX EZ M8 a9X aX;exact h_.out):P:=h q
def aop(q:Q)(h:Hid Q->P:=by intro h_;have oZ:Below w3.heap.size w4.drew IX:=sy.mono BS;have abA:=zc (abA.drew.below sy abA.lt);have adb:=zc (EX.g0.below (ah.trans sy) EX.g0.lt);have uX:=zc (EB.below (ah.trans sy));have EM:=zc (Ext.of_below (D:=O) (ada.trans ((ah.trans sy).mono ae)));have a6q:=ha_ (yq [] w4.heap.size IX Ny oF (qe s x.c).2.2.2) abB;go_simp;revert oZ abA adb uX EM a6q;exact h_.out):P:=h q
def aeU(h:P:=by exact⟨rfl,rfl⟩):P:=h
def aeS(q:Q)(h:Hid Q->P:=by intro h_;go_simp;refine zq ?_;exact h_.out):P:=h q
def amg(q:Q)(h:Hid Q->P:=by intro h_;intro IX aF sy;have EW:=zc (EW.push aF sy);have aB:=aF.lt;revert IX aF sy EW aB;exact h_.out):P:=h q
def aeW(q:Q)(h:Hid Q->P:=by intro h_;have NK:=zc (And.intro aO (And.intro aT (And.intro aU aV)));revert NK;exact h_.out):P:=h q
def amh(h:P:=by have I9:=zc I4;have uX:=zc sy;go_wp2;go_ret2;exact⟨_,rfl,I9,uX⟩):P:=h
def ami(h:P:=by
 have EE:=zc (And.intro PC (And.intro Ig ND));have a57:=cW An.1 (some ⟨Na.heap.size,0,none⟩) An.2.2.length ade;have adG:=zc (IM.trans (PC.mono aT));have abA:=zc (abA.below adG abA.lt);clear PC Ig ND Eh;go_wp2_with (refine HZ ?_);intro MF aF oE;have EB:=zc aF;have I9:=zc oE;go_wp2;first|(rw[Exit.zdZ])|skip
 refine EB.result rfl rfl rfl zn rfl ?_;rw[uY.1];exact yh.of (N:=[]) (A:=[Ev.heap.size,A4.heap.size,w.heap.size]) ⟨_,_,_,_,_,_,_,uX.below adG⟩ (show yq [] IX.heap.size adf _ _ _ from⟨EE.2.2,EE.2.1,λ_ a ha=>⟨by cases ha;exact aT,λhi=>by cases hi⟩⟩) (EM.trans (Ext.of_below adG) (λi hi=>.inl hi)) I9 (λi hi=>by cases hi) ab ae ae a9X.1 a9X.2 (by rw[uY.2])):P:=h
def aeV(h:P:=by
 go_wp2;go_roundw;case rel=>exact⟨i+1,ae,hM,EW⟩
 case measure=>simp[intOf];omega):P:=h
def amf(q:Q)(h:Hid Q->P:=by intro h_;intro A4 hb sy;have EW:=zc (EW.push hb sy);have aB:=hb.lt;revert A4 hb sy EW aB;exact h_.out):P:=h q
def asz(h:P:=by
 obtain⟨Ep,ai,_,A4⟩:=DataW.trod_int hi ie;obtain⟨a1G,aj,_,Ev⟩:=DataW.trod_int hi oL;obtain⟨a1H,ak,_,IX⟩:=DataW.trod_int hi oM;obtain⟨a2o,an,_,MF⟩:=DataW.trod_int hi oN;obtain⟨aaU,aaV,ow,iB,Mv,aZ,ey⟩:=a07 hs hy cy oO;obtain⟨MQ,a0W,ax,iC,aaW,a7s,oz⟩:=a07 hs hy cy oP;obtain⟨ej,aaX,_,a7s⟩:=DataW.trod_string hb aaT;simp only[zdw,and_true] at ai aj ak an iB iC aaX;refine⟨⟨⟨Ep,a1G,a1H,a2o,ow,ax,ej.data.toList⟩,aaU,aaV,MQ,a0W⟩,?_,⟨a06 A4,a06 Ev,a06 IX,a06 MF,ey,oz,⟨Mv,aZ⟩,⟨aaW,trivial⟩,?_⟩⟩
 ·simp only[Opr.vals,ai,aj,ak,an,iB,iC,aaX,str]
 ·simpa using a7s):P:=h
def ar8(q:Q)(h:Hid Q->P:=by intro h_;have iy:wr.cell? ⟨a83,adN+j*7,none⟩=some (.int .i64 y.c.kind):=eI 0 (.int .i64 y.c.kind) rfl;have c1:wr.cell? ⟨a83,adN+j*7+1,none⟩=some (.int .i64 y.c.a):=eI 1 (.int .i64 y.c.a) rfl;have c2:wr.cell? ⟨a83,adN+j*7+2,none⟩=some (.int .i64 y.c.n):=eI 2 (.int .i64 y.c.n) rfl;have A5:wr.cell? ⟨a83,adN+j*7+3,none⟩=some (.int .i64 y.c.m):=eI 3 (.int .i64 y.c.m) rfl;revert iy c1 c2 A5;exact h_.out):P:=h q
def asA(q:Q)(h:Hid Q->P:=by intro h_;have ax:=λ(x':zO (a0d bp bb) w2.drew)=>(show Blk x'.val bp (qd eE ey a4F a2v abw) 62 from x'.rel.one.trans uX.blk).cell 2 a4F rfl;have ef:=λ(x':zO (a0d bp bb) w2.drew)=>(show Blk x'.val bb x.vals 38 from x'.rel.two.trans abz).cell 2 (.int .i64 x.c.n) rfl;revert ax ef;exact h_.out):P:=h q
def asB(h:P:=by obtain rfl:i=n:=ae;have EM:=ha_ (y=plusB ks/\True) ⟨aoZ,trivial⟩;go_wp2_with (first|(refine EW.g0.zdS rfl rfl rfl zd Po ?_)|(refine EW.g1.zdP rfl rfl rfl rfl zd ga Po (zj _) ?_));intro w6 hb6 ho6;have ED:=zi EW.bel ho6 ae;go_wp2;refine hb6.result rfl rfl rfl zd Po ⟨by rw[EM.1],?_⟩;rw[IZ.o];exact ED):P:=h
def amj(h:P:=by refine abA.zd8 (i:=0) (v:=.int .i64 (z6 s x.c).2.1) rfl rfl rfl yJ rfl rfl vu (λw7 hb6 ho6=>hK _ _ (λ_=>⟨ho6.block bp ae,ho6.block bb ae⟩) ?_);clear hK K;have abA:=zc hb6;have I9:=zc (I9.trans ho6);clear hb6 ho6;go_simp;refine yB ?_;go_wp2_with (first|(refine abA.zdS rfl rfl rfl zn rfl ?_)|(refine abA.zdP rfl rfl rfl (cs:=[.int .i64 (z6 s x.c).2.1,.int .i64 0,.slice Ny (z6 s x.c).2.2.2.length oF]) rfl zn rfl rfl (ye _ _ _ _ _) ?_));intro A4 aF oE;have uX:=zc aF;have I9:=zc (I9.trans oE);go_wp2;refine uX.result rfl rfl rfl zn rfl ?_;exact yh.of uY a6q EM I9 (λi hi=>by cases hi) ab ae ae a9X.1 a9X.2.2 (by rw[gw s (by have:=MM.o;omega)])):P:=h
def amk(h:P:=by
 go_wp2_with (refine O5 ?_);intro A4 aF oE;have uX:=zc aF;have I9:=zc oE;go_wp2;first|(rw[Exit.zdZ])|skip
 refine uX.result rfl rfl rfl zn rfl ?_;rw[uY.1];exact yh.of a7j a6q EM I9 Nl ab ae ae a9X.1 a9X.2 rfl):P:=h
def ara(h:P:=by obtain⟨eT,iy,rfl,_,_,_⟩:=zz I9;obtain⟨eU,A5,rfl,_,_,_⟩:=zz TQ;go_wp2_with (refine aqG ?_);intro Na aF sy;have I9:=zc (zo I9 sy);have TQ:=zc (zo TQ sy);have EW:=zc (EW.push aF sy);have a0k:=aF.lt;generalize MF.heap.size=a0l at*;go_wp2_with (refine H4 ?_);intro Nf Ex Oo;have I9:=zc (zD I9 EW.g0 a0h Oo);have TQ:=zc (zD TQ EW.g0 a0h Oo);have EW:=zc (EW.change 0 Ex Oo ae bq);go_wp2;rw[a0j.o];rw[show((yA n:Nat):Int)-1=((yA n-1:Nat):Int) by omega];exact Q0.intro a0i a0l a0m a0n (yA n-1) eT eU iy A5 (qo a0b,xw a0b) rfl ae ae ae ae P7 (by rw[zdg Em]) EW I9 TQ):P:=h
def af2(q:Q)(h:Hid Q->P:=by intro h_;have ada:=zc (EW.bel.trans (uX.mono aT));have abA:=zc aF;have EB:=zc (A6.news (A:=[MQ,Ev.heap.size,A4.heap.size,w.heap.size]) ada bq);have EZ:=zc (EZ.news (A:=[MQ,Ev.heap.size,A4.heap.size,w.heap.size]) ada bq);have EX:=zc (EW.later uX);revert ada abA EB EZ EX;exact h_.out):P:=h q
def af6(q:Q)(h:Hid Q->P:=by intro h_;have Nl:=zc hn;have A0:=zc hl;revert Nl A0;exact h_.out):P:=h q
def af7(h:P:=by go_wp2;refine aF.result rfl rfl rfl zv rfl ⟨rfl,?_⟩;rw[IZ.o];exact EM):P:=h
def amm(h:P:=by
 intro MF aF oE;have EB:=zc aF;have I9:=zc oE;go_wp2;first|(rw[Exit.zdZ])|skip
 refine EB.result rfl rfl rfl zn rfl ?_;rw[uY.1];exact yh.of (N:=[]) (A:=[Ev.heap.size,A4.heap.size,w.heap.size]) ⟨_,_,_,_,_,_,_,uX⟩ (yq.none [] IX.heap.size IX) EM I9 (λi hi=>by cases hi) ab ae ae a9X.1 a9X.2 rfl):P:=h
def af9(h:P:=by go_wp2;go_ret2;exact⟨_,rfl,I9,uX⟩):P:=h
def arb(h:P:=by clear ED;obtain⟨eT,iy,rfl,_,_,_⟩:=zz I9;obtain⟨eU,A5,rfl,_,_,_⟩:=zz TQ;go_wp2_with (refine aqG ?_);intro Na aF sy;have I9:=zc (zo I9 sy);have TQ:=zc (zo TQ sy);have EW:=zc (EW.push aF sy);have a0k:=aF.lt;generalize MF.heap.size=a0l at*;go_wp2_with (refine H4 ?_);intro Nf Ex Oo;have I9:=zc (zD I9 EW.g0 a0h Oo);have TQ:=zc (zD TQ EW.g0 a0h Oo);have EW:=zc (EW.change 0 Ex Oo ae bq);go_wp2;rw[a0j.o];exact QZ.intro a0i a0l bo cb 0 eT eU iy A5 (qo a0b,xw a0b) rfl ae ae ae ae P7 rfl EW I9 TQ):P:=h
def afa(q:Q)(h:Hid Q->P:=by intro h_;have a9X:=zc (And.intro (A6.low (a:=Ev.heap.size) ae) A6.sub);have aX:bp<w.heap.size:=A6.blk.lt;revert a9X aX;exact h_.out):P:=h q
def amo(q:Q)(h:Hid Q->P:=by intro h_;intro A4 aF oE;have EW:=zc (EW.change 0 aF oE ae bq);revert A4 aF oE EW;exact h_.out):P:=h q
def amp(h:P:=by clear hK K;have abA:=zc hb6;have I9:=zc ho6;clear hb6 ho6;go_simp;refine yB ?_;go_wp2_with (first|(refine abA.zdS rfl rfl rfl zn rfl ?_)|(refine abA.zdP rfl rfl rfl (cs:=[.int .i64 (kg s x.c).2.1,.int .i64 0,.slice none 0 0]) rfl zn rfl rfl (ye _ _ _ _ _) ?_));intro Ev aF oE;have uX:=zc aF;have I9:=zc (I9.trans oE);go_wp2;refine uX.result rfl rfl rfl zn rfl ?_;have ai:=Bp s (x:=x.c) wm;exact yh.of uY (ao:=none) (cap:=0) wq EM I9 (λi hi=>by cases hi) ab ae ae a9X.1 a9X.2.2 x5):P:=h
def aoq(q:Q)(h:Hid Q->P:=by intro h_;have aU:=EE.1.size;have uX:=ha_ (Below w3.heap.size w3 w4) (EE.1.trans ((abD.mono EE.1.size).trans (sy.mono (zat EE.1.size adh))));obtain⟨MQ,Rz⟩:=n_ (adf.heap.size+1);have ad9:=ha_ (rowOf [⟨some ⟨w3.heap.size,0,none⟩,ade,x.c.name⟩]=adB x.c/\∀w',Below w4.heap.size w4 w'->yI w' (some ⟨adf.heap.size,0,none⟩) [⟨some ⟨w3.heap.size,0,none⟩,ade,x.c.name⟩]) ⟨by unfold adB;rw[if_pos PK.o];rfl,λw' hw=>⟨(a76.lies.below sy).below hw,λt ht=>by simp at ht;subst ht;exact⟨EE.2.2,((EE.2.1.below abD).below sy).below hw⟩⟩⟩;revert aU uX MQ Rz ad9;exact h_.out):P:=h q
def afg(h:P:=by have eF:=hbel.size;go_simp;refine hK _ _ ?_;refine⟨λ_=>hbel,abQ,v7,v9,_,v23,v24,FX,rfl,zc (To.trans (hbel.mono eg)),zc (λi hi=>(abK i hi).imp id (λh=>⟨h.1,ae⟩)),abL,zc (λ_=>⟨rfl,OZ⟩),zc (λh=>(abM cw).elim),zc (λh=>(zjy cw).elim),zc (λh=>(abN cw).elim),zc (λh=>?_),zc (λh=>by simp[abO] at h)⟩;obtain⟨bx,ai,aj,ak,an⟩:=a0G cw;refine⟨bx,ai,aj,ak,?_⟩;have ag:=an.below hbel an.lt;simp only[abO] at ag |-;exact ag):P:=h
def amq(q:Q)(h:Hid Q->P:=by intro h_;intro A4 aF oE;have EM:=zc (zi EW.bel oE ae);revert A4 aF oE EM;exact h_.out):P:=h q
def asC(q:Q)(h:Hid Q->P:=by intro h_;have az:=λ(y:zL wr.drew)=>((EW.drew.later y.later).get 0 rfl).cell 0 _ rfl;have AV:=λ(y:zL wr.drew)=>((EW.drew.later y.later).get 0 rfl).cell 1 _ rfl;have aD:=U9 n;have aA:j<=23:=ae;have A0:=zc (zr.zef I9);have ER:=zc (zr.zef TQ);have A3:=zc a0r.1;have Ok:=zc a0r.2;obtain⟨s,hs⟩:=n_ (stepT k h (kD n) j ox.2);have a0s:=s_ hs;have Om:=ha_ (s.length=n) AL;have a0t:=ha_ (swapT k h (kD n) j ox=(ox.2,a0u ox.1 s)/\True) ⟨by rw[hs];rfl,trivial⟩;clear hs;revert az AV aD aA A0 ER A3 Ok s a0s Om a0t;exact h_.out):P:=h q
def afi(q:Q)(h:Hid Q->P:=by intro h_;have a9X:=zc (And.intro (A6.low (a:=A4.heap.size) ae) A6.sub);have abz:=zc EW.g1;have abA:=zc EW.g0;have iy:=abz.cell 0 (.int .i64 kk) ES;have NJ:1<=kk:=ae;have aG:kk<=18:=ae;revert a9X abz abA iy NJ aG;exact h_.out):P:=h q
def amr(h:P:=by intro Na aF M6;have A3:=zc (A3.below M6 (zab _));have Eh:=SM.size;have SM:=zc (SM.trans (M6.mono SM.size));rw[show(Value.pointer (some ⟨q,0,none⟩)::(SP.map B++(SQ.map B++SR.map B)))=.pointer (some ⟨q,0,none⟩)::(SP++SQ++SR).map B by simp only[zaD,zal]] at aF;have uX:=zc aF;refine hK _ _ M6 ?_;clear hK K M6;go_simp;refine mqR ?_;refine zq ?_;go_wp2;go_ret2;exact⟨_,rfl,⟨A3,⟨NK,Pr,MM⟩,uX⟩,Eh,SM⟩):P:=h
def afk(q:Q)(h:Hid Q->P:=by intro h_;go_simp;have ah:Below w2.heap.size w2 w2.drew:=(Below.refl _ _).drew;revert ah;exact h_.out):P:=h q
def ard(q:Q)(h:Hid Q->P:=by
 intro h_;obtain⟨y,Ac⟩:∃y,ys[j]? = some y:=⟨ys[j]'(by rw[OW.o];exact aB),ab⟩
 have AF:=List.mem_of_getElem? Ac;have a6C:=zc (Pn.each y AF);have NL:=ha_ (y.c.key.length<=1000/\y.c.b.length<=1000/\y.c.name.length<=1000) (by have:=aes.2 y AF;omega);revert y Ac AF a6C NL;exact h_.out):P:=h q
def afl(q:Q)(h:Hid Q->P:=by intro h_;refine yM rfl rfl (λK hK=>?_);revert K hK;exact h_.out):P:=h q
def afm(h:P:=by have:=Nl.1;have ag:=Ru.1;simp only[zaj,zas] at ag;simp[muD,intOf];try omega):P:=h
def ag5(h:P:=by
 go_wp2;go_roundw;case rel=>exact⟨j+1,ae,hM,Pw⟩
 case measure=>simp[intOf];omega):P:=h
def afp(q:Q)(h:Hid Q->P:=by intro h_;obtain⟨eE,ey,ox,a6h,a4F,a2v,abw,hi⟩:=id h;have MM:=zc hkk.symm;have A6:=zc hi;have EZ:=zc hx;have M8:=zc hg;have I3:=zc hf;revert eE ey ox a6h a4F a2v abw hi MM A6 EZ M8 I3;exact h_.out):P:=h q
def ams(h:P:=by
 go_wp2_with (refine abA.zdP rfl rfl rfl (cs:=[.int .i64 22,.int .i64 0,.slice none 0 0]) rfl zn rfl rfl (ye _ _ _ _ _) ?_);intro IX aF oE;have EB:=zc aF;have I9:=zc oE;go_wp2;first|(rw[Exit.zdZ])|skip
 refine EB.result rfl rfl rfl zn rfl ?_;rw[uY.1];exact yh.of (N:=[]) (A:=[A4.heap.size,w.heap.size]) ⟨_,_,_,_,_,_,_,uX⟩ (yq.none [] Ev.heap.size Ev) EM I9 (λi hi=>by cases hi) ab ae ae a9X.1 a9X.2 rfl):P:=h
def aos(q:Q)(h:Hid Q->P:=by intro h_;obtain⟨SP,Nm⟩:=n_ (block ow);obtain⟨SQ,Ah⟩:=n_ (block (ow.drop 16));obtain⟨SR,Ng⟩:=n_ (block (ow.drop 32));rw[SO.1,<-Nm,<-Ah,<-Ng];have SS:=ha_ (block ow=SP/\block (ow.drop 16)=SQ/\block (ow.drop 32)=SR) ⟨Nm.symm,Ah.symm,Ng.symm⟩;have NK:=ha_ (SP.length=16) (by rw[Nm];exact zI _);have Pr:=ha_ (SQ.length=16) (by rw[Ah];exact zI _);have MM:=ha_ (SR.length=16) (by rw[Ng];exact zI _);clear Nm Ah Ng;revert SP SQ SR SS NK Pr MM;exact h_.out):P:=h q
def akQ(h:P:=by
 rcases open_ints ht he hc h with⟨rfl,_⟩|⟨x,l,c,zs,rfl,_,hl,hm,hz,_,hcell,hwz⟩
 ·exact⟨none,0,[],rfl,zab _,bk,zr.nil _ _⟩
 ·have aT:l<=zs.length:=by rw[hz];split<;>omega
  obtain⟨bs,ag,aM,ij,ik⟩:=bytes_of_row (w:=w) (a:=some x) (len:=l) (cap:=zs.length) (zs:=zs)
   (.inr ⟨x,rfl,aT,by rw[hz];split<;>omega,rfl,hcell,hwz⟩)
  exact⟨some x,c,bs,by rw[ag],ae,hm,ik⟩):P:=h
def asD(q:Q)(h:Hid Q->P:=by intro h_;have ax:=λ(x':zO (a0d bp bb) w2.drew)=>(show Blk x'.val bp (qd eE ey a4F a2v abw) 62 from x'.rel.one.trans uX.blk).cell 0 (.pointer (some ⟨eE,0,none⟩)) rfl;revert ax;exact h_.out):P:=h q
def arf(q:Q)(h:Hid Q->P:=by intro h_;have aN:decide ((n:Int)<16)=false:=aN;have A0:Hid (Calls Tryz.prog 102 #[.pointer (some ⟨cp,0,none⟩)] w λe w'=>e=.returned (.int .i64 16)/\w=w'):=A0;revert aN A0;exact h_.out):P:=h q
def afu(h:P:=by have:=a0H.1;have:=Nl.1;have ag:=Ru.1;simp only[zaj,zas] at ag;omega):P:=h
def arh(q:Q)(h:Hid Q->P:=by intro h_;intro w2 aF sy;have EW:=zc (EW.push aF sy);have aB:=aF.lt;revert w2 aF sy EW aB;exact h_.out):P:=h q
def aho(h:P:=by go_wp2;go_ret;exact⟨rfl,uX⟩):P:=h
def afw(h:P:=by refine(abm _ Ny abo MY AV ER).mono ?_;rintro e Nf⟨OF,iy,rfl,eI,MH⟩;have uY:=zc eI;have EB:=zc (EW.old IZ);have EW:=zc (EW.later MH);clear eI;go_simp;refine hK _ _ MH ?_;clear hK K MH;refine mqR ?_;refine zq ?_;go_wp2;go_ret2;exact⟨Na,OF,iy,rfl,uY,by rw[<-IZ.o];exact EB,by rw[<-IZ.o];exact EW.old IZ⟩):P:=h
def afy(q:Q)(h:Hid Q->P:=by intro h_;have EW:=zc (((St.start w).add ht.tab).add ht.boxes);have MK:=ht.tab.lt;have ML:=ht.boxes.lt;revert EW MK ML;exact h_.out):P:=h q
def afz(h:P:=by
 go_wp2;go_roundw;case rel=>exact⟨i+1,_,ae,hM,I3,EW⟩
 case measure=>simp[intOf];omega):P:=h
def afC(h:P:=by rw[IZ.o];exact EM):P:=h
def afD(q:Q)(h:Hid Q->P:=by intro h_;have abA:=zc (abA.ext aJ a9X.1);have EM:=zc (EM.trans aJ (λi hi=>.inl hi));revert abA EM;exact h_.out):P:=h q
def afE(q:Q)(h:Hid Q->P:=by intro h_;refine mqR ?_;refine zq ?_;exact h_.out):P:=h q
def asE(q:Q)(h:Hid Q->P:=by intro h_;have ef:=λ(x':zO (a0d bp bb) w2.drew)=>(show Blk x'.val bb x.vals 38 from x'.rel.two.trans abz).cell 4 (.slice x.ko x.c.key.length x.kc) rfl;revert ef;exact h_.out):P:=h q
def arj(q:Q)(h:Hid Q->P:=by intro h_;have a85:=ha_ (kx [⟨bo,mc,m⟩,⟨some ⟨om,0,none⟩,t,zg t⟩]=m++zg t) anC;have EW:=zc (EW.later (zu w5 (.cells #[.slice bo mn mc,.slice (some ⟨om,0,none⟩) t t] 23)));have MY:=zc (MY.trans ((zu w5 (.cells #[.slice bo mn mc,.slice (some ⟨om,0,none⟩) t t] 23)).mono aV));obtain⟨MF,Am⟩:=n_ (w5.alloc (.cells #[.slice bo mn mc,.slice (some ⟨om,0,none⟩) t t] 23));revert a85 EW MY MF Am;exact h_.out):P:=h q
def afI(q:Q)(h:Hid Q->P:=by intro h_;have EW:=zc (EW.change 0 hb ho ae bq);revert EW;exact h_.out):P:=h q
def afJ(q:Q)(h:Hid Q->P:=by intro h_;go_simp;refine hK _ _ hbel ?_;exact h_.out):P:=h q
def afK(q:Q)(h:Hid Q->P:=by intro h_;refine zQ rfl rfl (λuz wa hla K hK=>?_);go_simp;have I9:=zc (zo I9 hla);have EW:=zc (EW.later hla);revert uz wa hla K hK I9 EW;exact h_.out):P:=h q
def afM(q:Q)(h:Hid Q->P:=by intro h_;obtain⟨sh,Ph⟩:=n_ (18-6*j);have Pp:(6:Int)*(j:Int)=((6*j:Nat):Int):=ae;have TC:(18:Int)-((6*j:Nat):Int)=(sh:Int):=ae;have acB:sh<=18:=ae;have R4:6*j<=18:=ae;revert sh Ph Pp TC acB R4;exact h_.out):P:=h q
def ah3(q:Q)(h:Hid Q->P:=by intro h_;have aQ:=k _ (Blk.new w vs.flatten e) (zu w _);have aP:=YC (P:=P) w t e n m z vs _ ht hs hz hn hm hm0 hb hv eE;unfold Oper.wp execOp;simp only[ho,Sem.run_bind,aP,Result.andThen_ok,Sem.run_pure];revert aQ aP;exact h_.out):P:=h q
def afN(q:Q)(h:Hid Q->P:=by intro h_;have ah:∀x0 x1 x2 x3 x4:UInt64,qi [x0,x1,x2,x3,x4]=x0.toNat+67108864*x1.toNat+4503599627370496*x2.toNat+302231454903657293676544*x3.toNat+20282409603651670423947251286016*x4.toNat:=λ_ _ _ _ _=>rfl;revert ah;exact h_.out):P:=h q
def afO(q:Q)(h:Hid Q->P:=by intro h_;have EW:=zc (EW.later hbel);revert EW;exact h_.out):P:=h q
def amu(h:P:=by
 obtain⟨ef,aH⟩:=oY.at aB;have az:=aF.cell j _ (zX aH);have eP:=aF.free j;have uX:=zc aF;have uY:=zc oZ;clear oZ aH;go_wp2;go_roundw;case rel=>exact⟨j+1,_,ae,rfl,oY.step aB,uY.setOther ab _,yD _ _ _▸uX.set j _,sy.setCell ab _⟩
 case measure=>simp[intOf];omega):P:=h
def afS(h:P:=by exact qk _ _ _ _ _ _ rfl rfl rfl rfl ab zl rfl):P:=h
def amt(q:Q)(h:Hid Q->P:=by intro h_;intro Ev hb sy;have EW:=zc (EW.push hb sy);have aB:=hb.lt;revert Ev hb sy EW aB;exact h_.out):P:=h q
def afW(q:Q)(h:Hid Q->P:=by intro h_;refine EB.result rfl rfl rfl zn rfl ?_;exact h_.out):P:=h q
def aou(q:Q)(h:Hid Q->P:=by intro h_;obtain⟨a5x,a0K⟩:=n_ (yf z);have Ts:=ha_ ((zw z.1++zw z.2=a5x/\yf z=a5x)/\a5x.length=16) ⟨⟨a0K.symm,a0K.symm⟩,tp⟩;revert a5x a0K Ts;exact h_.out):P:=h q
def ark(q:Q)(h:Hid Q->P:=by intro h_;intro w4 aF sy;have a76:=zc (Blk.new adf [.slice (some ⟨w3.heap.size,0,none⟩) x.c.name.length ade] 23);have abD:=zc (zu adf (.cells #[.slice (some ⟨w3.heap.size,0,none⟩) x.c.name.length ade] 23));have adh:=abD.size;have ai:(adf.alloc (.cells #[.slice (some ⟨w3.heap.size,0,none⟩) x.c.name.length ade] 23)).heap.size=adf.heap.size+1:=ab;revert w4 aF sy a76 abD adh ai;exact h_.out):P:=h q
def afY(h:P:=by clear EW az;obtain⟨rfl,EW⟩:=hrel;go_wp2_with (first|(refine EW.g0.zdS rfl rfl rfl zd ev ?_)|(refine EW.g1.zdP rfl rfl rfl (cs:=(zg 16).map B) rfl zd ga ga (zj _) ?_));intro A4 aF oE;have ED:=zi EW.bel oE ae;go_wp2;refine aF.result rfl rfl rfl zd ga ⟨rfl,by rw[IZ.o];exact ED⟩):P:=h
def arl(h:P:=by go_enter func56,ntmps56;go_wp2_with fail;refine I9.mono ?_;rintro e A4⟨rfl,sy⟩;have uX:=zc sy;clear az aN eK;go_wp2_with fail;refine(NI _ uX).mono ?_;rintro e A4⟨c,rfl,eI⟩;have uY:=zc eI;clear eI;go_wp2;go_ret;exact⟨_,rfl,uY⟩):P:=h
def alq(q:Q)(h:Hid Q->P:=by intro h_;have IZ:=zc M1;have aH:=EW.g2.cell 0 (L p.1) rfl;have T6:=EW.g2.cell 1 (L p.2) rfl;have et:=EW.g1.cell 0 (L q.1) rfl;have I2:=EW.g1.cell 1 (L q.2) rfl;revert IZ aH T6 et I2;exact h_.out):P:=h q
def aov(q:Q)(h:Hid Q->P:=by intro h_;obtain⟨eT,Au⟩:=n_ (n-16);obtain⟨a8W,a8X⟩:=n_ (m.take eT);obtain⟨a8Y,a8Z⟩:=n_ (xU (m.drop eT));have Io:=ha_ (a8W.length=eT) (by rw[a8X,zam,hn];omega);obtain⟨a90,a91⟩:=n_ (zes (ZN k.kt t eT) (ZO k.km k.ws a8W));have a92:=s_ a91;obtain⟨a8a,Ic⟩:=n_ (zes a8Y a90);have PH:=s_ Ic;revert eT Au a8W a8X a8Y a8Z Io a90 a91 a92 a8a Ic PH;exact h_.out):P:=h q
def aow(q:Q)(h:Hid Q->P:=by intro h_;have a6O:=ha_ (rest.length=16/\rest.take k=p/\p.length=k) ⟨hrl,hp,hk⟩;revert a6O;exact h_.out):P:=h q
def ag8(h:P:=by exact⟨λ_=>(Ih.1 h2).later hbel,λh=>by simp[h2] at h⟩):P:=h
def amx(q:Q)(h:Hid Q->P:=by intro h_;intro MF aF sy;have EW:=zc (EW.push aF sy);have MJ:=aF.lt;revert MF aF sy EW MJ;exact h_.out):P:=h q
def agc(h:P:=by
 have eE:a.tmps[p]?.getD undef=.pointer (some ⟨b,0,none⟩):=by simpa using hp
 have aW:a.tmps[t]?.getD undef=v:=by simpa using ht
 have ag:=run_loadVar_row (P:=P) w b ty' ty vs.toArray (0,0) aN h aw cc (by rw[aO];simp[hn]);simp[results,hf,eE,aW,asAddr,ag]):P:=h
def agd(q:Q)(h:Hid Q->P:=by intro h_;refine zp [0,1,2,3,4,5,6,7,8] e0 e0 ?_;exact h_.out):P:=h q
def age(h:P:=by have:=a0H.2;(try simp only[zac,zaj,zas]);omega):P:=h
def arn(q:Q)(h:Hid Q->P:=by intro h_;have P6:wr.cell? ⟨a83,adN+j*7+4,none⟩=some (.slice y.ko y.c.key.length y.kc):=eI 4 _ rfl;have Sz:wr.cell? ⟨a83,adN+j*7+5,none⟩=some (.slice y.bo y.c.b.length y.bc):=eI 5 _ rfl;have SA:wr.cell? ⟨a83,adN+j*7+6,none⟩=some (.string (str y.c.name)):=eI 6 _ rfl;revert P6 Sz SA;exact h_.out):P:=h q
def aoy(q:Q)(h:Hid Q->P:=by intro h_;rw[<-Nl.1];have TQ:=ha_ (wr.ownsRow w.heap.size 5 1 (Value.slice S0 acw acy) (acw+0) ((O++yW a8l 0).map B)) anF;have acA:=zc To.o;revert TQ acA;exact h_.out):P:=h q
def amz(q:Q)(h:Hid Q->P:=by intro h_;refine(XD bo n cb a0b _ NA h31 (by rw[<-a0d.1];exact A0.below (EW.old IZ))).mono ?_;rintro e MF⟨aK,OF,rfl,I4,NR,ED⟩;have RX:=EW.size;have I9:=zc (yt I4 RX);have TQ:=zc (yt NR RX);have aT:=EW.g0.lt;have aU:=ED.size;have EW:=zc (EW.later ED);revert MF aK OF I4 NR ED RX I9 TQ aT aU EW;exact h_.out):P:=h q
def asp(h:P:=by
 intro aK A4 I4 oG _;rw[<-Tb.o] at I4;have EB:=zc (zU uX I9 oG (Nat.le_refl _) uX.size);have TQ:=zc I4;clear oG;go_wp2;go_roundw;case rel=>exact⟨j+1,ae,hM,TQ,EB⟩
 case measure=>simp[intOf];omega):P:=h
def aro(h:P:=by go_enter func65,ntmps65;go_wp2_with fail;refine A6.out.mono ?_;rintro e A4⟨cp,rfl,Tu,sy⟩;have Pu:=zc Tu;have uX:=zc sy;clear Tu;go_wp2;go_ret2;exact⟨_,rfl,Pu.imp (λ_ h=>⟨_,rfl,h⟩),uX⟩):P:=h
def arp(q:Q)(h:Hid Q->P:=by
 intro h_;obtain⟨⟨eT,ax⟩,a1y⟩:∃r,ps[i]? = some r:=⟨ps[i]'(by rw[a1s.o];exact aB),ab⟩
 have ah:=Bb a1y;have a0N:=I3.o _ (zad a1y);have a1L:=ha_ (eT.length=16) a0N.1;have uX:=ha_ (ax.length=16) a0N.2;have a1M:=l_ eT 16 a0N.1;have EF:=l_ ax 16 a0N.2;revert eT ax a1y ah a0N a1L uX a1M EF;exact h_.out):P:=h q
def akT(h:P:=by obtain⟨b,off,rfl,az⟩:=h.lies _ _ (oK 0 (v[0]' ae) ab);refine⟨b,off,rfl,block_lt_of_cell az,λj u hu=>?_⟩;obtain⟨ax,ay,ai,az⟩:=h.lies _ _ (oK j u hu);cases ai;rw[show off+i*n+j=off+(n*i+j) by rw[zcu i n];omega];exact az):P:=h
def ars(q:Q)(h:Hid Q->P:=by intro h_;refine(Mt a1 n1 c1 15 xs _ Nl (EZ.below (below_drewN ((Below.refl _ _).alloc (zab _) _) _)) PK.1).mono ?_;rintro e A4⟨An,rfl,aep,Am⟩;have uX:=ha_ (Below w.heap.size w A4) ((below_drewN ((Below.refl _ _).alloc (zab _) _) _).trans (Am.mono ab));have aeq:=zc aep;clear aep Am;revert A4 An uX aeq;exact h_.out):P:=h q
def agk(h:P:=by first|rfl|(simp only[jF];push_cast;rfl)):P:=h
def art(q:Q)(h:Hid Q->P:=by
 intro h_;obtain⟨x,Ac⟩:∃x,xs[j]? = some x:=⟨xs[j]' hG,ab⟩
 revert x Ac;exact h_.out):P:=h q
def agm(h:P:=by go_wp2;go_end0;exact⟨⟨_,rfl⟩,uX,I9⟩):P:=h
def amB(q:Q)(h:Hid Q->P:=by intro h_;refine(XD a0m n a0n a0b _ NA h31 PK).mono ?_;rintro e MF⟨OF,PL,rfl,NR,a0B,ED⟩;have RX:=EW.size;have I9:=zc (yt NR RX);have TQ:=zc (yt a0B RX);have aT:=EW.g0.lt;have aU:=ED.size;have EW:=zc (EW.later ED);clear ED;revert MF OF PL NR a0B RX I9 TQ aT aU EW;exact h_.out):P:=h q
def af3(h:P:=by
 by_cases Am:Region.wanted o (yielded ops a.tmps)=true
 ·rw[if_pos Am] at h |-;obtain⟨aK,aL,aD⟩:=h;exact⟨aK,λw' hw'=>xL hk (aL w' ⟨⟨w',hw'⟩,rfl⟩),aD⟩
 ·rw[if_neg Am] at h |-;exact h):P:=h
def alv(q:Q)(h:Hid Q->P:=by intro h_;go_simp;refine hK _ _ Eu ?_;exact h_.out):P:=h q
def agq(q:Q)(h:Hid Q->P:=by intro h_;refine mqN ?_;refine xo rfl aa (λK hK=>?_);revert K hK;exact h_.out):P:=h q
def aoA(q:Q)(h:Hid Q->P:=by intro h_;refine mqR ?_;have RB:=zc (RB.later EW.bel);have a4E:=zc (zo a4E EW.bel);have a4G:=zc (zo a4G EW.bel);have MY:=zc (MY.trans (EW.bel.mono Oc));have Oc:=ha_ (IX.heap.size<=A4.heap.size) MY.size;have EW:=zc (EW.zgN Oc);revert RB a4E a4G MY Oc EW;exact h_.out):P:=h q
def ags(q:Q)(h:Hid Q->P:=by intro h_;go_simp;have EW:=zc (EW.later hla);revert EW;exact h_.out):P:=h q
def amE(q:Q)(h:Hid Q->P:=by intro h_;have PO:=zc aR;have AN:=(Below.refl _ wr).drew.trans Et;have EW:=zc (EW.drew.later Et);have I9:=zc (zo I9 AN);have TQ:=zc (zo TQ AN);have A0:=zc (A0.below AN);clear AN;go_simp;refine hK _ _ Et ?_;revert PO EW I9 TQ A0;exact h_.out):P:=h q
def aru(q:Q)(h:Hid Q->P:=by intro h_;have TQ:=zc (zD TQ EW.g0 a0h ho4);have I9:=zc (zD I9 EW.g0 a0h ho4);have EW:=ha_ (St w MN w4 [(a0l,[.slice eU n A5,.slice eU n A5],243),(a0i,h.map B,144)]) (EW.change 0 hb4 ho4 ae bq);go_simp;refine m1R ?_;revert TQ I9 EW;exact h_.out):P:=h q
def agu(h:P:=by go_wp2_with fail;go_meet;case rel=>exact⟨by rw[Ol.o],IM,EB,I9⟩):P:=h
def aoC(q:Q)(h:Hid Q->P:=by intro h_;refine hK _ _ zdV ?_;have EW:=zc (EW.later zdV);have MY:=zc (MY.trans (zdV.mono aU));have P5:=zc (P5.below zdV);have A0:=ha_ (zr w5 (some ⟨w3.heap.size,0,none⟩) _) hb5.lies;have aV:=MY.size;go_simp;revert EW MY P5 A0 aV;exact h_.out):P:=h q
def aoD(q:Q)(h:Hid Q->P:=by intro h_;intro w4 aF sy;have uX:=zc sy;obtain⟨MQ,Rz⟩:=n_ w3.heap.size;have ad9:=ha_ (rowOf ([]:List Str)=adB x.c/\∀w',Below w4.heap.size w4 w'->yI w' none []) ⟨by unfold adB;rw[if_neg (by rw[PK.o];decide)];rfl,λw' _=>⟨zr.nil _ _,ab⟩⟩;revert w4 aF sy uX MQ Rz ad9;exact h_.out):P:=h q
def asF(h:P:=by refine wpList_plain hg λK hK=>?_;have aP:=run_build (P:=P) w t vs.toArray cells (by simpa using hb);unfold Oper.wp;simp only[execOp,hop,eE,Sem.run_bind,aP,Result.andThen_ok,Sem.run_pure];exact hK _ _ k):P:=h
def aly(q:Q)(h:Hid Q->P:=by intro h_;go_simp;refine hK _ _ (z9.refl _) ?_;exact h_.out):P:=h q
def agz(h:P:=by
 rcases zdp a b with h|rfl|h
 ·rw[zby.2 h];exact zby.2 (zbu h Ir)
 ·exact(za8.2 rfl).trans (za8.2 rfl).symm
 ·rw[zbz.2 h];exact zbz.2 (zbu h Ir)):P:=h
def aoE(q:Q)(h:Hid Q->P:=by
 intro h_;obtain⟨c,az⟩:∃c:Int,c=((zd6 x.c.a x.c.key.length:Nat):Int):=⟨_,rfl⟩
 obtain⟨V,Ty⟩:=n_ (vS x.c.a x.c.key);have SW:=zc (And.intro az.symm trivial);have OS:=ha_ (vS x.c.a x.c.key=V/\V.Fit) ⟨Ty.symm,by rw[Ty];exact Qq _ _⟩;revert c az V Ty SW OS;exact h_.out):P:=h q
def arw(h:P:=by
 go_wp2;go_roundw;case rel=>exact⟨j+1,ae,hM,Pr⟩
 case measure=>simp[intOf];omega):P:=h
def asG(q:Q)(h:Hid Q->P:=by intro h_;have Nx:=λw=>qn (P:=Tryz.prog) w 161 5 8 ((zw (zae n)).map B).toArray .i64 i (B (at8 (zw (zae n)) i)) underlying161 e0 zm asv aB;obtain⟨j,aA⟩:=n_ (15-i);have ai:(15:Int)-(i:Int)=(j:Int):=ae;have R4:j<16:=ae;revert Nx j aA ai R4;exact h_.out):P:=h q
def agB(h:P:=by rw[e] at aR;obtain⟨ax,ay,ai,az⟩:=aR 0 (B y) rfl;have aB:ax<w.heap.size:=block_lt_of_cell az;rw[ha] at ai;cases ai;have ag:w.heap.size<=ax:=hF _ hi;omega):P:=h
def asH(q:Q)(h:Hid Q->P:=by intro h_;have No:=ha_ ((key ks i).length=16) (MM.each _ (zad Ac));have OD:=l_ (key ks i) 16 No;revert No OD;exact h_.out):P:=h q
def amF(q:Q)(h:Hid Q->P:=by intro h_;have EW:=zc (EW.drew.later M6);have A0:=zc aR;simp only[id];go_simp;refine hK _ _ M6 ?_;revert EW A0;exact h_.out):P:=h q
def agD(q:Q)(h:Hid Q->P:=by intro h_;have ag:ax<A4.heap.size:=EW.ne _ (zad (i:=0) rfl);revert ag;exact h_.out):P:=h q
def alA(q:Q)(h:Hid Q->P:=by intro h_;rintro e Ev⟨rfl,Et⟩;rw[SS.1];have A0:=zc (A0.below Et);have A3:=zc (A3.below Et (zab _));have SM:=zc (SM.trans (Et.mono SM.size));go_simp;refine hK _ _ Et ?_;clear Et;have SU:=zc hc;revert Ev A0 A3 SM SU;exact h_.out):P:=h q
def agE(q:Q)(h:Hid Q->P:=by intro h_;refine zp [0,1,2,3,4,5,6,7,8,9,10,11,12,13,14,15] e0 e0 ?_;exact h_.out):P:=h q
def amH(h:P:=by rintro ai A4⟨rfl,rfl⟩;go_wp2;go_ret2;exact⟨rfl,EW.bel⟩):P:=h
def ary(q:Q)(h:Hid Q->P:=by intro h_;rintro e A4⟨a0V,Au,rfl,M0,aet,Ey⟩;have I9:=ha_ (One w a0V 0 [a0V,Au] [a0V,Au] zee [] (λ_=>True) A4) ⟨M0,UH,uX.trans (Ey.mono uX.size),λi hi=>by have:=uX.size;simp at hi;omega,λe he=>(by cases he),λ_ _=>trivial⟩;revert A4 a0V Au M0 aet Ey I9;exact h_.out):P:=h q
def alC(q:Q)(h:Hid Q->P:=by intro h_;refine zB EW.g0.range EW.g0.lt zv rfl rfl rfl rfl rfl (λK hK=>?_);revert K hK;exact h_.out):P:=h q
def arz(q:Q)(h:Hid Q->P:=by intro h_;have TQ:=zc (zD TQ EW.g0 a0h ho5);have I9:=zc (zD I9 EW.g0 a0h ho5);have EW:=ha_ (St w MN w5 [(a0l,[.slice eU n A5,.slice eT n iy],243),(a0i,h.map B,144)]) (EW.change 0 hb5 ho5 ae bq);revert TQ I9 EW;exact h_.out):P:=h q
def agH(q:Q)(h:Hid Q->P:=by intro h_;have aH:=λw' (hw:Below w.heap.size w w')=>(hw.cell (p:=⟨ie,oC+i,none⟩) (block_lt_of_cell aH)).trans aH;have T6:=λw' (hw:Below w.heap.size w w')=>(hw.cell (p:=⟨ie,oC+(i+1),none⟩) (block_lt_of_cell T6)).trans T6;revert aH T6;exact h_.out):P:=h q
def agI(h:P:=by go_wp2;go_ret;exact ZW.no uX):P:=h
def agL(q:Q)(h:Hid Q->P:=by intro h_;have EW:=zc (EW.change 0 aF oE ae ab);revert EW;exact h_.out):P:=h q
def arA(h:P:=by clear hw h e;go_enter func65,ntmps65;go_wp2_with fail;refine A6.out.mono ?_;rintro e A4⟨rfl,rfl⟩;go_wp2;go_ret2;exact⟨_,rfl,rfl⟩):P:=h
def arB(h:P:=by go_enter func90,ntmps90;go_wp2;all_goals(go_ret2;rw[IP.1];exact⟨rfl,rfl⟩)):P:=h
def agN(h:P:=by go_wp2_with fail;refine(Q4 hp n _).mono ?_;rintro e A4⟨rfl,rfl⟩;go_wp2;go_ret;exact⟨rfl,⟨ss,PW,rfl,X1.same _ _⟩,Xa.of_below (Below.refl _ _)⟩):P:=h
def alD(q:Q)(h:Hid Q->P:=by intro h_;rintro e IX⟨rfl,Ey⟩;rw[SS.2.1];have A0:=zc (A0.below Ey);have A3:=zc (A3.below Ey (zab _));have SM:=zc (SM.trans (Ey.mono SM.size));go_simp;refine hK _ _ Ey ?_;clear Ey;revert IX A0 A3 SM;exact h_.out):P:=h q
def agO(q:Q)(h:Hid Q->P:=by intro h_;have I9:=zc (I9.trans (zJ.of_below sy));revert I9;exact h_.out):P:=h q
def agR(q:Q)(h:Hid Q->P:=by intro h_;have A5:=EW.g1.cell 3 (.int .i64 1) zb;have P6:=EW.g1.cell 6 (.string (str x.c.name)) rfl;obtain⟨ade,adf,adg,PC,Ig,ND,-⟩:=Yj w3 x.c.name;have EE:=zc (And.intro PC (And.intro Ig ND));clear PC Ig ND;revert A5 P6 ade adf adg EE;exact h_.out):P:=h q
def agT(q:Q)(h:Hid Q->P:=by intro h_;refine(WV aF k.kt k.km k.ws ao tn tc t eU eT iy a8W _ (EZ.later (To _ _ EW)).hash A3 htc ae (Pk.below (To _ _ EW)) Io ae (zr.zef I9)).mono ?_;rintro e A4⟨rfl,sy⟩;rw[a92.1];have I9:=zc (zo I9 sy);revert A4 sy I9;exact h_.out):P:=h q
def agW(h:P:=by
 apply List.map_congr_left;intro Pp aQ;have:Pp<16:=by simpa using aQ
 by_cases ag:Pp<8
 ·rw[if_neg ae,if_pos ag]
 ·rw[if_pos ae,if_neg ag]):P:=h
def agX(q:Q)(h:Hid Q->P:=by intro h_;refine zp [0,1,2,3,4,5,6,7,8,9,10,11] e0 e0 ?_;exact h_.out):P:=h q
def agY(q:Q)(h:Hid Q->P:=by intro h_;refine(WV aF k.kt k.km k.ws ao tn tc t eU eT iy MO _ (EZ.later (To _ _ EW)).hash A3 htc ae (Pk.below (To _ _ EW)) I0.2 ae a9h).mono ?_;rintro e A4⟨rfl,sy⟩;rw[a98.1];have a9h:=zc (a9h.below sy);revert A4 sy a9h;exact h_.out):P:=h q
def ah0(h:P:=by obtain⟨eT,eU,eV,eW,eX,Sa,Sb,Sc,Sd,Se,a0P,a0Q,a0R,a0S,a0T,a0U,rfl⟩:=XB ha;obtain⟨ax,om,oq,ot,ov,Sl,Sn,So,Sp,Sq,a0V,MN,a0W,a0X,a0Y,a0Z,rfl⟩:=XB hb;kernel_rfl):P:=h
def arC(h:P:=by go_enter func59,ntmps59;go_wp2;go_ret;exact⟨_,rfl,uY,rfl⟩):P:=h
def arD(q:Q)(h:Hid Q->P:=by intro h_;have IZ:=zc M1;have az:=λ(x:zL w2.drew)=>(MM.drew.later x.later).blk.cell 0 _ rfl;have AV:=λ(x:zL w2.drew)=>(MM.drew.later x.later).blk.cell 1 _ rfl;have ah:=MM.blk.cell 1 _ rfl;revert IZ az AV ah;exact h_.out):P:=h q
def ah7(h:P:=by rw[IZ.o];exact Eu):P:=h
def ahc(q:Q)(h:Hid Q->P:=by intro h_;have TQ:=zc (zo TQ (hla.trans sy));have EW:=zc (EW.later (hla.trans sy));revert TQ EW;exact h_.out):P:=h q
def arE(q:Q)(h:Hid Q->P:=by intro h_;have EW:=ha_ (St w MN Na [(IX.heap.size,(zah 5 (0:UInt32)).map W,318),(om,(carried NW).map L,327),(ax,(zah 5 (0:UInt32)).map W,318),(MN,(zfu NW).map L,327)]) (by have h:=EW.o;rw[<-a58.1];exact h);revert EW;exact h_.out):P:=h q
def agp(h:P:=by have:=congrArg (·[0]?) hd;simpa using this):P:=h
def amI(q:Q)(h:Hid Q->P:=by intro h_;refine(a1A _ (MM.later uX) (A0.below uX) (EW.below uX)).mono ?_;rintro e Ev⟨aK,rfl,I4,Et⟩;have I9:=zc (yt I4 uX.size);have uX:=zc (uX.trans (Et.mono uX.size));clear Et;revert Ev aK I4 I9 uX;exact h_.out):P:=h q
def ahd(q:Q)(h:Hid Q->P:=by
 intro h_;obtain⟨t,abE⟩:∃t:Nat,x.c.n=t:=⟨x.c.n.toNat,ae⟩
 rw[abE,zbL];have hb:=hx.in.bc.1;have eP:=hx.few;have ad6:=ctxB (adc:=adc) MR.self (t:=t) ae hx hN hss zjJ;revert t abE hb eP ad6;exact h_.out):P:=h q
def ahf(h:P:=by have aM:n*2^(52-n.log2)<2^(n.log2+1)*2^(52-n.log2):=za9 zb7 (za2 _);rw[<-za7,show n.log2+1+(52-n.log2)=53 by omega] at aM;exact aM):P:=h
def arF(h:P:=by go_wp2;go_ret;exact⟨rfl,uX.trans (EB.mono Ts)⟩):P:=h
def ahh(q:Q)(h:Hid Q->P:=by intro h_;have az:=λ(x:zL w2.drew)=>((EW.drew.later x.later).bel.cell (p:=⟨xb,0,none⟩) EZ.2).trans EZ.1;have AV:=λ(x:zL w2.drew)=>(MM.later (To _ _ (EW.drew.later x.later))).blk.cell 0 _ rfl;revert az AV;exact h_.out):P:=h q
def ahj(h:P:=by rw[IZ.o];exact ED):P:=h
def amK(q:Q)(h:Hid Q->P:=by intro h_;refine(YB _ _ 16 16 16 16 a b _ IT IU ae ae (EW.drew.get 2 rfl).lies (EW.drew.get 1 rfl).lies).mono ?_;exact h_.out):P:=h q
def ahl(q:Q)(h:Hid Q->P:=by intro h_;refine wI (bb+1) [(0,true),(1,true),(2,true),(4,true),(5,true),(3,false),(6,false),(7,false)] e0 e0 ?_;exact h_.out):P:=h q
def ahn(h:P:=by
 simp only;unfold wV;repeat' split
 all_goals first|rfl|omega):P:=h
def aoH(q:Q)(h:Hid Q->P:=by intro h_;have MM:=zc hk;have EZ:=ha_ (w.cell? ⟨xb,0,none⟩=some (.pointer (some ⟨cp,0,none⟩))/\xb<w.heap.size) ⟨hx,block_lt_of_cell hx⟩;have uX:=t_ hb;have a5B:=l_ b 16 hb;revert MM EZ uX a5B;exact h_.out):P:=h q
def amL(h:P:=by
 clear az;go_wp2;go_roundw;case rel=>exact⟨j+1,ae,hM,EW⟩
 case measure=>simp[intOf];omega):P:=h
def ahq(q:Q)(h:Hid Q->P:=by intro h_;go_simp;have ah:Below w4.heap.size w4 w4.drew:=(Below.refl _ _).drew;revert ah;exact h_.out):P:=h q
def ahr(h:P:=by refine⟨λhh=>(by cases hh),?_⟩;intro c RE _;obtain⟨v,A4,eI,eg⟩:=h c RE;exact⟨v,A4,hk _ _ eI,stepsIn_wide.2 eg⟩):P:=h
def asI(q:Q)(h:Hid Q->P:=by
 intro h_;have aF:=uX.below (ah.trans sy);have eg:a0d bp bb w2.drew A4:=⟨aF.blk.trans uX.blk.symm,(abz.drew.below sy abz.lt).trans abz.symm⟩
 have abA:=zc (abA.drew.below sy abA.lt);revert aF eg abA;exact h_.out):P:=h q
def aht(h:P:=by
 go_wp2;go_roundw;case rel=>exact⟨i+1,ej,ae,by rw[<-NK.1],Om,EM,EW⟩
 case measure=>have:=NK.1;simp[intOf];omega):P:=h
def arH(q:Q)(h:Hid Q->P:=by intro h_;have ap4:=λ(w:World)(d a b x y:Nat)=>Mu (P:=Tryz.prog) w d 47 .f64 a b x y underlying47;revert ap4;exact h_.out):P:=h q
def ahu(h:P:=by simp[IntKind.wrap,IntKind.bits,IntKind.signed];omega):P:=h
def ahv(h:P:=by go_wp2;go_ret;exact⟨rfl,e7⟩):P:=h
def ahw(q:Q)(h:Hid Q->P:=by intro h_;have aQ:=k (w.alloc (.cells vs.toArray t)) (Blk.new w vs t) (zu w _);revert aQ;exact h_.out):P:=h q
def arI(h:P:=by have aH:x.size=size:=c9;simp[Instr.slice,Instr.sliceBounds,Instr.sliceBound,run_underlying ht,sizeOf,typeInfo,hq,aH,asIntOf,h1,h2,Qw]):P:=h
def ahx(h:P:=by
 unfold qX at h;split at h
 ·split at h
  ·cases h;simp
  ·cases h
 ·cases h):P:=h
def ahz(h:P:=by
 rcases zau.1 hi with rfl|hi
 ·exact .inr ⟨eg,aB⟩
 ·exact(abK i hi).imp id (λh=>⟨h.1,ae⟩)):P:=h
def arJ(q:Q)(h:Hid Q->P:=by
 intro h_;iterate 6 refine m1R ?_
 refine zB (MM.drew.range (n-1) ae).1 (MM.drew.range (n-1) ae).2 zd (by rw[zaa];exact MM.zfw (n-1) (by omega)) rfl rfl rfl rfl (λK hK=>?_);revert K hK;exact h_.out):P:=h q
def alG(q:Q)(h:Hid Q->P:=by intro h_;refine ZU (vs:=yL a4l (.slice It a2t iy) (.slice OF a2v A5) a1a a1c) (λw' hw'=>((EW.get 6 rfl).grown hw' p3).range) qp (y8 a3Q.out a3R.out) rfl rfl rfl rfl (λK hK=>?_);revert K hK;exact h_.out):P:=h q
def ahC(h:P:=by exact⟨rfl,rfl,rfl,λ_=>rfl⟩):P:=h
def ahE(q:Q)(h:Hid Q->P:=by intro h_;refine zp [0,1,2,3,4,5,6,7,8,9,10,11,12,13] e0 e0 ?_;exact h_.out):P:=h q
def ahF(h:P:=by
 have ai:u.toNat=2^k*(u.toNat/2^k):=by have:=zcX u.toNat (2^k);omega
 show(u.toNat|||v.toNat)=_;rw[ai,<-zcC hv]):P:=h
def ahG(h:P:=by clear aF;go_wp2;refine⟨rfl,_,results_tmp rfl _ _ _,?_⟩;rw[IZ.o];exact⟨by rw[SM.1];rfl,EW.bel⟩):P:=h
def alH(q:Q)(h:Hid Q->P:=by intro h_;refine ZU (vs:=yL a4l (.slice a4m a2t a4n) (.slice S0 a2v S1) a1a a1c) (λw' hw'=>(EW.g0.grown hw' p3).range) qp (y8 a3Q.out a3R.out) rfl rfl rfl rfl (λK hK=>?_);revert K hK;exact h_.out):P:=h q
def ahH(q:Q)(h:Hid Q->P:=by intro h_;refine bodyPost_ret (results_none rfl _ _ _) rfl ?_;exact h_.out):P:=h q
def ahJ(h:P:=by
 go_wp2;go_roundw;case rel=>exact⟨k+1,_,ae,rfl,I3,EW⟩
 case measure=>simp[intOf];omega):P:=h
def akl(q:Q)(h:Hid Q->P:=by intro h_;simp[execOp,ho,resolve,invoke,builtin,hd,hs,aP,Result.andThen];exact h_.out):P:=h q
def ahL(h:P:=by
 subst ai;rw[if_pos rfl] at aA;split at aA
 ·cases aA;exact hb
 ·cases aA):P:=h
def arK(q:Q)(h:Hid Q->P:=by intro h_;have aN:decide ((n:Int)<1)=false:=aN;have A0:Hid (Calls Tryz.prog 102 #[.pointer (some ⟨cp,0,none⟩)] w λe w'=>e=.returned (.int .i64 1)/\w=w'):=A0;revert aN A0;exact h_.out):P:=h q
def ahM(h:P:=by
 go_wp2;go_roundw;case rel=>exact⟨i+1,ae,hM,ac7,uX⟩
 case measure=>simp[intOf];omega):P:=h
def asJ(h:P:=by
 by_cases ai:j=i
 ·subst ai;simp[M3.o,aB]
 ·rw[if_neg ai];exact A0 i ae):P:=h
def ahP(h:P:=by exact⟨aJ,⟨_,_,aL,aW.at (az.up NP)⟩,az⟩):P:=h
def ahQ(q:Q)(h:Hid Q->P:=by intro h_;refine zB (My.range) My.lt jZ rfl rfl rfl rfl rfl (λK hK=>?_);go_simp;refine hK _ ?_;clear hK K;refine mqR ?_;exact h_.out):P:=h q
def amM(q:Q)(h:Hid Q->P:=by intro h_;go_simp;refine hK _ _ ED ?_;exact h_.out):P:=h q
def arv(h:P:=by apply Array.toList_inj.1;rw[Array.toList_map];exact hp'):P:=h
def ahR(h:P:=by
 intro hi;rcases zaC.1 hi with hi|hi
 ·simp at hi;omega
 ·exact(I3 q hi).2.1 rfl):P:=h
def ahS(h:P:=by
 intro hi;rcases zaC.1 hi with hi|hi
 ·simp at hi;omega
 ·exact(I3 p hi).2.2 rfl):P:=h
def arL(q:Q)(h:Hid Q->P:=by intro h_;refine(mE I9.ben (I9.zjT ae) (UI a6C I9.bel I9.new NL) (ae8.below I9.bel)).mono ?_;exact h_.out):P:=h q
def arM(h:P:=by go_enter func36,ntmps36;go_wp2;go_ret;rw[uY.o];exact⟨rfl,OS,Chg.refl _ _ _⟩):P:=h
def ahX(h:P:=by
 have ag:=gV p;have ag:=gV q;conv=>rhs;rw[<-gX p]
 unfold q9 zes;rw[gW];apply ziC;omega):P:=h
def ahZ(h:P:=by exact⟨λ_ a ha=>(by cases ha),λ_ a ha=>by cases ha⟩):P:=h
def amO(h:P:=by have EB:=zc Et;clear Et;go_wp2;go_ret;exact⟨_,_,rfl,NK,⟨aT,Tw⟩,uX.trans (EB.mono aT)⟩):P:=h
def ai2(h:P:=by intro ib eP;simp only[zbE] at eP;subst eP;exact qk _ _ _ _ _ _ rfl rfl rfl rfl ab z4 rfl):P:=h
def akZ(h:P:=by intro aq au aw;refine⟨w.heap.size,0,rfl,?_⟩;rw[World.cell?_alloc_mark,zbt];simpa using aw):P:=h
def al0(h:P:=by have ag:=lt8 a;have ah:a.toNat/2^n<256:=zbk (zbB _ _) ag;unfold zeR;rw[zaO ah];simp):P:=h
def ai4(h:P:=by
 rw[aw];have ag:=X5 x.c.n.toNat
 rwa [show((x.c.n.toNat:Nat):Int)=x.c.n by omega] at ag):P:=h
def ai5(h:P:=by
 split
 ·exact λv hv=>ag v hv
 ·exact ag):P:=h
def asK(q:Q)(h:Hid Q->P:=by intro h_;refine(xj Ny (min 16 16) oF (a0u a b) _ (by rw[a00,IT.o,IU.o]) A0).mono ?_;exact h_.out):P:=h q
def ai6(h:P:=by
 simp at hi;rcases hi with rfl|rfl
 ·exact aR
 ·exact Ec):P:=h
def ai8(h:P:=by exact⟨rfl,rfl,λ_ _=>rfl⟩):P:=h
def al1(h:P:=by
 rcases zbl j n with h|h
 ·exact h
 ·rw[zaf ae] at hu;cases hu):P:=h
def asL(h:P:=by rw[show(4*k+j)/4=k by omega,show(4*k+j)%4=j by omega];exact a01 (by rw[yX];exact hj)):P:=h
def asM(h:P:=by apply zdb.1;rw[zdc];exact hp'):P:=h
def aic(q:Q)(h:Hid Q->P:=by intro h_;refine zp [0,1,2,3,4,5,6,7,8,9,10] e0 e0 ?_;exact h_.out):P:=h q
def aid(q:Q)(h:Hid Q->P:=by intro h_;refine(pr kp q tb k h (kD n) j eU n A5 ox.2 _ (MM.later (EW.drew.old IZ)) RR aD ae Ok h31 (ER.below (Below.refl _ _).drew)).mono ?_;exact h_.out):P:=h q
def aih(h:P:=by have:(2:Nat)^53=9007199254740992:=bd;omega):P:=h
def aij(h:P:=by rw[IZ.o];exact zi EW.bel oE ae):P:=h
def arO(h:P:=by have:=(Blk.new A4 [.slice ao tn tc] 23).lies;simpa[YJ,Str.val,A3.o] using this):P:=h
def ail(h:P:=by go_wp2;refine zgn.result rfl rfl rfl zd P3 ⟨rfl,?_⟩;rw[IZ.o];exact PE):P:=h
def aim(h:P:=by simp[IntKind.wrap,IntKind.bits,IntKind.signed]):P:=h
def ain(h:P:=by rw[if_pos ag,if_pos ae]):P:=h
def amQ(h:P:=by refine abA.zd8 (i:=2) (v:=.slice Ny (qe s x.c).2.2.2.length oF) rfl rfl rfl qT rfl rfl vu (λw7 hb7 ho7=>hK _ _ (λ_=>zi (Below.refl _ _) ho7 Tw) ?_);clear hK K;have abA:=zc hb7;have I9:=zc ho7;clear hb7 ho7;go_simp;refine m1K ?_;refine aeR ?_;intro K hK;refine abA.zd8 (i:=0) (v:=.int .i64 (qe s x.c).2.1) rfl rfl rfl yJ rfl rfl vu (λw8 hb7 ho7=>hK _ _ (λ_=>zi (Below.refl _ _) ho7 Tw) ?_);clear hK K;have abA:=zc hb7;have I9:=zc (I9.trans ho7);clear hb7 ho7;exact am9):P:=h
def asN(h:P:=by
 go_wp2_with (refine aqB ?_);refine am7 ?_;intro A4 aF sy EW aB;go_wp2_with (refine aqB ?_);intro Ev aF sy;have EW:=zc (EW.push aF sy);have II:=aF.lt;generalize M1:w.heap.size=MN at*;generalize A4.heap.size=MP at*;have IZ:=zc M1;clear M1;go_wp2;go_loopw [9] (λc wr=>∃(i:Nat)(y:La_),i<=n/\c=.int .i64 i/\Hid (y.length=16)/\Hid ((ks.drop i).foldl both y=plusB ks/\True)/\Hid (St w MN wr [(MP,y.map B,144),(MN,(zg 16).map B,144)])) (λc _=>n-(intOf c).toNat);case atStart=>exact⟨0,zg 16,ae,rfl,Ts,⟨rfl,trivial⟩,EW⟩
 case round =>
  clear EW;obtain⟨i,y,hi,rfl,Pn,EM,EW⟩:=hrel;have Po:=l_ y 16 Pn;by_cases aB:i<n
  ·have Ac:ks[i]? = some (key ks i):=jI hG;obtain⟨Np,Nq,rfl,Nr,eI⟩:=(MM.below hV).range ae Ac;refine asH ?_;intro No OD;have EM:=ha_ ((ks.drop (i+1)).foldl both (both y (key ks i))=plusB ks/\True) ⟨by
    rw[<-EM.1,zmj (l:=ks) (i:=i) hG,zcl];congr 2;have:=zcM (l:=ks) (i:=i) hG;rw[Ac] at this;exact zaW this,trivial⟩
   exact asw
  ·exact asB):P:=h
def asO(h:P:=by
 repeat((first|refine yK rfl rfl (λK hK=>?_)|refine yc (a0d.refl _ _) rfl rfl (λK hK=>?_));go_big_quiet_step (fail);refine wpQuiet_nil (hK _ ?_);clear hK K)
 refine aeR ?_;intro K hK;refine abA.zd8 (i:=0) (v:=.int .i64 (z6 s x.c).2.1) rfl rfl rfl yJ rfl rfl vu (λw7 hb6 ho6=>hK _ _ (λ_=>⟨ho6.block bp ae,ho6.block bb ae⟩) ?_);exact amd):P:=h
def asP(h:P:=by
 go_simp;refine hK _ _ (λ_=>eg) ?_;clear hK K eg aJ ah abB;repeat((first|refine yK rfl rfl (λK hK=>?_)|refine yc (a0d.refl _ _) rfl rfl (λK hK=>?_));go_big_quiet_step (fail);refine wpQuiet_nil (hK _ ?_);clear hK K)
 refine aeR ?_;intro K hK;refine abA.zd8 (i:=2) (v:=.slice Ny (z6 s x.c).2.2.2.length oF) rfl rfl rfl qT rfl rfl vu (λw6 hb6 ho6=>hK _ _ (λ_=>⟨ho6.block bp ae,ho6.block bb ae⟩) ?_);clear hK K;have abA:=zc hb6;have I9:=zc ho6;clear hb6 ho6;go_simp;repeat((first|refine yK rfl rfl (λK hK=>?_)|refine yc (a0d.refl _ _) rfl rfl (λK hK=>?_));go_big_quiet_step (fail);refine wpQuiet_nil (hK _ ?_);clear hK K)
 refine aeR ?_;intro K hK;exact amj):P:=h
def asQ(h:P:=by refine asK ?_;rintro ai A4⟨rfl,ED⟩;have EW:=zc (EW.later ED);rw[Nd.o];refine amM ?_;clear hK K ED;refine aeA ?_;intro K hK;refine EW.g0.zd4 rfl rfl rfl zd ga gb (zj _) (λw7 hb7 ho7=>hK _ _ ?_);clear hK K;have Eu:=zi EW.bel ho7 ae;refine aeS ?_;go_wp2;refine hb7.result rfl rfl rfl zd gb ⟨rfl,?_⟩;exact ah7):P:=h
def amU(q:Q)(h:Hid Q->P:=by intro h_;refine aex ?_;intro EW;refine ame ?_;revert EW;exact h_.out):P:=h q
def alK(q:Q)(h:Hid Q->P:=by intro h_;refine aeG ?_;intro eE ey ox a6h a4F a2v abw hi MM A6 EZ;have M8:=zc hg;have I3:=zc hf;refine aeC ?_;intro EW;clear hi;revert eE ey ox a6h a4F a2v abw MM A6 EZ M8 I3 EW;exact h_.out):P:=h q
def alL(q:Q)(h:Hid Q->P:=by intro h_;refine aeG ?_;intro eE ey ox a6h a4F a2v abw hi MM A6 EZ;have M8:=zc hg;refine aeC ?_;intro EW;revert eE ey ox a6h a4F a2v abw hi MM A6 EZ M8 EW;exact h_.out):P:=h q
def asR(h:P:=by
 rintro ai A4⟨rfl,⟨a6h,aF⟩,aJ⟩;refine asy ?_;intro eg abA EM;have uY:=ha_ (xi ([]++([MP,bb]++F)) ([]++O) A4 bp (kg s x.c).1) ⟨_,_,_,_,_,_,_,aF⟩;go_simp;refine hK _ _ (λ_=>eg) ?_;clear hK K eg aJ ah;repeat((first|refine yK rfl rfl (λK hK=>?_)|refine yc (a0d.refl _ _) rfl rfl (λK hK=>?_));go_big_quiet_step (fail);refine wpQuiet_nil (hK _ ?_);clear hK K)
 refine aeR ?_;intro K hK;refine abA.zd8 (i:=0) (v:=.int .i64 (kg s x.c).2.1) rfl rfl rfl yJ rfl rfl vu (λw7 hb6 ho6=>hK _ _ (λ_=>⟨ho6.block bp ae,ho6.block bb ae⟩) ?_);exact amp):P:=h
def amX(q:Q)(h:Hid Q->P:=by intro h_;refine aex ?_;intro EW;refine aeN ?_;revert EW;exact h_.out):P:=h q
def arQ(h:P:=by have a59:=ha_ ((zfu NW).length=5) anD;have ik:om<IX.heap.size:=EW.ne _ (zad (i:=0) rfl);go_wp2_with (first|(refine EW.g2.zdS rfl rfl rfl zP Oc ?_)|(refine EW.g0.zdS rfl rfl rfl zP I7 ?_)|(refine wpList_load_mid rfl 323 (.tmp 13) rfl MN 1 rfl _ _ uY underlying323 rfl (by rw[OS.o];exact Jd.2) ?_)|(refine zf 318 ((zah 5 (0:UInt32)).map W) _ rfl rfl xX rfl ?_));intro Na aF sy;have EW:=zc (EW.push aF sy);have a0k:=aF.lt;refine arE ?_;intro EW;generalize IX.heap.size=oq at*;exact ar3):P:=h
def arR(h:P:=by refine(XC n _ h1 h31).mono ?_;rintro e w4⟨rfl,rfl⟩;go_wp2_with (refine EW.g0.zdS rfl rfl rfl zd PX ?_);go_wp2_with fail;refine(bL kp q tb k h bo n cb m _ (MM.later (EW.old IZ)) RR Nl h1 h31 (A0.below (EW.old IZ))).mono ?_;rintro e w5⟨aK,rfl,I4,M6⟩;rw[a0d.1] at I4;obtain⟨a0m,a0n,rfl,S8,_,aR⟩:=zz I4;have PK:=zc aR;have EW:=zc (EW.later M6);clear M6 aR;go_wp2_with fail;refine amB ?_;intro MF OF PL NR a0B RX I9 TQ aT aU EW;exact ara):P:=h
def arS(h:P:=by go_wp2_with (refine aqL ?_);refine am7 ?_;intro A4 aF sy EW aB;go_wp2_with (refine zh 146 _ (zW q) _ rfl rfl rfl rfl ?_);refine amb ?_;intro Ev aF sy EW aB;go_wp2_with (refine aqM ?_);refine amg ?_;intro IX aF sy EW aB;generalize M1:w.heap.size=MN at*;generalize A4.heap.size=ax at*;generalize Ev.heap.size=ax at*;refine alq ?_;intro IZ aH T6 et I2;clear M1;go_wp2_with (refine EW.g0.zdP rfl rfl rfl (cs:=zW ep) rfl zv rfl rfl (yb _) ?_);refine amq ?_;intro A4 aF oE EM;clear aH T6 et I2;exact af7):P:=h
def arT(h:P:=by go_wp2_with (refine aqB ?_);intro Ev aF sy;have EW:=zc (EW.push aF sy);have PY:=aF.lt;generalize A4.heap.size=om at*;go_wp2_with (refine EW.g0.zdP rfl rfl rfl (cs:=er.map B) rfl zd r0 a8e (zj _) ?_);refine amo ?_;intro A4 aF oE EW;go_wp2_with fail;refine(QW (some ⟨om,0,none⟩) 16 16 er _ Pn.2 ae EW.g0.lies).mono ?_;rintro ai A4⟨rfl,sy⟩;refine aex ?_;intro EW;go_wp2_with (refine EW.g1.zdP rfl rfl rfl (cs:=zW (xU er)) rfl zv rfl rfl (yb _) ?_);refine amq ?_;intro A4 aF oE EM;exact af7):P:=h
def aiz(q:Q)(h:Hid Q->P:=by intro h_;refine mqR ?_;refine Pm ?_;intro K hK;revert K hK;exact h_.out):P:=h q
def aio(q:Q)(h:Hid Q->P:=by intro h_;rintro e A4⟨rfl,sy⟩;refine aex ?_;intro EW;revert A4 sy EW;exact h_.out):P:=h q
def al8(q:Q)(h:Hid Q->P:=by intro h_;refine aeR ?_;intro K hK;go_simp;revert K hK;exact h_.out):P:=h q
def alQ(h:P:=by
 refine(vV _ 2 2 _ _ rfl ae P7 (by rw[a85.o,zac,PK.o,ze];omega)).mono ?_;rintro e Na⟨aK,rfl,OH,Eu⟩;rw[a85.o] at OH;have abn:(m++zg t).length=mn+t:=by rw[zac,PK.o,ze]
 rw[abn] at OH;obtain⟨Ny,abo,rfl,AV,_,aR⟩:=zz OH;have ER:=zc aR;have EW:=zc (EW.later Eu);have MY:=zc (MY.trans (Eu.mono aaq));clear OH aR abn;simp only[id];refine alv ?_;clear hK K Eu;refine Pm ?_;intro K hK;exact afw):P:=h
def arU(h:P:=by rintro e MF⟨rfl,Eu⟩;rw[SS.2.2];have A3:=zc (A3.below Eu (zab _));have SM:=zc (SM.trans (Eu.mono SM.size));refine alv ?_;clear hK K Eu;refine jd rfl rfl aa 189 _ _ _ rfl rfl (bC q SP SQ SR NK Pr MM) (λK hK=>?_);refine hK _ ?_;clear hK K;go_simp;refine Sm ?_;intro K hK;refine U6 189 _ (.pointer (some ⟨q,0,none⟩)::(SP.map B++(SQ.map B++SR.map B))) _ rfl rfl rfl ?_;exact amr):P:=h
def an3(h:P:=by rintro ai A4⟨rfl,rfl⟩;go_wp2;go_ret2;exact aeU):P:=h
def aiE(h:P:=by
 have eU:adH<=4096:=ae;by_cases eV:ae3<1
 ·exact aeI
 have eV:1<=ae3:=ae;by_cases eW:256<ae3
 ·exact aeI
 have eW:ae3<=256:=ae;by_cases eX:64<adH
 ·exact agI
 have eX:adH<=64:=ae;by_cases Sa:4<ae3
 ·exact agI
 have Sa:ae3<=4:=ae;exact aeI):P:=h
def aoK(h:P:=by have Np:=uX.blk.cell 3 a2v rfl;have a9R:=QP;have adF:=QQ;go_wp2_with fail;refine SW.mono ?_;rintro ai Na⟨rfl,sy⟩;have IM:=zc sy;have aT:=sy.size;obtain⟨An,eI⟩:=n_ ((ju s x.c).2);rw[<-eI];have uY:=ha_ (ju s x.c=(s,An)/\An.2.1=0) anH;clear eI a1B Pp TC Np a9R adF iy A5 aD;obtain⟨ade,adf,adg,PC,Ig,ND,Eh⟩:=Yj Na An.2.2;exact ami):P:=h
def aiG(q:Q)(h:Hid Q->P:=by intro h_;refine mqR ?_;refine aeA ?_;intro K hK;revert K hK;exact h_.out):P:=h q
def aiF(h:P:=by go_wp2;go_ret2;exact aeU):P:=h
def aiI(q:Q)(h:Hid Q->P:=by intro h_;refine aex ?_;intro EW;have aT:=EW.size;revert EW aT;exact h_.out):P:=h q
def aiL(q:Q)(h:Hid Q->P:=by intro h_;refine afl ?_;intro K hK;go_simp;revert K hK;exact h_.out):P:=h q
def aoL(q:Q)(h:Hid Q->P:=by intro h_;have P7:=ha_ (Two n (qo a0b,xw a0b)) (by have:=Two.start a0b;rwa [NA.o] at this);rw[a0e.1];have MM:=zc hk;have Ii:=zc hN;have a0f:=zc hs;have A2:=zc hlen;refine af6 ?_;intro Nl A0;obtain⟨MN,M1⟩:=n_ w.heap.size;have IZ:=ha_ (w.heap.size=MN) M1.symm;have EW:=ha_ (St w MN w []) (by rw[M1];exact St.start w);have ib:((n:Int)==0)=false:=bq;revert P7 MM Ii a0f A2 Nl A0 MN M1 IZ EW ib;exact h_.out):P:=h q
def an4(h:P:=by rintro ai A4⟨rfl,sy⟩;refine aex ?_;intro EW;rw[OS.1];refine ame ?_;clear hK K;refine aeA ?_;intro K hK;refine EW.g0.zd4 rfl rfl rfl zd ga a1w (zj _) (λw7 hb7 ho7=>hK _ _ ?_);clear hK K;have Eu:=zi EW.bel ho7 ae;refine aeS ?_;go_wp2;refine hb7.result rfl rfl rfl zd a1w ⟨rfl,?_⟩;exact ah7):P:=h
def aiM(q:Q)(h:Hid Q->P:=by intro h_;have I9:=zc (zo I9 sy);refine aex ?_;intro EW;revert I9 EW;exact h_.out):P:=h q
def aiN(q:Q)(h:Hid Q->P:=by intro h_;rintro e A4⟨rfl,hbel⟩;refine afO ?_;intro EW;revert A4 hbel EW;exact h_.out):P:=h q
def alT(q:Q)(h:Hid Q->P:=by
 intro h_;iterate 5 refine m1R ?_
 refine zB (EW.drew.get 1 rfl).range (EW.drew.get 1 rfl).lt zd PX rfl rfl rfl rfl (λK hK=>?_);refine ali ?_;clear hK K;iterate 5 refine m1R ?_
 have Am:MN<=wr.drew.heap.size:=EW.drew.size;refine Pm ?_;intro K hK;refine aid ?_;rintro e Ev⟨aK,rfl,I4,Et⟩;revert Am K hK Ev aK I4 Et;exact h_.out):P:=h q
def aiO(q:Q)(h:Hid Q->P:=by intro h_;refine aeR ?_;intro K hK;refine afk ?_;intro ah;revert K hK ah;exact h_.out):P:=h q
def aiP(q:Q)(h:Hid Q->P:=by intro h_;obtain⟨aS,aO,aT,aU,aV⟩:=info_parts jc;refine aeW ?_;intro NK;revert aS aO aT aU aV NK;exact h_.out):P:=h q
def arV(h:P:=by have az:=h.cells.cell 3 (.int .i64 v.zdO) rfl;have I9:=zc (mh n h hn);have NI:=zc hd;generalize v.size=oW at*;generalize v.zdO=ss at*;have aN:decide ((n:Int)>=(ss:Int))=false:=bq;have eK:decide (ss<=n)=false:=bq;clear h hd hn;exact arl):P:=h
def aiT(q:Q)(h:Hid Q->P:=by intro h_;have A3:=zc ht;have Pk:=zc hlt;refine af6 ?_;intro Nl A0;revert A3 Pk Nl A0;exact h_.out):P:=h q
def an6(h:P:=by rintro ai Ev⟨rfl,sy⟩;rw[Pu.1];refine aex ?_;intro EW;clear a1B;go_wp2_with (refine HM ?_);intro IX aF oE;have EM:=zc (zi EW.bel oE ae);go_wp2;refine aF.result rfl rfl rfl zd a3W ⟨rfl,?_⟩;exact afC):P:=h
def an7(q:Q)(h:Hid Q->P:=by intro h_;intro w3 aF sy;have EW:=zc (EW.push aF sy);have aB:=aF.lt;have aT:=EW.size;refine afa ?_;intro a9X aX;revert w3 aF sy EW aB aT a9X aX;exact h_.out):P:=h q
def aiU(h:P:=by
 go_wp2;first|(rw[Exit.zdZ];go_ret)|go_ret
 rw[IP.1];exact aeU):P:=h
def aiW(q:Q)(h:Hid Q->P:=by intro h_;have IU:=l_ b 16 hb;have Nj:=zc hb;refine aeC ?_;intro EW;have Ng:=hk.blk.lt;have NB:=hk.tab.tab.lt;have NC:=hk.tab.boxes.lt;have MR:=(hk.range 0 (by have:=hk.two;omega)).2;have aD:=hk.two;have ND:=hk.zgF;have NF:=hk.most;have MM:=zc hk;revert IU Nj EW Ng NB NC MR aD ND NF MM;exact h_.out):P:=h q
def arW(h:P:=by clear ag;go_enter func112,ntmps112;go_wp2_with (refine aqK ?_);intro A4 aF sy;have az:=aF.cell 0 _ rfl;have uX:=zc sy;go_wp2_with fail;refine amI ?_;intro Ev aK I4 I9 uX;exact af9):P:=h
def arX(q:Q)(h:Hid Q->P:=by
 intro h_;iterate 4 refine m1R ?_
 have EW:=zc EW.drew;have MY:=zc (MY.drew);have P5:=zc (P5.below (EW.old IZ));refine Sm ?_;intro K hK;refine VH 23 5 (.int .u8 0) 1 t rfl rfl rfl underlying23 z5 rfl rfl rfl ae ew (λw5 hb5 zdV=>?_);revert EW MY P5 K hK w5 hb5 zdV;exact h_.out):P:=h q
def an8(h:P:=by go_wp2_with fail;refine SW.mono ?_;rintro ai A4⟨aK,rfl,I4,sy⟩;exact amh):P:=h
def aiY(h:P:=by go_simp;refine hK _ _ PD ?_;clear hK K PD;refine aeA ?_;intro K hK;refine EW.g0.zd4 rfl rfl rfl zd ga P3 (zj _) (λw13 zgn zgd=>hK _ _ ?_);clear hK K;have PE:=zi EW.bel zgd ae;refine aeS ?_;exact ail):P:=h
def aoM(q:Q)(h:Hid Q->P:=by intro h_;have a0L:=zc hb;have I9:=zc (zJ.refl sb w);have uY:=zc hr;have OS:=zc hv;refine af6 ?_;intro Nl A0;refine aow ?_;intro a6O;revert a0L I9 uY OS Nl A0 a6O;exact h_.out):P:=h q
def arY(h:P:=by clear hm;go_enter func87,ntmps87;go_wp2_with fail;refine(NK _).mono ?_;rintro e A4⟨rfl,rfl⟩;go_wp2;go_ret;rw[ac9.1];exact aeU):P:=h
def arZ(q:Q)(h:Hid Q->P:=by intro h_;have MM:=zc (MM.only ho7 ae ae ae ae);have EW:=zc (EW.change 1 hb7 ho7 ae bq);refine aeS ?_;revert MM EW;exact h_.out):P:=h q
def aj1(q:Q)(h:Hid Q->P:=by intro h_;have MM:=zc hk;have Ng:=hk.blk.lt;refine aeC ?_;intro EW;have Ps:=zc hk.fit.li;have Pt:=zc hk.fit.lj;have NA:=zc hk.fit.ll;have NK:=l_ k.i 16 hk.fit.li;have Pr:=l_ k.j 16 hk.fit.lj;have A0:=l_ k.l 16 hk.fit.ll;revert MM Ng EW Ps Pt NA NK Pr A0;exact h_.out):P:=h q
def as0(h:P:=by go_enter func118,ntmps118;go_wp2;go_ret3;exact aeU):P:=h
def aj7(h:P:=by simp only[zbE] at hf;subst hf;exact afS):P:=h
def alW(q:Q)(h:Hid Q->P:=by intro h_;refine alC ?_;intro K hK;refine ali ?_;clear hK K;refine mqR ?_;exact h_.out):P:=h q
def ana(h:P:=by rintro e A4⟨aK,rfl,I4,sy⟩;rw[uY.1] at I4;have I9:=zc (yt I4 EW.size);refine aex ?_;intro EW;clear az;go_wp2;go_ret2;exact⟨_,rfl,tx,hV⟩):P:=h
def aj8(h:P:=by rintro e A4⟨aK,rfl,RV,Eu⟩;have I9:=zc (yt RV EW.size);have uX:=zc (EW.bel.trans (Eu.mono EW.size));clear RV Eu;exact af9):P:=h
def aja(q:Q)(h:Hid Q->P:=by intro h_;refine Pm ?_;intro K hK;refine hK _ _ (zu _ _) ?_;clear hK K;exact h_.out):P:=h q
def ajc(h:P:=by intro A4 aF oE;have ED:=zi EW.bel oE ae;go_wp2;refine aF.result rfl rfl rfl zd RC ⟨rfl,?_⟩;exact ahj):P:=h
def aoO(h:P:=by have a57:=jo 21;have uY:=ha_ (ju s x.c=(s,(21,0,[]))/\True) ⟨EA,trivial⟩;go_wp2_with (refine HW ?_);exact amm):P:=h
def as1(h:P:=by go_enter func194,ntmps194;exact aeJ):P:=h
def as2(h:P:=by go_enter func193,ntmps193;exact aeJ):P:=h
def as3(h:P:=by go_enter func150,ntmps150;exact aeJ):P:=h
def asS(q:Q)(h:Hid Q->P:=by intro h_;have ax:=λ(x':zO (a0d bp bb) w2.drew)=>(show Blk x'.val bp (qd eE ey a4F a2v abw) 62 from x'.rel.one.trans uX.blk).cell 2 a4F rfl;refine asE ?_;intro ef;revert ax ef;exact h_.out):P:=h q
def anc(h:P:=by rintro e A4⟨aK,rfl,I4,sy⟩;have I9:=zc (yt I4 uX.size);have uX:=zc (uX.trans (sy.mono uX.size));exact af9):P:=h
def as5(h:P:=by go_enter func77,ntmps77;exact aeJ):P:=h
def ane(h:P:=by intro A4 hb ho;rw[xH,P7.1,<-Pu.1] at hb;refine afI ?_;intro EW;exact amL):P:=h
def anf(h:P:=by intro A4 aF oE;have uX:=zc aF;have I9:=zc oE;exact agm):P:=h
def alX(q:Q)(h:Hid Q->P:=by intro h_;refine mq0 ?_;refine z7 (Blk.zea I5.blk 1 16 _ (zjf a9i.1)) I5.blk.lt zd a5S rfl rfl rfl (λK hK=>?_);refine ali ?_;clear hK K;refine mq0 ?_;exact h_.out):P:=h q
def as6(q:Q)(h:Hid Q->P:=by
 intro h_;iterate 4 refine m1R ?_
 refine zB (EW.drew.get 1 rfl).range (EW.drew.get 1 rfl).lt zd IU rfl rfl rfl rfl (λK hK=>?_);refine ali ?_;clear hK K;exact h_.out):P:=h q
def ang(h:P:=by have aH:=EW.g0.cell 0 _ rfl;go_wp2_with fail;refine(cG n _ (OS.below EW.bel) Nl).mono ?_;exact amH):P:=h
def anh(h:P:=by refine amq ?_;intro A4 aF oE EM;go_wp2;refine aF.result rfl rfl rfl zS rfl ⟨rfl,?_⟩;exact afC):P:=h
def as7(q:Q)(h:Hid Q->P:=by intro h_;refine zB eI (MM.drew.range 0 ae).2 zd (by rw[zaa];exact MM.zfw 0 (by omega)) rfl rfl rfl rfl (λK hK=>?_);refine ali ?_;clear hK K;exact h_.out):P:=h q
def as8(h:P:=by go_wp2_with fail;refine amz ?_;intro MF aK OF I4 NR ED RX I9 TQ aT aU EW;exact arb):P:=h
def ajl(h:P:=by
 split
 ·exact⟨rfl,rfl,rfl,λh=>absurd e h⟩
 ·exact ahC):P:=h
def as9(h:P:=by go_enter func110,ntmps110;exact aeJ):P:=h
def anj(h:P:=by have aH:=EW.g0.cell 0 _ rfl;go_wp2_with fail;refine(Jg n _ _).mono ?_;exact amH):P:=h
def asa(h:P:=by go_enter func87,ntmps87;go_wp2;go_ret;rw[uY.1];exact aeU):P:=h
def asb(h:P:=by go_enter func137,ntmps137;exact aeJ):P:=h
def asc(h:P:=by go_enter func102,ntmps102;exact aeJ):P:=h
def asd(h:P:=by
 rintro IX rfl;refine arX ?_;intro EW MY P5 K hK w5 hb5 zdV;clear I6;rw[tq] at hb5;refine aoC ?_;intro EW MY P5 A0 aV;clear hK K hb5 zdV;generalize w3.heap.size=om at*;refine aja ?_;have P7:=ha_ (yI (w5.alloc (.cells #[.slice bo mn mc,.slice (some ⟨om,0,none⟩) t t] 23)) (some ⟨w5.heap.size,0,none⟩) [⟨bo,mc,m⟩,⟨some ⟨om,0,none⟩,t,zg t⟩]) ⟨by
  have:=(Blk.new w5 [.slice bo mn mc,.slice (some ⟨om,0,none⟩) t t] 23).lies;simpa[Str.val,PK.o,ze] using this,by
  intro ej eg;simp at eg;rcases eg with rfl|rfl
  ·exact⟨by rw[PK.o];exact hmc,P5.below (zu _ _)⟩
  ·exact⟨ev,A0.below (zu _ _)⟩⟩
 refine arj ?_;intro a85 EW MY MF Am;rw[<-Am] at P7 EW MY;rw[<-Am];have aaq:=MY.size;clear Am;refine Pm ?_;intro K hK;exact alQ):P:=h
def asT(h:P:=by go_wp2_with fail;refine zp [0,1,2,3,4] e0 e0 ?_;rintro A4 rfl;refine aiz ?_;intro K hK;refine amK ?_;rintro ai A4⟨aK,rfl,I4,M6⟩;obtain⟨Ny,oF,rfl,_,_,aR⟩:=zz I4;refine amF ?_;intro EW A0;clear aR hK K M6;refine Pm ?_;intro K hK;exact asQ):P:=h
def anm(h:P:=by rintro e A4⟨rfl,sy⟩;rw[a9b.1];have a9h:=zc (a9h.below sy);refine amU ?_;intro EW;clear hK K;refine Pm ?_;intro K hK;refine(Ws eU eT iy MO a99 _ I0.2 a9f ae a9h).mono ?_;rintro e A4⟨aK,rfl,I4,sy⟩;rw[TD] at I4;have I9:=zc (yt I4 EW.size);refine amU ?_;intro EW;clear hK K;refine afE ?_;go_wp2;go_ret2;exact⟨_,rfl,I9,EW.bel⟩):P:=h
def ano(h:P:=by rw[<-Am] at P7 EW aU;rw[<-Am];clear Am;refine Pm ?_;intro K hK;refine(vV _ 3 3 _ _ rfl ae P7 (by rw[a85.o];exact P3)).mono ?_;rintro e OG⟨OF,rfl,NR,sy⟩;rw[a85.o] at NR;have NO:=zc (yt NR aU);refine amU ?_;intro EW;clear hK K;refine afE ?_;go_wp2;go_ret;exact⟨_,rfl,NO,EW.bel⟩):P:=h
def asU(h:P:=by rintro ai A4⟨rfl,aF,aJ⟩;refine asx ?_;intro eg abA EM uY;go_simp;refine hK _ _ (λ_=>eg) ?_;clear hK K eg aJ ah;exact asO):P:=h
def aoS(h:P:=by
 have a1B:IntKind.u64.wrap x.c.n=(au.toNat:Int):=by
  exact ai4
 rw[<-aw] at SW;clear aw;have Pp:=EW.g2.cell 0 (.pointer (some ⟨bp,0,none⟩)) rfl;have TC:=EW.g1.cell 6 (.string (str x.c.name)) rfl;exact aoK):P:=h
def asq(h:P:=by
 rintro ai IX⟨⟨Ny,oF,rfl,abB⟩,sy⟩;refine aop ?_;intro oZ abA adb uX EM a6q;refine hK _ _ (λ_=>oZ) ?_;clear hK K oZ sy ah abB;iterate 4 refine m1K ?_
 refine aeR ?_;intro K hK;exact amQ):P:=h
def aoQ(h:P:=by
 rintro ai IX⟨⟨Ny,oF,rfl,abB⟩,sy⟩;refine aop ?_;intro oZ abA adb uX EM a6q;refine hK _ _ (λ_=>oZ) ?_;clear hK K oZ ah abB;iterate 4 refine m1K ?_
 refine aeR ?_;intro K hK;exact amQ):P:=h
def ajA(h:P:=by
 clear ax;by_cases eT:adH<16
 ·exact aeI
 have eT:16<=adH:=ae;by_cases eU:4096<adH
 ·exact aeI
 exact aiE):P:=h
def anq(h:P:=by go_wp2_with fail;refine SW.mono ?_;exact an3):P:=h
def asV(h:P:=by rintro ai A4⟨Ny,oF,rfl,abB,aF,aJ⟩;refine asx ?_;intro eg abA EM uY;have a6q:=ha_ (yq [] w2.heap.size A4 Ny oF (z6 s x.c).2.2.2) abB;exact asP):P:=h
def asf(h:P:=by rintro ai A4⟨rfl,sy⟩;rw[Pn.1];refine aex ?_;intro EW;refine agD ?_;intro ag;exact arT):P:=h
def asW(h:P:=by go_wp2_with (refine aqC ?_);refine amf ?_;intro A4 hb sy EW aB;go_wp2_with (refine aqD ?_);refine amt ?_;intro Ev hb sy EW aB;go_wp2_with (refine aqB ?_);intro IX hb sy;have EW:=zc (EW.push hb sy);have aB:=hb.lt;generalize M1:w.heap.size=MN at*;generalize A4.heap.size=MO at*;generalize Ev.heap.size=MP at*;have IZ:=zc M1;clear M1;exact asT):P:=h
def anu(h:P:=by refine Pm ?_;intro K hK;refine agY ?_;intro A4 sy a9h;refine amU ?_;intro EW;clear hK K;refine Pm ?_;intro K hK;refine(fX a93 a96 _).mono ?_;exact anm):P:=h
def ass(h:P:=by rw[<-Ew];clear ag Ew;have eA:=Zv;go_wp2_with fail;refine agX ?_;clear aN az eA;exact asd):P:=h
def anw(a_:A_)(q:Q)(h:A_->Hid Q->P:=by intro a_ h_;intro z_ y_ x_;have w_:=zc (a_.push y_ x_);have v_:=y_.lt;revert z_ y_ x_ w_ v_;exact h_.out):P:=h a_ q
def ajJ(a_:A_)(b_:B_)(c_:C_)(q:Q)(h:A_->B_->C_->Hid Q->P:=by intro a_ b_ c_ h_;have z_:=zc a_;have y_:=zc b_;have x_:=zc c_;revert z_ y_ x_;exact h_.out):P:=h a_ b_ c_ q
def ast(a_:A_)(q:Q)(h:A_->Hid Q->P:=by intro a_ h_;intro z_ y_ x_;have w_:=zc (a_.push y_ x_);have v_:=y_.lt;clear y_;revert z_ x_ w_ v_;exact h_.out):P:=h a_ q
def asi(a_:A_)(q:Q)(h:A_->Hid Q->P:=by intro a_ h_;refine qA (λz_ y_ x_ w_ v_=>?_);go_simp;have u_:=zc ((a_.later x_).add (show Blk y_ z_ ((zg 16).map B) 144 from v_));clear x_ v_;revert z_ y_ w_ u_;exact h_.out):P:=h a_ q
def ajU(a_:A_)(q:Q)(h:A_->Hid Q->P:=by intro a_ h_;have z_:=zc (And.intro a_ trivial);revert z_;exact h_.out):P:=h a_ q
def ajW(a_:A_)(b_:B_)(q:Q)(h:A_->B_->Hid Q->P:=by intro a_ b_ h_;rintro e z_⟨rfl,y_⟩;have x_:=zc (zo a_ y_);have w_:=zc (b_.trans (y_.mono b_.size));revert z_ y_ x_ w_;exact h_.out):P:=h a_ b_ q
def anz(a_:A_)(b_:B_)(q:Q)(h:A_->B_->Hid Q->P:=by intro a_ b_ h_;intro z_ y_ x_;have w_:=zc (a_.push y_ x_);have v_:=zc (b_.later x_);have u_:=y_.lt;revert z_ y_ x_ w_ v_ u_;exact h_.out):P:=h a_ b_ q
def anx(q:Q)(h:Hid Q->P:=by intro h_;intro z_ y_ x_;have w_:=zc y_;have v_:=zc x_;revert z_ y_ x_ w_ v_;exact h_.out):P:=h q
def ajY(a_:A_)(b_:B_)(q:Q)(h:A_->B_->Hid Q->P:=by intro a_ b_ h_;refine a_.result rfl rfl rfl zd b_ ⟨rfl,?_⟩;exact h_.out):P:=h a_ b_ q
def asj(a_:A_)(q:Q)(h:A_->Hid Q->P:=by intro a_ h_;rintro e z_⟨rfl,y_⟩;have x_:=zc (a_.later y_);clear y_;revert z_ x_;exact h_.out):P:=h a_ q
def ak2(q:Q)(h:Hid Q->P:=by intro h_;refine zQ rfl rfl (λz_ y_ x_ w_ v_=>?_);go_simp;revert z_ y_ x_ w_ v_;exact h_.out):P:=h q
def anA(a_:A_)(q:Q)(h:A_->Hid Q->P:=by intro a_ h_;intro z_ y_ x_;have w_:=zc (a_.push y_ x_);have v_:=y_.lt;revert z_ y_ x_ w_ v_;exact h_.out):P:=h a_ q
def ak5(a_:A_)(q:Q)(h:A_->Hid Q->P:=by intro a_ h_;refine mqR ?_;have z_:=zc a_.drew;revert z_;exact h_.out):P:=h a_ q
def ak9(a_:A_)(h:A_->P:=by intro a_;exact⟨rfl,a_⟩):P:=h a_
def asl(a_:A_)(q:Q)(h:A_->Hid Q->P:=by intro a_ h_;rintro e z_⟨y_,rfl,x_,w_⟩;have v_:=zc (a_.trans (w_.mono a_.size));have u_:=zc x_;clear x_ w_;revert z_ y_ v_ u_;exact h_.out):P:=h a_ q
def asm(a_:A_)(b_:B_)(c_:C_)(q:Q)(h:A_->B_->C_->Hid Q->P:=by intro a_ b_ c_ h_;refine(gE _ (a_.below b_.bel) (c_.below b_.bel)).mono ?_;rintro e z_⟨rfl,y_⟩;have x_:=zc (b_.bel.trans (y_.mono b_.bel.size));clear y_;revert z_ x_;exact h_.out):P:=h a_ b_ c_ q
def ajX(a_:A_)(q:Q)(h:A_->Hid Q->P:=by intro a_ h_;rintro e z_⟨rfl,y_⟩;rw[a_.1];revert z_ y_;exact h_.out):P:=h a_ q
def am5(a_:A_)(b_:B_)(q:Q)(h:A_->B_->Hid Q->P:=by intro a_ b_ h_;refine zB (a_.drew.get 1 rfl).range (a_.drew.get 1 rfl).lt zd b_ rfl rfl rfl rfl (λz_ y_=>?_);revert z_ y_;exact h_.out):P:=h a_ b_ q
def asn(a_:A_)(b_:B_)(c_:C_)(q:Q)(h:A_->B_->C_->Hid Q->P:=by intro a_ b_ c_ h_;refine(gE _ (a_.below b_) (c_.below b_)).mono ?_;rintro e z_⟨rfl,y_⟩;have x_:=zc (b_.trans (y_.mono b_.size));clear y_;revert z_ x_;exact h_.out):P:=h a_ b_ c_ q
end
abbrev La_:=List UInt8
abbrev OA:=Option Addr
abbrev Lb_:=List Value
def n_{A:Sort _}(x:A):∃y,y=x:=⟨_,rfl⟩
def ha_(P:Prop)(h:P):RowKit.Hid P:=h
def t_{P:Prop}(h:P):RowKit.Hid (P/\True):=⟨h,trivial⟩
def s_{A:Sort _}{a b:A}(h:a=b):RowKit.Hid (b=a/\True):=⟨h.symm,trivial⟩
@[simp,go_sem] abbrev pa_(b:Nat):Value:=.pointer (some ⟨b,0,none⟩)
def mqR{P Q : Prop}(hq : Q)(h : RowKit.Hid Q -> P := by intro h_; (repeat(refine Zy rfl rfl (λK hK => ?_); go_big_quiet_step (fail); refine wpQuiet_nil (hK _ ?_); clear hK K)); exact RowKit.Hid.out h_):P := h hq
def mq0{P Q : Prop}(hq : Q)(h : RowKit.Hid Q -> P := by intro h_; (repeat(refine zfN rfl rfl rfl (λK hK => ?_); go_big_quiet_step (fail); refine wpQuiet_nil (hK _ ?_); clear hK K)); exact RowKit.Hid.out h_):P := h hq
def mqW{P Q : Prop}(hq : Q)(h : RowKit.Hid Q -> P := by intro h_; (repeat(first|(refine Zy rfl rfl (λK hK => ?_); go_big_quiet_step (fail); refine wpQuiet_nil (hK _ ?_); clear hK K)|(refine zg1 rfl aa (λK hK => ?_); go_simp; refine hK _ ?_; clear hK K))); exact RowKit.Hid.out h_):P := h hq
def mqK{P Q : Prop}(hq : Q)(h : RowKit.Hid Q -> P := by intro h_; (repeat((first|refine yK rfl rfl (λK hK => ?_)|refine yc Below.refl rfl rfl (λK hK => ?_)); go_big_quiet_step (fail); refine wpQuiet_nil (hK _ ?_); clear hK K)); exact RowKit.Hid.out h_):P := h hq
def mqN{P Q : Prop}(hq : Q)(h : RowKit.Hid Q -> P := by intro h_; (repeat((first|refine Nn rfl rfl (λK hK => ?_)|refine zgl rfl rfl (λK hK => ?_)); go_big_quiet_step (fail); refine wpQuiet_nil (hK _ ?_); clear hK K)); exact RowKit.Hid.out h_):P := h hq
def mqB{P Q : Prop}(hq : Q)(h : RowKit.Hid Q -> P := by intro h_; (repeat((first|refine zgD rfl rfl (λK hK => ?_)|refine Mr rfl rfl (λK hK => ?_)); go_big_quiet_step (fail); refine wpQuiet_nil (hK _ ?_); clear hK K)); exact RowKit.Hid.out h_):P := h hq
def m1R{P Q : Prop}(hq : Q)(h : RowKit.Hid Q -> P := by intro h_; (refine Zy rfl rfl (λK hK => ?_); go_big_quiet_step (fail); refine wpQuiet_nil (hK _ ?_); clear hK K); exact RowKit.Hid.out h_):P := h hq
def m10{P Q : Prop}(hq : Q)(h : RowKit.Hid Q -> P := by intro h_; (refine zfN rfl rfl rfl (λK hK => ?_); go_big_quiet_step (fail); refine wpQuiet_nil (hK _ ?_); clear hK K); exact RowKit.Hid.out h_):P := h hq
def m1K{P Q : Prop}(hq : Q)(h : RowKit.Hid Q -> P := by intro h_; (refine yK rfl rfl (λK hK => ?_); go_big_quiet_step (fail); refine wpQuiet_nil (hK _ ?_); clear hK K); exact RowKit.Hid.out h_):P := h hq
def _root_.Go.RowKit.Hid.o{p : Prop}(h : Hid p):p := h
def zc{p : Prop}(h : p):RowKit.Hid p := h
def zeX(a b:UInt8):UInt8:=a&&&b
def or8(a b:UInt8):UInt8:=a|||b
def yj(a b:UInt8):UInt8:=a^^^b
def zeR(a:UInt8)(n:Nat):UInt8:=zaq (a.toNat/2^n)
def kT(a:UInt8)(n:Nat):UInt8:=zaq (a.toNat*2^n)
def ofInt8(a:UInt8):zaM 8 (a.toNat:Int)=a.toBitVec:=by rw[zb8];exact zch _ _ |>.trans ab
def UJ(n:Nat)(h:n<256):IntKind.u8.wrap (n:Int)=n:=by exact ahu
def lt8(a:UInt8):a.toNat<256:=a.toNat_lt
@[go_sem high] theorem Bw(a b:UInt8):bits .and .u8 (a.toNat:Int) (b.toNat:Int)=((zeX a b).toNat:Int):=by show IntKind.u8.wrap ((zaM 8 (a.toNat:Int)&&&zaM 8 (b.toNat:Int)).toNat:Int)=_;rw[ofInt8,ofInt8,UJ _ (zbA _)];rfl
@[go_sem high] theorem DB(a b:UInt8):bits .or .u8 (a.toNat:Int) (b.toNat:Int)=((or8 a b).toNat:Int):=by show IntKind.u8.wrap ((zaM 8 (a.toNat:Int)|||zaM 8 (b.toNat:Int)).toNat:Int)=_;rw[ofInt8,ofInt8,UJ _ (zbA _)];rfl
@[go_sem high] theorem zij(a b:UInt8):bits .xor .u8 (a.toNat:Int) (b.toNat:Int)=((yj a b).toNat:Int):=by show IntKind.u8.wrap ((zaM 8 (a.toNat:Int)^^^zaM 8 (b.toNat:Int)).toNat:Int)=_;rw[ofInt8,ofInt8,UJ _ (zbA _)];rfl
def zkw(n:Nat)(h:n<256):(n:Int)=((zaq n).toNat:Int):=by rw[zaO h]
@[go_sem high] theorem Hi(a:UInt8)(n:Nat)(h:n<256):bits .and .u8 (a.toNat:Int) (no_index (OfNat.ofNat n))=((zeX a (zaq n)).toNat:Int):=by rw[<-Bw,<-zkw n h];rfl
@[go_sem high] theorem Hl(a:UInt8)(n:Nat)(h:n<256):bits .or .u8 (a.toNat:Int) (no_index (OfNat.ofNat n))=((or8 a (zaq n)).toNat:Int):=by rw[<-DB,<-zkw n h];rfl
@[go_sem] theorem zjZ(a:UInt8)(n:Nat):(a.toNat:Int)/2^n=((zeR a n).toNat:Int):=by exact al0
@[go_sem] theorem zj0(a:UInt8)(n:Nat):(a.toNat:Int)*2^n%256=((kT a n).toNat:Int):=by unfold kT;rw[zbh];simp
def sB{p:UInt8->Prop}(h:∀n,n<256->p (zaq n))(b:UInt8):p b:=by
 have:=h b.toNat b.toNat_lt
 rwa [UInt8.ofNat_toNat] at this
abbrev W(x:UInt32):Value:=.int .u32 (x.toNat:Int)
abbrev L(x:UInt64):Value:=.int .u64 (x.toNat:Int)
def Vc(a b:UInt8):UInt8:=a+b
def ZA(a b:UInt8):UInt8:=a-b
def Vd(a b:UInt8):UInt8:=a*b
def ZB(n:Int):IntKind.u8.wrap n=n%256:=by exact aim
def fc(a b:UInt8):IntKind.u8.wrap ((a.toNat:Int)+(b.toNat:Int))=((Vc a b).toNat:Int):=by rw[ZB];unfold Vc;rw[UInt8.toNat_add];simp
def Ve(a b:UInt8):IntKind.u8.wrap ((a.toNat:Int)-(b.toNat:Int))=((ZA a b).toNat:Int):=by rw[ZB];unfold ZA;rw[UInt8.toNat_sub];have:=lt8 a;have:=lt8 b;omega
def fe(a b:UInt8):IntKind.u8.wrap ((a.toNat:Int)*(b.toNat:Int))=((Vd a b).toNat:Int):=by rw[ZB];unfold Vd;rw[UInt8.toNat_mul];simp
@[go_sem high] theorem Hj(a:UInt8)(n:Nat)(h:n<256):IntKind.u8.wrap ((a.toNat:Int)*(no_index (OfNat.ofNat n)))=((Vd a (zaq n)).toNat:Int):=by rw[<-fe,<-zkw n h];rfl
@[go_sem high] theorem zhZ(a b:UInt8):IntKind.u8.wrap ((a.toNat:Int)*(b.toNat:Int))=((Vd a b).toNat:Int):=fe a b
def UK(a:UInt8)(n:Nat):(a.toNat:Int)/2^n=((zeR a n).toNat:Int):=by exact al0
def UL(a:UInt8)(n:Nat):IntKind.u8.wrap ((a.toNat:Int)*2^n)=((kT a n).toNat:Int):=by rw[ZB];unfold kT;rw[zbh];simp
@[go_sem high] theorem DC(a:UInt8)(yk:IntKind)(n:Nat)(h:n<=8):Op.shift .shr .u8 (a.toNat:Int) yk (no_index (OfNat.ofNat n))=pure (.int .u8 ((zeR a n).toNat:Int)):=by rw[<-UK];exact shift_shr .u8 yk _ (n:Int) ae af
@[go_sem high] theorem DD(a:UInt8)(yk:IntKind)(n:Nat)(h:n<=8):Op.shift .shl .u8 (a.toNat:Int) yk (no_index (OfNat.ofNat n))=pure (.int .u8 ((kT a n).toNat:Int)):=by rw[<-UL];exact shift_shl .u8 yk _ (n:Int) ae af
@[go_sem high] theorem zik(a:UInt8)(n:Nat):IntKind.u8.wrap ((a.toNat:Int)*2^n)=((kT a n).toNat:Int):=UL a n
@[go_sem high] theorem zh0(a:UInt8):IntKind.u8.wrap (a.toNat:Int)=(a.toNat:Int):=UJ _ (lt8 a)
def YN(a b:UInt32):UInt32:=a&&&b
def Q9(a b:UInt32):UInt32:=a|||b
def xD(a b:UInt32):UInt32:=a^^^b
def kU(a:UInt32)(n:Nat):UInt32:=zbg (a.toNat/2^n)
def qm(a:UInt32)(n:Nat):UInt32:=zbg (a.toNat*2^n)
def ofInt32(a:UInt32):zaM 32 (a.toNat:Int)=a.toBitVec:=by rw[zb8];exact zch _ _ |>.trans ab
def wrap32(n:Nat)(h:n<4294967296):IntKind.u32.wrap (n:Int)=n:=by exact ahu
def lt32(a:UInt32):a.toNat<4294967296:=a.toNat_lt
def zkx(n:Nat)(h:n<4294967296):(n:Int)=((zbg n).toNat:Int):=by rw[zaA h]
@[go_sem high] theorem sD(a b:UInt32):bits .and .u32 (a.toNat:Int) (b.toNat:Int)=((YN a b).toNat:Int):=by show IntKind.u32.wrap ((zaM 32 (a.toNat:Int)&&&zaM 32 (b.toNat:Int)).toNat:Int)=_;rw[ofInt32,ofInt32,wrap32 _ (zbA _)];rfl
@[go_sem high] theorem DE(a:UInt32)(n:Nat)(h:n<4294967296):bits .and .u32 (a.toNat:Int) (no_index (OfNat.ofNat n))=((YN a (zbg n)).toNat:Int):=by rw[<-sD,<-zkx n h];rfl
@[go_sem high] theorem zil(a b:UInt32):bits .or .u32 (a.toNat:Int) (b.toNat:Int)=((Q9 a b).toNat:Int):=by show IntKind.u32.wrap ((zaM 32 (a.toNat:Int)|||zaM 32 (b.toNat:Int)).toNat:Int)=_;rw[ofInt32,ofInt32,wrap32 _ (zbA _)];rfl
@[go_sem high] theorem zh1(a b:UInt32):bits .xor .u32 (a.toNat:Int) (b.toNat:Int)=((xD a b).toNat:Int):=by show IntKind.u32.wrap ((zaM 32 (a.toNat:Int)^^^zaM 32 (b.toNat:Int)).toNat:Int)=_;rw[ofInt32,ofInt32,wrap32 _ (zbA _)];rfl
def wo(a b:UInt32):UInt32:=a+b
def Vf(n:Int):IntKind.u32.wrap n=n%4294967296:=by exact aim
def sE(a b:UInt32):IntKind.u32.wrap ((a.toNat:Int)+(b.toNat:Int))=((wo a b).toNat:Int):=by rw[Vf];unfold wo;rw[UInt32.toNat_add];simp
@[go_sem high] theorem Mk(a b:UInt32):IntKind.u32.wrap ((a.toNat:Int)+(b.toNat:Int))=((wo a b).toNat:Int):=sE a b
def mK(a:UInt32)(n:Nat):(a.toNat:Int)/2^n=((kU a n).toNat:Int):=by have ag:=lt32 a;have ah:a.toNat/2^n<4294967296:=zbk (zbB _ _) ag;unfold kU;rw[zaA ah];simp
def mL(a:UInt32)(n:Nat):IntKind.u32.wrap ((a.toNat:Int)*2^n)=((qm a n).toNat:Int):=by rw[Vf];unfold qm;rw[zce];simp
@[go_sem high] theorem Du(a:UInt32)(yk:IntKind)(n:Nat)(h:n<=32):Op.shift .shr .u32 (a.toNat:Int) yk (no_index (OfNat.ofNat n))=pure (.int .u32 ((kU a n).toNat:Int)):=by rw[<-mK];exact shift_shr .u32 yk _ (n:Int) ae af
@[go_sem high] theorem Dv(a:UInt32)(yk:IntKind)(n:Nat)(h:n<=32):Op.shift .shl .u32 (a.toNat:Int) yk (no_index (OfNat.ofNat n))=pure (.int .u32 ((qm a n).toNat:Int)):=by rw[<-mL];exact shift_shl .u32 yk _ (n:Int) ae af
@[go_sem high] theorem zh2(a:UInt32)(n:Nat):IntKind.u32.wrap ((a.toNat:Int)*2^n)=((qm a n).toNat:Int):=mL a n
@[go_sem] theorem zim(a:UInt32)(n:Nat):(a.toNat:Int)/2^n=((kU a n).toNat:Int):=mK a n
def xS(a b:UInt64):UInt64:=a&&&b
def ZX(a b:UInt64):UInt64:=a|||b
def qV(a b:UInt64):UInt64:=a^^^b
def yG(a:UInt64)(n:Nat):UInt64:=zae (a.toNat/2^n)
def xN(a:UInt64)(n:Nat):UInt64:=zae (a.toNat*2^n)
def ofInt64(a:UInt64):zaM 64 (a.toNat:Int)=a.toBitVec:=by rw[zb8];exact zch _ _ |>.trans ab
def wrap64(n:Nat)(h:n<18446744073709551616):IntKind.u64.wrap (n:Int)=n:=by exact ahu
def zky(a:UInt64):a.toNat<18446744073709551616:=a.toNat_lt
def W0(n:Nat)(h:n<18446744073709551616):(n:Int)=((zae n).toNat:Int):=by rw[zaR h]
@[go_sem high] theorem sF(a b:UInt64):bits .and .u64 (a.toNat:Int) (b.toNat:Int)=((xS a b).toNat:Int):=by show IntKind.u64.wrap ((zaM 64 (a.toNat:Int)&&&zaM 64 (b.toNat:Int)).toNat:Int)=_;rw[ofInt64,ofInt64,wrap64 _ (zbA _)];rfl
@[go_sem high] theorem DF(a:UInt64)(n:Nat)(h:n<18446744073709551616):bits .and .u64 (a.toNat:Int) (no_index (OfNat.ofNat n))=((xS a (zae n)).toNat:Int):=by rw[<-sF,<-W0 n h];rfl
@[go_sem high] theorem Bx(a b:UInt64):bits .or .u64 (a.toNat:Int) (b.toNat:Int)=((ZX a b).toNat:Int):=by show IntKind.u64.wrap ((zaM 64 (a.toNat:Int)|||zaM 64 (b.toNat:Int)).toNat:Int)=_;rw[ofInt64,ofInt64,wrap64 _ (zbA _)];rfl
@[go_sem high] theorem Hk(a:UInt64)(n:Nat)(h:n<18446744073709551616):bits .or .u64 (a.toNat:Int) (no_index (OfNat.ofNat n))=((ZX a (zae n)).toNat:Int):=by rw[<-Bx,<-W0 n h];rfl
@[go_sem high] theorem sG(a b:UInt64):bits .xor .u64 (a.toNat:Int) (b.toNat:Int)=((qV a b).toNat:Int):=by show IntKind.u64.wrap ((zaM 64 (a.toNat:Int)^^^zaM 64 (b.toNat:Int)).toNat:Int)=_;rw[ofInt64,ofInt64,wrap64 _ (zbA _)];rfl
@[go_sem high] theorem Dw(a:UInt64)(n:Nat)(h:n<18446744073709551616):bits .xor .u64 (no_index (OfNat.ofNat n)) (a.toNat:Int)=((qV (zae n) a).toNat:Int):=by rw[<-sG,<-W0 n h];rfl
def mM(a:UInt64):UInt64 := ~~~a
def zF(a b:UInt64):UInt64:=a+b
def ZZ(a b:UInt64):UInt64:=a-b
def qE(a b:UInt64):UInt64:=a*b
def YO(n:Int):IntKind.u64.wrap n=n%18446744073709551616:=by exact aim
def W1(a b:UInt64):IntKind.u64.wrap ((a.toNat:Int)+(b.toNat:Int))=((zF a b).toNat:Int):=by rw[YO];unfold zF;rw[UInt64.toNat_add];simp
def sH(a b:UInt64):IntKind.u64.wrap ((a.toNat:Int)-(b.toNat:Int))=((ZZ a b).toNat:Int):=by rw[YO];unfold ZZ;rw[UInt64.toNat_sub];have:=zky a;have:=zky b;omega
def KF(a b:UInt64):IntKind.u64.wrap ((a.toNat:Int)*(b.toNat:Int))=((qE a b).toNat:Int):=by rw[YO];unfold qE;rw[UInt64.toNat_mul];simp
@[go_sem high] theorem DG(a:UInt64)(n:Nat)(h:n<18446744073709551616):IntKind.u64.wrap ((a.toNat:Int)+(no_index (OfNat.ofNat n)))=((zF a (zae n)).toNat:Int):=by rw[<-W1,<-W0 n h];rfl
@[go_sem high] theorem Ml(a b:UInt64):IntKind.u64.wrap ((a.toNat:Int)+(b.toNat:Int))=((zF a b).toNat:Int):=W1 a b
@[go_sem high] theorem DH(a:UInt64)(n:Nat)(h:n<18446744073709551616):IntKind.u64.wrap ((a.toNat:Int)-(no_index (OfNat.ofNat n)))=((ZZ a (zae n)).toNat:Int):=by rw[<-sH,<-W0 n h];rfl
@[go_sem high] theorem DI(a:UInt64)(n:Nat)(h:n<18446744073709551616):IntKind.u64.wrap ((a.toNat:Int)*(no_index (OfNat.ofNat n)))=((qE a (zae n)).toNat:Int):=by rw[<-KF,<-W0 n h];rfl
@[go_sem high] theorem Dx(a:UInt64)(n:Nat)(h:n<18446744073709551616):IntKind.u64.wrap ((no_index (OfNat.ofNat n))*(a.toNat:Int))=((qE (zae n) a).toNat:Int):=by rw[<-KF,<-W0 n h];rfl
@[go_sem high] theorem Mm(a b:UInt64):IntKind.u64.wrap ((a.toNat:Int)*(b.toNat:Int))=((qE a b).toNat:Int):=KF a b
def W2(a:UInt64)(n:Nat):(a.toNat:Int)/2^n=((yG a n).toNat:Int):=by have ag:=zky a;have ah:a.toNat/2^n<18446744073709551616:=zbk (zbB _ _) ag;unfold yG;rw[zaR ah];simp
def mN(a:UInt64)(n:Nat):IntKind.u64.wrap ((a.toNat:Int)*2^n)=((xN a n).toNat:Int):=by rw[YO];unfold xN;rw[zbm];simp
@[go_sem high] theorem Dy(a:UInt64)(yk:IntKind)(n:Nat)(h:n<=64):Op.shift .shr .u64 (a.toNat:Int) yk (no_index (OfNat.ofNat n))=pure (.int .u64 ((yG a n).toNat:Int)):=by rw[<-W2];exact shift_shr .u64 yk _ (n:Int) ae af
@[go_sem high] theorem Dz(a:UInt64)(yk:IntKind)(n:Nat)(h:n<=64):Op.shift .shl .u64 (a.toNat:Int) yk (no_index (OfNat.ofNat n))=pure (.int .u64 ((xN a n).toNat:Int)):=by rw[<-mN];exact shift_shl .u64 yk _ (n:Int) ae af
@[go_sem high] theorem zh3(a:UInt64)(n:Nat):IntKind.u64.wrap ((a.toNat:Int)*2^n)=((xN a n).toNat:Int):=mN a n
@[go_sem] theorem zin(a:UInt64)(n:Nat):(a.toNat:Int)/2^n=((yG a n).toNat:Int):=W2 a n
def xu(x:UInt8):UInt32:=zbg x.toNat
@[go_sem high] theorem Mn(x:UInt8):IntKind.u32.wrap (x.toNat:Int)=((xu x).toNat:Int):=by have:=lt8 x;rw[wrap32 _ ae];unfold xu;rw[zaA al]
def KG(x:UInt32):UInt8:=zaq x.toNat
@[go_sem high] theorem Mo(x:UInt32):IntKind.u8.wrap (x.toNat:Int)=((KG x).toNat:Int):=by rw[ZB];unfold KG;rw[zbh];simp
def KH(x:UInt8):UInt64:=zae x.toNat
@[go_sem high] theorem Mp(x:UInt8):IntKind.u64.wrap (x.toNat:Int)=((KH x).toNat:Int):=by have:=lt8 x;rw[wrap64 _ ae];unfold KH;rw[zaR (by show _<18446744073709551616;omega)]
def KI(x:UInt64):UInt8:=zaq x.toNat
@[go_sem high] theorem Mq(x:UInt64):IntKind.u8.wrap (x.toNat:Int)=((KI x).toNat:Int):=by rw[ZB];unfold KI;rw[zbh];simp
def y9(x:UInt32):UInt64:=zae x.toNat
@[go_sem high] theorem Hm(x:UInt32):IntKind.u64.wrap (x.toNat:Int)=((y9 x).toNat:Int):=by have:=lt32 x;rw[wrap64 _ ae];unfold y9;rw[zaR (by show _<18446744073709551616;omega)]
def xy(x:UInt64):UInt32:=zbg x.toNat
@[go_sem high] theorem Hn(x:UInt64):IntKind.u32.wrap (x.toNat:Int)=((xy x).toNat:Int):=by rw[Vf];unfold xy;rw[zce];simp
def Ho(n:Nat):IntKind.u8.wrap (n:Int)=((zaq n).toNat:Int):=by rw[ZB,zbh];simp
def X5(n:Nat):IntKind.u64.wrap (n:Int)=((zae n).toNat:Int):=by rw[YO,zbm];simp
abbrev B(b:UInt8):Value:=.int .u8 (b.toNat:Int)
def _root_.Go.l_(l:List UInt8)(n)(h:l.length=n):RowKit.Hid ((l.map B).length=n):=(List.length_map _).trans h
def zr(w:World)(ao:OA)(xs:Lb_):Prop :=
 ∀j u,xs[j]? = some u->∃b off,ao=some ⟨b,off,none⟩/\w.cell? ⟨b,off+j,none⟩=some u
def add_eq(b off j:Nat):(⟨b,off,none⟩:Addr).add j=⟨b,off+j,none⟩:=by unfold Addr.add;split<;>simp_all
def block_lt_of_cell{w:World}{b o:Nat}{s:Option Nat}{u:Value}(h:w.cell? ⟨b,o,s⟩=some u):b<w.heap.size:=World.block_lt_of_cell? w _ h
def zr.below{w w':World}{ao:OA}{xs:Lb_}(h:zr w ao xs)(hb:Below w.heap.size w w'):zr w' ao xs:=by intro aq au aw;obtain⟨ax,ay,ai,az⟩:=h aq au aw;exact⟨ax,ay,ai,(hb.cell (p:=⟨ax,ay+aq,none⟩) (block_lt_of_cell az)).trans az⟩
def zr.nil(w:World)(ao:OA):zr w ao []:=by intro aq au aw;cases aw
def zr.at{w:World}{ao:OA}{xs:Lb_}(h:zr w ao xs)(hn:xs≠[]):∃b off,ao=some ⟨b,off,none⟩/\b<w.heap.size/\∀j u,xs[j]? = some u->w.cell? ⟨b,off+j,none⟩=some u:=by
 cases xs with
 | nil=>exact absurd rfl hn
 | cons x xs =>
  obtain⟨b,off,ai,az⟩:=h 0 x rfl;refine⟨b,off,ai,block_lt_of_cell az,?_⟩;intro j u aw;obtain⟨ax,ay,aj,az⟩:=h j u aw;rw[ai] at aj;cases aj;exact az
def zr.news{w:World}{ad:Addr}{xs:Lb_}(h:zr w (some ad) xs):∀j u,xs[j]? = some u->w.cell? (ad.add j)=some u:=by intro j u aw;obtain⟨ax,ay,ai,az⟩:=h j u aw;cases ai;rw[add_eq];exact az
def zr.drop{w:World}{ao:OA}{xs:Lb_}(h:zr w ao xs)(a:Nat):zr w (ao.map (·.add a)) (xs.drop a):=by
 intro aq au aw;rw[zbw] at aw;obtain⟨ax,ay,ai,az⟩:=h (a+aq) au aw;refine⟨ax,ay+a,?_,?_⟩
 ·rw[ai,zbM,add_eq]
 ·rw[Nat.add_assoc];exact az
def zr.take{w:World}{ao:OA}{xs:Lb_}(h:zr w ao xs)(n:Nat):zr w ao (xs.take n):=by
 intro aq au aw;rw[zcv] at aw;split at aw
 ·exact h aq au aw
 ·cases aw
def zr.cut{w:World}{ao:OA}{xs:Lb_}{cap:Nat}(h:zr w ao xs)(hcap:xs.length<=cap)(a n:Nat):zr w (if cap=a then ao else ao.map (·.add a)) ((xs.drop a).take n):=by
 by_cases az:cap=a
 ·rw[if_pos az,List.drop_eq_nil_of_le ae];simp only[List.take_nil];exact zr.nil _ _
 ·rw[if_neg az];exact(h.drop a).take n
def zr.zef{w:World}{base:Nat}{e:TypeId}{size:Nat}{ao:OA}{n cap:Nat}{xs:Lb_}(h:w.ownsRow base e size (.slice ao n cap) n xs):zr w ao xs:=by
 intro aq au aw;rcases h.2 with⟨hv,hn⟩|⟨g,c,cur,hv,hb,hg,_,_,_,ht⟩
 ·have:xs=[]:=zaI (by rw[h.1,hn];simp);rw[this] at aw;cases aw
 ·cases hv;refine⟨g,0,rfl,?_⟩;have:=h.cells (g:=g) rfl aq au aw;rw[add_eq] at this;exact this
def zz{w:World}{base:Nat}{e:TypeId}{size:Nat}{v:Value}{n:Nat}{xs:Lb_}(h:w.ownsRow base e size v n xs):∃ao cap,v=.slice ao n cap/\n<=cap/\cap<=maxLen/\zr w ao xs:=by
 rcases h.2 with⟨hv,hn⟩|⟨g,c,cur,hv,hb,hg,h1,h2,h3,ht⟩
 ·subst hn;exact⟨none,0,hv,ae,bk,zr.zef (base:=base) (e:=e) (size:=size) (hv▸h)⟩
 ·exact⟨some ⟨g,0,none⟩,c,hv,h1,h2,zr.zef (base:=base) (e:=e) (size:=size) (hv▸h)⟩
def zj(bs:La_):∀u∈bs.map B,u.oneCell'=true:=by intro u aw;obtain⟨ax,_,rfl⟩:=zaz.1 aw;rfl
def Kg{P:Program}(w:World)(t e:TypeId)(a:OA)(l c:Nat)(h:P.underlying t=some (.slice e)):(binOp .eql t (.slice a l c) (.slice none 0 0)).run P w=.ok (.bool a.isNone) w:=by simp only[binOp];simp[run_equal_slice_nil w t e a l c h]
def zr.of_block{w:World}{b:Nat}{cs:Array Value}{t:TypeId}{fr:Nat×Nat}(h:w.heap[b]? = some (.cells cs t fr)):zr w (some ⟨b,0,none⟩) cs.toList:=by intro aq au aw;refine⟨b,0,rfl,?_⟩;have:=World.news_of_block h aq au aw;rw[add_eq] at this;exact this
def Mu{P:Program}(w:World)(d:Nat)(t:TypeId)(k:FloatKind)(a b x y:Nat)(ht:P.underlying t=some (.complex k)):(Op.equalIn (d+1) t (.complex k a b) (.complex k x y)).run P w=.ok ((k.format.order a x==some .eq)&&(k.format.order b y==some .eq)) w:=by simp[Op.equalIn,run_underlying ht,Op.floatEq]
def str(bs:La_):ByteArray:=⟨bs.toArray⟩
def ZC{P:Program}(w:World)(src dst e:TypeId)(hs:P.underlying src=some (.slice e))(he:P.underlying e=some (.int .u8))(hd:P.underlying dst=some .string)(ao:OA)(len cap:Nat)(bs:La_)(hlen:bs.length=len)(hl:zr w ao (bs.map B)):(convert src dst (.slice ao len cap)).run P w=.ok (.string (str bs)) w:=by
 rw[run_convert_bytes_string w src dst e _ len cap hs he hd];cases ao with
 | none =>
  have:bs=[]:=by
   cases bs with
   | nil=>rfl
   | cons x xs=>obtain⟨_,_,e,_⟩:=hl 0 (B x) rfl;cases e
  subst this;rfl
 | some ad =>
  have ag:(loadCells ad len).run P w=.ok ((bs.map λb=>(b.toNat:Int)).map (Value.int .u8)).toArray w:=by
   have:=run_loadCells_list (P:=P) w ad (bs.map B) hl.news;rw[zcH];rw[zaa,hlen] at this;exact this
  rw[run_bytesToString w _ len cap _ ag,foldl_push_bytes];simp only[zcH];have ag:(List.map ((λn=>zaq n.toNat)∘λb:UInt8=>(b.toNat:Int)) bs)=bs:=by
   conv=>rhs;rw[<-List.map_id bs]
   apply List.map_congr_left;intro b _;simp
  rw[ag];simp[str,ByteArray.empty,ByteArray.emptyWithCapacity];rfl
def yz(ao:OA)(cap a:Nat):OA:=if cap=a then ao else ao.map (·.add a)
def zr.cutA{w:World}{ao:OA}{xs:Lb_}{cap:Nat}(h:zr w ao xs)(hcap:xs.length<=cap)(a n:Nat):zr w (yz ao cap a) ((xs.drop a).take n):=zr.cut h hcap a n
def UN{P:Program}(w:World)(t e:TypeId)(ht:P.underlying t=some (.slice e))(hs:∀w:World,(sizeOf e).run P w=.ok 1 w)(ao:OA)(len cap lo hi:Nat)(i j:Int)(hi':i=lo)(hj:j=hi)(h1:lo<=hi)(h2:hi<=cap):(Instr.slice t (.slice ao len cap) (some (.int .i64 i)) (some (.int .i64 j)) none).run P w=.ok (.slice (yz ao cap lo) (hi-lo) (cap-lo)) w:=by subst hi';subst hj;simp[Instr.slice,Instr.sliceBounds,Instr.sliceBound,run_underlying ht,hs,asIntOf,h1,h2,yz]
def mQ{P:Program}(e:TypeId)(i:TypeInfo)(n:Nat)(hi:P.info? e=some i)(hs:i.size=n)(w:World):(sizeOf e).run P w=.ok n w:=by simp[sizeOf,typeInfo,hi,hs]
def bytes_of_row{w:World}{a:OA}{len cap:Nat}{zs:List Int}(h:(a=none/\len=0/\cap=0/\zs=[])\/∃x,a=some x/\len<=cap/\cap<=maxLen/\zs.length=cap/\(∀i,i<zs.length->w.cell? (x.add i)=some (.int .u8 (zs.getD i 0)))/\∀n∈zs,(Lit.int .u8 n).wf=true):∃bs:La_,bs.length=len/\len<=cap/\cap<=maxLen/\zr w a (bs.map B):=by
 rcases h with⟨rfl,rfl,rfl,rfl⟩|⟨x,rfl,hl,hm,hz,hc,hw⟩
 ·exact⟨[],rfl,zab _,bk,zr.nil _ _⟩
 ·refine⟨(zs.take len).map λn=>zaq n.toNat,bq,hl,hm,?_⟩;intro aq au aw;rw[zcH,zay] at aw;cases hj:(zs.take len)[aq]? with
  | none=>rw[hj] at aw;cases aw
  | some n =>
   rw[hj] at aw;simp only[zbM,zc5] at aw;have aA:zs[aq]? = some n:=by
    rw[zcv] at hj;split at hj
    ·exact hj
    ·cases hj
   have aB:aq<zs.length:=(zbD.1 aA).1;have aC:=hc aq aB;have aD:zs.getD aq 0=n:=by simp[List.getD,aA]
   rw[aD] at aC;have aE:=hw n (zad aA);have aF:0<=n/\n<=255:=by simpa[Lit.wf,IntKind.min,IntKind.max,IntKind.signed,IntKind.bits] using aE
   have aG:B (zaq n.toNat)=.int .u8 n:=by
    show Value.int .u8 _=_;rw[zaO bw];congr 1;omega
   subst aw;have aH:x.spot=none:=by
    have az:=hc 0 ae;have ai:x.add 0=x:=by simp[Addr.add]
    rw[ai] at az;cases hs:x.spot with
    | none=>rfl
    | some s =>
     exfalso;revert az;simp[World.cell?,hs];split<;>simp
   obtain⟨ax,ay,aI⟩:=x;simp only at aH;subst aH;refine⟨ax,ay,rfl,?_⟩;rw[add_eq] at aC;rw[aC];exact congrArg some aG.symm
def W4(w:World)(e:TypeId)(size n:Nat)(xs:Lb_)(mk:Value->Value):Ending->World->Prop :=
 λen w'=>∃v,en=.returned (mk v)/\w'.ownsRow w.heap.size e size v n xs/\Below w.heap.size w w'
def vH:La_->La_
 | []=>[]
 | b::l=>zeR b 4::zeX b 15::vH l
def wu(l:La_):(vH l).length=2*l.length:=by
 induction l with
 | nil=>rfl
 | cons b l ih=>simp[vH,ih];omega
def nib(b:UInt8)(m:Nat):UInt8:=zeX (zeR b (4*(1-m))) (zaq 15)
def DL(b:UInt8):nib b 0=zeR b 4:=sB (p:=λb=>nib b 0=zeR b 4) ar b
def Hw(b:UInt8):nib b 1=zeX b 15:=sB (p:=λb=>nib b 1=zeX b 15) ar b
def Hx(l:La_)(k:Nat)(h:k<2*l.length):(vH l)[k]? = some (nib (l.getD (k/2) 0) (k%2)):=by
 induction l generalizing k with
 | nil=>simp at h
 | cons b l ih =>
  match k with
  | 0=>simp[vH];exact(DL b).symm
  | 1=>simp[vH];exact(Hw b).symm
  | k+2 =>
   have:=ih k Aw;simp only[vH,List.getElem?_cons_succ];rw[this];have ai:(k+2)/2=k/2+1:=ae;have aj:(k+2)%2=k%2:=ae;rw[ai,aj];simp
def wQ(L:La_)(n k:Nat):La_:=L.take k++zah (n-k) 0
def BA(L:La_)(n:Nat):wQ L n 0=zah n 0:=by simp[wQ]
def BB(L:La_)(n:Nat)(h:L.length=n):wQ L n n=L:=by simp[wQ,<-h]
def DM(L:La_)(n k:Nat)(u:UInt8)(hL:L.length=n)(hu:L[k]? = some u):(wQ L n k).set k u=wQ L n (k+1):=by have aQ:k<L.length:=(zbD.1 hu).1;unfold wQ;rw[List.set_append,if_neg bq];have ai:n-k=(n-(k+1))+1:=ae;have aR:(L.take k).length=k:=bq;rw[aR,Nat.sub_self,ai,zc2,List.set_cons_zero,List.take_add_one,hu];simp
def mT(L:La_)(n k:Nat)(hL:L.length=n)(hk:k<=n):(wQ L n k).length=n:=by simp[wQ];omega
def half(a:UInt8)(m:Nat):UInt8:=kT (zeX a (zaq 15)) (4*(1-m))
def jw:La_->La_
 | []=>[]
 | [a]=>[half a 0]
 | a::b::l=>or8 (half a 0) (half b 1)::jw l
def Xl(h:La_):(jw h).length=(h.length+1)/2:=by
 fun_induction jw h with
 | case1=>simp
 | case2=>simp
 | case3 a b l ih=>simp[ih];omega
def kC(h:La_)(k:Nat):La_:=jw (h.take k)++zah ((h.length+1)/2-(k+1)/2) 0
def dc(h:La_)(k:Nat)(hk:k<=h.length):(kC h k).length=(h.length+1)/2:=by simp[kC,Xl,zbF hk];omega
def mU(h:La_):kC h 0=zah ((h.length+1)/2) 0:=by simp[kC,jw]
def mV(h:La_):kC h h.length=jw h:=by simp[kC]
def or_zero(a:UInt8):or8 0 a=a:=by simp[or8]
def sR(h:La_)(k:Nat)(u:UInt8)(hu:h[k]? = some u):(kC h k).set (k/2) (or8 ((kC h k).getD (k/2) 0) (half u (k%2)))=kC h (k+1):=by
 fun_induction jw h generalizing k with
 | case1=>cases hu
 | case2 a =>
  match k with
  | 0=>simp at hu;subst hu;simp[kC,jw,or_zero]
  | k+1=>simp at hu
 | case3 a b l ih =>
  match k with
  | 0 =>
   simp at hu;subst hu;have ai:(l.length+1+1+1)/2=(l.length+1)/2+1:=ae;simp[kC,jw,ai,zc2,or_zero]
  | 1 =>
   simp at hu;subst hu;have ai:(l.length+1+1+1)/2-1=(l.length+1)/2:=ae;simp[kC,jw,ai]
  | k+2 =>
   have ee:=ih k (by simpa using hu);have aj:(k+2)/2=k/2+1:=ae;have ak:(k+2)%2=k%2:=ae;have an:∀j,kC (a::b::l) (j+2)=or8 (half a 0) (half b 1)::kC l j:=by
    intro j;have ai:((l.length+1+1+1)/2-(j+2+1)/2)=((l.length+1)/2-(j+1)/2):=ae;simp[kC,jw,ai]
   rw[aj,ak,an,show k+2+1=(k+1)+2 by omega,an,<-ee];simp
def BC(b:UInt8):or8 (half (zeR b 4) 0) (half (zeX b 15) 1)=b:=sB (p:=λb=>or8 (half (zeR b 4) 0) (half (zeX b 15) 1)=b) ar b
def BD(l:La_):jw (vH l)=l:=by
 induction l with
 | nil=>rfl
 | cons b l ih=>simp only[vH,jw,BC,ih]
def DN(b:UInt8):(zeR b 4).toNat<=15:=sB (p:=λb=>(zeR b 4).toNat<=15) ar b
def DO(b:UInt8):(zeX b 15).toNat<=15:=sB (p:=λb=>(zeX b 15).toNat<=15) ar b
def DP(l:La_):∀x∈vH l,x.toNat<=15:=by
 induction l with
 | nil=>intro x hx;cases hx
 | cons b l ih =>
  intro x hx;simp only[vH,zau] at hx;rcases hx with rfl|rfl|hx
  ·exact DN b
  ·exact DO b
  ·exact ih x hx
def z9(w w':World):Prop:=Below w.heap.size w w'
def z9.refl(w:World):z9 w w:=Below.refl _ _
def z9.trans{a b c:World}(h:z9 a b)(k:z9 b c):z9 a c:=Below.trans h (Below.mono k h.size)
def _root_.Go.RowKit.Below.later{B:Nat}{w w1 w':World}(h:Below B w w1)(hB:B<=w.heap.size)(k:z9 w1 w'):Below B w w':=h.trans (Below.mono k (zat hB h.size))
def _root_.Go.Oper.zen(o:Oper):Nat :=
 match o.op with
 | .move _|.assign _|.pick .. | .load .. | .nilCheck _|.binOp .. | .unOp .. | .fieldAddr .. | .field .. | .indexAddr .. | .index .. | .extract .. | .slice .. | .makeFunc .. | .makeInterface .. | .build .. | .typeAssert ..=>0
 | .convert .. | .sliceToArrayPointer ..=>0
 | .call c=>match c.callee with
  | .builtin .len|.builtin .cap|.builtin .real|.builtin .imag|.builtin .complex|.builtin .min|.builtin .max=>0
  | .builtin .append|.builtin .copy=>2
  | .builtin _=>2
  | _=>1
 | .alloc _|.box .. | .buildSlice .. | .makeSlice ..=>1
 | _=>2
section
variable{P:Program}{ops:Array Oper}{Q:Exit->Act->World->Prop}{md:Region.Mode}
def _root_.Go.Region.zeI(md:Region.Mode)(ops:Array Oper)(listed:Array Bool)(i:Nat):List Nat :=
 (zax ops.size).foldl (λD j=>if listed.getD j true||j==i then D else match ops[j]? with
  | none=>D
  | some oj=>if oj.after.any (λe=>Region.binds md e&&(e.on==i||D.contains e.on)) then j::D else D) []
end
section
variable{P:Program}{ops:Array Oper}{Q:Exit->Act->World->Prop}
structure zO(R:World->World->Prop)(w:World) where
 val:World
 rel:R w val
instance (B:Nat)(w:World):Nonempty (zO (Below B) w):=⟨⟨w,Below.refl _ w⟩⟩
abbrev WO(R:World->World->Prop)(w:World):World->Prop:=λw'=>∃x:zO R w,w'=x.val
abbrev zL(w:World):=zO z9 w
def zO.later{w:World}(x:zL w):z9 w x.val:=x.rel
abbrev lx(w:World):World->Prop:=WO z9 w
instance (w:World):Nonempty (zL w):=⟨⟨w,z9.refl w⟩⟩
def uT(s:Sem Value)(w w':World)(n:Next)(h:Sem.run P (do let x <-s;pure (Next.value x)) w=.ok n w'):∃u,n=.value u:=by
 rw[Sem.run_bind] at h;cases hs:s.run P w with
 | ok x w1 =>
  rw[hs] at h;simp only[Result.andThen,Sem.run_pure] at h;cases h;exact⟨x,rfl⟩
 | halt x w1=>rw[hs] at h;cases h
def uU{o:Oper}{ρ:Operand->Value}{w w':World}{n:Next}(hk:o.zen=0)(h:(execOp ρ o).run P w=.ok n w'):∃u,n=.value u:=by
 unfold Oper.zen at hk;unfold execOp at h;cases hop:o.op;case call c =>
  simp only[hop] at hk h;cases hc:c.callee with
  | builtin b =>
   simp only[hc] at hk;cases b<;>simp only[reduceCtorEq] at hk<;>first
    | (cases hk;done)
    | (simp only[resolve,hc,Sem.run_bind,Sem.run_pure,Result.andThen_ok,invoke,builtin] at h;exact uT _ _ _ _ (by simpa only[Sem.run_bind,Sem.run_pure] using h))
  | value f=>simp only[hc] at hk;cases hk
  | invoke r m=>simp only[hc] at hk;cases hk
 case pick c a b =>
  simp only[hop] at h;rw[Sem.run_bind] at h;cases hp:(asBool (ρ c)).run P w with
  | halt x w1=>rw[hp] at h;cases h
  | ok p w1 =>
   rw[hp] at h;simp only[Result.andThen,Sem.run_pure] at h;cases h;exact⟨_,rfl⟩
 case nilCheck x =>
  simp only[hop] at h;split at h;all_goals try(simp[runtimePanic,goPanic] at h;done)
  all_goals try(rw[Sem.run_pure] at h;cases h;exact⟨_,rfl⟩)
  all_goals try split at h
  all_goals try(simp[runtimePanic,goPanic] at h;done)
  all_goals try(rw[Sem.run_pure] at h;cases h;exact⟨_,rfl⟩)
  rw[Sem.run_bind] at h;cases hp:(program).run P w with
  | halt x w1=>rw[hp] at h;cases h
  | ok p w1 =>
   rw[hp] at h;simp only[Result.andThen,Sem.run_bind] at h;split at h
   ·split at h
    ·simp[unsupported] at h
    ·simp only[Sem.run_pure] at h;cases h;exact⟨_,rfl⟩
   ·cases h
 all_goals
  simp only[hop] at hk h;first
   | (cases hk;done)
   | exact uT _ _ _ _ h
   | (rw[Sem.run_pure] at h;cases h;exact⟨_,rfl⟩)
def xL{C:World->Prop}{o:Oper}{a:Act}{w:World}{v:Value}(hk:o.zen=0)(h:o.quietAt P a C w v):(execOp a.eval o).run P w=.ok (.value v) w:=by
 unfold Oper.quietAt at h;cases hr:(execOp a.eval o).run P w with
 | halt x w'=>rw[hr] at h;exact h.elim
 | ok n w' =>
  obtain⟨au,rfl⟩:=uU hk hr;rw[hr] at h;simp only[Oper.quietUpon] at h;rw[h.1,h.2]
end
section
variable{P:Program}{ops:Array Oper}{Q:Exit->Act->World->Prop}{md:Region.Mode}{R:World->World->Prop}{brk:List Nat}
def kh(R:World->World->Prop)(brk:List Nat)(P:Program)(md:Region.Mode)(ops:Array Oper)(Q:Exit->Act->World->Prop):Nat->Array Bool->Act->World->Prop
 | 0,listed,a,w=>Region.ready md ops listed=[]/\Q .normal a w
 | fuel+1,listed,a,w =>
  (Region.ready md ops listed=[]->Q .normal a w) /\
  ∀i∈Region.ready md ops listed,wpOp P ops Q i (λa' w'=>(brk.contains i=false->R w w')/\kh R brk P md ops Q fuel (listed.setIfInBounds i true) a' w') a w
def XA:∀(fuel:Nat)(listed:Array Bool)(a:Act)(w:World),kh R brk P md ops Q fuel listed a w->wpAny P md ops Q fuel listed a w
 | 0,_,_,_,h=>h
 | fuel+1,_,_,_,h=>⟨h.1,λi hi=>wpOp_mono (λa' w' h'=>XA fuel _ a' w' h'.2) (h.2 i hi)⟩
def Mx(C:World->World->Prop)(hC:∀a,C a a)(hrf:∀a,R a a){i:Nat}{oi:Oper}{v:Value}(hi:ops[i]? = some oi)(hsel:∀(j:Nat)(o:Oper) cs b,ops[j]? = some o->o.op≠.select cs b)(hQ:∀c a w,Q (.panic c) (a.put oi.dst v) w->Q (.panic c) a w)(D:Nat->Bool)(hD:∀d,D d=true->∃od,ops[d]? = some od/\∃e∈od.after,Region.binds md e=true/\(e.on=i\/D e.on=true)):∀(fuel:Nat)(listed:Array Bool)(a:Act)(w:World),
   (∀d,D d=true->listed.getD d true=false) ->
   (∀j oj,ops[j]? = some oj->j≠i->listed.getD j true=false->D j=false->oi.apart ops oj=true/\∀w w',(brk.contains j=false->R w w')->∀x,C w' x->C w x) ->
   i∈Region.ready md ops listed->YieldsIf P ops (C w) oi v a ->
   kh R brk P md ops Q fuel (listed.setIfInBounds i true) (a.put oi.dst v) w->kh R brk P md ops Q (fuel+1) listed a w:=by
 intro fuel;induction fuel with
 | zero =>
  intro listed a w _ _ eI et A6;refine⟨λh=>(by rw[h] at eI;cases eI),λj hj=>?_⟩;by_cases A7:j=i
  ·subst A7;exact et.wpOp hi (hC w) ⟨λ_=>hrf w,A6⟩
  ·have:=ready_mono hj A7;rw[A6.1] at this;cases this
 | succ fuel ih =>
  intro listed a w hun A8 eI et A6;refine⟨λh=>(by rw[h] at eI;cases eI),λj hj=>?_⟩;by_cases A7:j=i
  ·subst A7;exact et.wpOp hi (hC w) ⟨λ_=>hrf w,A6⟩
  ·have ag:=A6.2 j (ready_mono hj A7);obtain⟨A9,oj,Aa,Ab⟩:=mem_ready.1 hj;have Ac:∀k,listed.getD k true=false->(listed[k]?).getD true=false:=λk hk=>by
    rcases zbl k listed.size with h'|h'
    ·simpa[zcz,h'] using hk
    ·simp[zcz,Nat.not_lt.2 h'] at hk
   have Ad:D j=false:=by
    cases hdj:D j with
    | false=>rfl
    | true =>
     obtain⟨od,Ae,e,aJ,aF,Af⟩:=hD j hdj;rw[Aa] at Ae;cases Ae;have ag:=Ab e aJ aF;have aM:listed.getD e.on true=false:=by
      rcases Af with h|h
      ·rw[h];exact(mem_ready.1 eI).1
      ·exact hun _ h
     rcases zbl e.on listed.size with h'|h'
     ·simp[h'] at aM ag;rw[aM] at ag;cases ag
     ·simp[zb9 h'] at ag
   have Ag:=A8 j oj Aa A7 A9 Ad;have aM:=wpOp_putIf Aa Ag.1 (λcs b=>hsel i oi cs b hi) (λcs b=>hsel j oj cs b Aa) hQ et ag;have Ai:∀d,D d=true->(listed.setIfInBounds j true).getD d true=false:=λd hd=>by
    have aX:j≠d:=by rintro rfl;rw[Ad] at hd;cases hd
    rw[getD_set_ne true aX];exact hun d hd
   have Aj:∀k ok,ops[k]? = some ok->k≠i->(listed.setIfInBounds j true).getD k true=false ->
     D k=false->oi.apart ops ok=true/\∀w w',(brk.contains k=false->R w w')->∀x,C w' x->C w x:=λk ok hk hki hun hno=>by
    refine A8 k ok hk hki ?_ hno;by_cases Ak:j=k
    ·subst Ak;exact A9
    ·rw[getD_set_ne true Ak] at hun;exact hun
   refine wpOp_mono (λa' w' h3=>⟨h3.2.1,ih (listed.setIfInBounds j true) a' w' Ai Aj (ready_mono eI (Ne.symm A7)) (h3.1.imp (λ⟨g1,g2⟩=>⟨g1,λx hx=>g2 x (Ag.2 w w' h3.2.1 x hx)⟩) id) ?_⟩) aM;rw[Array.setIfInBounds_comm _ _ A7];exact h3.2.2
def jl(hrf:∀a,R a a)(ht:∀a b c,R a b->R b c->R a c){i:Nat}{oi:Oper}{v:Value}(hi:ops[i]? = some oi)(hsel:∀(j:Nat)(o:Oper) cs b,ops[j]? = some o->o.op≠.select cs b)(hQ:∀c a w,Q (.panic c) (a.put oi.dst v) w->Q (.panic c) a w)(D:Nat->Bool)(_:D i=false)(hD:∀d,D d=true->∃od,ops[d]? = some od/\∃e∈od.after,Region.binds md e=true/\(e.on=i\/D e.on=true))(fuel:Nat)(listed:Array Bool)(a:Act)(w:World)(hun:∀d,D d=true->listed.getD d true=false)(hf:∀j oj,ops[j]? = some oj->j≠i->listed.getD j true=false->D j=false->oi.apart ops oj=true/\brk.contains j=false)(hr:i∈Region.ready md ops listed)(hy:YieldsIf P ops (R w) oi v a)(h:kh R brk P md ops Q fuel (listed.setIfInBounds i true) (a.put oi.dst v) w):kh R brk P md ops Q (fuel+1) listed a w :=
 Mx R hrf hrf hi hsel hQ D hD fuel listed a w hun (λj oj h1 h2 h3 h4=>⟨(hf j oj h1 h2 h3 h4).1,λ_ _ hw _ hx=>ht _ _ _ (hw (hf j oj h1 h2 h3 h4).2) hx⟩) hr hy h
def _root_.Go.Region.ziN(brk:List Nat)(md:Region.Mode)(ops:Array Oper)(listed:Array Bool)(i:Nat)(oi:Oper)(D:List Nat):Bool :=
 !D.contains i &&
 D.all (λd=>!(listed.getD d true)&&match ops[d]? with
  | some od=>od.after.any (λe=>Region.binds md e&&(e.on==i||D.contains e.on))
  | none=>false) &&
 (zax ops.size).all λj=>j==i||listed.getD j true||D.contains j||match ops[j]? with
  | some oj=>oi.apart ops oj && !brk.contains j
  | none=>true
def _root_.Go.Region.zgq(brk:List Nat)(md:Region.Mode)(ops:Array Oper)(listed:Array Bool)(i:Nat):Bool :=
 match ops[i]? with
 | none=>false
 | some oi=>Region.ziN brk md ops listed i oi (Region.zeI md ops listed i)
def _root_.Go.Region.zeL{i:Nat}{oi:Oper}{listed:Array Bool}(hi:ops[i]? = some oi)(h:Region.zgq brk md ops listed i=true):∃D:Nat->Bool,(∀d,D d=(Region.zeI md ops listed i).contains d)/\D i=false/\(∀d,D d=true->∃od,ops[d]? = some od/\∃e∈od.after,Region.binds md e=true/\(e.on=i\/D e.on=true)) /\
   (∀d,D d=true->listed.getD d true=false) /\
   (∀j oj,ops[j]? = some oj->j≠i->listed.getD j true=false->D j=false->oi.apart ops oj=true/\brk.contains j=false):=by
 unfold Region.zgq at h;simp only[hi] at h;generalize Region.zeI md ops listed i=Al at h;unfold Region.ziN at h;rw[Bool.and_eq_true,Bool.and_eq_true] at h;obtain⟨⟨ag,aM⟩,ij⟩:=h;rw[zaw] at aM ij;refine⟨λd=>Al.contains d,λ_=>rfl,c6,λd hd=>?_,λd hd=>?_,λj oj hj hne hun hnd=>?_⟩
 ·have:=aM d (by simpa using hd);rw[Bool.and_eq_true] at this;cases hod:ops[d]? with
  | none=>simp[hod] at this
  | some od =>
   have ag:=this.2;simp only[hod] at ag;obtain⟨e,aJ,aF⟩:=Array.any_eq_true'.1 ag;rw[Bool.and_eq_true,Bool.or_eq_true] at aF;exact⟨od,rfl,e,aJ,aF.1,aF.2.imp (λh=>by simpa using h) id⟩
 ·have:=aM d (by simpa using hd);rw[Bool.and_eq_true] at this;simpa using this.1
 ·have aB:j<ops.size:=(zaQ.1 hj).1;have:=ij j (zcg.2 aB);have ai:(j==i)=false:=by simpa using hne
  simp only at hnd;rw[ai,hun,hnd,Bool.false_or,Bool.false_or,Bool.false_or] at this;simp only[hj,Bool.and_eq_true,Bool.not_eq_true'] at this;exact this
def _root_.Go.Region.checkN(brk:List Nat)(md:Region.Mode)(ops:Array Oper):List (Nat×Nat)->Array Bool->Bool
 | [],listed=>Region.ready md ops listed==[]
 | (i,q)::r,listed =>
  (match ops[i]? with
   | none=>false
   | some _=>if q=2 then(Region.ready md ops listed).contains i&&Region.zgq [] md ops listed i
    else if q=1 then(Region.ready md ops listed).contains i&&Region.zgq brk md ops listed i else Region.ready md ops listed==[i]) &&
  Region.checkN brk md ops r (listed.setIfInBounds i true)
def xc(R:World->World->Prop)(brk:List Nat)(P:Program)(ops:Array Oper)(Q:Exit->Act->World->Prop):List (Nat×Nat)->Act->World->Prop
 | [],a,w=>Q .normal a w
 | (i,q)::r,a,w =>
  match ops[i]? with
  | none=>False
  | some o =>
   if Region.wanted o (yielded ops a.tmps)=true then
    (if q=2 then ∃v,(∀w',(execOp a.eval o).run P w'=.ok (.value v) w')/\xc R brk P ops Q r (a.put o.dst v) w
     else if q=1 then ∃v,(∀w',R w w'->(execOp a.eval o).run P w'=.ok (.value v) w')/\xc R brk P ops Q r (a.put o.dst v) w
     else o.wp P a w (λa' w'=>(brk.contains i=false->R w w')/\xc R brk P ops Q r a' w') Q)
   else xc R brk P ops Q r (a.put o.dst undef) w
def xP(hrf:∀a,R a a)(ht:∀a b c,R a b->R b c->R a c)(hs:Region.noSelect ops=true)(hQ:∀c a w,¬Q (.panic c) a w):∀(order:List (Nat×Nat))(listed:Array Bool)(a:Act)(w:World),
  Region.checkN brk md ops order listed=true->xc R brk P ops Q order a w->kh R brk P md ops Q order.length listed a w
 | [],listed,a,w,hB,h=>by
  simp only[Region.checkN,beq_iff_eq] at hB;exact⟨hB,h⟩
 | (i,q)::r,listed,a,w,hB,h=>by
  simp only[Region.checkN,Bool.and_eq_true] at hB;obtain⟨hB1,hB2⟩:=hB;cases ho:ops[i]? with
  | none=>simp[ho] at hB1
  | some o =>
   simp only[ho] at hB1;simp only[xc,ho] at h;by_cases q2:q=2
   ·simp only[q2,if_true,Bool.and_eq_true] at hB1 h;obtain⟨D,_,hDi,hD,hDu,hDf⟩:=Region.zeL ho hB1.2;have hDf':∀j oj,ops[j]? = some oj->j≠i->listed.getD j true=false->D j=false->o.apart ops oj=true/\∀w w',(brk.contains j=false->R w w')->∀x:World,True->True:=λj oj h1 h2 h3 h4=>⟨(hDf j oj h1 h2 h3 h4).1,λ_ _ _ _ h=>h⟩
    by_cases hw:Region.wanted o (yielded ops a.tmps)=true
    ·rw[if_pos hw] at h;obtain⟨v,hv,hr⟩:=h;exact Mx (λ_ _=>True) (λ_=>trivial) hrf ho (Region.noSelect_spec hs) (λc a w hq=>absurd hq (hQ _ _ _)) D hD r.length listed a w hDu hDf' eb (.inl ⟨hw,λw' _=>hv w'⟩)
      (xP hrf ht hs hQ r _ _ _ hB2 hr)
    ·rw[if_neg hw] at h;exact Mx (λ_ _=>True) (λ_=>trivial) hrf ho (Region.noSelect_spec hs) (λc a w hq=>absurd hq (hQ _ _ _)) D hD r.length listed a w hDu hDf' eb (.inr ⟨by simpa using hw,rfl⟩)
      (xP hrf ht hs hQ r _ _ _ hB2 h)
   ·simp only[if_neg q2] at hB1 h;by_cases q1:q=1
    ·simp only[q1,if_true,Bool.and_eq_true] at hB1 h;obtain⟨D,_,hDi,hD,hDu,hDf⟩:=Region.zeL ho hB1.2;by_cases hw:Region.wanted o (yielded ops a.tmps)=true
     ·rw[if_pos hw] at h;obtain⟨v,hv,hr⟩:=h;exact jl hrf ht ho (Region.noSelect_spec hs) (λc a w hq=>absurd hq (hQ _ _ _)) D hDi hD r.length listed a w hDu hDf eb (.inl ⟨hw,hv⟩)
       (xP hrf ht hs hQ r _ _ _ hB2 hr)
     ·rw[if_neg hw] at h;exact jl hrf ht ho (Region.noSelect_spec hs) (λc a w hq=>absurd hq (hQ _ _ _)) D hDi hD r.length listed a w hDu hDf eb (.inr ⟨by simpa using hw,rfl⟩)
       (xP hrf ht hs hQ r _ _ _ hB2 h)
    ·simp only[if_neg q1,beq_iff_eq] at hB1 h;refine⟨λh0=>(by rw[hB1] at h0;cases h0),λj hj=>?_⟩;rw[hB1] at hj;obtain rfl:j=i:=by simpa using hj
     unfold wpOp;simp only[ho];by_cases hw:Region.wanted o (yielded ops a.tmps)=true
     ·rw[if_pos hw] at h |-;refine .inl (Oper.wp_mono ?_ h);intro eT w' ag;refine⟨ag.1,xP hrf ht hs hQ r _ _ _ hB2 ag.2⟩
     ·rw[if_neg hw] at h |-;exact⟨λ_=>hrf w,xP hrf ht hs hQ r _ _ _ hB2 h⟩
def j3{id:Nat}{l:List Oper}{a:Act}{w:World}(R:World->World->Prop)(brk:List Nat)(order:List (Nat×Nat))(hrf:∀a,R a a)(ht:∀a b c,R a b->R b c->R a c)(hm:P.follows .mixedOrders=true)(hB:(Region.noSelect l.toArray&&(order.length==l.length)&&Region.checkN brk .any l.toArray order (zaY l.length false))=true)(h:∀w',w'=w.drew->xc R brk P l.toArray (NoPanic Q) order a w'):(Code.region id l.toArray true).wp P Q a w:=by simp only[Bool.and_eq_true,beq_iff_eq] at hB;obtain⟨⟨eg,aR⟩,hB⟩:=hB;refine wp_region_noPanic (wp_region_any hm (XA (R:=R) (brk:=brk) _ _ _ _ ?_));have:=xP (R:=R) (brk:=brk) (P:=P) (Q:=NoPanic Q) hrf ht eg (λc a w hq=>hq) order _ a w.drew hB (h _ rfl);rw[aR] at this;exact this
def vW{a:Act}{w:World}(h:Q .normal a w):xc R brk P ops (NoPanic Q) [] a w:=h
def Nw{i q:Nat}{r:List (Nat×Nat)}{o:Oper}{a:Act}{w:World}(ho:ops[i]? = some o)(hw:Region.wanted o (yielded ops a.tmps)=false)(h:∀K:Act->Prop,(∀a',xc R brk P ops Q r a' w->K a')->K (a.put o.dst undef)):xc R brk P ops Q ((i,q)::r) a w:=by simp only[xc,ho,hw,Bool.false_eq_true,if_false];exact h _ λ_ h=>h
def xo{i:Nat}{r:List (Nat×Nat)}{o:Oper}{a:Act}{w:World}(ho:ops[i]? = some o)(hw:Region.wanted o (yielded ops a.tmps)=true)(h:∀K:Act->World->Prop,(∀a' w',(brk.contains i=false->R w w')->xc R brk P ops Q r a' w'->K a' w')->o.wp P a w K Q):xc R brk P ops Q ((i,0)::r) a w:=by simp only[xc,ho,hw,if_true,if_neg (show ¬(0=2) by omega),if_neg (show ¬(0=1) by omega)];exact h _ λ_ _ h1 h2=>⟨h1,h2⟩
def Nn{i:Nat}{r:List (Nat×Nat)}{o:Oper}{tl:List Oper}{a:Act}{w:World}(hd:ops.toList.drop i=o::tl)(hk:o.zen=0)(hh:∀K:Act->Prop,(∀a',xc R brk P ops Q r a' w->K a')->wpQuiet P ops (WO R w) K [o] a):xc R brk P ops Q ((i,1)::r) a w:=by
 have h:=hh (λa'=>xc R brk P ops Q r a' w) (λ_ h=>h);have oE:ops[i]? = some o:=by
  exact agp
 simp only[wpQuiet] at h;simp only[xc,oE,if_neg (show ¬(1=2) by omega),if_true];exact af3
def zgl{i:Nat}{r:List (Nat×Nat)}{o:Oper}{tl:List Oper}{a:Act}{w:World}(hd:ops.toList.drop i=o::tl)(hk:o.zen=0)(hh:∀K:Act->Prop,(∀a',xc R brk P ops Q r a' w->K a')->wpQuiet P ops (WO (λ_ _=>True) w) K [o] a):xc R brk P ops Q ((i,2)::r) a w:=by
 have h:=hh (λa'=>xc R brk P ops Q r a' w) (λ_ h=>h);have oE:ops[i]? = some o:=by
  exact agp
 simp only[wpQuiet] at h;simp only[xc,oE,if_true];by_cases Am:Region.wanted o (yielded ops a.tmps)=true
 ·rw[if_pos Am] at h |-;obtain⟨aK,aL,aD⟩:=h;exact⟨aK,λw'=>xL hk (aL w' ⟨⟨w',trivial⟩,rfl⟩),aD⟩
 ·rw[if_neg Am] at h |-;exact h
instance (w:World):Nonempty (zO (λ_ _=>True) w):=⟨⟨w,trivial⟩⟩
def M5(hrf:∀a,R a a){i:Nat}{r:List (Nat×Nat)}{o:Oper}{tl:List Oper}{a:Act}{w:World}(hd:ops.toList.drop i=o::tl)(hk:o.zen=0)(hh:∀K:Act->Prop,(∀a',xc R brk P ops Q r a' w->K a')->wpQuiet P ops (lx w) K [o] a):xc R brk P ops Q ((i,0)::r) a w:=by
 have h:=hh (λa'=>xc R brk P ops Q r a' w) (λ_ h=>h);have oE:ops[i]? = some o:=by
  exact agp
 simp only[wpQuiet] at h;simp only[xc,oE,if_neg (show ¬(0=2) by omega),if_neg (show ¬(0=1) by omega)];by_cases Am:Region.wanted o (yielded ops a.tmps)=true
 ·rw[if_pos Am] at h |-;obtain⟨aK,aL,aD⟩:=h;unfold Oper.wp;rw[xL hk (aL w ⟨⟨w,z9.refl w⟩,rfl⟩),Oper.upon_value];exact⟨λ_=>hrf w,aD⟩
 ·rw[if_neg Am] at h |-;exact h
def flags(l:List (Nat×Bool)):List (Nat×Nat):=l.map λx=>(x.1,if x.2 then 1 else 0)
def _root_.Go.Region.zfD(brk:List Nat)(md:Region.Mode)(ops:Array Oper)(l:List (Nat×Bool)):Array Bool->Bool:=Region.checkN brk md ops (flags l)
def zR(R:World->World->Prop)(brk:List Nat)(P:Program)(ops:Array Oper)(Q:Exit->Act->World->Prop)(l:List (Nat×Bool))(a:Act)(w:World):Prop:=xc R brk P ops Q (flags l) a w
def kq(hrf:∀a,R a a)(ht:∀a b c,R a b->R b c->R a c)(hs:Region.noSelect ops=true)(hQ:∀c a w,¬Q (.panic c) a w)(l:List (Nat×Bool))(listed:Array Bool)(a:Act)(w:World)(hB:Region.zfD brk md ops l listed=true)(h:zR R brk P ops Q l a w):kh R brk P md ops Q l.length listed a w:=by
 have:=xP hrf ht hs hQ (flags l) listed a w hB h
 rwa [flags,zaa] at this
def yg{id:Nat}{l:List Oper}{a:Act}{w:World}(R:World->World->Prop)(brk:List Nat)(order:List (Nat×Bool))(hrf:∀a,R a a)(ht:∀a b c,R a b->R b c->R a c)(hm:P.follows .mixedOrders=true)(hB:(Region.noSelect l.toArray&&(order.length==l.length)&&Region.zfD brk .any l.toArray order (zaY l.length false))=true)(h:∀w',w'=w.drew->zR R brk P l.toArray (NoPanic Q) order a w'):(Code.region id l.toArray true).wp P Q a w :=
 j3 R brk (flags order) hrf ht hm (by rw[flags,zaa];exact hB) h
def yB{a:Act}{w:World}(h:Q .normal a w):zR R brk P ops (NoPanic Q) [] a w:=h
section
variable{i:Nat}{q:Bool}{r:List (Nat×Bool)}{o:Oper}{a:Act}{w:World}
def MF(ho:ops[i]? = some o)(hw:Region.wanted o (yielded ops a.tmps)=false)(h:∀K:Act->Prop,(∀a',zR R brk P ops Q r a' w->K a')->K (a.put o.dst undef)):zR R brk P ops Q ((i,q)::r) a w:=Nw ho hw h
def Np{v:Value}(ho:ops[i]? = some o)(hw:Region.wanted o (yielded ops a.tmps)=true)(hv:∀w',R w w'->(execOp a.eval o).run P w'=.ok (.value v) w')(h:∀K:Act->Prop,(∀a',zR R brk P ops Q r a' w->K a')->K (a.put o.dst v)):zR R brk P ops Q ((i,true)::r) a w:=by show xc R brk P ops Q ((i,1)::flags r) a w;simp only[xc,ho,hw,if_true,if_neg (show ¬(1=2) by omega)];exact⟨v,hv,h _ λ_ h=>h⟩
def zC(ho:ops[i]? = some o)(hw:Region.wanted o (yielded ops a.tmps)=true)(h:∀K:Act->World->Prop,(∀a' w',(brk.contains i=false->R w w')->zR R brk P ops Q r a' w'->K a' w')->o.wp P a w K Q):zR R brk P ops Q ((i,false)::r) a w:=xo ho hw h
def yK{tl:List Oper}(hd:ops.toList.drop i=o::tl)(hk:o.zen=0)(hh:∀K:Act->Prop,(∀a',zR R brk P ops Q r a' w->K a')->wpQuiet P ops (WO R w) K [o] a):zR R brk P ops Q ((i,true)::r) a w:=Nn hd hk hh
def yc(hrf:∀a,R a a){tl:List Oper}(hd:ops.toList.drop i=o::tl)(hk:o.zen=0)(hh:∀K:Act->Prop,(∀a',zR R brk P ops Q r a' w->K a')->wpQuiet P ops (lx w) K [o] a):zR R brk P ops Q ((i,false)::r) a w:=M5 hrf hd hk hh
end
def MB(ops:Array Oper):List Nat:=(zax ops.size).filter λj=>(ops[j]?).map Oper.zen==some 2
def MO{j:Nat}:(MB ops).contains j=false↔(ops[j]?).map Oper.zen≠some 2:=by
 rw[<-Bool.not_eq_true,zaJ,MB,zaT,zcg,beq_iff_eq];refine⟨λh e=>h ⟨?_,e⟩,λh e=>h e.2⟩;by_cases aA:j<ops.size
 ·exact aA
 ·rw[zb9 ae] at e;cases e
def Mz(ops:Array Oper)(l:List Nat):List (Nat×Bool):=l.map λi=>(i,(ops[i]?).map Oper.zen==some 0)
abbrev kO(P:Program)(md:Region.Mode)(ops:Array Oper)(Q:Exit->Act->World->Prop):Nat->Array Bool->Act->World->Prop:=kh z9 (MB ops) P md ops Q
abbrev _root_.Go.Region.zf5(md:Region.Mode)(ops:Array Oper):Array Bool->Nat->Bool:=Region.zgq (MB ops) md ops
def _root_.Go.Region.zfj(md:Region.Mode)(ops:Array Oper)(l:List Nat):Array Bool->Bool:=Region.zfD (MB ops) md ops (Mz ops l)
def zA(P:Program)(ops:Array Oper)(Q:Exit->Act->World->Prop)(l:List Nat)(a:Act)(w:World):Prop:=zR z9 (MB ops) P ops Q (Mz ops l) a w
def qa(hs:Region.noSelect ops=true)(hQ:∀c a w,¬Q (.panic c) a w)(l:List Nat)(listed:Array Bool)(a:Act)(w:World)(hc:Region.zfj md ops l listed=true)(h:zA P ops Q l a w):kO P md ops Q l.length listed a w:=by
 have:=kq z9.refl (λ_ _ _=>z9.trans) hs hQ (Mz ops l) listed a w hc h
 rwa [Mz,zaa] at this
def zp{id:Nat}{l:List Oper}{a:Act}{w:World}(order:List Nat)(hm:P.follows .mixedOrders=true)(hB:(Region.noSelect l.toArray&&(order.length==l.length)&&Region.zfj .any l.toArray order (zaY l.length false))=true)(h:∀w',w'=w.drew->zA P l.toArray (NoPanic Q) order a w'):(Code.region id l.toArray true).wp P Q a w :=
 yg z9 _ (Mz l.toArray order) z9.refl (λ_ _ _=>z9.trans) hm (by rw[Mz,zaa];exact hB) h
def zq{a:Act}{w:World}(h:Q .normal a w):zA P ops (NoPanic Q) [] a w:=h
def Mw{i n:Nat}{r:List Nat}{o:Oper}(ho:ops[i]? = some o)(hk:o.zen=n):Mz ops (i::r)=(i,n==0)::Mz ops r:=by simp[Mz,ho,hk]
section
variable{i:Nat}{r:List Nat}{o:Oper}{a:Act}{w:World}
def fI{v:Value}(ho:ops[i]? = some o)(hk:o.zen=0)(hw:Region.wanted o (yielded ops a.tmps)=true)(hv:∀w',z9 w w'->(execOp a.eval o).run P w'=.ok (.value v) w')(h:∀K:Act->Prop,(∀a',zA P ops Q r a' w->K a')->K (a.put o.dst v)):zA P ops Q (i::r) a w:=by rw[zA,Mw ho hk];exact Np ho hw hv h
def zg1(ho:ops[i]? = some o)(hw:Region.wanted o (yielded ops a.tmps)=false)(h:∀K:Act->Prop,(∀a',zA P ops Q r a' w->K a')->K (a.put o.dst undef)):zA P ops Q (i::r) a w:=by rw[zA,Mw ho rfl];exact MF ho hw h
def zk(ho:ops[i]? = some o)(hk:o.zen=1)(hw:Region.wanted o (yielded ops a.tmps)=true)(h:∀K:Act->World->Prop,(∀a' w',z9 w w'->zA P ops Q r a' w'->K a' w')->o.wp P a w K Q):zA P ops Q (i::r) a w:=by rw[zA,Mw ho hk];exact zC ho hw λK hK=>h K λa' w' hb=>hK a' w' λ_=>hb
def zt(ho:ops[i]? = some o)(hk:o.zen=2)(hw:Region.wanted o (yielded ops a.tmps)=true)(h:∀K:Act->World->Prop,(∀a' w',zA P ops Q r a' w'->K a' w')->o.wp P a w K Q):zA P ops Q (i::r) a w:=by rw[zA,Mw ho hk];exact zC ho hw λK hK=>h K λa' w'=>hK a' w' λhb=>absurd (by rw[ho,zbM,hk]) (MO.1 hb)
def Zy{tl:List Oper}(hd:ops.toList.drop i=o::tl)(hk:o.zen=0)(hh:∀K:Act->Prop,(∀a',zA P ops Q r a' w->K a')->wpQuiet P ops (lx w) K [o] a):zA P ops Q (i::r) a w:=by rw[zA,Mw (by have:=congrArg (·[0]?) hd;simpa using this) hk];exact yK hd hk hh
end
end
section
variable{P:Program}{ops:Array Oper}{Q:Exit->Act->World->Prop}{md:Region.Mode}
structure zT where
 idx:Nat
 dst:Tmp
 obj:Obj
 val:Nat->Value
def zT.Fits(P:Program)(ops:Array Oper)(a:Act)(w:World)(f:zT):Prop :=
 f.dst<a.tmps.size/\∃o,ops[f.idx]? = some o/\o.dst=some f.dst/\o.guard=none/\(∀cs b,o.op≠.select cs b) /\
  ∀w',z9 w w'->(execOp a.eval o).run P w'=.ok (.value (f.val w'.heap.size)) (w'.alloc f.obj)
def _root_.Go.Act.over(a:Act):List Tmp->Lb_->Act
 | d::r,v::vs=>(a.put (some d) v).over r vs
 | _,_=>a
def vL(S:List Tmp)(x a:Act):Prop:=x.defers=a.defers/\x.tmps.size=a.tmps.size/\∀t,t∉S->x.tmps[t]? = a.tmps[t]?
def vL.refl(S:List Tmp)(a:Act):vL S a a:=⟨rfl,rfl,λ_ _=>rfl⟩
def YA(a:Act)(dst:Option Tmp)(v:Value)(t:Tmp)(h:dst≠some t):(a.put dst v).tmps[t]? = a.tmps[t]?:=by
 cases dst with
 | none=>rfl
 | some d=>exact za3 (λe=>h (congrArg some e))
def wH(a:Act)(dst:Option Tmp)(v:Value):(a.put dst v).tmps.size=a.tmps.size:=by cases dst<;>simp[Act.put]
def Z8(a:Act)(dst:Option Tmp)(v:Value):(a.put dst v).defers=a.defers:=by cases dst<;>rfl
def vL.put{S:List Tmp}{x a:Act}(h:vL S x a)(dst:Option Tmp)(v:Value):vL S (x.put dst v) (a.put dst v):=by
 refine⟨by rw[Z8,Z8];exact h.1,by rw[wH,wH];exact h.2.1,λt ht=>?_⟩;by_cases ai:dst=some t
 ·subst ai;simp only[Act.put,zbd,h.2.1]
 ·rw[YA _ _ _ _ ai,YA _ _ _ _ ai];exact h.2.2 t ht
def vL.zhv{S:List Tmp}{x a:Act}(h:vL S x a){d:Tmp}(hd:d∈S)(v:Value):vL S (x.put (some d) v) a:=by refine⟨by rw[Z8];exact h.1,by rw[wH];exact h.2.1,λt ht=>?_⟩;rw[YA _ _ _ _ (λe=>by cases e;exact ht hd)];exact h.2.2 t ht
def vL.over:∀{S:List Tmp} {x a:Act},vL S x a->x=a.over S (S.map λd=>x.tmps.getD d undef)
 | [],x,a,h=>by
  obtain⟨xt,xd⟩:=x;obtain⟨at',ad⟩:=a;obtain⟨h1,h2,h3⟩:=h;simp only at h1 h2 h3;subst h1;have:xt=at':=zc4 λi=>h3 i ab;subst this;rfl
 | d::r,x,a,h=>by
  refine vL.over (S:=r) (a:=a.put (some d) (x.tmps.getD d undef)) ⟨by rw[Z8];exact h.1,by rw[wH];exact h.2.1,λt ht=>?_⟩;by_cases e:d=t
  ·subst e;simp only[Act.put,zbd,<-h.2.1];by_cases hs:d<x.tmps.size
   ·simp[hs,zcz]
   ·simp[hs]
  ·rw[YA _ _ _ _ (λe'=>by cases e';exact e rfl)];exact h.2.2 t (by simp;exact⟨λe'=>e e'.symm,ht⟩)
def KZ{S:List Tmp}{x a:Act}(h:vL S x a)(o:Oper)(hs:∀cs b,o.op≠.select cs b)(ho:∀d,d∈S->d∉o.looksAt ops):execOp x.eval o=execOp a.eval o :=
 execOp_congr o hs λy hy=>by
  cases y with
  | tmp t =>
   have ht:t∉S:=λhm=>ho t hm (zaP _ (zc8.2 ⟨.tmp t,by simpa using hy,rfl⟩));have:=h.2.2 t ht;simp only[Act.eval,zaF,this]
  | _=>rfl
def _root_.Go.Oper.ziE{o:Oper}{a:Act}{w:World}{K:Act->World->Prop}(hh:o.wp P a w K Q):o.wp P a w (λa' w'=>(a'.tmps.size=a.tmps.size/\∀t,o.dst≠some t->a'.tmps[t]? = a.tmps[t]?)/\K a' w') Q:=by
 unfold Oper.wp at*;generalize (execOp a.eval o).run P w=An at*;cases An with
 | ok n w' =>
  cases n<;>simp only[Oper.upon] at hh |- <;>
   first
    | exact⟨⟨wH _ _ _,λt ht=>YA _ _ _ _ ht⟩,hh⟩
    | exact Calls.mono hh (λe w'' he=>by cases e<;>first|exact⟨⟨wH _ _ _,λt ht=>YA _ _ _ _ ht⟩,he⟩|exact he)
    | exact Rows.mono hh (λ_ _ he=>⟨⟨wH _ _ _,λt ht=>YA _ _ _ _ ht⟩,he⟩)
    | exact hh
 | halt x w'=>cases x<;>simp only[Oper.upon] at hh |- <;> exact hh
def zT.Fits.off{a a':Act}{w w':World}{f:zT}{o:Oper}(h:f.Fits P ops a w)(hw:z9 w w')(hsz:a'.tmps.size=a.tmps.size)(ht:∀t,o.dst≠some t->a'.tmps[t]? = a.tmps[t]?)(hap:∀o',ops[f.idx]? = some o'->∀d,o.dst=some d->d∉o'.looksAt ops):f.Fits P ops a' w':=by
 obtain⟨ag,o',aM,ij,ik,il,Ao⟩:=h;refine⟨by rw[hsz];exact ag,o',aM,ij,ik,il,λw'' hw''=>?_⟩;have:execOp a'.eval o'=execOp a.eval o':=execOp_congr o' il λy hy=>by
  cases y with
  | tmp t =>
   have aX:o.dst≠some t:=λe=>hap o' aM t e (zaP _ (zc8.2 ⟨.tmp t,by simpa using hy,rfl⟩));simp only[Act.eval,zaF,ht t aX]
  | _=>rfl
 rw[this];exact Ao w'' (hw.trans hw'')
def zG(P:Program)(ops:Array Oper)(Q:Exit->Act->World->Prop)(F:List zT)(base:Nat)(k:Act->World->Prop):List Nat->Act->World->Prop
 | [],a,w=>∀(ns:List Nat)(w1:World),ns.length=F.length->z9 w w1->(∀(j:Nat)(f:zT)(n:Nat),F[j]? = some f->ns[j]? = some n->base<=n/\w1.heap[n]? = some f.obj)->ns.Nodup ->
   k (a.over (F.map (·.dst)) (F.zipWith (λf n=>f.val n) ns)) w1
 | i::r,a,w =>
  match ops[i]? with
  | none=>False
  | some o =>
   if o.zen=0 then ∃v,(∀w',z9 w w'->(execOp a.eval o).run P w'=.ok (.value v) w')/\zG P ops Q F base k r (a.put o.dst v) w
   else ∀(us:Lb_)(w1:World),us.length=F.length->z9 w w1 ->
    o.wp P (a.over (F.map (·.dst)) us) w1 (λa' w'=>z9 w1 w'/\zG P ops Q F base k r a' w') Q
def _root_.Go.Region.plus(listed:Array Bool)(F:List Nat):Array Bool:=F.foldl (λl i=>l.setIfInBounds i true) listed
def _root_.Go.Region.zfO(md:Region.Mode)(ops:Array Oper)(F:List Nat):List Nat->Array Bool->Bool
 | [],listed=>F.all λf=>(Region.ready md ops listed).contains f&&(Region.ready md ops (Region.plus listed (F.filter (· != f)))).all F.contains
 | i::r,listed =>
  (match ops[i]? with
   | none=>false
   | some o=>o.guard.isNone && !F.contains i&&(Region.ready md ops listed).contains i &&
    (F.all λf=>match ops[f]? with|some of=>of.apart ops o|none=>false) &&
    (if o.zen=0 then Region.zf5 md ops listed i&&(Region.zeI md ops listed i).all (λd=>!F.contains d)
     else o.zen==1&&(Region.ready md ops (Region.plus listed F)).all (·==i))) &&
  Region.zfO md ops F r (listed.setIfInBounds i true)
def _root_.Go.Region.zh6(ops:Array Oper)(F:List Nat):Bool :=
 F.all λf=>F.all λg=>match ops[f]?,ops[g]? with
  | some of,some og=>(match og.dst with|some d=>!(of.looksAt ops).contains d|none=>false)&&(f==g||of.dst != og.dst)
  | _,_=>false
def Xx(F:List Nat):∀(listed:Array Bool)(j:Nat),(Region.plus listed F)[j]? = (listed[j]?).map (· || F.contains j):=by
 induction F with
 | nil=>intro listed j;simp[Region.plus]
 | cons f r ih =>
  intro listed j;have:=ih (listed.setIfInBounds f true) j;unfold Region.plus at this |-;rw[List.foldl_cons,this];by_cases ai:f=j
  ·subst ai;simp only[zbd];by_cases eg:f<listed.size
   ·simp[eg]
   ·simp[eg]
  ·rw[za3 ai];have aj:¬j=f:=λh=>ai h.symm;simp[aj]
def Zn{l:Array Bool}{j:Nat}{d:Bool}:l.getD j d=(l[j]?).getD d:=by simp[zaF]
def Xy{listed l1:Array Bool}{b:Nat->Bool}(h:∀j,l1[j]? = (listed[j]?).map (· || b j)){i:Nat}(hi:i∈Region.ready md ops listed)(hb:b i=false):i∈Region.ready md ops l1:=by
 obtain⟨ag,oC,oE,aM⟩:=mem_ready.1 hi;refine mem_ready.2 ⟨?_,oC,oE,λe he hbd=>?_⟩
 ·rw[Zn] at ag |-;rw[h,hb];cases hl:listed[i]? with
  | none=>rw[hl] at ag;simp at ag
  | some x=>rw[hl] at ag;simpa using ag
 ·have:=aM e he hbd;rw[Zn] at this |-;rw[h];cases hl:listed[e.on]? with
  | none=>rw[hl] at this;simp at this
  | some x=>rw[hl] at this;simp at this;simp[this]
def uV{l1 l2:Array Bool}{listed:Array Bool}{b c:Nat->Bool}(h1:∀j,l1[j]? = (listed[j]?).map (· || b j))(h2:∀j,l2[j]? = (listed[j]?).map (· || c j))(hbc:∀j,b j=true->c j=true){j:Nat}(hj:j∈Region.ready md ops l1)(hc:c j=false):j∈Region.ready md ops l2:=by
 refine Xy (listed:=l1) (b:=λk=>c k) (λk=>?_) hj hc;rw[h1,h2];cases listed[k]? with
 | none=>rfl
 | some x =>
  simp only[zbM,zc5];cases hb:b k with
  | false=>simp
  | true=>simp[hbc k hb]
def ly{f:zT}{a:Act}{w w1:World}{K:Act->World->Prop}(hf:f.Fits P ops a w)(hw:z9 w w1)(h:K (a.put (some f.dst) (f.val w1.heap.size)) (w1.alloc f.obj)):wpOp P ops Q f.idx K a w1:=by obtain⟨_,oC,oE,ah,oG,_,eI⟩:=hf;unfold wpOp;simp only[oE,Region.wanted,oG,if_true];refine .inl ?_;unfold Oper.wp;rw[eI w1 hw,Oper.upon_value,ah];exact h
def U0:∀(l:List zT),(l.map (·.idx)).Nodup->∀{f g:zT},f∈l->g∈l->f.idx=g.idx->f=g
 | [],_,_,_,h,_,_=>by cases h
 | x::r,hn,f,g,hf,hg,e=>by
  rw[zca,zcA] at hn;rcases zau.1 hf with h|hf
  ·rcases zau.1 hg with h'|hg
   ·rw[h,h']
   ·rw[h] at e;exact absurd (zaz.2 ⟨g,hg,e.symm⟩) hn.1
  ·rcases zau.1 hg with h'|hg
   ·rw[h'] at e;exact absurd (zaz.2 ⟨f,hf,e⟩) hn.1
   ·exact U0 r hn.2 hf hg e
def nM{listed l1:Array Bool}{b:Nat->Bool}(h:∀j,l1[j]? = (listed[j]?).map (· || b j))(i:Nat)(j:Nat):(l1.setIfInBounds i true)[j]? = ((listed.setIfInBounds i true)[j]?).map (· || b j):=by
 have eg:l1.size=listed.size:=by
  have ag:l1.size<=listed.size:=by
   have:=h listed.size;rw[show listed[listed.size]? = none by simp] at this;simpa using this
  have ag:listed.size<=l1.size:=by
   have:=h l1.size;rw[show l1[l1.size]? = none by simp] at this;cases hl:listed[l1.size]? with
   | none=>simpa using hl
   | some x=>rw[hl] at this;cases this
  omega
 by_cases ai:i=j
 ·subst ai;simp only[zbd,eg];by_cases aO:i<listed.size<;>simp[aO]
 ·rw[za3 ai,za3 ai];exact h j
def B2{F:List zT}{a:Act}{w:World}(zfh:Region.zh6 ops (F.map (·.idx))=true)(hfit:∀f∈F,f.Fits P ops a w){f:zT}(hf:f∈F){d:Tmp}(hd:d∈F.map (·.dst)){o:Oper}(ho:ops[f.idx]? = some o)(zf7:d∈o.looksAt ops):False:=by obtain⟨ie,Ap,rfl⟩:=zaz.1 hd;unfold Region.zh6 at zfh;rw[zaw] at zfh;have:=zfh f.idx (zaz.2 ⟨f,hf,rfl⟩);rw[zaw] at this;have:=this ie.idx (zaz.2 ⟨ie,Ap,rfl⟩);obtain⟨_,Aq,oG,Ar,_⟩:=hfit ie Ap;rw[ho,oG] at this;simp only[Ar,Bool.and_eq_true,Bool.not_eq_true'] at this;have ag:=this.1;simp[zf7] at ag
def Fg{listed l1:Array Bool}{dn:Nat->Option Nat}(hl1:∀j,l1[j]? = (listed[j]?).map (· || (dn j).isSome)){j:Nat}(hj:j∈Region.ready md ops l1):dn j=none:=by
 have ag:=(mem_ready.1 hj).1;rw[Zn,hl1] at ag;cases hd:dn j with
 | none=>rfl
 | some n =>
  rw[hd] at ag;cases hl:listed[j]? with
  | none=>rw[hl] at ag;simp at ag
  | some x=>rw[hl] at ag;simp at ag
structure MK(P:Program)(ops:Array Oper)(F:List zT)(base:Nat)(listed:Array Bool)(a:Act)(w:World)(und:Nat)(dn:Nat->Option Nat)(l1:Array Bool)(act:Act)(w1:World):Prop where
 un:(F.filter (λf=>(dn f.idx).isNone)).length=und
 at':∀j,l1[j]? = (listed[j]?).map (· || (dn j).isSome)
 mem:∀j,(dn j).isSome=true->j∈F.map (·.idx)
 lat:z9 w w1
 ag:vL (F.map (·.dst)) act a
 fit:∀f∈F,f.Fits P ops a w
 did:∀f∈F,∀n,dn f.idx=some n->base<=n/\w1.heap[n]? = some f.obj/\act.tmps.getD f.dst undef=f.val n
 inj:∀i j n,dn i=some n->dn j=some n->i=j
 le:base<=w1.heap.size
def NF{F:List zT}{a:Act}{w:World}(zfh:Region.zh6 ops (F.map (·.idx))=true)(hfit:∀f∈F,f.Fits P ops a w){f g:zT}(hf:f∈F)(hg:g∈F)(h:f.dst=g.dst):f.idx=g.idx:=by
 unfold Region.zh6 at zfh;rw[zaw] at zfh;have:=zfh f.idx (zaz.2 ⟨f,hf,rfl⟩);rw[zaw] at this;have:=this g.idx (zaz.2 ⟨g,hg,rfl⟩);obtain⟨_,Aq,oG,Ar,_⟩:=hfit g hg;obtain⟨_,aoV,eP,AK,_⟩:=hfit f hf;rw[eP,oG] at this;simp only[Ar,AK,h,Bool.and_eq_true,Bool.or_eq_true] at this;rcases this.2 with h|h
 ·exact beq_iff_eq.1 h
 ·simp at h
section
variable{F:List zT}{base und fuel:Nat}{listed l1:Array Bool}{a act:Act}{w w1:World}{dn:Nat->Option Nat}
def MK.fits(hm:MK P ops F base listed a w und dn l1 act w1)(zfh:Region.zh6 ops (F.map (·.idx))=true){f:zT}(hf:f∈F):f.Fits P ops act w:=by obtain⟨ag,oC,aM,ij,ik,il,Ao⟩:=hm.fit f hf;refine⟨by rw[hm.ag.2.1];exact ag,oC,aM,ij,ik,il,λw' hw'=>?_⟩;rw[KZ (ops:=ops) hm.ag oC il (λd hd zf7=>B2 zfh hm.fit hf hd aM zf7)];exact Ao w' hw'
def MK.maker(hF:(F.map (·.idx)).Nodup)(zfh:Region.zh6 ops (F.map (·.idx))=true)(hm:MK P ops F base listed a w (und+1) dn l1 act w1){j:Nat}(hj:j∈Region.ready md ops l1)(hjF:j∈F.map (·.idx))(K:∀dn' l1' act' w1',MK P ops F base listed a w und dn' l1' act' w1'->kO P md ops Q fuel l1' act' w1'):wpOp P ops Q j (λa' w'=>((MB ops).contains j=false->z9 w1 w')/\kO P md ops Q fuel (l1.setIfInBounds j true) a' w') act w1:=by
 obtain⟨f,AB,rfl⟩:=zaz.1 hjF;have Ai:dn f.idx=none:=Fg hm.at' hj;have AD:f.idx<l1.size:=by
  obtain⟨ag,_⟩:=mem_ready.1 hj;rw[Zn] at ag;by_cases eg:f.idx<l1.size
  ·exact eg
  ·rw[zb9 ae] at ag;simp at ag
 refine ly (hm.fits zfh AB) hm.lat ⟨λ_=>((Below.refl _ _).alloc (zab _) _),K (λi=>if i=f.idx then some w1.heap.size else dn i) _ _ _ ⟨?_,?_,?_,?_,?_,hm.fit,?_,?_,?_⟩⟩
 ·have AF:f∈F.filter (λg=>(dn g.idx).isNone):=zaT.2 ⟨AB,by rw[Ai];rfl⟩;have aM:F.filter (λg=>(if g.idx=f.idx then some w1.heap.size else dn g.idx).isNone)=(F.filter (λg=>(dn g.idx).isNone)).filter (λg=>g.idx≠f.idx):=by
   rw[List.filter_filter];apply List.filter_congr;intro g _;by_cases e:g.idx=f.idx<;>simp[e]
  rw[aM];have ow:∀(l:List zT),(l.map (·.idx)).Nodup->f∈l->(l.filter (λg=>g.idx≠f.idx)).length+1=l.length:=by
   intro l;induction l with
   | nil=>intro _ h;cases h
   | cons x r ih =>
    intro aD hm;rw[zca,zcA] at aD;by_cases e:x.idx=f.idx
    ·rw[zaH (by simp[e]),zb6.2 (λg hg=>by
      simp only[ne_eq,decide_eq_true_eq];intro ai;exact aD.1 (zaz.2 ⟨g,hg,by rw[ai,e]⟩))]
     rfl
    ·rw[zaG (by simp[e])];have:=ih aD.2 ((zau.1 hm).resolve_left λh=>e (by rw[h]));simp only[zaj];omega
  have:=ow _ (List.Nodup.sublist (List.Sublist.map _ List.filter_sublist) hF) AF;have:=hm.un;omega
 ·intro j;by_cases e:f.idx=j
  ·subst e;rw[Array.getElem?_setIfInBounds_self_of_lt AD];have:=hm.at' f.idx;cases hl:listed[f.idx]? with
   | none=>rw[hl] at this;simp at this;omega
   | some x=>simp
  ·rw[za3 e,hm.at',if_neg (λh:j=f.idx=>e h.symm)]
 ·intro j hj;split at hj
  ·rename_i e;rw[e];exact hjF
  ·exact hm.mem j hj
 ·exact hm.lat.trans ((Below.refl _ _).alloc (zab _) _)
 ·exact hm.ag.zhv (zaz.2 ⟨f,AB,rfl⟩) _
 ·intro g hg Ep aD;split at aD
  ·rename_i e
   obtain rfl:=U0 F hF hg AB e;cases aD;refine⟨hm.le,heap_alloc_new w1 _,?_⟩;have ij:=(hm.fit g hg).1;simp[Act.put,zaF,hm.ag.2.1,ij]
  ·rename_i e
   obtain⟨ag,aM,ij⟩:=hm.did g hg Ep aD;refine⟨ag,(heap_alloc_old w1 _ (zaQ.1 aM).1).trans aM,?_⟩;rw[<-ij,zaF,zaF,YA _ _ _ _ (λh=>e (NF zfh hm.fit hg AB (by simpa using h.symm)))]
 ·have aoW:∀j,dn j=some w1.heap.size->False:=by
   intro j hj;obtain⟨g,hg,rfl⟩:=zaz.1 (hm.mem j (by rw[hj];rfl));have:=(zaQ.1 (hm.did g hg _ hj).2.1).1;omega
  intro i j Ep aO hj;split at aO<;>split at hj
  ·rename_i e1 ai;rw[e1,ai]
  ·cases aO;exact(aoW j hj).elim
  ·cases hj;exact(aoW i aO).elim
  ·exact hm.inj i j Ep aO hj
 ·have:(w1.alloc f.obj).heap.size=w1.heap.size+1:=by show(w1.heap.push _).size=_;simp
  have:=hm.le;omega
def Nh{f:zT}{o:Oper}(hf:f∈F)(hall:(F.map (·.idx)).all (λf=>match ops[f]? with|some of=>of.apart ops o|none=>false)=true)(hfit:f.Fits P ops a w):o.dst≠some f.dst/\∀o',ops[f.idx]? = some o'->∀d,o.dst=some d->d∉o'.looksAt ops:=by rw[zaw] at hall;have:=hall f.idx (zaz.2 ⟨f,hf,rfl⟩);obtain⟨_,of,ag,aM,_⟩:=hfit;rw[ag] at this;obtain⟨eT,eU,eV⟩:=Oper.apart_spec this;refine⟨eU _ aM,λo' ho' d hd=>?_⟩;rw[ag] at ho';cases ho';exact eV d hd
def MK.all(hm:MK P ops F base listed a w 0 dn l1 act w1){f:zT}(hf:f∈F):∃n,dn f.idx=some n:=by
 cases hd:dn f.idx with
 | some n=>exact⟨n,rfl⟩
 | none =>
  have:f∈F.filter (λf=>(dn f.idx).isNone):=zaT.2 ⟨hf,by rw[hd];rfl⟩;rw[zaI hm.un] at this;cases this
def MK.done(hF:(F.map (·.idx)).Nodup)(hm:MK P ops F base listed a w 0 dn l1 act w1){k:Act->World->Prop}(hk:zG P ops Q F base k [] a w):l1=Region.plus listed (F.map (·.idx))/\k act w1:=by
 refine⟨?_,?_⟩
 ·apply zc4;intro j;rw[hm.at',Xx];congr 1;funext x;congr 1;cases hd:dn j with
  | some n=>exact(zaJ.2 (hm.mem j (by rw[hd];rfl))).symm
  | none =>
   symm;rw[Option.isSome_none,List.contains_eq_any_beq,List.any_eq_false];intro x aH aJ;obtain⟨f,hf,rfl⟩:=zaz.1 aH;obtain⟨n,hn⟩:=hm.all hf;rw[beq_iff_eq.1 aJ,hn] at hd;cases hd
 ·have AO:=hk (F.map λf=>(dn f.idx).getD 0) w1 ab hm.lat (λj f n hf hn=>by
    rw[zay,hf] at hn;simp only[zbM,zc5] at hn;have AB:=zad hf;obtain⟨aZ,eh⟩:=hm.all AB;rw[eh] at hn;simp only[zbK] at hn;subst hn;have:=hm.did f AB aZ eh;exact⟨this.1,this.2.1⟩) (by
   have:∀(l:List zT),(∀f∈l,∃n,dn f.idx=some n)->(l.map (·.idx)).Nodup->(l.map λf=>(dn f.idx).getD 0).Nodup:=by
    intro l;induction l with
    | nil=>intro _ _;simp
    | cons x r ih =>
     intro ag aM;rw[zca,zcA] at aM |-;refine⟨λhq=>?_,ih (λf hf=>ag f (zaN _ hf)) aM.2⟩;obtain⟨g,oG,aJ⟩:=zaz.1 hq;obtain⟨n,hn⟩:=ag x ab;obtain⟨aZ,eh⟩:=ag g (zaN _ oG);rw[hn,eh] at aJ;simp only[zbK] at aJ;subst aJ;exact aM.1 (zaz.2 ⟨g,oG,hm.inj _ _ _ eh hn⟩)
   exact this F (λ_=>hm.all) hF)
  have ag:=hm.ag.over;have aM:F.map ((λd=>act.tmps.getD d undef)∘λx=>x.dst)=F.zipWith (λf n=>f.val n) (F.map λf=>(dn f.idx).getD 0):=by
   rw[List.zipWith_map_right];have:∀(l:List zT),(∀f∈l,f∈F)->l.map ((λd=>act.tmps.getD d undef)∘λx=>x.dst)=l.zipWith (λf g=>f.val ((dn g.idx).getD 0)) l:=by
    intro l;induction l with
    | nil=>intro _;rfl
    | cons x r ih =>
     intro h;obtain⟨n,hn⟩:=hm.all (h x ab);rw[zca,List.zipWith_cons_cons,ih (λf hf=>h f (zaN _ hf))];congr 1;show act.tmps.getD x.dst undef=_;rw[(hm.did x (h x ab) n hn).2.2,hn];rfl
   exact this F (λ_ h=>h)
  rw[zcH,aM] at ag;rw[ag];exact AO
end
variable{k:Act->World->Prop}{i base:Nat}{r:List Nat}{o:Oper}{α:Type}{f:zT}
def nN(hs:Region.noSelect ops=true)(hQ:∀c a w,¬Q (.panic c) a w)(F:List zT)(base:Nat)(k:Act->World->Prop)(R:Nat)(hF:(F.map (·.idx)).Nodup)(zfh:Region.zh6 ops (F.map (·.idx))=true):∀(σ:List Nat)(listed:Array Bool)(a:Act)(w:World),Region.zfO md ops (F.map (·.idx)) σ listed=true->zG P ops Q F base k σ a w ->
   (∀a w fuel,R<=fuel->k a w->kO P md ops Q fuel (Region.plus (σ.foldl (λl i=>l.setIfInBounds i true) listed) (F.map (·.idx))) a w) ->
   ∀(und:Nat)(dn:Nat->Option Nat)(l1:Array Bool)(act:Act)(w1:World)(fuel:Nat),MK P ops F base listed a w und dn l1 act w1->σ.length+und+R<=fuel->kO P md ops Q fuel l1 act w1:=by
 intro σ;induction σ with
 | nil =>
  intro listed a w az hk AM und;induction und with
  | zero =>
   intro dn l1 act w1 fuel eh AN;obtain⟨rfl,h⟩:=eh.done hF hk;exact AM act w1 fuel ec h
  | succ und ihu =>
   intro dn l1 act w1 fuel eh AN;obtain⟨fuel,rfl⟩:∃m,fuel=m+1:=⟨fuel-1,ec⟩
   obtain⟨g,oG⟩:∃g,g∈F.filter (λf=>(dn f.idx).isNone):=by
    cases hl:F.filter (λf=>(dn f.idx).isNone) with
    | nil=>have:=eh.un;rw[hl] at this;simp at this
    | cons x r=>exact⟨x,ab⟩
   rw[zaT] at oG;obtain⟨Ap,AQ⟩:=oG;have AR:dn g.idx=none:=by simpa using AQ
   unfold Region.zfO at az;rw[zaw] at az;have AS:=az g.idx (zaz.2 ⟨g,Ap,rfl⟩);rw[Bool.and_eq_true] at AS;refine⟨λh0=>?_,λj hj=>?_⟩
   ·have:=Xy (md:=md) (ops:=ops) eh.at' (by simpa using AS.1) (b:=λj=>(dn j).isSome) (i:=g.idx) (by rw[AR];rfl);rw[h0] at this;cases this
   ·have Az:j∈F.map (·.idx):=by
     by_cases AU:j∈(F.map (·.idx)).filter (· != g.idx)
     ·exact(zaT.1 AU).1
     ·have ag:=uV (md:=md) (ops:=ops) (l2:=Region.plus listed ((F.map (·.idx)).filter (· != g.idx))) eh.at' (λj=>Xx _ _ j) (λk hk=>by
       rw[zaJ];refine zaT.2 ⟨eh.mem k hk,?_⟩;simp only[bne_iff_ne,ne_eq];rintro rfl;rw[AR] at hk;cases hk) hj (by simpa[zaJ] using AU)
      have aM:=AS.2;rw[zaw] at aM;simpa using aM j ag
    exact eh.maker hF zfh hj Az λdn' l1' act' w1' b=>ihu dn' l1' act' w1' fuel b ed
 | cons i r ih =>
  intro listed a w az hk AM und;unfold Region.zfO at az;rw[Bool.and_eq_true] at az;obtain⟨AV,AW⟩:=az;cases ho:ops[i]? with
  | none=>rw[ho] at AV;simp at AV
  | some o =>
   simp only[ho,Bool.and_eq_true] at AV;obtain⟨⟨⟨⟨oG,AX⟩,AY⟩,AZ⟩,E0⟩:=AV;have AQ:o.guard=none:=by simpa using oG
   have E3:∀x:Act,Region.wanted o (yielded ops x.tmps)=true:=λx=>by simp[Region.wanted,AQ]
   have E4:i∉F.map (·.idx):=by
    intro h;rw[zaJ.2 h] at AX;cases AX
   have E6:∀cs b,o.op≠.select cs b:=λcs b=>Region.noSelect_spec hs i o cs b ho;have Eg:∀(und:Nat)(dn:Nat->Option Nat)(l1:Array Bool)(act:Act)(w1:World),MK P ops F base listed a w und dn l1 act w1->i∈Region.ready md ops l1:=by
    intro und dn l1 act w1 eh;refine Xy (b:=λj=>(dn j).isSome) eh.at' (by simpa using AY) ?_;cases hx:dn i with
    | none=>rfl
    | some n=>exact absurd (eh.mem i (by rw[hx];rfl)) E4
   simp only[zG,ho] at hk;by_cases aQ:o.zen=0
   ·-- it only computes or reads
    simp only[aQ,if_true,Bool.and_eq_true] at hk E0;obtain⟨v,aL,E7⟩:=hk;intro dn l1 act w1 fuel eh AN;obtain⟨fuel,rfl⟩:∃m,fuel=m+1:=⟨fuel-1,ec⟩
    obtain⟨Ek,aoX,E8,E9,Ea,Eb⟩:=Region.zeL ho E0.1;refine jl z9.refl (λ_ _ _=>z9.trans) (v:=v) ho (Region.noSelect_spec hs) (λc a w hq=>absurd hq (hQ _ _ _)) Ek E8 E9 fuel l1 act w1 ?_ ?_ (Eg _ _ _ _ _ eh) ?_ ?_
    ·intro d hd;have ij:=Ea d hd;have ik:dn d=none:=by
      cases hx:dn d with
      | none=>rfl
      | some n =>
       have ag:=E0.2;rw[zaw] at ag;have aM:=ag d (by rw[aoX] at hd;simpa using hd);rw[zaJ.2 (eh.mem d (by rw[hx];rfl))] at aM;cases aM
     rw[Zn,eh.at',ik];rw[Zn] at ij;cases hl:listed[d]? with
     | none=>rw[hl] at ij;simp at ij
     | some x=>rw[hl] at ij;simpa using ij
    ·refine λj oj hj hne hun hno=>Eb j oj hj hne ?_ hno;rw[Zn,eh.at'] at hun;rw[Zn];cases hl:listed[j]? with
     | none=>rw[hl] at hun;simp at hun
     | some x=>rw[hl] at hun;simp at hun;simp[hun.1]
    ·refine .inl ⟨E3 _,λw' hw'=>?_⟩;rw[KZ (ops:=ops) eh.ag o E6 (λd hd zf7=>?_)]
     ·exact aL w' (eh.lat.trans hw')
     ·obtain⟨f,hf,rfl⟩:=zaz.1 hd;rw[zaw] at AZ;have:=AZ f.idx (zaz.2 ⟨f,hf,rfl⟩);obtain⟨_,aoV,ij,ik,_⟩:=eh.fit f hf;rw[ij] at this;exact(Oper.apart_spec this).1 _ ik zf7
    ·refine ih (listed.setIfInBounds i true) (a.put o.dst v) w AW E7 AM und dn (l1.setIfInBounds i true) (act.put o.dst v) w1 fuel ⟨eh.un,nM eh.at' i,eh.mem,eh.lat,eh.ag.put _ _,λf hf=>?_,λf hf n hn=>?_,eh.inj,eh.le⟩ ed
     ·obtain⟨_,ik⟩:=Nh hf AZ (eh.fit f hf);exact(eh.fit f hf).off (z9.refl w) (wH _ _ _) (λt ht=>YA _ _ _ _ ht) ik
     ·obtain⟨ij,ik⟩:=Nh hf AZ (eh.fit f hf);obtain⟨aN,eK,Ed⟩:=eh.did f hf n hn;exact⟨aN,eK,by rw[<-Ed,zaF,zaF,YA _ _ _ _ ij]⟩
   ·-- a call
    simp only[aQ,if_false,Bool.and_eq_true] at hk E0;have only:∀(und:Nat)(dn:Nat->Option Nat)(l1:Array Bool)(act:Act)(w1:World),MK P ops F base listed a w und dn l1 act w1->∀j,j∈Region.ready md ops l1->j∈F.map (·.idx)\/j=i:=by
     intro und dn l1 act w1 eh j hj;by_cases Az:j∈F.map (·.idx)
     ·exact .inl Az
     ·have ag:=uV (md:=md) (ops:=ops) (l2:=Region.plus listed (F.map (·.idx))) eh.at' (λj=>Xx _ _ j) (λk hk=>zaJ.2 (eh.mem k hk)) hj (by simpa using Az);have aM:=E0.2;rw[zaw] at aM;exact .inr (by simpa using aM j ag)
    have call:∀(und:Nat)(dn:Nat->Option Nat)(l1:Array Bool)(act:Act)(w1:World)(fuel:Nat),MK P ops F base listed a w und dn l1 act w1->r.length+und+R<=fuel ->
      wpOp P ops Q i (λa' w'=>((MB ops).contains i=false->z9 w1 w')/\kO P md ops Q fuel (l1.setIfInBounds i true) a' w') act w1:=by
     intro und dn l1 act w1 fuel eh AN;have aQ:=hk ((F.map (·.dst)).map λd=>act.tmps.getD d undef) w1 ab eh.lat;rw[<-eh.ag.over] at aQ;unfold wpOp;simp only[ho,E3,if_true];refine .inl (Oper.wp_mono ?_ (Oper.ziE aQ));rintro a' w'⟨⟨Eh,Ei⟩,Ej,E7⟩;refine⟨λ_=>Ej,ih (listed.setIfInBounds i true) a' w' AW E7 AM und dn (l1.setIfInBounds i true) a' w' fuel ⟨eh.un,nM eh.at' i,eh.mem,z9.refl w',vL.refl _ _,λf hf=>?_,λf hf n hn=>?_,eh.inj,zat eh.le Ej.size⟩ ae⟩
     ·obtain⟨_,ik⟩:=Nh hf AZ (eh.fit f hf);exact zT.Fits.off (a:=act) (w:=w1) (by
       obtain⟨h0,aoV,ie,oL,oM,oN,oO⟩:=eh.fits zfh hf;exact⟨h0,aoV,ie,oL,oM,oN,λw'' hw''=>oO w'' (eh.lat.trans hw'')⟩) Ej Eh Ei ik
     ·obtain⟨ij,ik⟩:=Nh hf AZ (eh.fit f hf);obtain⟨aN,eK,Ed⟩:=eh.did f hf n hn;refine⟨aN,(Ej.block n (zaQ.1 eK).1).trans eK,?_⟩;rw[<-Ed,zaF,zaF,Ei _ ij]
    induction und with
    | zero =>
     intro dn l1 act w1 fuel eh AN;obtain⟨fuel,rfl⟩:∃m,fuel=m+1:=⟨fuel-1,ec⟩
     refine⟨λh0=>?_,λj hj=>?_⟩
     ·have:=Eg _ _ _ _ _ eh;rw[h0] at this;cases this
     ·rcases only _ _ _ _ _ eh j hj with h|rfl
      ·obtain⟨f,hf,rfl⟩:=zaz.1 h;obtain⟨n,hn⟩:=eh.all hf;rw[Fg eh.at' hj] at hn;cases hn
      ·exact call 0 dn l1 act w1 fuel eh ed
    | succ und ihu =>
     intro dn l1 act w1 fuel eh AN;obtain⟨fuel,rfl⟩:∃m,fuel=m+1:=⟨fuel-1,ec⟩
     refine⟨λh0=>?_,λj hj=>?_⟩
     ·have:=Eg _ _ _ _ _ eh;rw[h0] at this;cases this
     ·rcases only _ _ _ _ _ eh j hj with h|rfl
      ·exact eh.maker hF zfh hj h λdn' l1' act' w1' b=>ihu dn' l1' act' w1' fuel b ed
      ·exact call (und+1) dn l1 act w1 fuel eh ed
def Wh{R:World->World->Prop}{brk:List Nat}:∀(n m:Nat)(listed:Array Bool)(a:Act)(w:World),n<=m->kh R brk P md ops Q n listed a w->kh R brk P md ops Q m listed a w
 | 0,0,_,_,_,_,h=>h
 | 0,m+1,_,_,_,_,h=>⟨λ_=>h.2,λi hi=>by rw[h.1] at hi;cases hi⟩
 | n+1,0,_,_,_,hm,_=>absurd hm ae
 | n+1,m+1,_,_,_,hm,h=>⟨h.1,λi hi=>wpOp_mono (λa w h'=>⟨h'.1,Wh n m _ a w ae h'.2⟩) (h.2 i hi)⟩
def zH(P:Program)(ops:Array Oper)(k:Act->World->Prop):List Nat->Act->World->Prop
 | [],a,w=>k a w
 | i::r,a,w =>
  match ops[i]? with
  | none=>False
  | some o=>∃v,(∀w',z9 w w'->(execOp a.eval o).run P w'=.ok (.value v) w')/\zH P ops k r (a.put o.dst v) w
def _root_.Go.Region.zfP(md:Region.Mode)(ops:Array Oper):List Nat->Array Bool->Bool
 | [],_=>true
 | i::r,listed =>
  (match ops[i]? with
   | none=>false
   | some o=>o.guard.isNone&&o.zen==0&&(Region.ready md ops listed).contains i&&Region.zf5 md ops listed i) &&
  Region.zfP md ops r (listed.setIfInBounds i true)
def Qx(hs:Region.noSelect ops=true)(hQ:∀c a w,¬Q (.panic c) a w)(k:Act->World->Prop)(n:Nat):∀(s0:List Nat)(listed:Array Bool)(a:Act)(w:World),
  Region.zfP md ops s0 listed=true->zH P ops k s0 a w->(∀a w,k a w->kO P md ops Q n (s0.foldl (λl i=>l.setIfInBounds i true) listed) a w)->kO P md ops Q (s0.length+n) listed a w
 | [],listed,a,w,_,h,hk=>by rw[List.length_nil,Nat.zero_add];exact hk a w h
 | i::r,listed,a,w,hc,h,hk=>by
  unfold Region.zfP at hc;rw[Bool.and_eq_true] at hc;obtain⟨hc1,hc2⟩:=hc;cases ho:ops[i]? with
  | none=>rw[ho] at hc1;simp at hc1
  | some o =>
   simp only[ho,Bool.and_eq_true] at hc1;simp only[zH,ho] at h;obtain⟨⟨⟨hg,hk0⟩,hir⟩,hfree⟩:=hc1;obtain⟨v,hv,hrest⟩:=h;have hgn:o.guard=none:=by simpa using hg
   obtain⟨Ek,_,E8,E9,Ea,Eb⟩:=Region.zeL ho hfree;rw[zaj,show r.length+1+n=r.length+n+1 by omega];exact jl z9.refl (λ_ _ _=>z9.trans) ho (Region.noSelect_spec hs) (λc a w hq=>absurd hq (hQ _ _ _)) Ek E8 E9 (r.length+n) listed a w Ea Eb (by simpa using hir) (.inl ⟨by simp[Region.wanted,hgn],hv⟩)
    (Qx hs hQ k n r _ _ _ hc2 hrest hk)
def _root_.Go.Region.zgc(md:Region.Mode)(ops:Array Oper)(s0 s1 s2 F:List Nat):Bool :=
 Region.noSelect ops&&(s0.length+(s1.length+F.length+s2.length)==ops.size)&&Region.zfP md ops s0 (zaY ops.size false) &&
 Region.zfO md ops F s1 (s0.foldl (λl i=>l.setIfInBounds i true) (zaY ops.size false)) &&
 Region.zfj md ops s2 (Region.plus (s1.foldl (λl i=>l.setIfInBounds i true) (s0.foldl (λl i=>l.setIfInBounds i true) (zaY ops.size false))) F)&&Region.zh6 ops F&&decide F.Nodup
def xq{id:Nat}{l:List Oper}{a:Act}{w:World}(s0 s1 s2:List Nat)(F:List zT)(hm:P.follows .mixedOrders=true)(hB:Region.zgc .any l.toArray s0 s1 s2 (F.map (·.idx))=true)(h:∀w',w'=w.drew->zH P l.toArray (λa w1=>(∀f∈F,f.Fits P l.toArray a w1)/\zG P l.toArray (NoPanic Q) F w.heap.size (zA P l.toArray (NoPanic Q) s2) s1 a w1/\w.heap.size<=w1.heap.size) s0 a w'):(Code.region id l.toArray true).wp P Q a w:=by
 unfold Region.zgc at hB;simp only[Bool.and_eq_true,beq_iff_eq,decide_eq_true_eq] at hB;obtain⟨⟨⟨⟨⟨⟨eg,aR⟩,ag⟩,El⟩,Em⟩,En⟩,Eo⟩:=hB;refine wp_region_noPanic (wp_region_any hm (XA (R:=z9) (brk:=MB l.toArray) _ _ _ _ ?_));suffices key:kO P .any l.toArray (NoPanic Q) (s0.length+(s1.length+(F.map (·.idx)).length+s2.length)) (zaY l.toArray.size false) a w.drew by
  rw[aR] at key;exact key
 refine Qx eg (λc a w hq=>hq) _ _ s0 _ a w.drew ag (h _ rfl) ?_;rintro eT w1⟨Av,Am,Ay⟩;refine nN eg (λc a w hq=>hq) F w.heap.size _ s2.length Eo En s1 _ eT w1 El Am (λa w fuel hf hk=>?_) F.length (λ_=>none) _ eT w1 _ ⟨?_,λj=>ab,nofun,z9.refl _,vL.refl _ _,Av,nofun,nofun,Ay⟩ ab
 ·exact Wh _ _ _ _ _ hf (qa eg (λc a w hq=>hq) s2 _ a w Em hk)
 ·exact congrArg _ (zb6.2 λ_ _=>rfl)
def xF{a:Act}{w:World}(h:k a w):zH P ops k [] a w:=h
def zfN{tl:List Oper}{a:Act}{w:World}(hd:ops.toList.drop i=o::tl)(hk:o.zen=0)(hg:o.guard=none)(hh:∀K:Act->Prop,(∀a',zH P ops k r a' w->K a')->wpQuiet P ops (lx w) K [o] a):zH P ops k (i::r) a w:=by
 have h:=hh (λa'=>zH P ops k r a' w) (λ_ h=>h);have oE:ops[i]? = some o:=by
  exact agp
 have Am:Region.wanted o (yielded ops a.tmps)=true:=eo;simp only[wpQuiet,Am,if_true] at h;simp only[zH,oE];obtain⟨aK,aL,aD⟩:=h;exact⟨aK,λw' hw'=>xL hk (aL w' ⟨⟨w',hw'⟩,rfl⟩),aD⟩
def uW{F:List zT}{a:Act}{w:World}(ho:ops[i]? = some o)(hk:(o.zen==0)=false)(h:∀(us:Lb_)(w1:World),us.length=F.length->z9 w w1->∀K:Act->World->Prop,(∀a' w',z9 w1 w'->zG P ops Q F base k r a' w'->K a' w')->o.wp P (a.over (F.map (·.dst)) us) w1 K Q):zG P ops Q F base k (i::r) a w:=by
 have aQ:o.zen≠0:=by simpa using hk
 simp only[zG,ho,aQ,if_false];exact λus w1 hl hw=>h us w1 hl hw _ (λ_ _ h1 h2=>⟨h1,h2⟩)
def zT.var(i:Nat)(d:Tmp)(t:TypeId)(vs:Lb_):zT:=⟨i,d,.cells vs.toArray t,λn=>.pointer (some ⟨n,0,none⟩)⟩
@[go_sem,simp] theorem zkB(i:Nat)(d:Tmp)(t:TypeId)(vs:Lb_):(zT.var i d t vs).dst=d:=rfl
@[go_sem,simp] theorem zkC(i:Nat)(d:Tmp)(t:TypeId)(vs:Lb_)(n:Nat):(zT.var i d t vs).val n=.pointer (some ⟨n,0,none⟩):=rfl
@[go_sem,simp] theorem zkD(i:Nat)(d:Tmp)(t:TypeId)(vs:Lb_):(zT.var i d t vs).obj=.cells vs.toArray t:=rfl
def qk{a:Act}{w:World}(i:Nat)(d:Tmp)(t:TypeId)(vs:Lb_)(z:Value)(o:Oper)(ho:ops[i]? = some o)(hop:o.op=.alloc t)(hd:o.dst=some d)(hg:o.guard=none)(hsz:d<a.tmps.size)(hz:(P.info? t).map (·.zero)=some (some z))(hv:z.cells=vs.toArray):(zT.var i d t vs).Fits P ops a w:=by
 refine⟨hsz,o,ho,hd,hg,by simp[hop],λw' _=>?_⟩;cases hq:P.info? t with
 | none=>rw[hq] at hz;cases hz
 | some x =>
  rw[hq] at hz;have aH:x.zero=some z:=by simpa using hz
  simp[execOp,hop,Instr.alloc,zeroValue,typeInfo,hq,aH,newVar,newRow,hv,zT.var]
def len1{l:List α}(h:l.length=1):∃x,l=[x]:=by
 match l,h with
 | [x],_=>exact⟨x,rfl⟩
def len2{l:List α}(h:l.length=2):∃x y,l=[x,y]:=by
 match l,h with
 | [x,y],_=>exact⟨x,y,rfl⟩
def qA{a:Act}{w:World}(h:∀(n:Nat)(w1:World),z9 w w1->base<=n->w1.heap[n]? = some f.obj->k (a.put (some f.dst) (f.val n)) w1):zG P ops Q [f] base k [] a w:=by intro Er w1 aR Am aD _;obtain⟨n,rfl⟩:=len1 aR;obtain⟨ag,aM⟩:=aD 0 f n rfl rfl;exact h n w1 Am ag aM
def K0{g:zT}{a:Act}{w:World}(h:∀(n m:Nat)(w1:World),z9 w w1->base<=n->base<=m->n≠m->w1.heap[n]? = some f.obj->w1.heap[m]? = some g.obj ->
  k ((a.put (some f.dst) (f.val n)).put (some g.dst) (g.val m)) w1):zG P ops Q [f,g] base k [] a w:=by intro Er w1 aR Am aD ah;obtain⟨n,m,rfl⟩:=len2 aR;obtain⟨ag,aM⟩:=aD 0 f n rfl rfl;obtain⟨ij,ik⟩:=aD 1 g m rfl rfl;refine h n m w1 Am ag ij (λe=>?_) aM ik;subst e;simp at ah
def zQ{a:Act}{w:World}(ho:ops[i]? = some o)(hk:(o.zen==0)=false)(h:∀(u:Value)(w1:World),z9 w w1->∀K:Act->World->Prop,(∀a' w',z9 w1 w'->zG P ops Q [f] base k r a' w'->K a' w')->o.wp P (a.put (some f.dst) u) w1 K Q):zG P ops Q [f] base k (i::r) a w:=uW ho hk λus w1 hl hw K hK=>by
 obtain⟨u,rfl⟩:=len1 hl;exact h u w1 hw K hK
def kA{g:zT}{a:Act}{w:World}(ho:ops[i]? = some o)(hk:(o.zen==0)=false)(h:∀(u v:Value)(w1:World),z9 w w1->∀K:Act->World->Prop,(∀a' w',z9 w1 w'->zG P ops Q [f,g] base k r a' w'->K a' w')->o.wp P ((a.put (some f.dst) u).put (some g.dst) v) w1 K Q):zG P ops Q [f,g] base k (i::r) a w:=uW ho hk λus w1 hl hw K hK=>by
 obtain⟨u,v,rfl⟩:=len2 hl;exact h u v w1 hw K hK
end
def tI(R:Act->World->Prop):Exit->Act->World->Prop
 | .normal,a,w=>R a w
 | _,_,_=>False
def _root_.Go.Oper.zfq(o:Oper):Bool:=match o.op with
 | .defer _=>false
 | _=>true
def _root_.Go.Oper.zfS{o:Oper}(h:o.zfq=true):∀c,o.op≠.defer c:=by intro c az;unfold Oper.zfq at h;rw[az] at h;cases h
section
variable{P:Program}{ops:Array Oper}{md:Region.Mode}{l n:Nat}
def dy{o:Oper}{a:Act}{w:World}{K K':Act->World->Prop}{R:Act->World->Prop}{Q:Exit->Act->World->Prop}(hd:o.zfq=true)(hk:∀a w,K a w->K' a w)(h:o.wp P a w K (NoPanic (tI R))):o.wpIn (Fence.wide.inRound l) n P a w K' Q:=by
 refine⟨λ_ _=>trivial,?_⟩;rw[Oper.semAt_eq _ _ _ (Oper.zfS hd)];unfold Oper.wp at h;generalize (execOp a.eval o).run P w=An at h
 match An,h with
 | .ok (.value v) w',h=>exact hk _ _ h
 | .ok .skip w',h=>exact hk _ _ h
 | .ok (.defer d) w',h=>exact hk _ _ h
 | .ok (.enter f args) w',h =>
  refine⟨λhh=>(by cases hh),?_⟩;refine CallsIn.inRound l (callsIn_wide.2 (Calls.mono h ?_));intro ai A4 he;cases ai with
  | returned v=>exact hk _ _ he
  | panicked c=>exact(he:False).elim
  | outgrown=>obtain⟨_,_,hf⟩:=he;exact(hf:False).elim
 | .ok (.row row args) w',h =>
  exact ahr
 | .halt (.panic v) w',h=>exact(h:False).elim
def Cd{o:Oper}{a:Act}{w:World}{K K':Act->World->Prop}{R:Act->World->Prop}{Q:Exit->Act->World->Prop}(hk:∀a w,K a w->K' a w)(h:o.wp P a w K (tI R)):o.wpIn Fence.wide n P a w K' Q:=by
 refine⟨λ_ _=>trivial,?_⟩;show o.uponIn Fence.wide n P a K' Q ((execOp a.eval o).run P w);unfold Oper.wp at h;generalize (execOp a.eval o).run P w=An at h
 match An,h with
 | .ok (.value v) w',h=>exact hk _ _ h
 | .ok .skip w',h=>exact hk _ _ h
 | .ok (.defer d) w',h=>exact hk _ _ h
 | .ok (.enter f args) w',h =>
  refine⟨λhh=>(by cases hh),?_⟩;refine callsIn_wide.2 (Calls.mono h ?_);intro ai A4 he;cases ai with
  | returned v=>exact hk _ _ he
  | panicked c=>exact(he:False).elim
  | outgrown=>obtain⟨_,_,hf⟩:=he;exact(hf:False).elim
 | .ok (.row row args) w',h =>
  exact ahr
 | .halt (.panic v) w',h=>exact(h:False).elim
def VE{Q:Exit->Act->World->Prop}:∀(r:List Oper)(a:Act)(w:World),wpList P ops (tI (Q .normal)) r a w->wpListIn Fence.wide n P ops Q r a w
 | [],_,_,h=>h
 | o::r,a,w,h=>by
  unfold wpList at h;unfold wpListIn;by_cases hw:Region.wanted o (yielded ops a.tmps)=true
  ·rw[if_pos hw] at h |-;rcases h with h|⟨_,_,_,hf⟩
   ·exact Cd (λa' w' h'=>VE r a' w' h') h
   ·exact(hf:False).elim
  ·rw[if_neg hw] at h |-;exact⟨λ_ _=>trivial,VE r _ _ h⟩
def dz{R:Act->World->Prop}{a:Act}{w:World}(h:R a w):wpList P ops (tI R) [] a w:=h
def Zo{R:Act->World->Prop}{Q:Exit->Act->World->Prop}(hQ:∀a w,R a w->Q .normal a w)(hd:∀(i:Nat)(o:Oper),ops[i]? = some o->o.zfq=true):∀(fuel:Nat)(listed:Array Bool)(a:Act)(w:World),
  wpAny P md ops (NoPanic (tI R)) fuel listed a w->wpAnyIn (Fence.wide.inRound l) n P md ops Q fuel listed a w
 | 0,_,_,_,h=>⟨h.1,hQ _ _ h.2⟩
 | fuel+1,listed,a,w,h=>by
  refine⟨λhr=>hQ _ _ (h.1 hr),λi hi=>?_⟩;have h2:=h.2 i hi;unfold wpOp at h2;unfold wpOpIn;cases ho:ops[i]? with
  | none =>
   simp only[ho] at h2;exact Zo hQ hd fuel _ _ _ h2
  | some o =>
   simp only[ho] at h2 |-;by_cases hw:Region.wanted o (yielded ops a.tmps)=true
   ·rw[if_pos hw] at h2 |-;rcases h2 with h2|⟨_,_,_,hf⟩
    ·exact dy (hd i o ho) (λa' w' h'=>Zo hQ hd fuel _ a' w' h') h2
    ·exact(hf:False).elim
   ·rw[if_neg hw] at h2 |-;exact⟨λ_ _=>trivial,Zo hQ hd fuel _ _ _ h2⟩
def dA{id:Nat}{r:List Oper}{a:Act}{w:World}{Q:Exit->Act->World->Prop}(order:List Nat)(hm:P.follows .mixedOrders=true)(hB:(Region.noSelect r.toArray&&(order.length==r.length)&&Region.zfj .any r.toArray order (zaY r.length false))=true)(hd:r.all Oper.zfq=true)(h:∀w',w'=w.drew->zA P r.toArray (NoPanic (tI (Q .normal))) order a w'):(Code.region id r.toArray true).wpIn (Fence.wide.inRound l) n P Q a w:=by simp only[Bool.and_eq_true,beq_iff_eq] at hB;obtain⟨⟨eg,aR⟩,hB⟩:=hB;have:=qa (P:=P) (Q:=NoPanic (tI (Q .normal))) eg (λc a w hq=>hq) order _ a w.drew hB (h _ rfl);rw[aR] at this;refine wpIn_region_any hm (Zo (R:=Q .normal) (λ_ _ h=>h) (λi o ho=>?_) _ _ _ _ (XA (R:=z9) (brk:=MB r.toArray) _ _ _ _ this));rw[zaw] at hd;exact hd o (zad (by simpa using ho))
end
open Ieee
def fl(n:Nat):Nat:=FloatKind.f64.nearest (n:Int)
def fQ(neg:Bool)(x d:Nat)(h:d<=(x*2^d).log2+2):Toward.even.cut neg (x*2^d) d=x:=by unfold Toward.cut;simp only[zbF h,zbf,zbZ];have eE:0<2^d:=za2 d;rw[zdd _ eE,Nat.mul_mod_left];simp
def JX(n K:Nat)(h:n≠0):(n*2^K).log2=n.log2+K:=by
 have Tq:0<2^K:=za2 K;have ag:n*2^K≠0:=by
  have:=zdL (zde h) Tq;omega
 refine(Nat.log2_eq_iff ag).2 ⟨?_,?_⟩
 ·rw[za7];exact za0 _ (zcw h)
 ·rw[show n.log2+K+1=(n.log2+1)+K by omega,za7];exact za9 zb7 Tq
def Kv(n K:Nat)(h0:n≠0)(h:n<2^53):double.nearest false (n*2^K) (-(K:Int))=(n.log2+1022)*2^52+n*2^(52-n.log2):=by
 have oY:n.log2<=52:=by
  have:=(zdM h0).2 h;omega
 have Tq:0<2^K:=za2 K;have ag:n*2^K≠0:=by
  have:=zdL (zde h0) Tq;omega
 have Tt:2^52<=n*2^(52-n.log2):=by
  have aM:2^n.log2*2^(52-n.log2)<=n*2^(52-n.log2):=za0 _ (zcw h0);rw[<-za7,show n.log2+(52-n.log2)=52 by omega] at aM;exact aM
 have Tu:n*2^(52-n.log2)<2^53:=by
  exact ahf
 unfold Format.nearest;rw[if_neg ag];have ML:double.leastPlace=-1074:=bd;have OL:max (-(K:Int)+((n*2^K).log2:Nat)-(double.fractionBits:Nat)) double.leastPlace=(n.log2:Int)-52:=by
  rw[JX n K h0,ML];show max (-(K:Int)+((n.log2+K:Nat):Int)-52) (-1074)=_;omega
 simp only[OL];have Tv:Toward.even.cut false ((n*2^K)<<<(-(K:Int)-((n.log2:Int)-52)).toNat) ((n.log2:Int)-52 - -(K:Int)).toNat=n*2^(52-n.log2):=by
  rw[zbf];by_cases az:K<=52-n.log2
  ·rw[show((n.log2:Int)-52 - -(K:Int)).toNat=0 by omega,show(-(K:Int)-((n.log2:Int)-52)).toNat=52-n.log2-K by omega];rw[zb4,<-za7,show K+(52-n.log2-K)=52-n.log2 by omega];have:=fQ false (n*2^(52-n.log2)) 0 ae;simpa using this
  ·rw[show(-(K:Int)-((n.log2:Int)-52)).toNat=0 by omega,show((n.log2:Int)-52 - -(K:Int)).toNat=K-(52-n.log2) by omega];have ai:n*2^K*2^0=(n*2^(52-n.log2))*2^(K-(52-n.log2)):=by
    rw[zbY,zbU,zb4,<-za7,show 52-n.log2+(K-(52-n.log2))=K by omega]
   rw[ai];refine fQ _ _ _ ?_;rw[<-ai,zbY,zbU,JX n K h0];omega
 rw[Tv,ML];unfold Format.word;simp only[Bool.false_eq_true,if_false];have Oy:double.infRung=2047*2^52:=bd;have aF:double.binade=2^52:=bd;rw[Oy,aF,show((n.log2:Int)-52 - -1074).toNat=n.log2+1022 by omega];have ag:(2:Nat)^53=2*2^52:=bd;rw[ag] at Tu;generalize (2:Nat)^52=ox at*;generalize n*2^(52-n.log2)=aZ at*;have:(n.log2+1022)*ox<=1074*ox:=za0 _ ae;rw[zbF];omega
def ZR(K:Int):double.nearest false 0 K=0:=by unfold Format.nearest;rfl
def FD(n:Nat):fl n=double.nearest false n 0:=by unfold fl FloatKind.nearest FloatKind.encode Format.write FloatKind.format;simp only[zdf];have:(decide ((n:Int)<0))=false:=ab;rw[this]
def pf(n:Nat)(h0:n≠0)(h:n<2^53):fl n=(n.log2+1022)*2^52+n*2^(52-n.log2):=by have:=Kv n 0 h0 h;rw[FD];simpa using this
def pg(n K:Nat)(h:n<2^53):double.write (.number false (n*2^K) (-(K:Int)))=fl n:=by
 by_cases ag:n=0
 ·subst ag;show double.nearest false (0*2^K) _=_;rw[zcj,ZR];rfl
 ·rw[pf n ag h];exact Kv n K ag h
def lL(k:Nat):0*2^k=0:=zcj _
def Ce:double.read 0=.number false 0 (-((1074:Nat):Int)):=bd
def Zp(n:Nat)(h:n<2^53):∃k:Nat,double.read (fl n)=.number false (n*2^k) (-(k:Int)):=by
 by_cases ag:n=0
 ·subst ag;have ai:fl 0=0:=by rw[FD];exact ZR _
  obtain⟨k,aQ⟩:∃k:Nat,k=1074:=⟨_,rfl⟩
  refine⟨k,?_⟩;rw[ai,lL,aQ];exact Ce
 ·refine⟨52-n.log2,?_⟩;have oY:n.log2<=52:=by
   have:=(zdM ag).2 h;omega
  have Tt:2^52<=n*2^(52-n.log2):=by
   have aM:2^n.log2*2^(52-n.log2)<=n*2^(52-n.log2):=za0 _ (zcw ag);rw[<-za7,show n.log2+(52-n.log2)=52 by omega] at aM;exact aM
  have Tu:n*2^(52-n.log2)<2^53:=by
   exact ahf
  rw[pf n ag h];generalize eh:n*2^(52-n.log2)=aZ at*;have aF:double.binade=2^52:=bd;have eg:double.signWeight=2^63:=bd;have Oy:double.infRung=2047*2^52:=bd;have ML:double.leastPlace=-1074:=bd;have eF:(2:Nat)^63=2048*2^52:=bd;have ag:(2:Nat)^53=2*2^52:=bd;have eE:0<(2:Nat)^52:=bd;unfold Format.read;rw[aF,eg,Oy,ML,eF];rw[ag] at Tu;clear eh aF eg Oy ML eF ag h;generalize (2:Nat)^52=ox at*;have Pq:(n.log2+1022)*ox<=1074*ox:=za0 _ ae;have Tw:1022*ox<=(n.log2+1022)*ox:=za0 _ ae;have ai:((n.log2+1022)*ox+aZ)/(2048*ox)=0:=by
   rw[Nat.div_eq_zero_iff];right;omega
  have aj:((n.log2+1022)*ox+aZ)%(2048*ox)=(n.log2+1022)*ox+aZ:=zbG ae;simp only[ai,aj];rw[if_neg ae,if_pos ae];have ai:aZ=ox*1+(aZ-ox):=ae;have aj:((n.log2+1022)*ox+aZ)/ox=n.log2+1023:=by
   rw[zcu,zdB eE,ai,zdB eE,zcx ae]
  have ak:((n.log2+1022)*ox+aZ)%ox=aZ-ox:=by
   rw[zcu,zdC,ai,zdC,zbG ae];omega
  rw[aj,ak];have ai:ox+(aZ-ox)=aZ:=ae;rw[ai];have ai:(-1074:Int)+((n.log2+1023-1:Nat):Int)=-((52-n.log2:Nat):Int):=ae;rw[ai];rfl
def Yb:fl 0=0:=by rw[FD];exact ZR _
def jQ(m up:Nat):signed false m up=((m*2^up:Nat):Int):=by unfold signed;simp[zbf]
def scale(n k j:Nat):∃d:Nat,(-(k:Int)-min (-(k:Int)) (-(j:Int))).toNat=d/\n*2^k*2^d=n*2^max k j:=by refine⟨max k j-k,ae,?_⟩;rw[zb4,<-za7,show k+(max k j-k)=max k j by omega]
def lM(a b:Nat)(ha:a<2^53)(hb:b<2^53)(h:a+b<2^53):floatBits .add .f64 (fl a) (fl b)=some (fl (a+b)):=by
 obtain⟨k,aQ⟩:=Zp a ha;obtain⟨j,aA⟩:=Zp b hb;show((double.read (fl a)).sum (double.read (fl b))).map double.write=_;rw[aQ,aA];simp only[Datum.sum];obtain⟨aN,ah,AJ⟩:=scale a k j;obtain⟨iy,az,Tx⟩:=scale b j k;rw[zdF] at az;rw[ah,az,jQ,jQ,AJ,Tx,zdG j k];have ai:((a*2^max k j:Nat):Int)+((b*2^max k j:Nat):Int)=(((a+b)*2^max k j:Nat):Int):=by
  rw[Nat.add_mul];omega
 rw[ai];have ai:min (-(k:Int)) (-(j:Int))=-((max k j:Nat):Int):=ae;rw[ai];have Am:=pg (a+b) (max k j) h;generalize (a+b)*2^max k j=m at*;have ai:(if(m:Int)=0 then(false&&false) else decide ((m:Int)<0))=false:=by
  split
  ·rfl
  ·simp
 rw[ai,zdf];simp only[zbM,Am]
def pj(a b:Nat)(ha:a<2^53)(hb:b<2^53):double.order (fl a) (fl b)=some (compare a b):=by
 obtain⟨Pp,aQ⟩:=Zp a ha;obtain⟨aq,aA⟩:=Zp b hb;unfold Format.order;rw[aQ,aA];simp only[Datum.order];obtain⟨aN,ah,AJ⟩:=scale a Pp aq;obtain⟨iy,az,Tx⟩:=scale b aq Pp;rw[zdF] at az;rw[ah,az,jQ,jQ,AJ,Tx,zdG aq Pp];have eE:0<2^max Pp aq:=za2 _;generalize 2^max Pp aq=ox at*;congr 1;rcases Nat.lt_trichotomy a b with hlt|rfl|hgt
 ·rw[zdn.2 hlt];refine zby.2 ?_;have:=za9 hlt eE;omega
 ·rw[zdo.2 rfl];exact za8.2 rfl
 ·rw[Nat.compare_eq_gt.2 hgt];refine zbz.2 ?_;have:=za9 hgt eE;omega
def bI(neg:Bool)(n d:Nat):Toward.zero.cut neg n d=n/2^d:=by
 unfold Toward.cut;simp only[Bool.toNat_false,Nat.add_zero,zbf,zbZ];by_cases ag:d<=n.log2+2
 ·rw[zbF ag]
 ·rw[Nat.min_eq_right ae];have ag:n<2^(n.log2+2):=za1 zb7 (zc6 bd ae);have aM:n<2^d:=za1 ag (zc6 bd ae);rw[zcx ag,zcx aM]
def zj7(a:Nat)(ha:a<2^53):floatToIntVal .f64 (fl a) .i64=some (a:Int):=by
 obtain⟨k,aQ⟩:=Zp a ha;unfold floatToIntVal;show(match (double.read (fl a)).toInt .zero with|some n=>_|none=>_)=_;rw[aQ];have ai:(Datum.number false (a*2^k) (-(k:Int))).toInt .zero=some (a:Int):=by
  unfold Datum.toInt Datum.integral;simp only;rw[show(-(k:Int)).toNat=0 by omega,show(-(-(k:Int))).toNat=k by omega,zbf,zbY,zbU,bI,zdd _ (za2 k),jQ];simp
 rw[ai];simp only;rw[if_pos];constructor
 ·show(-9223372036854775808:Int)<=a;omega
 ·show(a:Int)<=9223372036854775807;exact aih
def lN(x:Nat)(s:Bool)(m:Nat)(e:Int)(hx:double.read x=.number s m e):∃(V:Int)(D:Nat),0<D/\(∀j,j<2^53->double.order x (fl j)=some (compare V ((j*D:Nat):Int))/\double.order (fl j) x=some (compare ((j*D:Nat):Int) V)) /\
   (0<=V->(double.read x).toInt .zero=some (V/(D:Int))):=by
 by_cases aJ:0<=e
 ·obtain⟨q,rfl⟩:=zcT aJ;refine⟨signed s m q,1,bd,?_,?_⟩
  ·intro j aA;obtain⟨k,aQ⟩:=Zp j aA;have eE:0<2^k:=za2 k;have ai:min ((q:Nat):Int) (-(k:Int))=-(k:Int):=ae;have aj:min (-(k:Int)) ((q:Nat):Int)=-(k:Int):=ae;have ak:(((q:Nat):Int) - -(k:Int)).toNat=q+k:=ae;have an:(-(k:Int) - -(k:Int)).toNat=0:=ae;have iB:signed s m (q+k)=signed s m q*((2^k:Nat):Int):=by
    unfold signed;rw[Nat.shiftLeft_add,zbf (m<<<q) k];cases s<;>simp[zdN]
   have az:∀a b:Int,compare (a*((2^k:Nat):Int)) (b*((2^k:Nat):Int))=compare a b:=by
    intro a b;have Ir:(0:Int)<((2^k:Nat):Int):=ae;generalize ((2^k:Nat):Int)=ox at*;exact agz
   unfold Format.order;rw[hx,aQ];simp only[Datum.order];rw[ai,aj,ak,an,jQ,iB,zbY,zbU,zbU,zcF,az,az];exact aeU
  ·intro Ty;rw[hx];unfold Datum.toInt Datum.integral;simp only;rw[show(((q:Nat):Int)).toNat=q by omega,show(-((q:Nat):Int)).toNat=0 by omega,bI,zbY,Nat.div_one];have:signed s (m<<<q) 0=signed s m q:=by unfold signed;simp
   rw[this];simp
 ·obtain⟨q,eA⟩:=zcT (show 0<=-e by omega);obtain rfl:e=-(q:Int):=ae;refine⟨signed s m 0,2^q,za2 q,?_,?_⟩
  ·intro j aA;obtain⟨k,aQ⟩:=Zp j aA;have ai:min (-(q:Int)) (-(k:Int))=-((max q k:Nat):Int):=ae;have aj:min (-(k:Int)) (-(q:Int))=-((max q k:Nat):Int):=ae;have ak:(-(q:Int) - -((max q k:Nat):Int)).toNat=max q k-q:=ae;have an:(-(k:Int) - -((max q k:Nat):Int)).toNat=max q k-k:=ae;have iB:signed s m (max q k-q)=signed s m 0*((2^(max q k-q):Nat):Int):=by
    unfold signed;rw[zbf];cases s<;>simp[zdN]
   have iC:j*2^k*2^(max q k-k)=(j*2^q)*2^(max q k-q):=by
    rw[zb4,zb4,<-za7,<-za7];congr 2;omega
   have eE:0<2^(max q k-q):=za2 _;have az:∀a b:Int,compare (a*((2^(max q k-q):Nat):Int)) (b*((2^(max q k-q):Nat):Int))=compare a b:=by
    intro a b;have Ir:(0:Int)<((2^(max q k-q):Nat):Int):=ae;generalize ((2^(max q k-q):Nat):Int)=ox at*;exact agz
   unfold Format.order;rw[hx,aQ];simp only[Datum.order];rw[ai,aj,ak,an,jQ,iB,iC,zcF (j*2^q),az,az];exact aeU
  ·intro Ty;rw[hx];unfold Datum.toInt Datum.integral;simp only;rw[show(-(q:Int)).toNat=0 by omega,show(-(-(q:Int))).toNat=q by omega,bI,zbf,zbY,zbU];cases s with
   | false=>simp[signed]
   | true =>
    have:m=0:=by
     unfold signed at Ty;simp at Ty;omega
    subst this;simp[signed]
def Zq(x most:Nat):Option Nat:=(zax (most+1)).find? λi=>double.order (fl i) x==some .eq
def Y6(x most i:Nat)(hm:most<2^53)(h:Zq x most=some i):i<=most/\(double.order x 0==some .gt||double.order x 0==some .eq)=true/\(double.order x (fl most)==some .lt||double.order x (fl most)==some .eq)=true /\
   floatToIntVal .f64 x .i64=some (i:Int)/\(double.order (fl i) x==some .eq)=true:=by
 have ag:=List.find?_some h;have aM:=List.mem_of_find?_eq_some h;simp only[zcg] at aM;have aO:i<2^53:=ae;refine⟨ae,?_⟩;have aM:double.order (fl i) x=some .eq:=c6;cases hx:double.read x with
 | nan n t =>
  obtain⟨Pp,aQ⟩:=Zp i aO;unfold Format.order at aM;rw[hx,aQ] at aM;simp[Datum.order] at aM
 | infinity n =>
  obtain⟨Pp,aQ⟩:=Zp i aO;unfold Format.order at aM;rw[hx,aQ] at aM;cases n<;>simp[Datum.order] at aM
 | number s m e =>
  obtain⟨Tz,D,E9,oE,aW⟩:=lN x s m e hx;rw[(oE i aO).2] at aM;have Ty:((i*D:Nat):Int)=Tz:=by
   have:compare ((i*D:Nat):Int) Tz=.eq:=by simpa using aM
   exact za8.1 this
  subst Ty;have aM:=(oE 0 bd).1;rw[Yb,zcj] at aM;have TA:=(oE most hm).1;have Pq:i*D<=most*D:=za0 _ ae;refine⟨?_,?_,?_,ag⟩
  ·rw[aM];rcases Nat.eq_zero_or_pos (i*D) with hz|hz
   ·rw[hz,za8.2 rfl];rfl
   ·rw[zbz.2 ae];rfl
  ·rw[TA];rcases Nat.lt_or_eq_of_le Pq with hz|hz
   ·rw[zby.2 ae];rfl
   ·rw[hz,za8.2 rfl];rfl
  ·have TB:=aW ae;have e:((i*D:Nat):Int)/(D:Int)=(i:Int):=by
    rw[zcF];exact Int.mul_ediv_cancel _ ae
   rw[e] at TB;unfold floatToIntVal;show(match (double.read x).toInt .zero with|some n=>_|none=>_)=_;rw[TB];simp only;rw[if_pos];constructor
   ·show(-9223372036854775808:Int)<=i;omega
   ·show(i:Int)<=9223372036854775807;exact aih
def bJ(n most:Nat)(hm:most<2^53):Zq (fl n) most=if n<=most then some n else Zq (fl n) most:=by
 by_cases ag:n<=most
 ·rw[if_pos ag];unfold Zq;rw[List.find?_range_eq_some];refine⟨by rw[pj n n (by omega) (by omega),zdo.2 rfl];rfl,zcg.2 ae,?_⟩;intro aq aA;rw[pj aq n ae ae,zdn.2 aA];rfl
 ·rw[if_neg ag]
def Yc(re im many:Nat):Option (Nat×Nat) :=
 match Zq re many with
 | none=>none
 | some a =>
  match Zq im many with
  | none=>none
  | some n=>if a+n<=many then some (a,n) else none
def K4{re im many a n:Nat}(h:Yc re im many=some (a,n)):Zq re many=some a/\Zq im many=some n/\a+n<=many:=by
 unfold Yc at h;split at h
 ·cases h
 ·split at h
  ·cases h
  ·split at h
   ·cases h;exact⟨by assumption,by assumption,by assumption⟩
   ·cases h
def wL(a n many:Nat)(hm:many<2^53)(h:a+n<=many):Yc (fl a) (fl n) many=some (a,n):=by unfold Yc;rw[bJ a many hm,bJ n many hm,if_pos ae,if_pos ae];simp[h]
abbrev Ca_:=Calls pgm
@[simp,go_sem] abbrev C_b n a w v:=Ca_ n a w (λe w'=>e=.returned v/\Below w.heap.size w w')
@[simp,go_sem] abbrev C_e n a w v:=Ca_ n a w (λe w'=>e=.returned v/\w=w')
def pk(x many i:Nat)(b:Nat)(w:World)(hm:many<2^53)(hc:w.cell? ⟨b,0,none⟩=some (.int .i64 many))(h:Zq x many=some i):C_e 192 #[.float .f64 x,pa_ b] w (.bool true):=by obtain⟨ag,aM,ij,ik,il⟩:=Y6 x many i hm h;have eI:=λ(w:World)=>run_convert_float_int (P:=pgm) w 264 3 .f64 .i64 x i AE underlying3 ik;have Ao:(FloatKind.f64.format.order x 0==some Ordering.gt||FloatKind.f64.format.order x 0==some Ordering.eq)=true:=aM;have Ao:(FloatKind.f64.format.order x (floatOfInt FloatKind.f64 ↑many)==some Ordering.lt||FloatKind.f64.format.order x (floatOfInt FloatKind.f64 ↑many)==some Ordering.eq)=true:=ij;have Ao:(FloatKind.f64.format.order (floatOfInt FloatKind.f64 ↑i) x==some Ordering.eq)=true:=il;clear aM ij il ik ag h hm;go_enter func192,ntmps192;exact aeJ
def pn(re im many a n:Nat)(w:World)(hm:many<2^53)(hcut:Yc re im many=some (a,n)):Ca_ 187 #[.complex .f64 re im,.int .i64 many] w λe w'=>e=.returned (.tuple #[.int .i64 a,.int .i64 n,.bool true])/\w'=w.alloc (.cells #[.int .i64 many] 3):=by
 obtain⟨ag,aM,ij⟩:=K4 hcut;have Pp:=(Y6 re many a hm ag).2.2.2.1;have TC:=(Y6 im many n hm aM).2.2.2.1;have Mv:=(Y6 re many a hm ag).1;have Mv:=(Y6 im many n hm aM).1;have eI:=λ(w:World)=>run_convert_float_int (P:=pgm) w 264 3 .f64 .i64 re a AE underlying3 Pp;have aO:=λ(w:World)=>run_convert_float_int (P:=pgm) w 264 3 .f64 .i64 im n AE underlying3 TC;have eh:(many:Int)<=9007199254740992:=by
  exact aih
 refine ajJ hm ag aM ?_;intro PK A6 Pw;clear Pp TC ag aM hm hcut;go_enter func187,ntmps187;go_wp2_with fail;refine(pk re many a _ _ PK ab A6).mono ?_;rintro e w'⟨rfl,rfl⟩;go_wp2_with fail;refine(pk im many n _ _ PK ab Pw).mono ?_;rintro e w'⟨rfl,rfl⟩;go_wp2_with fail;go_ret3;exact aeU
def z5:(pgm.info? 5).map (λi=>(i.zero,i.size,i.bytes))=some (some (.int .u8 0),1,1):=e0
def vU(ao:OA)(len cap:Nat)(xs:Lb_)(w:World)(hlen:xs.length=len)(hb:len<=1099511627776)(hl:zr w ao xs)(h1:∀u∈xs,u.oneCell'=true):Ca_ 64 #[.slice ao len cap] w (W4 w 5 1 len xs id):=by
 obtain⟨aS,aO,aT,aU,aV⟩:=info_parts z5;have eA:=λ(w:World)=>Kg (P:=pgm) w 23 5 ao len cap underlying23;cases ao with
 | none =>
  have aH:xs=[]:=by
   cases xs with
   | nil=>rfl
   | cons x xs=>obtain⟨_,_,e,_⟩:=hl 0 x rfl;cases e
  subst aH;obtain rfl:len=0:=by simpa using hlen.symm
  clear h1 hl hlen aO aT aU aV;go_enter func64,ntmps64;go_wp2;go_ret;exact⟨_,rfl,World.ownsRow_nil _ _ _ _,Below.refl _ _⟩
 | some ad =>
  have I4:=World.ownsRow_made (size:=1) (e:=5) (base:=w.heap.size) w #[] 0 (zab _) bk ab;have aR:=(hl.below ((Below.refl w.heap.size w).alloc (zab _) (.cells #[] 5))).news;refine ajJ aR h1 hlen ?_;intro A0 A6 A2;clear h1 hl aR hlen;go_enter func64,ntmps64;go_wp2_with (first|(at_builtin;refine wpList_append_own _ rfl _ _ 23 rfl w.heap.size 5 aS (.int .u8 0) 1 1 underlying23 aO aT aU aV rfl bd _ _ _ rfl I4 ad len cap xs rfl ?c1 A0 A6 ?c3 ?c4 ?c5 ?_));case c1=>rw[A2.o];omega
  case c3=>simp[maxLen];omega
  case c4=>omega
  case c5=>simp
  intro aK A4 I4 NN _;go_wp2;go_ret;refine⟨aK,rfl,?_,?_⟩
  ·simpa using I4
  ·exact((Below.refl w.heap.size w).alloc (zab _) _).grown NN ab (by intro Pp aQ;simp[Value.ownBlock] at aQ;omega)
def pq(ao:OA)(len cap:Nat)(bs:La_)(re im a n:Nat)(w:World)(hlen:bs.length=len)(hcap:len<=cap)(hb:len<=1099511627776)(hl:zr w ao (bs.map B))(hcut:Yc re im len=some (a,n)):Ca_ 188 #[.slice ao len cap,.complex .f64 re im] w (W4 w 5 1 n (((bs.drop a).take n).map B) λv=>.tuple #[v,.bool true]):=by obtain⟨_,_,TD⟩:=K4 hcut;obtain⟨aS,aO,aT,aU,aV⟩:=info_parts z5;have TE:(((bs.drop a).take n).map B).length=n:=bq;have eg:=λ(w:World)=>UN (P:=pgm) w 23 5 underlying23 (mQ _ aS 1 aO aU) ao len cap a (a+n) (a:Int) ((a:Int)+n) rfl ae ae ae;rw[show a+n-a=n by omega] at eg;have SW:=zc hcut;have A2:=zc TE;have A0:=zc ((zr.cutA (cap:=cap) (hl.below ((Below.refl w.heap.size w).alloc (zab _) (.cells #[.int .i64 len] 3))) bq a n));rw[<-List.map_drop,<-List.map_take] at A0;have A6:=zc (zj ((bs.drop a).take n));clear TE hlen hl hcut aO aT aU aV;go_enter func188,ntmps188;go_wp2_with fail;refine(pn re im len a n _ ae SW).mono ?_;rintro ai A4⟨rfl,rfl⟩;go_wp2_with fail;refine(vU _ n _ _ _ A2 ae A0 A6).mono ?_;rintro ai A4⟨v,rfl,I4,sy⟩;go_wp2_with fail;go_ret2;exact⟨v,rfl,I4.mono ab,((Below.refl w.heap.size w).alloc (zab _) _).trans (sy.mono ab)⟩
def U8(n:Nat):(madeCells #[.int .u8 0] n).toList=(zah n (0:UInt8)).map B:=by rw[toList_madeCells_one,List.map_replicate];rfl
def VF(ao:OA)(len cap:Nat)(bs:La_)(re im a n:Nat)(w:World)(hlen:bs.length=len)(hb:len<=1099511627776)(hl:zr w ao (bs.map B))(hcut:Yc re im (2*len)=some (a,n)):Ca_ 174 #[.slice ao len cap,.complex .f64 re im] w (W4 w 5 1 n ((((vH bs).drop a).take n).map B) λv=>.tuple #[v,.bool true]):=by
 obtain⟨_,_,TD⟩:=K4 hcut;obtain⟨aS,aO,aT,aU,aV⟩:=info_parts z5;refine ajJ hcut hlen hl ?_;intro SW A2 A0;refine aeW ?_;intro NK;clear hlen hl hcut aO aT aU aV;go_enter func174,ntmps174;go_wp2_with fail;refine(pn re im (2*len) a n _ ae SW).mono ?_;rintro ai A4⟨rfl,rfl⟩;go_wp2_with (at_make;refine wpList_make_full _ rfl _ _ 23 rfl w.heap.size 5 aS (.int .u8 0) 1 underlying23 NK.1 NK.2.1 NK.2.2.1 _ _ _ _ n rfl rfl rfl rfl ?b2 ?b3 ?b4 ?_);case b2=>rw[NK.2.2.2];omega
 case b3=>unfold maxLen;omega
 case b4=>simp
 intro A4 I4 TF;have aF:Below w.heap.size w A4:=((Below.refl w.heap.size w).alloc (zab _) _).grown TF ab (λk h=>by cases h);have NO:=zc I4;have uX:=zc aF;clear TF aF;go_wp2;generalize oG:w.heap.size+1=ie at*;have M8:=zc oG;clear oG;go_loopw [27] (λi wr=>∃k:Nat,k<=n/\i=.int .i64 k/\wr.ownsRow w.heap.size 5 1 (.slice (some ⟨ie,0,none⟩) n n) n ((wQ (((vH bs).drop a).take n) n k).map B)/\Below w.heap.size w wr)
  (λi _=>n-(intOf i).toNat)
 case atStart =>
  refine⟨0,zcr _,rfl,?_,uX⟩;have:=NO.o;rw[U8] at this;rw[BA];simpa using this
 case round =>
  obtain⟨k,aQ,rfl,I4,sy⟩:=hrel;have TG:(((vH bs).drop a).take n).length=n:=by rw[List.length_take,List.length_drop,wu,A2.o];omega
  by_cases aB:k<n
  ·have TH:=(A0.below uX)
   have aX:bs.map B≠[]:=by intro h;have:=congrArg zcs h;simp[A2.o] at this;omega
   obtain⟨ax,ay,rfl,MS,A1⟩:=A0.at aX;have TJ:(bs.map B)[(a+k)/2]? = some (B (bs.getD ((a+k)/2) 0)):=by
    have:(a+k)/2<bs.length:=fm;simp[this]
   have az:=(sy.cell (p:=⟨ax,ay+(a+k)/2,none⟩) MS).trans (A1 _ _ TJ);have eP:=I4.frozenAt k;have eS:wr.cell? ⟨ie,k,none⟩=some (B (((wQ (((vH bs).drop a).take n) n k)).getD k 0)):=by
    rw[I4.cellAt k ae];have:k<(wQ (((vH bs).drop a).take n) n k).length:=by rw[mT _ _ _ TG (by omega)];omega
    simp[this]
   clear TH aX A1 TJ;go_wp2;go_roundw;case rel =>
    refine⟨k+1,ae,hM,?_,sy.setCell (by simp;have:=M8.o;omega) _⟩;have SY:=Hx bs (a+k) fm;have Il:=DM (((vH bs).drop a).take n) n k _ TG (by rw[zcv,if_pos aB,zbw];exact SY);have On:=(I4.stored k (B (nib (bs.getD ((a+k)/2) 0) ((a+k)%2)))).1;rw[<-zct,Il] at On;simpa[nib] using On
   case measure=>simp[intOf];omega
  ·obtain rfl:k=n:=by omega
   rw[BB _ _ TG] at I4;go_wp2;go_ret2;exact⟨_,rfl,I4,sy⟩
def lO(ao:OA)(len cap:Nat)(h:La_)(w:World)(hlen:h.length=len)(hb:len<=1099511627776)(hl:zr w ao (h.map B)):Ca_ 154 #[.slice ao len cap] w (W4 w 5 1 ((len+1)/2) ((jw h).map B) id):=by
 obtain⟨aS,aO,aT,aU,aV⟩:=info_parts z5;have A2:=zc hlen;have A0:=zc hl;refine aeW ?_;intro NK;clear hlen hl aO aT aU aV;go_enter func154,ntmps154;go_wp2_with (at_make;refine wpList_make_full _ rfl _ _ 23 rfl w.heap.size 5 aS (.int .u8 0) 1 underlying23 NK.1 NK.2.1 NK.2.2.1 _ _ _ _ ((len+1)/2) rfl rfl ae ae ?b2 ?b3 ?b4 ?_);case b2=>rw[NK.2.2.2];omega
 case b3=>unfold maxLen;omega
 case b4=>simp
 intro A4 I4 TF;have aF:Below w.heap.size w A4:=(Below.refl w.heap.size w).grown TF ab (λk h=>by cases h);have NO:=zc I4;have uX:=zc aF;clear TF aF;go_wp2;generalize oG:w.heap.size=ie at*;have M8:=zc oG;clear oG;generalize eh:(len+1)/2=aZ at*;have PK:=zc eh;clear eh;go_loopw [13] (λi wr=>∃k:Nat,k<=len/\i=.int .i64 k/\wr.ownsRow ie 5 1 (.slice (some ⟨ie,0,none⟩) aZ aZ) aZ ((kC h k).map B)/\Below ie w wr)
  (λi _=>len-(intOf i).toNat)
 case atStart =>
  refine⟨0,zcr _,rfl,?_,uX⟩;have:=NO.o;rw[mU,A2.o,PK.o,<-U8];simpa using this
 case round =>
  obtain⟨k,aQ,rfl,I4,sy⟩:=hrel;by_cases aB:k<len
  ·have aX:h.map B≠[]:=by intro h;have:=congrArg zcs h;simp[A2.o] at this;omega
   obtain⟨ax,ay,rfl,MS,A1⟩:=A0.at aX;rw[M8.o] at MS;have TK:k<h.length:=fm;obtain⟨u,aw⟩:∃u,h[k]? = some u:=⟨h[k],by simp[TK]⟩
   have az:=(sy.cell (p:=⟨ax,ay+k,none⟩) MS).trans (A1 k (B u) (by simp[aw]));have eP:=I4.frozenAt (k/2);have eS:wr.cell? ⟨ie,k/2,none⟩=some (B ((kC h k).getD (k/2) 0)):=by
    have eh:=PK.o;rw[I4.cellAt _ ae];have:k/2<(kC h k).length:=by rw[dc _ _ (by omega),A2.o];omega
    simp[this]
   have Pu:=zc aw;have TM:k/2<aZ:=AH;clear aX A1 aw TK;go_wp2;go_region;all_goals
    go_wp2;go_roundw;case rel =>
     refine⟨k+1,ae,hM,?_,(sy.setCell ab _).drew⟩;have Il:=sR h k u Pu;have On:=(I4.stored (k/2) (B (or8 ((kC h k).getD (k/2) 0) (half u (k%2))))).1.drew;rw[<-zct,Il] at On;simpa[half] using On
    case measure=>simp[intOf];omega
  ·obtain rfl:k=len:=by omega
   rw[<-A2.o,mV] at I4;have oG:=M8.o;subst oG;go_wp2;go_ret;exact⟨.slice (some ⟨w.heap.size,0,none⟩) aZ aZ,rfl,I4,sy⟩
section
variable{P:Program}{ops:Array Oper}{Q:Exit->Act->World->Prop}{md:Region.Mode}
def QC:List Nat->List (List Nat)
 | []=>[[]]
 | i::r=>QC r++(QC r).map (i::·)
def Ja(D:Nat->Bool):∀(M:List Nat),M.filter D∈QC M
 | []=>by simp[QC]
 | i::r=>by
  have ih:=Ja D r;by_cases h:D i=true
  ·rw[zaG h];exact List.mem_append_right _ (zaz.2 ⟨_,ih,rfl⟩)
  ·rw[zaH h];exact zaP _ ih
def yw(need:List (Nat×List Nat))(k:Nat):List Nat:=((need.find? λp=>p.1==k).map (·.2)).getD []
def _root_.Go.Region.zfm(md:Region.Mode)(ops:Array Oper)(M:List Nat)(need:List (Nat×List Nat))(listed:Array Bool):Bool :=
 (QC M).all λS=>(S==M || !(S.all λk=>(yw need k).all λd=>S.contains d))||(!(Region.ready md ops (Region.plus listed S)).isEmpty&&(Region.ready md ops (Region.plus listed S)).all λk=>M.contains k && !S.contains k&&(yw need k).all λd=>S.contains d)
def fU(listed:Array Bool)(M:List Nat)(D:Nat->Bool)(k:Nat)(hk:k∈M):Region.plus listed (M.filter λj=>D j||j==k)=(Region.plus listed (M.filter D)).setIfInBounds k true:=by
 apply zc4;intro j;rw[Xx,Array.getElem?_setIfInBounds];by_cases ai:k=j
 ·subst ai;rw[if_pos rfl];have az:(M.filter λj=>D j||j==k).contains k=true:=by simp[hk]
  rw[az];by_cases aF:k<listed.size
  ·have ag:k<(Region.plus listed (M.filter D)).size:=by
    have:=Xx (M.filter D) listed k;rw[zbX aF] at this;exact(zaQ.1 this).1
   rw[if_pos ag,zbX aF];simp
  ·have ag:¬k<(Region.plus listed (M.filter D)).size:=by
    intro ag;have:=Xx (M.filter D) listed k;rw[show listed[k]? = none from zb9 ae,zbX ag] at this;cases this
   rw[if_neg ag,zb9 ae];rfl
 ·rw[if_neg ai,Xx];have az:(M.filter λj=>D j||j==k).contains j=(M.filter D).contains j:=by
   rw[Bool.eq_iff_iff];simp only[zaJ,zaT,Bool.or_eq_true,beq_iff_eq];constructor
   ·rintro⟨aM,ag|ag⟩
    ·exact⟨aM,ag⟩
    ·exact absurd ag.symm ai
   ·rintro⟨aM,ag⟩;exact⟨aM,.inl ag⟩
  rw[az]
def QG{R:World->World->Prop}{brk:List Nat}(M:List Nat)(need:List (Nat×List Nat))(I:(Nat->Bool)->Act->World->Prop)(listed:Array Bool)(N:Nat)(hc:Region.zfm md ops M need listed=true)(hstep:∀D a w k,k∈M->D k=false->(∀d∈yw need k,D d=true)->I D a w->wpOp P ops Q k (λa' w'=>(brk.contains k=false->R w w')/\I (λj=>D j||j==k) a' w') a w)(hend:∀a w fuel,N<=fuel->I (λj=>M.contains j) a w->kh R brk P md ops Q fuel (Region.plus listed M) a w):∀(n:Nat)(D:Nat->Bool)(a:Act)(w:World)(fuel:Nat),(M.filter λj=>!D j).length<=n->(∀j,D j=true->j∈M)->(∀j,D j=true->∀d∈yw need j,D d=true)->I D a w->n+N<=fuel->kh R brk P md ops Q fuel (Region.plus listed (M.filter D)) a w
 | 0,D,a,w,fuel,hn,hD,hcl,hI,hf=>by
  have hall:∀j∈M,D j=true:=by
   intro j hj;have ag:=zaI (Nat.le_zero.1 hn);rw[zbv] at ag;have:=ag j hj;simpa using this
  have ai:M.filter D=M:=zb6.2 hall;have aj:D=λj=>M.contains j:=by
   funext j;rw[Bool.eq_iff_iff,zaJ];exact⟨hD j,hall j⟩
  rw[ai];exact hend a w fuel ae (aj▸hI)
 | n+1,D,a,w,fuel,hn,hD,hcl,hI,hf=>by
  by_cases ag:(M.filter λj=>!D j).length=0
  ·exact QG M need I listed N hc hstep hend 0 D a w fuel ae hD hcl hI ae
  obtain⟨f,rfl⟩:∃f,fuel=f+1:=⟨fuel-1,ae⟩
  unfold Region.zfm at hc;rw[zaw] at hc;have hS:=hc _ (Ja D M);rw[Bool.or_eq_true,Bool.or_eq_true] at hS;rcases hS with(hS|hS)|hS
  ·exfalso;have ai:M.filter D=M:=by simpa using hS
   have hall:=zb6.1 ai;have aM:M.filter (λj=>!D j)=[]:=by
    rw[zbv];intro j hj;simp[hall j hj]
   exact ag (by rw[aM];rfl)
  ·exfalso;have:((M.filter D).all λk=>(yw need k).all λd=>(M.filter D).contains d)=true:=by
    rw[zaw];intro k hk;rw[zaw];intro d hd;have aQ:=(zaT.1 hk).2;have ah:=hcl k aQ d hd;rw[zaJ];exact zaT.2 ⟨hD d ah,ah⟩
   rw[this] at hS;cases hS
  ·rw[Bool.and_eq_true,zaw] at hS;obtain⟨aM,ag⟩:=hS;refine⟨λh=>(by rw[h] at aM;simp at aM),λk hk=>?_⟩;have aQ:=ag k hk;simp only[Bool.and_eq_true,zaJ,zaw,Bool.not_eq_true'] at aQ;obtain⟨⟨a1V,a1W⟩,a1X⟩:=aQ;have a1Y:D k=false:=by
    cases hd:D k with
    | false=>rfl
    | true =>
     rw[<-zaJ] at a1V;have:(M.filter D).contains k=true:=by simp[hd];simpa using a1V
     rw[this] at a1W;cases a1W
   refine wpOp_mono (λa' w' h'=>⟨h'.1,?_⟩) (hstep D a w k a1V a1Y (λd hd=>by have:=a1X d hd;rw[zaT] at this;exact this.2) hI);rw[<-fU listed M D k a1V];refine QG M need I listed N (by unfold Region.zfm;rw[zaw];exact hc) hstep hend n _ a' w' f ?_ ?_ ?_ h'.2 ae
   ·-- one less
    have ow:∀(l:List Nat),k∈l->(l.filter λj=>!(D j||j==k)).length<(l.filter λj=>!D j).length:=by
     intro l;induction l with
     | nil=>intro h;cases h
     | cons x r ih =>
      intro eh;have Pq:∀(l:List Nat),(l.filter λj=>!(D j||j==k)).length<=(l.filter λj=>!D j).length:=by
       intro l;induction l with
       | nil=>simp
       | cons y s ih2 =>
        by_cases et:D y=true
        ·rw[zaH (by simp[et]),zaH (by simp[et])];exact ih2
        ·by_cases a1Z:y=k
         ·rw[zaH (by simp[a1Z]),zaG (by simp[et])];simp only[zaj];omega
         ·rw[zaG (by simp[et,a1Z]),zaG (by simp[et])];simp only[zaj];omega
      by_cases aH:x=k
      ·subst aH;rw[zaH ab,zaG (by simp[a1Y]),zaj];exact Nat.lt_succ_of_le (Pq r)
      ·have eI:k∈r:=by
        rcases zau.1 eh with h|h
        ·exact absurd h.symm aH
        ·exact h
       have:=ih eI;by_cases a2a:D x=true
       ·rw[zaH (by simp[a2a]),zaH (by simp[a2a])];exact this
       ·rw[zaG (by simp[a2a,aH]),zaG (by simp[a2a])];simp only[zaj];omega
    have:=ow M a1V;omega
   ·intro j hj;simp only[Bool.or_eq_true,beq_iff_eq] at hj;rcases hj with hj|rfl
    ·exact hD j hj
    ·exact a1V
   ·intro j hj d hd;simp only[Bool.or_eq_true,beq_iff_eq] at hj |-;left;rcases hj with hj|rfl
    ·exact hcl j hj d hd
    ·have:=a1X d hd;rw[zaT] at this;exact this.2
def Lr{k:Nat}{o:Oper}{a:Act}{w:World}{K:Act->World->Prop}(ho:ops[k]? = some o)(hg:o.guard=none)(h:o.wp P a w K Q):wpOp P ops Q k K a w:=by unfold wpOp;simp[ho,Region.wanted,hg];exact .inl h
def yM{k:Nat}{o:Oper}{a:Act}{w:World}{G:Act->World->Prop}(ho:ops[k]? = some o)(hg:o.guard=none)(h:∀K:Act->World->Prop,(∀a' w',G a' w'->K a' w')->o.wp P a w K Q):wpOp P ops Q k G a w :=
 Lr ho hg (h G λ_ _ h=>h)
def QE{id:Nat}{l:List Oper}{a:Act}{w:World}(s0 M s2:List Nat)(need:List (Nat×List Nat))(I:(Nat->Bool)->Act->World->Prop)(hm:P.follows .mixedOrders=true)(hB:(Region.noSelect l.toArray&&(s0.length+(M.length+s2.length)==l.toArray.size)&&Region.zfP .any l.toArray s0 (zaY l.toArray.size false)&&Region.zfm .any l.toArray M need (s0.foldl (λl i=>l.setIfInBounds i true) (zaY l.toArray.size false)) &&
   Region.zfj .any l.toArray s2 (Region.plus (s0.foldl (λl i=>l.setIfInBounds i true) (zaY l.toArray.size false)) M))=true)(h:∀w',w'=w.drew->zH P l.toArray (λa w1=>I (λ_=>false) a w1) s0 a w')(hstep:∀D a w k,k∈M->D k=false->(∀d∈yw need k,D d=true)->I D a w->wpOp P l.toArray (NoPanic Q) k (λa' w'=>((l.toArray[k]?).map Oper.zen≠some 2->z9 w w')/\I (λj=>D j||j==k) a' w') a w)(hend:∀a w,I (λj=>M.contains j) a w->zA P l.toArray (NoPanic Q) s2 a w):(Code.region id l.toArray true).wp P Q a w:=by
 simp only[Bool.and_eq_true,beq_iff_eq] at hB;obtain⟨⟨⟨⟨eg,aR⟩,ag⟩,a2b⟩,Em⟩:=hB;refine wp_region_noPanic (wp_region_any hm (XA (R:=z9) (brk:=MB l.toArray) _ _ _ _ ?_));suffices key:kO P .any l.toArray (NoPanic Q) (s0.length+(M.length+s2.length)) (zaY l.toArray.size false) a w.drew by
  rw[aR] at key;exact key
 refine Qx eg (λc a w hq=>hq) _ _ s0 _ a w.drew ag (h _ rfl) ?_;intro eT w1 h1;have:=QG M need I _ s2.length a2b (λD a w k h1 h2 h3 h4=>wpOp_mono (λ_ _ h=>⟨λhb=>h.1 (MO.1 hb),h.2⟩) (hstep D a w k h1 h2 h3 h4)) (λa w fuel hf hk=>Wh _ _ _ _ _ hf (qa eg (λc a w hq=>hq) s2 _ a w Em (hend a w hk))) M.length (λ_=>false) eT w1 (M.length+s2.length) (List.length_filter_le _ _) ab ab h1 (zab _);rw[show M.filter (λ_=>false)=[] from zbv.2 ab] at this;exact this


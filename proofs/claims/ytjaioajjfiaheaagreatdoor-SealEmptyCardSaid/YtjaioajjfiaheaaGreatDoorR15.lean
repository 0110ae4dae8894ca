/-
  Texts of this claim, one behind the other.
-/
import Derived.Test.YtjaioajjfiaheaaGreatDoorR1
import Derived.Test.YtjaioajjfiaheaaGreatDoorR14
import Derived.Test.YtjaioajjfiaheaaGreatDoorR13
import Derived.Test.YtjaioajjfiaheaaGreatDoorR8
import Derived.Lib.SmallJoins
import Derived.Lib.Hide
set_option linter.unusedVariables false
set_option linter.unusedSimpArgs false
set_option maxHeartbeats 16000000
set_option maxRecDepth 100000
namespace Go.Cells
open Go.RowKit Go.Mem
theorem Blk.liesIn {w:World} {b:Nat} {vs:List Value} {ty:TypeId} (h:Blk w b vs ty) (off:Nat) {us:List Value} (hu:(vs.drop off).take us.length=us):zr w (some ⟨b,off,none⟩) us:=by
 intro j u hj
 refine ⟨b,off,rfl,h.cell (off+j) u ?_⟩
 have hjl:j < us.length:=(List.getElem?_eq_some_iff.1 hj).1
 rw [← hj]
 conv=>rhs;rw [← hu]
 rw [List.getElem?_take_of_lt hjl,List.getElem?_drop]
end Go.Cells
namespace Go.Proofs.YtjaioajjfiaheaaGreatDoor
open Go.RowKit Go.Mem Go.Ops Go.Cells Go.Oct Go.Gf Go.Trn Go.Aes Go.Ring Go.Ezk Go.Ezh Go.Ezt Go.Ezc Go.CutP Go.Fl
attribute [local irreducible] zE zN zO zM yu
def JE (p:List UInt8×List UInt8):List UInt8:=p.1++p.2
theorem Ki {p:List UInt8×List UInt8} (h:xO p):(JE p).length=32:=by simp [JE,h.1,h.2]
theorem JF:∀ (ps:y9),zV ps=(ps.map JE).flatten
 | []=>rfl
 | p::r=>by simp only [zV,List.map_cons,List.flatten_cons,JF r];rfl
theorem zev {w:World} {ap:Option Addr} {ps:y9} (hf:∀ p∈ps,xO p) (hl:zr w ap ((zV ps).map B)):yB 32 w ap (ps.map JE) :=
 ⟨fun k hk=>by obtain ⟨p,hp,rfl⟩:=List.mem_map.1 hk;exact Ki (hf p hp),by rw [← JF];exact hl⟩
theorem XE {α:Type} {l:List α} {i:Nat} {x:α} (h:l[i]? = some x):l.take (i+1)=l.take i++[x]:=by
 rw [List.take_add_one,h];rfl
theorem zew {pv uv vv:Value} {x y:List UInt8} (hx:x.length=16):((z4 pv uv vv x y).drop 3).take 16=x.map B:=by
 simp [z4,hx,List.take_append]
theorem XF {pv uv vv:Value} {x y:List UInt8} (hx:x.length=16) (hy:y.length=16):((z4 pv uv vv x y).drop 19).take 16=y.map B:=by
 have:(z4 pv uv vv x y).drop 19=y.map B:=by
  show (x.map B++y.map B).drop 16=_
  rw [show (16:Nat)=(x.map B).length by simp [hx],List.drop_left]
 rw [this,List.take_of_length_le (by simp [hy])]
theorem Wj (m:Msg) (ap:Option Addr) (np cp:Nat) (ua va:Option Addr) (nu nv uc vc:Nat) (w:World) (hf:m.Fit) (hnp:m.pairs.length=np) (hnu:m.u.length=nu) (hnv:m.v.length=nv) (hp:yB 32 w ap (m.pairs.map JE)) (hu:zr w ua (m.u.map B)) (hv:zr w va (m.v.map B)) (hb:32*np≤1000000) :
  Calls Tryz.prog 127 #[.agg (z4 (.slice ap np cp) (.slice ua nu uc) (.slice va nv vc) m.x m.y).toArray] w fun e w'=>∃ v,e=.returned v∧w'.ownsRow w.heap.size 5 1 v (xB m).length ((xB m).map B)∧Below w.heap.size w w':=by
 obtain ⟨i0,hi0,hz0,hz1,hz2⟩:=info_parts qR
 have HI:=znq (And.intro hi0 (And.intro hz0 (And.intro hz1 hz2)))
 have HT:=znq (show (5:TypeId)≠212 by decide)
 have HF:=znq hf
 have HNP:=znq hnp
 have HNU:=znq hnu
 have HNV:=znq hnv
 have HP:=znq hp
 have HU:=znq hu
 have HV:=znq hv
 have HS:=znq (St.start w)
 have hu16:nu≤16:=by rw [← hnu];exact hf.u
 have hv16:nv < 16:=by rw [← hnv];exact hf.v
 obtain ⟨V,hV⟩:∃ V,V=z4 (.slice ap np cp) (.slice ua nu uc) (.slice va nv vc) m.x m.y:=⟨_,rfl⟩
 have HVV:=znq (show V=z4 (.slice ap np cp) (.slice ua nu uc) (.slice va nv vc) m.x m.y∧True from ⟨hV,trivial⟩)
 rw [← hV]
 clear hi0 hz0 hz1 hz2 hf hnp hnu hnv hp hu hv hV
 go_enter Tryz.func127,Tryz.ntmps127
 go_wp2_with (refine zh 181 _ (V) _ rfl rfl rfl rfl ?_)
 intro w1 hb hbel;have HS:=znq (HS.znr.push hb hbel);have hlt1:=hb.lt;clear hb hbel
 generalize hbb:w.heap.size=bb at *
 have HBB:=znq hbb
 clear hbb
 have hc0:=(HS.znr.get 0 rfl).cell 0 (.slice ap np cp) (by rw [HVV.znr.1];rfl)
 have hz1:=HS.znr.size
 have hbase:bb < w1.heap.size:=hlt1
 go_wp2
 go_loopw [3,9] (fun v c wr=>∃ i:Nat,i≤np∧c=.int .i64 i∧Hid (wr.ownsRow (bb+1) 5 1 v (32*i) ((zV (m.pairs.take i)).map B))∧Hid (St w bb wr [(bb,V,181)])) (fun _ c _=>np - (intOf c).toNat)
 case atStart=>exact ⟨0,by omega,rfl,znq (by simpa [zV] using vL w1 (bb+1) _ 1),HS⟩
 case round =>
  clear HS hc0
  obtain ⟨i,hi,rfl,HO,HS⟩:=hrel
  have hwr:bb < wr.heap.size:=(HS.znr.get 0 rfl).lt
  by_cases hlt:i < np
  ·obtain ⟨p,hpi⟩:∃ p,m.pairs[i]? = some p:=⟨m.pairs[i]'(by rw [HNP.znr];exact hlt),by simp⟩
   have HPF:=znq (HF.znr.pairs p (List.mem_of_getElem? hpi))
   obtain ⟨kb,koff,rfl,hkb,hr⟩:=(HP.znr.below (by rw [HBB.znr];exact HS.znr.bel)).range (by omega) (show (m.pairs.map JE)[i]? = some (JE p) by rw [List.getElem?_map,hpi];rfl)
   have HTK:=znq (show zV (m.pairs.take (i+1))=zV (m.pairs.take i)++(p.1++p.2)∧True from ⟨by rw [XE hpi,vR],trivial⟩)
   have HR:=znq hr
   have HKLM:=znq (show ((JE p).map B).length=32 by rw [List.length_map];exact Ki HPF.znr)
   clear hpi hr
   go_wp2_with (first | (refine wpList_load_mid rfl 212 (.tmp 11) rfl kb (koff+i*32) rfl _ _ HR.znr Tryz.underlying212 rfl (by rw [HKLM.znr];exact vt.2) ?_) | (refine ze 212 ((zf 32).map B) _ rfl rfl VF rfl ?_))
   intro w3 hb hbel;have HO:=znq (zm HO.znr hbel);have HS:=znq (HS.znr.push hb hbel);have hlt3:=hb.lt;clear hb hbel
   generalize wr.heap.size=bk at *
   go_wp2_with (refine (HS.znr.get 0 rfl).wstore rfl rfl rfl rfl vt (by rw [List.length_map];exact zd 32) HKLM.znr (zg _) ?_)
   intro w4 hb4 ho4
   have HO:=znq (zu HO.znr (HS.znr.get 0 rfl) HT.znr ho4)
   have HS:=znq (HS.znr.change 0 hb4 ho4 (by omega) (by simp;omega))
   have HBK:=znq hb4
   clear hb4 ho4
   go_wp2_with fail
   refine jM (bb+1) [(0,true),(1,true),(2,true),(4,true),(5,true),(3,false),(6,false),(7,false)] (by kernel_rfl) (by kernel_rfl) ?_
   rintro w5 rfl
   refine mqB ?_
   have HS:=znq HS.znr.drew
   have HBK:=znq HBK.znr.drew
   have HO:=znq (show w4.drew.ownsRow (bb+1) 5 1 u3 (32*i) ((zV (m.pairs.take i)).map B) from HO.znr)
   have hz4:=(HS.znr.get 1 rfl).lt
   refine xW rfl (by rfl) (fun K hK=>?_)
   refine xX (.tmp 13) (.tmp 15) 22 rfl (bb+1) 5 i0 (.int .u8 0) 1 Tryz.underlying22 HI.znr.1 HI.znr.2.1 HI.znr.2.2.1 HI.znr.2.2.2 rfl _ _ _ rfl HO.znr (some ⟨bk,0,none⟩) 16 16 (p.1.map B) rfl (by rw [List.length_map];exact HPF.znr.1)
    (HBK.znr.liesIn 0 (by simp [JE,HPF.znr.1,HPF.znr.2])) (j9 _) (by unfold maxLen;omega) (by omega) (by omega) ?_
   intro v6 w6 hown6 hg6
   have hbel6:Below (bb+1) w4.drew w6:=z8 (Below.refl (bb+1) w4.drew) HO.znr hg6 (Nat.le_refl _) (by omega)
   refine hK _ _ hbel6 ?_
   clear hK K
   have HS:=znq (show St w bb w6 [(bb,V,181)] from (HS.znr.tail).low hbel6 (by omega) (by simp))
   have HBK:=znq (HBK.znr.grownTy HT.znr HO.znr hg6)
   have HO:=znq hown6
   clear hown6 hg6 hbel6
   go_simp
   have hz6:=(HS.znr.get 0 rfl).lt
   refine xW rfl (by rfl) (fun K hK=>?_)
   refine xX (.tmp 16) (.tmp 18) 22 rfl (bb+1) 5 i0 (.int .u8 0) 1 Tryz.underlying22 HI.znr.1 HI.znr.2.1 HI.znr.2.2.1 HI.znr.2.2.2 rfl _ _ _ rfl HO.znr (some ⟨bk,16,none⟩) 16 16 (p.2.map B) rfl (by rw [List.length_map];exact HPF.znr.2)
    (HBK.znr.liesIn 16 (by simp [JE,HPF.znr.1,HPF.znr.2,List.drop_append];exact List.take_of_length_le (by simp [HPF.znr.2]))) (j9 _) (by unfold maxLen;omega) (by omega) (by omega) ?_
   intro v7 w7 hown7 hg7
   have hbel7:Below (bb+1) w6 w7:=z8 (Below.refl (bb+1) w6) HO.znr hg7 (Nat.le_refl _) (by omega)
   refine hK _ _ hbel7 ?_
   clear hK K
   have HS:=znq (show St w bb w7 [(bb,V,181)] from HS.znr.low hbel7 (by omega) (by simp))
   have HO:=znq (show w7.ownsRow (bb+1) 5 1 v7 (32*(i+1)) ((zV (m.pairs.take (i+1))).map B) from by
    rw [HTK.znr.1,show 32*(i+1)=32*i+16+16 by omega];simpa [List.append_assoc] using hown7)
   clear hown7 hg7 hbel7 HBK
   go_simp
   refine mqB ?_
   refine Zi ?_
   go_wp2
   go_roundw
   case rel=>exact ⟨i+1,by omega,by go_num,HO,HS⟩
   case measure=>simp [intOf];omega
  ·obtain rfl:i=np:=by omega
   rw [List.take_of_length_le (by rw [HNP.znr];exact Nat.le_refl _)] at HO
   have hcu:=(HS.znr.get 0 rfl).cell 1 (.slice ua nu uc) (by rw [HVV.znr.1];rfl)
   have hcv:=(HS.znr.get 0 rfl).cell 2 (.slice va nv vc) (by rw [HVV.znr.1];rfl)
   have hcu:=fun (y:QG (bb+1) wr.drew)=>((HS.znr.get 0 rfl).drew.below y.below (Nat.lt_succ_self _)).cell 1 (.slice ua nu uc) (by rw [HVV.znr.1];rfl)
   have hcv:=fun (y:QG (bb+1) wr.drew)=>((HS.znr.get 0 rfl).drew.below y.below (Nat.lt_succ_self _)).cell 2 (.slice va nv vc) (by rw [HVV.znr.1];rfl)
   go_wp2_with fail
   refine jM (bb+1) [(0,true),(1,true),(2,true),(4,true),(5,true),(3,false),(6,false),(7,false)] (by kernel_rfl) (by kernel_rfl) ?_
   rintro w5 rfl
   refine mqB ?_
   clear hcu hcv
   have HS:=znq HS.znr.drew
   have HO:=znq (show wr.drew.ownsRow (bb+1) 5 1 u3 (32*i) ((zV m.pairs).map B) from HO.znr)
   refine xW rfl (by rfl) (fun K hK=>?_)
   refine xX (.tmp 21) (.tmp 23) 22 rfl (bb+1) 5 i0 (.int .u8 0) 1 Tryz.underlying22 HI.znr.1 HI.znr.2.1 HI.znr.2.2.1 HI.znr.2.2.2 rfl _ _ _ rfl HO.znr ua nu uc (m.u.map B) rfl (by rw [List.length_map];exact HNU.znr)
    (HU.znr.below (HS.znr.old HBB.znr)) (j9 _) (by unfold maxLen;omega) (by omega) (by simp;omega) ?_
   intro v6 w6 hown6 hg6
   have hbel6:Below (bb+1) wr.drew w6:=z8 (Below.refl (bb+1) wr.drew) HO.znr hg6 (Nat.le_refl _) (by simp;omega)
   refine hK _ _ hbel6 ?_
   clear hK K
   have HS:=znq (show St w bb w6 [(bb,V,181)] from HS.znr.low hbel6 (by omega) (by simp))
   have HO:=znq hown6
   clear hown6 hg6 hbel6
   go_simp
   have hz6:=(HS.znr.get 0 rfl).lt
   refine xW rfl (by rfl) (fun K hK=>?_)
   refine xX (.tmp 24) (.tmp 26) 22 rfl (bb+1) 5 i0 (.int .u8 0) 1 Tryz.underlying22 HI.znr.1 HI.znr.2.1 HI.znr.2.2.1 HI.znr.2.2.2 rfl _ _ _ rfl HO.znr va nv vc (m.v.map B) rfl (by rw [List.length_map];exact HNV.znr)
    (HV.znr.below (HS.znr.old HBB.znr)) (j9 _) (by unfold maxLen;omega) (by omega) (by omega) ?_
   intro v7 w7 hown7 hg7
   have hbel7:Below (bb+1) w6 w7:=z8 (Below.refl (bb+1) w6) HO.znr hg7 (Nat.le_refl _) (by omega)
   refine hK _ _ hbel7 ?_
   clear hK K
   have HS:=znq (show St w bb w7 [(bb,V,181)] from HS.znr.low hbel7 (by omega) (by simp))
   have HO:=znq hown7
   clear hown7 hg7 hbel7
   go_simp
   refine mqB ?_
   refine Zi ?_
   have hz7:=(HS.znr.get 0 rfl).lt
   go_wp2_with fail
   refine jM (bb+1) [(0,true),(1,true),(2,true),(4,true),(5,true),(3,false),(6,false),(7,false)] (by kernel_rfl) (by kernel_rfl) ?_
   rintro w8 rfl
   refine mqB ?_
   have HS:=znq HS.znr.drew
   have HO:=znq (show w7.drew.ownsRow (bb+1) 5 1 v7 _ _ from HO.znr)
   refine xW rfl (by rfl) (fun K hK=>?_)
   refine xX (.tmp 28) (.tmp 30) 22 rfl (bb+1) 5 i0 (.int .u8 0) 1 Tryz.underlying22 HI.znr.1 HI.znr.2.1 HI.znr.2.2.1 HI.znr.2.2.2 rfl _ _ _ rfl HO.znr (some ⟨bb,3,none⟩) 16 16 (m.x.map B) rfl (by rw [List.length_map];exact HF.znr.x)
    ((HS.znr.get 0 rfl).liesIn 3 (by rw [HVV.znr.1,List.length_map,HF.znr.x];exact zew HF.znr.x)) (j9 _) (by unfold maxLen;omega) (by omega) (by simp;omega) ?_
   intro v9 w9 hown9 hg9
   have hbel9:Below (bb+1) w7.drew w9:=z8 (Below.refl (bb+1) w7.drew) HO.znr hg9 (Nat.le_refl _) (by simp;omega)
   refine hK _ _ hbel9 ?_
   clear hK K
   have HS:=znq (show St w bb w9 [(bb,V,181)] from HS.znr.low hbel9 (by omega) (by simp))
   have HO:=znq hown9
   clear hown9 hg9 hbel9
   go_simp
   have hz9:=(HS.znr.get 0 rfl).lt
   refine xW rfl (by rfl) (fun K hK=>?_)
   refine xX (.tmp 31) (.tmp 33) 22 rfl (bb+1) 5 i0 (.int .u8 0) 1 Tryz.underlying22 HI.znr.1 HI.znr.2.1 HI.znr.2.2.1 HI.znr.2.2.2 rfl _ _ _ rfl HO.znr (some ⟨bb,19,none⟩) 16 16 (m.y.map B) rfl (by rw [List.length_map];exact HF.znr.y)
    ((HS.znr.get 0 rfl).liesIn 19 (by rw [HVV.znr.1,List.length_map,HF.znr.y];exact XF HF.znr.x HF.znr.y)) (j9 _) (by unfold maxLen;omega) (by omega) (by omega) ?_
   intro v10 w10 hown10 hg10
   have hbel10:Below (bb+1) w9 w10:=z8 (Below.refl (bb+1) w9) HO.znr hg10 (Nat.le_refl _) (by omega)
   refine hK _ _ hbel10 ?_
   clear hK K
   have HS:=znq (show St w bb w10 [(bb,V,181)] from HS.znr.low hbel10 (by omega) (by simp))
   have HLB:=znq (show (xB m).length=32*i+nu+nv+16+16 from by rw [qZ HF.znr,HNP.znr,HNU.znr,HNV.znr])
   have HO:=znq (show w10.ownsRow (bb+1) 5 1 v10 (xB m).length ((xB m).map B) from by
    rw [HLB.znr];unfold xB;simpa [List.append_assoc] using hown10)
   clear hown10 hg10 hbel10
   go_simp
   refine mqB ?_
   refine Zi ?_
   go_wp2
   go_ret
   exact ⟨_,rfl,by rw [HBB.znr];exact yi HO.znr (by omega),by rw [HBB.znr];exact HS.znr.bel⟩
end Go.Proofs.YtjaioajjfiaheaaGreatDoor
namespace Go.Adi
open Go.Ops Go.Oct Go.Prime
def clampGo (b:List UInt8):Nat→List UInt8
 | 0=>b
 | k+1=>(clampGo b k).set (3+4*k) (and8 (at8 (clampGo b k) (3+4*k)) 15)
def clampGo2 (b:List UInt8):Nat→List UInt8
 | 0=>b
 | k+1=>(clampGo2 b k).set (4+4*k) (and8 (at8 (clampGo2 b k) (4+4*k)) 252)
theorem YG (b:List UInt8):∀ k,(clampGo b k).length=b.length
 | 0=>rfl
 | k+1=>by rw [clampGo,List.length_set,YG b k]
theorem Z4 (b:List UInt8):∀ k,(clampGo2 b k).length=b.length
 | 0=>rfl
 | k+1=>by rw [clampGo2,List.length_set,Z4 b k]
theorem zc8 {b:List UInt8} (h:b.length=16):clampGo2 (clampGo b 4) 3=j6 b:=by
 match b,h with
 | [b0,b1,b2,b3,b4,b5,b6,b7,b8,b9,b10,b11,b12,b13,b14,b15],_=>rfl
theorem zhu (b:List UInt8):(leN b+340282366920938463463374607431768211456*(1:UInt32).toNat) % PP=ZR b:=rfl
theorem zkp (b:List UInt8):(leN b+340282366920938463463374607431768211456*(0:UInt32).toNat) % PP=leN b % PP:=by
 show (leN b+340282366920938463463374607431768211456*0) % PP=_
 rw [Nat.mul_zero,Nat.add_zero]
end Go.Adi
namespace Go.Cells
open Go.RowKit
theorem Blk.wloadAt {P:Program} {w:World} {b off n:Nat} {vs us:List Value} {ty':TypeId} (h:Blk w b vs ty') {ops:Array Oper} {rest:List Oper} {op:Oper} {a:Act} {Q:Exit→Act→World→Prop} {ty:TypeId} {x:Operand}
  (hgd:op.guard=none) (ho:op.op=.load ty x) (hx:a.eval x=.pointer (some ⟨b,off,none⟩)) (hr:Row P ty n) (hu:(vs.drop off).take n=us) (hn:us.length=n)
  (k:wpList P ops Q rest (a.put op.dst (.agg us.toArray)) w):wpList P ops Q (op::rest) a w:=by
 obtain ⟨d,hu',hd,hi⟩:=hr.open
 exact wpList_load_mid hgd ty x ho b off hx us d (Blk.rangeIn h off n us hu) hu' hd (by rw [hi,hn]) k
end Go.Cells
namespace Go.Proofs.YtjaioajjfiaheaaGreatDoor
open Go.RowKit Go.Mem Go.Ops Go.Cells Go.Oct Go.Trn Go.Blake Go.Prime Go.Adi
attribute [local irreducible] zE zN zO zM yJ
theorem zc9 (b:List UInt8) (w:World) (hb:b.length=16):Calls Tryz.prog 229 #[.agg (b.map B).toArray,.int .u32 0] w fun e w'=>e=.returned (.agg ((numOf (leN b % PP)).map W).toArray)∧Below w.heap.size w w':=by
 have h:=zgd b 0 w hb (by decide)
 rw [zkp] at h
 exact h
theorem zkq (b:List UInt8) (w:World) (hb:b.length=16):Calls Tryz.prog 229 #[.agg (b.map B).toArray,.int .u32 1] w fun e w'=>e=.returned (.agg ((numOf (ZR b)).map W).toArray)∧Below w.heap.size w w':=by
 have h:=zgd b 1 w hb (by decide)
 rw [zhu] at h
 exact h
theorem zkr (b:List UInt8) (w:World) (hb:b.length=16):Calls Tryz.prog 230 #[.agg (b.map B).toArray] w fun e w'=>e=.returned (.agg ((j6 b).map B).toArray)∧Below w.heap.size w w':=by
 have HB:=znq (show b.length=16∧clampGo2 (clampGo b 4) 3=j6 b from ⟨hb,zc8 hb⟩)
 have HS:=znq (St.start w)
 clear hb
 go_enter Tryz.func230,Tryz.ntmps230
 go_wp2_with (refine zh 117 _ (b.map B) _ rfl rfl rfl rfl ?_)
 intro w1 hb hbel;have HS:=znq (HS.znr.push hb hbel);have hlt1:=hb.lt;clear hb hbel
 go_wp2_with (refine ze 117 ((zf 16).map B) _ rfl rfl zj rfl ?_)
 intro w2 hb hbel;have HS:=znq (HS.znr.push hb hbel);have hlt2:=hb.lt;clear hb hbel
 generalize hbb:w.heap.size=bb at *
 generalize w1.heap.size=b1 at *
 have HBB:=znq hbb
 clear hbb
 go_wp2
 go_loopw [3] (fun c wr=>∃ (k i:Nat),k≤4∧Hid (i=3+4*k)∧c=.int .i64 i∧Hid (St w bb wr [(b1,(zf 16).map B,117),(bb,(clampGo b k).map B,117)])) (fun c _=>19 - (intOf c).toNat)
 case atStart=>exact ⟨0,3,by omega,znq rfl,rfl,HS⟩
 case round =>
  clear HS
  obtain ⟨k,i,hk,HI,rfl,HS⟩:=hrel
  have HCL:=znq (show (clampGo b k).length=16 from by rw [YG];exact HB.znr.1)
  by_cases hlt:k < 4
  ·have hi16:i < 16:=by have:=HI.znr;omega
   have d0:decide ((i:Int) < 16)=true:=by simp;omega
   have HN:=znq (show (clampGo b k).set i (and8 (at8 (clampGo b k) i) 15)=clampGo b (k+1)∧True from ⟨by rw [clampGo,HI.znr],trivial⟩)
   obtain ⟨nx,hnx⟩:∃ x,x=clampGo b (k+1):=⟨_,rfl⟩
   have HX:=znq (show clampGo b (k+1)=nx∧True from ⟨hnx.symm,trivial⟩)
   rw [← hnx] at HN
   clear hnx
   generalize clampGo b k=u at *
   have hc:=(HS.znr.get 1 rfl).cell i _ (zU (at8_get (b:=u) (i:=i) (by rw [HCL.znr];exact hi16)))
   go_wp2_with (refine (HS.znr.get 1 rfl).wset (i:=i) (v:=B (and8 (at8 u i) 15)) rfl rfl rfl rfl zl rfl rfl (by rw [List.length_map,HCL.znr];exact hi16) ?_)
   intro w3 hb ho
   rw [ym,HN.znr.1,← HX.znr.1] at hb
   have HS:=znq (HS.znr.change 1 hb ho (by omega) (by simp;omega))
   clear hb ho hc
   go_wp2
   go_roundw
   case rel=>exact ⟨k+1,i+4,by omega,by have:=HI.znr;exact znq (by omega),by go_num,HS⟩
   case measure=>simp [intOf];omega
  ·obtain rfl:k=4:=by omega
   have d19:decide ((i:Int) < 16)=false:=by have:=HI.znr;simp;omega
   clear hlt HI hk
   obtain ⟨c1,hc1⟩:∃ x,x=clampGo b 4:=⟨_,rfl⟩
   have HC1:=znq (show clampGo2 c1 3=j6 b∧True from ⟨by rw [hc1];exact HB.znr.2,trivial⟩)
   rw [← hc1] at HS HCL
   clear hc1
   go_wp2
   go_loopw [4] (fun c wr=>∃ (k i:Nat),k≤3∧Hid (i=4+4*k)∧c=.int .i64 i∧Hid (St w bb wr [(b1,(zf 16).map B,117),(bb,(clampGo2 c1 k).map B,117)])) (fun c _=>19 - (intOf c).toNat)
   case atStart=>exact ⟨0,4,by omega,znq rfl,rfl,HS⟩
   case round =>
    clear HS
    obtain ⟨k,j,hk,HI,rfl,HS⟩:=hrel
    have HCM:=znq (show (clampGo2 c1 k).length=16 from by rw [Z4];exact HCL.znr)
    by_cases hlt:k < 3
    ·have hi16:j < 16:=by have:=HI.znr;omega
     have d0:decide ((j:Int) < 16)=true:=by simp;omega
     have HN:=znq (show (clampGo2 c1 k).set j (and8 (at8 (clampGo2 c1 k) j) 252)=clampGo2 c1 (k+1)∧True from ⟨by rw [clampGo2,HI.znr],trivial⟩)
     obtain ⟨nx,hnx⟩:∃ x,x=clampGo2 c1 (k+1):=⟨_,rfl⟩
     have HX:=znq (show clampGo2 c1 (k+1)=nx∧True from ⟨hnx.symm,trivial⟩)
     rw [← hnx] at HN
     clear hnx
     generalize clampGo2 c1 k=u at *
     have hc:=(HS.znr.get 1 rfl).cell j _ (zU (at8_get (b:=u) (i:=j) (by rw [HCM.znr];exact hi16)))
     go_wp2_with (refine (HS.znr.get 1 rfl).wset (i:=j) (v:=B (and8 (at8 u j) 252)) rfl rfl rfl rfl zl rfl rfl (by rw [List.length_map,HCM.znr];exact hi16) ?_)
     intro w3 hb ho
     rw [ym,HN.znr.1,← HX.znr.1] at hb
     have HS:=znq (HS.znr.change 1 hb ho (by omega) (by simp;omega))
     clear hb ho hc
     go_wp2
     go_roundw
     case rel=>exact ⟨k+1,j+4,by omega,by have:=HI.znr;exact znq (by omega),by go_num,HS⟩
     case measure=>simp [intOf];omega
    ·obtain rfl:k=3:=by omega
     obtain rfl:j=16:=by have:=HI.znr;omega
     rw [HC1.znr.1] at HS HCM
     have HCV:=znq (show ((j6 b).map B).length=16 by rw [List.length_map];exact HCM.znr)
     go_wp2_with (first | (refine (HS.znr.get 1 rfl).wload rfl rfl rfl zc HCV.znr ?_) | (refine (HS.znr.get 0 rfl).wstore rfl rfl rfl (cs:=(j6 b).map B) rfl zc (by rw [List.length_map,zd]) HCV.znr (zg _) ?_))
     intro w5 hb5 ho5
     have HE:=znq (zk HS.znr.bel ho5 (by omega))
     clear ho5
     go_wp2
     refine hb5.result rfl rfl rfl zc HCV.znr ⟨rfl,?_⟩
     rw [HBB.znr]
     exact HE.znr
def qe (r v:Nat) (rest:List UInt8) (k:Nat):List Value:=(numOf r).map W++(numOf v).map W++rest.map B++[.int .i64 k]
theorem jY {r v:Nat} {rest:List UInt8} {k:Nat} (h:rest.length=16):(qe r v rest k).length=27:=by simp [qe,numOf,h]
theorem Kv:Row Tryz.prog 304 27:=⟨by kernel_rfl,by kernel_rfl⟩
theorem zks (n:Nat):Tryz.prog.built 304 [(0,.agg ((numOf n).map W).toArray)]=some (qe n 0 (zf 16) 0).toArray:=by kernel_rfl
theorem zmv (r v:Nat) (rest:List UInt8) (k:Nat):((qe r v rest k).drop 0).take 5=(numOf r).map W:=rfl
theorem Ve (r v:Nat) (rest:List UInt8) (k:Nat):((qe r v rest k).drop 5).take 5=(numOf v).map W:=rfl
theorem zkt (r v n:Nat) (rest:List UInt8) (k:Nat):(qe r v rest k).take 5++(numOf n).map W++(qe r v rest k).drop (5+((numOf n).map W).length)=qe r n rest k:=rfl
theorem zge (key:List UInt8) (w:World) (hk:key.length=16):Calls Tryz.prog 222 #[.agg (key.map B).toArray] w fun e w'=>∃ sb,e=.returned (.pointer (some ⟨sb,0,none⟩))∧w.heap.size≤sb∧Blk w' sb (qe (rOf key) 0 (zf 16) 0) 304∧Below w.heap.size w w':=by
 have HKL:=znq (show key.length=16∧True from ⟨hk,trivial⟩)
 have HKV:=znq (show (key.map B).length=16 by rw [List.length_map];exact hk)
 have HS:=znq (St.start w)
 clear hk
 go_enter Tryz.func222,Tryz.ntmps222
 go_wp2_with (refine zh 117 _ (key.map B) _ rfl rfl rfl rfl ?_)
 intro w1 hb hbel;have HS:=znq (HS.znr.push hb hbel);have hlt1:=hb.lt;clear hb hbel
 go_wp2_with (refine (HS.znr.get 0 rfl).wload rfl rfl rfl zc HKV.znr ?_)
 refine (zkr key _ HKL.znr.1).mono ?_
 rintro e w2 ⟨rfl,hbel⟩
 have HS:=znq (HS.znr.later hbel)
 clear hbel
 go_wp2_with fail
 refine (zc9 (j6 key) _ (VK _)).mono ?_
 rintro e w3 ⟨rfl,hbel⟩
 have HS:=znq (HS.znr.later hbel)
 have hz:=HS.znr.size
 clear hbel
 go_wp2_with (first | (refine xZ 304 _ _ _ rfl rfl rfl (zks (leN (j6 key) % PP)) ?_) | refine zh 304 _ (qe (leN (j6 key) % PP) 0 (zf 16) 0) _ rfl rfl rfl rfl ?_)
 intro w4 hb hbel
 have HB:=znq hb
 have HE:=znq (HS.znr.bel.trans (hbel.mono hz))
 clear hb hbel
 go_wp2
 go_ret
 exact ⟨_,rfl,hz,HB.znr,HE.znr⟩
theorem zda (sb r v n:Nat) (rest:List UInt8) (k:Nat) (w:World) (hb:Blk w sb (qe r v rest k) 304) (hr:r < PP) (hv:v < PP) (hn:n < PP) :
  Calls Tryz.prog 231 #[.pointer (some ⟨sb,0,none⟩),.agg ((numOf n).map W).toArray] w fun e w'=>(∃ x,e=.returned x)∧Blk w' sb (qe r (vX r v n) rest k) 304∧zI sb w w':=by
 have HSB:=znq hb
 have HO:=znq (zI.refl sb w)
 have HR:=znq hr
 have HV:=znq hv
 have HN:=znq hn
 have HNV:=znq (xG n)
 have HRV:=znq (xG r)
 have HVV:=znq (xG v)
 have hsb:=hb.lt
 clear hb hr hv hn
 go_enter Tryz.func231,Tryz.ntmps231
 go_wp2_with (refine zh 301 _ ((numOf n).map W) _ rfl rfl rfl rfl ?_)
 intro w1 hb hbel
 have HX:=znq hb
 have HSB:=znq (HSB.znr.below hbel hsb)
 have HO:=znq (HO.znr.trans (zI.of_below hbel))
 clear hb hbel
 generalize w.heap.size=bb at *
 go_wp2_with fail
 refine zn [0,1,2,3,4,5,7,8,9,10,6,11,12,13,14] (by kernel_rfl) (by kernel_rfl) ?_
 rintro w2 rfl
 have HX:=znq HX.znr.drew
 have HSB:=znq HSB.znr.drew
 have HO:=znq HO.znr.drew
 refine mqR ?_
 refine zt (Blk.rangeIn HSB.znr 5 5 _ (Ve r v rest k)) HSB.znr.lt zP HVV.znr rfl rfl rfl rfl (fun K hK=>?_)
 go_simp;refine hK _ ?_;clear hK K
 refine zt HX.znr.range HX.znr.lt zP HNV.znr rfl rfl rfl rfl (fun K hK=>?_)
 go_simp;refine hK _ ?_;clear hK K
 refine mqR ?_
 refine zt (Blk.rangeIn HSB.znr 0 5 _ (zmv r v rest k)) HSB.znr.lt zP HRV.znr rfl rfl rfl rfl (fun K hK=>?_)
 go_simp;refine hK _ ?_;clear hK K
 refine zi rfl rfl (by rfl) (fun K hK=>?_)
 go_simp
 refine (zko v n _ HV.znr HN.znr).mono ?_
 rintro e w3 ⟨rfl,hbel⟩
 have HSB:=znq (HSB.znr.below hbel HSB.znr.lt)
 have HO:=znq (HO.znr.trans (zI.of_below hbel))
 go_simp
 refine hK _ _ hbel ?_
 clear hK K hbel
 refine zi rfl rfl (by rfl) (fun K hK=>?_)
 go_simp
 refine (zht ((v+n) % PP) r _ (Nat.mod_lt _ ze6) HR.znr).mono ?_
 rintro e w4 ⟨rfl,hbel⟩
 have HSB:=znq (HSB.znr.below hbel HSB.znr.lt)
 have HO:=znq (HO.znr.trans (zI.of_below hbel))
 go_simp
 refine hK _ _ hbel ?_
 clear hK K hbel
 refine mqR ?_
 refine zp rfl rfl (by rfl) (fun K hK=>?_)
 refine HSB.znr.opstoreAt rfl rfl rfl zP rfl (by show 5+5≤_;simp [qe,numOf]) (yT _) (fun w5 hb ho=>hK _ _ ?_)
 clear hK K
 rw [zkt] at hb
 have HSB:=znq (show Blk w5 sb (qe r (vX r v n) rest k) 304 from by unfold vX;rw [Nat.mod_mul_mod];exact hb)
 have HO:=znq (HO.znr.trans (zI.of_only ho))
 clear hb ho
 go_simp
 refine zo ?_
 go_wp2
 go_end0
 exact ⟨⟨_,rfl⟩,HSB.znr,HO.znr⟩
end Go.Proofs.YtjaioajjfiaheaaGreatDoor
namespace Go.Cells
open Go.RowKit Go.Mem
structure Su (w0:World) (pb:Nat) (w:World) (L:List (Nat×List Value×TypeId)):Prop where
 only:zI pb w0 w
 all:∀ e∈L,Blk w e.1 e.2.1 e.2.2
theorem Su.start (pb:Nat) (w:World):Su w pb w []:=⟨zI.refl _ _,fun _ h=>by cases h⟩
section
variable {w0 w w':World} {pb:Nat} {L:List (Nat×List Value×TypeId)}
theorem Su.get (h:Su w0 pb w L) (i:Nat) {b:Nat} {vs:List Value} {ty:TypeId} (hi:L[i]? = some (b,vs,ty)):Blk w b vs ty:=h.all _ (List.mem_of_getElem? hi)
theorem Su.later (h:Su w0 pb w L) (hl:Below w.heap.size w w'):Su w0 pb w' L:=⟨h.only.trans (zI.of_below hl),fun e he=>(h.all e he).below hl (h.all e he).lt⟩
theorem Su.drew (h:Su w0 pb w L):Su w0 pb w.drew L:=⟨h.only.drew,fun e he=>(h.all e he).drew⟩
theorem Su.add (h:Su w0 pb w L) {b:Nat} {vs:List Value} {ty:TypeId} (hb:Blk w b vs ty):Su w0 pb w ((b,vs,ty)::L) :=
 ⟨h.only,fun e he=>by
  rcases List.mem_cons.1 he with rfl | he
  ·exact hb
  ·exact h.all e he⟩
theorem Su.push (h:Su w0 pb w L) {b:Nat} {vs:List Value} {ty:TypeId} (hb:Blk w' b vs ty) (hl:Below w.heap.size w w'):Su w0 pb w' ((b,vs,ty)::L):=(h.later hl).add hb
theorem Su.ne (h:Su w0 pb w L):∀ e∈L,e.1 < w.heap.size:=fun e he=>(h.all e he).lt
theorem Su.size (h:Su w0 pb w L):w0.heap.size≤w.heap.size:=h.only.size
theorem Su.change (h:Su w0 pb w L) (i:Nat) {b:Nat} {us:List Value} {ty:TypeId} (hb:Blk w' b us ty) (ho:Only b w w') (hbase:w0.heap.size≤b∨b=pb) (hne:∀ e∈L.eraseIdx i,e.1≠b):Su w0 pb w' (L.set i (b,us,ty)):=by
 refine ⟨?_,fun e he=>?_⟩
 ·rcases hbase with hbase | rfl
  ·exact h.only.other ho hbase
  ·exact h.only.trans (zI.of_only ho)
 ·obtain ⟨j,hj⟩:=List.mem_iff_getElem?.1 he
  rw [List.getElem?_set] at hj
  by_cases e1:i=j
  ·subst e1
   rw [if_pos rfl] at hj
   split at hj
   ·cases hj;exact hb
   ·cases hj
  ·rw [if_neg e1] at hj
   exact (h.all e (List.mem_of_getElem? hj)).only ho (hne e (kA _ _ _ _ (fun h=>e1 h.symm) hj))
theorem Su.tail {e:Nat×List Value×TypeId} (h:Su w0 pb w (e::L)):Su w0 pb w L:=⟨h.only,fun x hx=>h.all x (List.mem_cons_of_mem _ hx)⟩
theorem Su.tail2 {e f:Nat×List Value×TypeId} (h:Su w0 pb w (e::f::L)):Su w0 pb w L:=h.tail.tail
end
theorem Blk.ne' {w:World} {b c:Nat} {vs us:List Value} {t t':TypeId} (h:Blk w b vs t) (k:Blk w c us t') (hne:t≠t'):b≠c:=by
 rintro rfl
 unfold Blk at h k
 rw [h] at k
 cases k
 exact hne rfl
end Go.Cells
namespace Go.Proofs.YtjaioajjfiaheaaGreatDoor
open Go.RowKit Go.Mem Go.Ops Go.Cells Go.Oct Go.Gf Go.Trn Go.Aes Go.Ring Go.Ezk Go.Ezh Go.Ezt Go.Ezc Go.CutP Go.Fl
attribute [local irreducible] zE zN zO zM yu
theorem xH.onlyB {w w':World} {kp q p c:Nat} {k:zv} (h:xH w kp q p k) (ho:zI c w w') (h1:kp≠c) (h2:q≠c) (h3:p≠c):xH w' kp q p k :=
 ⟨⟨h.tab.boxes.onlyB ho h3,h.tab.tab.onlyB ho h2⟩,h.fit,h.blk.onlyB ho h1⟩
theorem JG (ao:Option Addr) (n cap:Nat) (b:List UInt8) (w:World) (hn:b.length=n) (hnb:n≤1000) (hl:zr w ao (b.map B)) :
  Calls Tryz.prog 146 #[.slice ao n cap] w fun e w'=>e=.returned (.agg ((block (qv b 128 16)).map B).toArray)∧Below w.heap.size w w':=by
 have HN:=znq hn
 have HL:=znq hl
 have HS:=znq (St.start w)
 obtain ⟨y,hy⟩:∃ y,y=block (qv b 128 16):=⟨_,rfl⟩
 have HY:=znq (show block (qv b 128 16)=y∧True from ⟨hy.symm,trivial⟩)
 have HBL:=znq (show y.length=16 by rw [hy];exact zA _)
 rw [← hy]
 clear hn hl hy
 go_enter Tryz.func146,Tryz.ntmps146
 go_wp2_with (refine ze 117 ((zf 16).map B) _ rfl rfl zj rfl ?_)
 intro w1 hb hbel;have HS:=znq (HS.znr.push hb hbel);have hlt1:=hb.lt;clear hb hbel
 generalize hbb:w.heap.size=bb at *
 have HBB:=znq hbb
 clear hbb
 go_wp2_with fail
 refine (QE ao n cap 16 128 b _ HN.znr (by omega) (by omega) (by omega) (HL.znr.below (HS.znr.old HBB.znr))).mono ?_
 rintro e w2 ⟨v2,rfl,hown,hbel⟩
 obtain ⟨ao2,cap2,rfl,hc2,_,hl2⟩:=zw hown
 have HS:=znq (HS.znr.later hbel)
 have HL2:=znq hl2
 clear hown hbel hl2
 simp only [id]
 go_wp2_with fail
 refine (yQ ao2 _ cap2 (qv b 128 16) _ (by rw [X8,HN.znr]) HL2.znr).mono ?_
 rintro e w3 ⟨rfl,hbel⟩
 have HS:=znq (HS.znr.later hbel)
 rw [HY.znr.1]
 clear hbel HL2 hc2
 go_wp2_with (refine (HS.znr.get 0 rfl).wstore rfl rfl rfl rfl zc (by rw [List.length_map];exact zd 16) (by rw [List.length_map];exact HBL.znr) (zg _) ?_)
 intro w4 hb4 ho4
 have hbel4:=zk HS.znr.bel ho4 (Nat.le_refl _)
 go_wp2
 refine hb4.result rfl rfl rfl zc (by rw [List.length_map];exact HBL.znr) ⟨rfl,?_⟩
 rw [HBB.znr]
 exact hbel4
theorem Qg (kp q p:Nat) (k:zv) (pv:Value) (ua va:Option Addr) (nu nv uc vc:Nat) (u v x y:List UInt8) (w:World) (hk:xH w kp q p k) (hnu:u.length=nu) (hnv:v.length=nv) (hu16:nu≤16) (hv16:nv < 16) (hu:zr w ua (u.map B)) (hv:zr w va (v.map B)) :
  Calls Tryz.prog 125 #[.agg (z4 pv (.slice ua nu uc) (.slice va nv vc) x y).toArray,.pointer (some ⟨kp,0,none⟩)] w fun e w'=>e=.returned (.agg ((kh k u v).map B).toArray)∧Below w.heap.size w w':=by
 have HK:=znq hk
 have HNU:=znq hnu
 have HNV:=znq hnv
 have HU:=znq hu
 have HV:=znq hv
 have HS:=znq (St.start w)
 have HTL:=znq (show (kh k u v).length=16 by unfold kh;split;exact zd 16;split;exact plusB_length _;exact yo _ _ _ _)
 obtain ⟨V,hV⟩:∃ V,V=z4 pv (.slice ua nu uc) (.slice va nv vc) x y:=⟨_,rfl⟩
 have HVV:=znq (show V=z4 pv (.slice ua nu uc) (.slice va nv vc) x y∧True from ⟨hV,trivial⟩)
 obtain ⟨T,hT⟩:∃ T,T=kh k u v:=⟨_,rfl⟩
 have HTT:=znq (show kh k u v=T∧True from ⟨hT.symm,trivial⟩)
 rw [← hT] at HTL
 rw [← hV,← hT]
 clear hk hnu hnv hu hv hV hT
 have hmf:∀ (fn:Fn) (first cap:Array Value) (w:World),(Instr.makeFunc fn first cap).run Tryz.prog w=.ok (.func fn first cap) w:=fun _ _ _ _=>rfl
 go_enter Tryz.func125,Tryz.ntmps125
 go_wp2_with (refine zh 181 _ (V) _ rfl rfl rfl rfl ?_)
 intro w1 hb hbel;have HS:=znq (HS.znr.push hb hbel);have hlt1:=hb.lt;clear hb hbel
 go_wp2_with (refine ze 117 ((zf 16).map B) _ rfl rfl zj rfl ?_)
 intro w2 hb hbel;have HS:=znq (HS.znr.push hb hbel);have hlt2:=hb.lt;clear hb hbel
 generalize hbb:w.heap.size=bb at *
 generalize w1.heap.size=bw1 at *
 have HBB:=znq hbb
 clear hbb
 have hcu:=(HS.znr.get 1 rfl).cell 1 (.slice ua nu uc) (by rw [HVV.znr.1];rfl)
 by_cases h0:nu=0
 ·have d0:((nu:Int)==0)=true:=by simp;omega
  have HT0:=znq (show T=zf 16∧True from ⟨by rw [← HTT.znr.1];unfold kh;rw [if_pos (by rw [HNU.znr];exact h0)],trivial⟩)
  clear h0
  go_wp2_with (refine (HS.znr.get 0 rfl).wstore rfl rfl rfl (cs:=(zf 16).map B) rfl zc (by rw [List.length_map];exact zd 16) (by rw [List.length_map];exact zd 16) (zg _) ?_)
  intro w4 hb4 ho4
  have hbel4:=zk HS.znr.bel ho4 (by omega)
  go_wp2
  refine hb4.result rfl rfl rfl zc (by rw [List.length_map];exact zd 16) ⟨by rw [HT0.znr.1],?_⟩
  rw [HBB.znr]
  exact hbel4
 ·have d0:((nu:Int)==0)=false:=by simp;omega
  by_cases h16:nu=16
  ·have d1:((nu:Int)==16)=true:=by simp;omega
   have HE:=znq (show plusB [eBlk k 0 4 (block u),eBlk k 0 5 (block (qv v 128 16))]=T∧True from ⟨by rw [← HTT.znr.1];unfold kh;rw [if_neg (by rw [HNU.znr];exact h0),if_pos (by rw [HNU.znr];exact h16)],trivial⟩)
   have hcu':=fun (z:zG w2.drew)=>((HS.znr.drew.later z.later).get 1 rfl).cell 1 (.slice ua nu uc) (by rw [HVV.znr.1];rfl)
   have hcv':=fun (z:zG w2.drew)=>((HS.znr.drew.later z.later).get 1 rfl).cell 2 (.slice va nv vc) (by rw [HVV.znr.1];rfl)
   clear h0 h16
   go_wp2_with fail
   refine zn [0,1,2,5,6,7,8,3,4,9,10,11,12,13] (by kernel_rfl) (by kernel_rfl) ?_
   rintro w3 rfl
   refine mqR ?_
   clear hcu' hcv'
   have HS:=znq HS.znr.drew
   refine zi rfl rfl (by rfl) (fun K hK=>?_)
   go_simp
   refine (yQ ua nu uc u _ HNU.znr (HU.znr.below (HS.znr.old HBB.znr))).mono ?_
   rintro e w4 ⟨rfl,hbel⟩
   have HS:=znq (HS.znr.later hbel)
   go_simp
   refine hK _ _ hbel ?_
   clear hK K hbel
   refine zi rfl rfl (by rfl) (fun K hK=>?_)
   go_simp
   refine (YZ kp q p 0 4 k (block u) _ (HK.znr.later (HS.znr.old HBB.znr)) (by omega) (by omega) (zA _)).mono ?_
   rintro e w5 ⟨rfl,hbel⟩
   have HS:=znq (HS.znr.later hbel)
   go_simp
   refine hK _ _ hbel ?_
   clear hK K hbel
   refine zi rfl rfl (by rfl) (fun K hK=>?_)
   go_simp
   refine (JG va nv vc v _ HNV.znr (by omega) (HV.znr.below (HS.znr.old HBB.znr))).mono ?_
   rintro e w6 ⟨rfl,hbel⟩
   have HS:=znq (HS.znr.later hbel)
   go_simp
   refine hK _ _ hbel ?_
   clear hK K hbel
   refine zi rfl rfl (by rfl) (fun K hK=>?_)
   go_simp
   refine (YZ kp q p 0 5 k (block (qv v 128 16)) _ (HK.znr.later (HS.znr.old HBB.znr)) (by omega) (by omega) (zA _)).mono ?_
   rintro e w7 ⟨rfl,hbel⟩
   have HS:=znq (HS.znr.later hbel)
   go_simp
   refine hK _ _ hbel ?_
   clear hK K hbel
   have HE1:=znq (yo k 0 4 (block u))
   have HE2:=znq (yo k 0 5 (block (qv v 128 16)))
   generalize eBlk k 0 4 (block u)=e1 at *
   generalize eBlk k 0 5 (block (qv v 128 16))=e2 at *
   refine zi rfl rfl (by rfl) (fun K hK=>?_)
   refine y8 171 117 16 2 _ [e1.map B,e2.map B] rfl rfl Tryz.underlying171 zF rfl (by omega) rfl (by omega) (by omega) (by simp [HE1.znr,HE2.znr]) ?_
   intro w8 hb hbel
   have HS:=znq (HS.znr.later hbel)
   have HR:=znq (show yB 16 w8 (some ⟨w7.heap.size,0,none⟩) [e1,e2] from ⟨by simp [HE1.znr,HE2.znr],by have:=hb.lies;simpa using this⟩)
   refine hK _ _ hbel ?_
   clear hK K hbel hb
   go_simp
   refine zi rfl rfl (by rfl) (fun K hK=>?_)
   go_simp
   refine (yN (some ⟨w7.heap.size,0,none⟩) 2 2 [e1,e2] _ rfl (by omega) HR.znr).mono ?_
   rintro e w9 ⟨rfl,hbel⟩
   have HS:=znq (HS.znr.later hbel)
   rw [HE.znr.1]
   go_simp
   refine hK _ _ hbel ?_
   clear hK K hbel HR
   refine zp rfl rfl (by rfl) (fun K hK=>?_)
   refine (HS.znr.get 0 rfl).opstore rfl rfl rfl zc (by rw [List.length_map];exact zd 16) (by rw [List.length_map];exact HTL.znr) (zg _) (fun w10 hb10 ho10=>hK _ _ ?_)
   clear hK K
   have hbel10:=zk HS.znr.bel ho10 (by omega)
   go_simp
   refine zo ?_
   go_wp2
   refine hb10.result rfl rfl rfl zc (by rw [List.length_map];exact HTL.znr) ⟨rfl,?_⟩
   rw [HBB.znr]
   exact hbel10
  ·have d1:((nu:Int)==16)=false:=by simp;omega
   have HE:=znq (show eBlk k 0 4 (block (qv u 128 16))=T∧True from ⟨by rw [← HTT.znr.1];unfold kh;rw [if_neg (by rw [HNU.znr];exact h0),if_neg (by rw [HNU.znr];exact h16)],trivial⟩)
   clear h0 h16
   go_wp2_with fail
   refine (JG ua nu uc u _ HNU.znr (by omega) (HU.znr.below (HS.znr.old HBB.znr))).mono ?_
   rintro e w3 ⟨rfl,hbel⟩
   have HS:=znq (HS.znr.later hbel)
   clear hbel
   go_wp2_with fail
   refine (YZ kp q p 0 4 k (block (qv u 128 16)) _ (HK.znr.later (HS.znr.old HBB.znr)) (by omega) (by omega) (zA _)).mono ?_
   rintro e w4 ⟨rfl,hbel⟩
   rw [HE.znr.1]
   have HS:=znq (HS.znr.later hbel)
   clear hbel
   go_wp2_with (refine (HS.znr.get 0 rfl).wstore rfl rfl rfl rfl zc (by rw [List.length_map];exact zd 16) (by rw [List.length_map];exact HTL.znr) (zg _) ?_)
   intro w5 hb5 ho5
   have hbel5:=zk HS.znr.bel ho5 (by omega)
   go_wp2
   refine hb5.result rfl rfl rfl zc (by rw [List.length_map];exact HTL.znr) ⟨rfl,?_⟩
   rw [HBB.znr]
   exact hbel5
end Go.Proofs.YtjaioajjfiaheaaGreatDoor
namespace Go.Mem
open Go.RowKit Go.Cells Go.Ops
theorem _root_.Go.Cells.Blk.cellAnyC {w:World} {b:Nat} {vs:List Value} {ty:TypeId} (h:Blk w b vs ty) (i:Nat):w.cell? ⟨b,i,none⟩=vs[i]?:=by
 unfold Blk at h
 simp [World.cell?,h]
theorem _root_.Go.Cells.Only.cellOtherC {b:Nat} {w w':World} (h:Only b w w') {c:Nat} (i:Nat) (hne:c≠b):w'.cell? ⟨c,i,none⟩=w.cell? ⟨c,i,none⟩:=by
 simp [World.cell?,h.block c hne]
theorem zr.offBytes {w w':World} {ao:Option Addr} {ls:List UInt32} {bs:List UInt8} {b:Nat} {ty:TypeId} (h:zr w ao (ls.map W)) (hb:Blk w b (bs.map B) ty) (ho:Only b w w'):zr w' ao (ls.map W):=by
 intro j u hu
 obtain ⟨c,off,e,hc⟩:=h j u hu
 refine ⟨c,off,e,?_⟩
 by_cases he:c=b
 ·subst he
  exfalso
  have h1:w.cell? ⟨c,off+j,none⟩=(bs.map B)[off+j]?:=hb.cellAnyC _
  rw [hc] at h1
  have h2:=List.mem_of_getElem? h1.symm
  obtain ⟨x,_,hx⟩:=List.mem_map.1 h2
  obtain ⟨y,_,hy⟩:=List.mem_map.1 (List.mem_of_getElem? hu)
  rw [← hy] at hx
  simp at hx
 ·exact (ho.cellOtherC (off+j) he).trans hc
end Go.Mem
namespace Go.Cha
open Go.Ops Go.Oct Go.Trn
theorem wH (x:UInt32):(putWord x).length=4:=by simp [putWord]
theorem zdd (l:List UInt32) (x:UInt32):xi (l++[x])=xi l++putWord x:=by simp [xi]
theorem ze8 (bs:List UInt8) (off:Nat) (l:List UInt32) (i:Nat) (x:UInt32) (hx:l[i]? = some x) (hf:off+4*l.length≤bs.length) :
  splice (splice bs off (xi (l.take i))) (off+4*i) (putWord x)=splice bs off (xi (l.take (i+1))):=by
 have hi:i < l.length:=(List.getElem?_eq_some_iff.1 hx).1
 have hl:(xi (l.take i)).length=4*i:=by rw [xp,List.length_take];omega
 have ht:l.take (i+1)=l.take i++[x]:=by rw [List.take_add_one,hx];rfl
 have htl:(bs.take off).length=off:=by rw [List.length_take];omega
 rw [ht,zdd]
 unfold splice
 rw [List.length_append,hl,wH]
 have e1:(bs.take off++(xi (l.take i)++bs.drop (off+4*i))).take (off+4*i)=bs.take off++xi (l.take i):=by
  rw [← List.append_assoc,List.take_append_of_le_length (by rw [List.length_append,htl,hl];omega),List.take_of_length_le (by rw [List.length_append,htl,hl];omega)]
 have e2:(bs.take off++(xi (l.take i)++bs.drop (off+4*i))).drop (off+4*i+4)=bs.drop (off+(4*i+4)):=by
  rw [← List.append_assoc,List.drop_append,List.drop_eq_nil_of_le (by rw [List.length_append,htl,hl];omega),List.nil_append,List.length_append,htl,hl,List.drop_drop]
  congr 1
  omega
 rw [e1,e2]
 simp [List.append_assoc]
end Go.Cha
namespace Go.Proofs.YtjaioajjfiaheaaGreatDoor
open Go.RowKit Go.Mem Go.Ops Go.Cells Go.Oct Go.Trn Go.Cha
attribute [local irreducible] zE zN zO zM yJ
theorem zas (po off n cap:Nat) (ns:Option Addr) (m mc:Nat) (bs:List UInt8) (ls:List UInt32) (ty:TypeId) (w:World) (hb:Blk w po (bs.map B) ty) (hl:zr w ns (ls.map W)) (hm:ls.length=m) (hm1:m≤16) (hf:off+4*m≤bs.length) (hn:4*m≤n) (hc:n≤cap) :
  Calls Tryz.prog 169 #[.slice (some ⟨po,off,none⟩) n cap,.slice ns m mc] w fun e w'=>(∃ v,e=.returned v)∧Blk w' po ((splice bs off (xi ls)).map B) ty∧zI po w w':=by
 have HB:=znq hb
 have HL:=znq hl
 have HM:=znq (show ls.length=m∧True from ⟨hm,trivial⟩)
 have HO:=znq (zI.refl po w)
 have HE0:=znq (show bs=splice bs off (xi (ls.take 0))∧True from ⟨by simp [splice,xi],trivial⟩)
 have HF:=znq (show off+4*ls.length≤bs.length from by rw [hm];exact hf)
 have hsl:∀ (i:Nat) (w':World),i < m→(Instr.slice 22 (.slice (some ⟨po,off,none⟩) n cap) (some (.int .i64 (4*(i:Int)))) none none).run Tryz.prog w'=.ok (.slice (some ⟨po,off+4*i,none⟩) (n - 4*i) (cap - 4*i)) w':=by
  intro i w' hi
  have:=yv (P:=Tryz.prog) w' 22 5 1 Tryz.underlying22 zl (some ⟨po,off,none⟩) n cap (4*i) (4*(i:Int)) (by omega) (by omega)
  rw [this]
  unfold yy
  rw [if_neg (by omega)]
  simp [Addr.add]
 have HSL:=znq hsl
 clear hb hl hm hf hsl
 go_enter Tryz.func169,Tryz.ntmps169
 go_wp2
 go_loopw [9] (fun c wr=>∃ (i:Nat),i≤m∧c=.int .i64 i∧Hid (Blk wr po ((splice bs off (xi (ls.take i))).map B) ty)∧Hid (zr wr ns (ls.map W))∧Hid (zI po w wr)) (fun c _=>m - (intOf c).toNat)
 case atStart=>exact ⟨0,by omega,rfl,znq (by rw [← HE0.znr.1];exact HB.znr),HL,HO⟩
 case round =>
  clear HB HL HO
  obtain ⟨i,hi,rfl,HB,HL,HO⟩:=hrel
  by_cases hlt:i < m
  ·obtain ⟨x,hx⟩:∃ x,ls[i]? = some x:=⟨ls[i]'(by rw [HM.znr.1];exact hlt),by simp⟩
   obtain ⟨nb,noff,rfl,hcn⟩:=HL.znr i (W x) (kz hx)
   have HSP:=znq (show splice (splice bs off (xi (ls.take i))) (off+4*i) (putWord x)=splice bs off (xi (ls.take (i+1)))∧True from ⟨ze8 bs off ls i x hx HF.znr,trivial⟩)
   have HLE:=znq (show (splice bs off (xi (ls.take i))).length=bs.length∧True from ⟨length_splice _ _ _ (by rw [xp,List.length_take];have:=HF.znr;omega),trivial⟩)
   clear hx
   go_wp2_with fail
   refine (Zy x _).mono ?_
   rintro e w2 ⟨rfl,hbel⟩
   have hpo:=HB.znr.lt
   have HL:=znq (HL.znr.below hbel)
   have HO:=znq (HO.znr.trans (zI.of_below hbel))
   have HB:=znq (HB.znr.below hbel hpo)
   clear hbel hcn hpo
   have hz2:=HO.znr.size
   go_wp2_with (refine ze 155 ((zf 4).map B) _ rfl rfl Xq rfl ?_)
   intro w3 hb3 hbel3
   have hpo:=HB.znr.lt
   have HL:=znq (HL.znr.below hbel3)
   have HO:=znq (HO.znr.trans (zI.of_below hbel3))
   have HB:=znq (HB.znr.below hbel3 hpo)
   clear hbel3
   generalize hw2:w2.heap.size=b2 at *
   have HW2:=znq hw2
   clear hw2
   go_wp2_with (refine hb3.wstore rfl rfl rfl (cs:=(putWord x).map B) rfl kL rfl (by rw [List.length_map,wH]) (zg _) ?_)
   intro w4 hb4 ho4
   have HV:=znq hb4
   have HL4:=znq (HL.znr.offBytes hb3 ho4)
   have HO:=znq (HO.znr.other ho4 hz2)
   have hpb:po < b2:=hpo
   have HB:=znq (HB.znr.only ho4 (by omega))
   have HL:=HL4
   clear hb3 hb4 ho4 HL4
   have hs:=fun w'=>HSL.znr i w' hlt
   go_wp2_with fail
   refine zn [0,1,2,3,4,5] (by kernel_rfl) (by kernel_rfl) ?_
   rintro w5 rfl
   refine mqR ?_
   clear hs
   refine zp rfl rfl (by rfl) (fun K hK=>?_)
   refine HB.znr.drew.opcopy (off+4*i) ((putWord x).map B) rfl rfl rfl Tryz.underlying22 zl (fun _=>rfl) HV.znr.drew.lies (by rw [List.length_map,wH];exact (Nat.min_eq_left (by omega)).symm) (by rw [List.length_map,List.length_map,wH,HLE.znr.1];have:=HF.znr;have:=HM.znr.1;omega) (zg _) (fun w6 hb6 ho6=>hK _ _ ?_)
   clear hK K
   rw [xV,HSP.znr.1] at hb6
   have HL:=znq ((HL.znr.below (Below.refl _ w4).drew).offBytes HB.znr.drew ho6)
   have HO:=znq (HO.znr.drew.trans (zI.of_only ho6))
   have HB:=znq hb6
   clear hb6 ho6
   go_simp
   refine zo ?_
   go_wp2
   go_roundw
   case rel=>exact ⟨i+1,by omega,by go_num,HB,HL,HO⟩
   case measure=>simp [intOf];omega
  ·obtain rfl:i=m:=by omega
   have HEND:=znq (show splice bs off (xi (ls.take i))=splice bs off (xi ls)∧True from ⟨by rw [List.take_of_length_le (by rw [HM.znr.1];exact Nat.le_refl _)],trivial⟩)
   rw [HEND.znr.1] at HB
   go_wp2
   go_end0
   exact ⟨⟨_,rfl⟩,HB.znr,HO.znr⟩
end Go.Proofs.YtjaioajjfiaheaaGreatDoor
namespace Go.Cha
open Go.Ops Go.Oct Go.Trn
def fillC (key inn:List UInt8) (i:Nat):List UInt32:=(List.range 16).map fun r=>if r % 4 < i then wu key inn r else 0
theorem zm0 (key inn:List UInt8):fillC key inn 0=List.replicate 16 0:=rfl
theorem zm1 (key inn:List UInt8):fillC key inn 4=je key inn:=by
 unfold fillC je
 apply List.map_congr_left
 intro r _
 rw [if_pos (Nat.mod_lt _ (by omega))]
theorem zat (key inn:List UInt8) (i:Nat):(fillC key inn i).length=16:=by simp [fillC]
theorem ze9 (key inn:List UInt8) {i:Nat} (hi:i < 4) :
  ((((fillC key inn i).set i (yU j5 (4*i))).set (4+i) (yU key (4*i))).set (8+i) (yU key (4*i+16))).set (12+i) (yU inn (4*i))=fillC key inn (i+1):=by
 match i,hi with
 | 0,_=>rfl
 | 1,_=>rfl
 | 2,_=>rfl
 | 3,_=>rfl
end Go.Cha
namespace Go.Proofs.YtjaioajjfiaheaaGreatDoor
open Go.RowKit Go.Mem Go.Ops Go.Cells Go.Oct Go.Trn Go.Cha
attribute [local irreducible] zE zN zO zM yJ
theorem zfa (w:World) (xs:List Value) (ty:TypeId) (fr:Nat×Nat):zr (w.alloc (.cells xs.toArray ty fr)) (some ⟨w.heap.size,0,none⟩) xs:=by
 intro j u hu
 refine ⟨w.heap.size,0,rfl,?_⟩
 rw [World.cell?_alloc_mark,Nat.zero_add]
 simpa using hu
theorem zhv (w:World):(convert 22 22 (.slice (some ⟨w.heap.size,0,none⟩) 16 16)).run Tryz.prog (w.alloc (.cells (j5.map B).toArray 5))=.ok (.slice (some ⟨w.heap.size,0,none⟩) 16 16) (w.alloc (.cells (j5.map B).toArray 5 (16,17))) :=
 Go.Joins.run_convert_bytes_const_at w 22 5 (j5.map B).toArray 16 16 w.heap.size rfl Tryz.underlying22 Tryz.underlying5
theorem zfb (w:World):(convert 22 22 (.slice (some ⟨w.heap.size,0,none⟩) 16 16)).run Tryz.prog (w.alloc (.cells #[.int .u8 101,.int .u8 120,.int .u8 112,.int .u8 97,.int .u8 110,.int .u8 100,.int .u8 32,.int .u8 51,.int .u8 50,.int .u8 45,.int .u8 98,.int .u8 121,.int .u8 116,.int .u8 101,.int .u8 32,.int .u8 107] 5))=.ok (.slice (some ⟨w.heap.size,0,none⟩) 16 16) (w.alloc (.cells (j5.map B).toArray 5 (16,17))):=zhv w
theorem zde (key inn:List UInt8) (w:World) (hk:key.length=32) (hi:inn.length=16) :
  Calls Tryz.prog 167 #[.agg (key.map B).toArray,.agg (inn.map B).toArray] w fun e w'=>e=.returned (.agg ((je key inn).map W).toArray)∧Below w.heap.size w w':=by
 have HK:=znq (show key.length=32∧True from ⟨hk,trivial⟩)
 have HI:=znq (show inn.length=16∧True from ⟨hi,trivial⟩)
 have HS:=znq (St.start w)
 clear hk hi
 go_enter Tryz.func167,Tryz.ntmps167
 go_wp2_with (refine zh 186 _ (key.map B) _ rfl rfl rfl rfl ?_)
 intro w1 hb hbel;have HS:=znq (HS.znr.push hb hbel);have hlt1:=hb.lt;clear hb hbel
 go_wp2_with (refine zh 117 _ (inn.map B) _ rfl rfl rfl rfl ?_)
 intro w2 hb hbel;have HS:=znq (HS.znr.push hb hbel);have hlt2:=hb.lt;clear hb hbel
 go_wp2_with (refine ze 242 ((List.replicate 16 (0:UInt32)).map W) _ rfl rfl qt rfl ?_)
 intro w3 hb hbel;have HS:=znq (HS.znr.push hb hbel);have hlt3:=hb.lt;clear hb hbel
 go_wp2_with (refine ze 242 ((List.replicate 16 (0:UInt32)).map W) _ rfl rfl qt rfl ?_)
 intro w4 hb hbel;have HS:=znq (HS.znr.push hb hbel);have hlt4:=hb.lt;clear hb hbel
 generalize hbb:w.heap.size=bb at *
 generalize w1.heap.size=b1 at *
 generalize w2.heap.size=b2 at *
 generalize w3.heap.size=b3 at *
 have HBB:=znq hbb
 clear hbb
 go_wp2
 go_loopw [7] (fun c wr=>∃ (i:Nat),i≤4∧c=.int .i64 i∧Hid (St w bb wr [(b3,(fillC key inn i).map W,242),(b2,(List.replicate 16 (0:UInt32)).map W,242),(b1,inn.map B,117),(bb,key.map B,186)])) (fun c _=>4 - (intOf c).toNat)
 case atStart=>exact ⟨0,by omega,rfl,znq (by rw [zm0];exact HS.znr)⟩
 case round =>
  clear HS
  obtain ⟨i,hi,rfl,HS⟩:=hrel
  by_cases hlt:i < 4
  ·have HL0:=znq (show ((fillC key inn i).map W).length=16 by rw [List.length_map];exact zat key inn i)
   obtain ⟨a4,ha4⟩:∃ a,a=4*i:=⟨_,rfl⟩
   obtain ⟨a16,ha16⟩:∃ a,a=4*i+16:=⟨_,rfl⟩
   obtain ⟨r1,hr1⟩:∃ a,a=4+i:=⟨_,rfl⟩
   obtain ⟨r2,hr2⟩:∃ a,a=8+i:=⟨_,rfl⟩
   obtain ⟨r3,hr3⟩:∃ a,a=12+i:=⟨_,rfl⟩
   have e4:4*(i:Int)=(a4:Int):=by omega
   have e16:(a4:Int)+16=(a16:Int):=by omega
   have f1:(4:Int)+(i:Int)=(r1:Int):=by omega
   have f2:(8:Int)+(i:Int)=(r2:Int):=by omega
   have f3:(12:Int)+(i:Int)=(r3:Int):=by omega
   have HST:=znq (show ((((fillC key inn i).set i (yU j5 a4)).set r1 (yU key a4)).set r2 (yU key a16)).set r3 (yU inn a4)=fillC key inn (i+1)∧True from ⟨by rw [ha4,ha16,hr1,hr2,hr3];exact ze9 key inn hlt,trivial⟩)
   have g1:r1 < 16:=by omega
   have g2:r2 < 16:=by omega
   have g3:r3 < 16:=by omega
   have ga:a4≤100:=by omega
   have gb:a16≤100:=by omega
   clear ha4 ha16 hr1 hr2 hr3
   obtain ⟨fin,hfin⟩:∃ f,f=fillC key inn (i+1):=⟨_,rfl⟩
   have HFIN:=znq (show fillC key inn (i+1)=fin∧True from ⟨hfin.symm,trivial⟩)
   rw [← hfin] at HST
   clear hfin
   generalize fillC key inn i=us at *
   have hcv:=zfb wr
   go_wp2_with fail
   have HLW:=znq (zfa wr (j5.map B) 5 (16,17))
   have HS:=znq (HS.znr.later (zD wr (.cells (j5.map B).toArray 5 (16,17))))
   generalize wr.alloc (.cells (j5.map B).toArray 5 (16,17))=wm at *
   clear hcv
   refine (kZ _ 16 16 a4 j5 _ rfl (by omega) (by omega) HLW.znr).mono ?_
   rintro e w5 ⟨rfl,hbel⟩
   have HS:=znq (HS.znr.later hbel)
   clear hbel HLW
   go_wp2_with (refine (HS.znr.get 0 rfl).wset (i:=i) (v:=W (yU j5 a4)) rfl rfl rfl rfl yt rfl rfl (by rw [HL0.znr];omega) ?_)
   intro w6 hb6 ho6
   simp only [xI] at hb6
   have HS:=znq (HS.znr.change 0 hb6 ho6 (by omega) (by simp;omega))
   clear hb6 ho6
   go_wp2_with fail
   refine (kZ _ 32 32 a4 key _ HK.znr.1 (by omega) (by omega) (HS.znr.get 3 rfl).lies).mono ?_
   rintro e w7 ⟨rfl,hbel⟩
   have HS:=znq (HS.znr.later hbel)
   clear hbel
   go_wp2_with (refine (HS.znr.get 0 rfl).wset (i:=r1) (v:=W (yU key a4)) rfl rfl rfl rfl yt rfl rfl (by have:=HL0.znr;simp only [List.length_map,List.length_set] at this ⊢;omega) ?_)
   intro w8 hb8 ho8
   simp only [xI] at hb8
   have HS:=znq (HS.znr.change 0 hb8 ho8 (by omega) (by simp;omega))
   clear hb8 ho8
   go_wp2_with fail
   refine (kZ _ 32 32 a16 key _ HK.znr.1 (by omega) (by omega) (HS.znr.get 3 rfl).lies).mono ?_
   rintro e w9 ⟨rfl,hbel⟩
   have HS:=znq (HS.znr.later hbel)
   clear hbel
   go_wp2_with (refine (HS.znr.get 0 rfl).wset (i:=r2) (v:=W (yU key a16)) rfl rfl rfl rfl yt rfl rfl (by have:=HL0.znr;simp only [List.length_map,List.length_set] at this ⊢;omega) ?_)
   intro w10 hb10 ho10
   simp only [xI] at hb10
   have HS:=znq (HS.znr.change 0 hb10 ho10 (by omega) (by simp;omega))
   clear hb10 ho10
   go_wp2_with fail
   refine (kZ _ 16 16 a4 inn _ HI.znr.1 (by omega) (by omega) (HS.znr.get 2 rfl).lies).mono ?_
   rintro e w11 ⟨rfl,hbel⟩
   have HS:=znq (HS.znr.later hbel)
   clear hbel
   go_wp2_with (refine (HS.znr.get 0 rfl).wset (i:=r3) (v:=W (yU inn a4)) rfl rfl rfl rfl yt rfl rfl (by have:=HL0.znr;simp only [List.length_map,List.length_set] at this ⊢;omega) ?_)
   intro w12 hb12 ho12
   simp only [xI] at hb12
   rw [HST.znr.1,← HFIN.znr.1] at hb12
   have HS:=znq (HS.znr.change 0 hb12 ho12 (by omega) (by simp;omega))
   clear hb12 ho12
   go_wp2
   go_roundw
   case rel=>exact ⟨i+1,by omega,by go_num,HS⟩
   case measure=>simp [intOf];omega
  ·obtain rfl:i=4:=by omega
   have HFL:=znq (show ((je key inn).map W).length=16 by rw [List.length_map];exact kq key inn)
   rw [zm1] at HS
   go_wp2_with (first | (refine (HS.znr.get 0 rfl).wload rfl rfl rfl yW HFL.znr ?_) | (refine (HS.znr.get 1 rfl).wstore rfl rfl rfl (cs:=(je key inn).map W) rfl yW rfl HFL.znr (yT _) ?_))
   intro w5 hb5 ho5
   have HE:=znq (zk HS.znr.bel ho5 (by omega))
   clear ho5
   go_wp2
   refine hb5.result rfl rfl rfl yW HFL.znr ⟨rfl,?_⟩
   rw [HBB.znr]
   exact HE.znr
end Go.Proofs.YtjaioajjfiaheaaGreatDoor

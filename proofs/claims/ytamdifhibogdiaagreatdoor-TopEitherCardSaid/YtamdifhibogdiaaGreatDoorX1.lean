/-
  Texts of this claim, one behind the other.
-/
import Derived.WalkKit
import Derived.WalkSpells
import Derived.WalkLawsBesides
import Derived.Lib.Hide
import Derived.Laws.AppendOwnNone
import Derived.Laws.CopyOwn
import Derived.Deep.AppendLies
import Derived.Deep.Onto
import Derived.Deep.MidRow
import Derived.OwnWalk
import Derived.Deep.QuietTactic
import Derived.BigQuiet
set_option linter.unusedVariables false
set_option linter.unusedSimpArgs false
set_option maxHeartbeats 16000000
set_option maxRecDepth 100000
open Array renaming getElem?_eq_some_iff→uJ,getElem?_modify→gI
open BitVec renaming isLt→dm,ofInt→uE,ofInt_natCast→dY,ofNat_toNat→fw
open List renaming append_assoc→QA,drop_eq_nil_of_le→Yx,eq_nil_of_length_eq_zero→uG,ext_getElem?→uA,getD→bT,getElem?_append_left→bO,getElem?_cons_succ→dC,getElem?_eq_none→qc,getElem?_map→uV,getElem?_set→uU,getElem?_set_ne→uH,getElem?_set_self→uW,getElem?_take→fK,length_cons→uh,length_set→Vo,length_take→Ku,map_map→gq,map_set→gu,mem_of_getElem?→xU,range→uf,replicate→wh,size_toArray→dH,take_of_length_le→Y2
open Nat renaming div_le_self→dP,le_refl→xc,le_trans→uj,lt_of_le_of_lt→cK,mul_one→dN,zero_add→bH
open Option renaming map_some→cB
open UInt32 renaming ofNat→bQ,toNat_ofNat'→gQ,toNat_ofNat_of_lt'→uy
open UInt64 renaming ofNat→wF,toNat_ofNat'→bJ,toNat_ofNat_of_lt'→uM
open UInt8 renaming ofNat→VW,toNat_ofNat'→dx,toNat_ofNat_of_lt'→uY
namespace Go
theorem mqR {P Q : Prop} (hq : Q) (h : RowKit.Hid Q → P := by intro h_; (repeat (refine vE rfl rfl (fun K hK => ?_); go_big_quiet_step (fail); refine wpQuiet_nil (hK _ ?_); clear hK K)); exact RowKit.Hid.out h_) : P := h hq
theorem mq0 {P Q : Prop} (hq : Q) (h : RowKit.Hid Q → P := by intro h_; (repeat (refine tN rfl rfl rfl (fun K hK => ?_); go_big_quiet_step (fail); refine wpQuiet_nil (hK _ ?_); clear hK K)); exact RowKit.Hid.out h_) : P := h hq
theorem mqK {P Q : Prop} (hq : Q) (h : RowKit.Hid Q → P := by intro h_; (repeat ((first | refine tO rfl rfl (fun K hK => ?_) | refine zdF Below.refl rfl rfl (fun K hK => ?_)); go_big_quiet_step (fail); refine wpQuiet_nil (hK _ ?_); clear hK K)); exact RowKit.Hid.out h_) : P := h hq
theorem mqN {P Q : Prop} (hq : Q) (h : RowKit.Hid Q → P := by intro h_; (repeat ((first | refine zbQ rfl rfl (fun K hK => ?_) | refine za3 rfl rfl (fun K hK => ?_)); go_big_quiet_step (fail); refine wpQuiet_nil (hK _ ?_); clear hK K)); exact RowKit.Hid.out h_) : P := h hq
theorem mqB {P Q : Prop} (hq : Q) (h : RowKit.Hid Q → P := by intro h_; (repeat ((first | refine zbR rfl rfl (fun K hK => ?_) | refine zno rfl rfl (fun K hK => ?_)); go_big_quiet_step (fail); refine wpQuiet_nil (hK _ ?_); clear hK K)); exact RowKit.Hid.out h_) : P := h hq
theorem m1R {P Q : Prop} (hq : Q) (h : RowKit.Hid Q → P := by intro h_; (refine vE rfl rfl (fun K hK => ?_); go_big_quiet_step (fail); refine wpQuiet_nil (hK _ ?_); clear hK K); exact RowKit.Hid.out h_) : P := h hq
theorem m10 {P Q : Prop} (hq : Q) (h : RowKit.Hid Q → P := by intro h_; (refine tN rfl rfl rfl (fun K hK => ?_); go_big_quiet_step (fail); refine wpQuiet_nil (hK _ ?_); clear hK K); exact RowKit.Hid.out h_) : P := h hq
theorem m1K {P Q : Prop} (hq : Q) (h : RowKit.Hid Q → P := by intro h_; (refine tO rfl rfl (fun K hK => ?_); go_big_quiet_step (fail); refine wpQuiet_nil (hK _ ?_); clear hK K); exact RowKit.Hid.out h_) : P := h hq
end Go
namespace Go.RowKit
theorem Hid.znr {p : Prop} (h : Hid p) : p := h
end Go.RowKit
namespace Go
theorem znq {p : Prop} (h : p) : RowKit.Hid p := h
end Go
namespace Go.Mem
open RowKit
abbrev B (b:UInt8):Value:=.int .u8 (b.toNat:Int)
def zr (w:World) (ao:Option Addr) (xs:List Value):Prop :=
 ∀ j u,xs[j]? = some u→∃ b off,ao=some ⟨b,off,none⟩∧w.cell? ⟨b,off+j,none⟩=some u
theorem add_eq (b off j:Nat):(⟨b,off,none⟩:Addr).add j=⟨b,off+j,none⟩:=by
 unfold Addr.add;split <;> simp_all
theorem block_lt_of_cell {w:World} {b o:Nat} {s:Option Nat} {u:Value} (h:w.cell? ⟨b,o,s⟩=some u):b < w.heap.size:=World.block_lt_of_cell? w _ h
theorem zr.below {w w':World} {ao:Option Addr} {xs:List Value} (h:zr w ao xs) (hb:Below w.heap.size w w'):zr w' ao xs:=by
 intro j u hu
 obtain ⟨b,off,e,hc⟩:=h j u hu
 exact ⟨b,off,e,(hb.cell (p:=⟨b,off+j,none⟩) (block_lt_of_cell hc)).trans hc⟩
theorem zr.nil (w:World) (ao:Option Addr):zr w ao []:=by intro j u hu;cases hu
theorem zr.at {w:World} {ao:Option Addr} {xs:List Value} (h:zr w ao xs) (hn:xs≠[]):∃ b off,ao=some ⟨b,off,none⟩∧b < w.heap.size∧∀ j u,xs[j]? = some u→w.cell? ⟨b,off+j,none⟩=some u:=by
 cases xs with
 | nil=>exact absurd rfl hn
 | cons x xs =>
  obtain ⟨b,off,e,hc⟩:=h 0 x rfl
  refine ⟨b,off,e,block_lt_of_cell hc,?_⟩
  intro j u hu
  obtain ⟨b',off',e',hc'⟩:=h j u hu
  rw [e] at e'
  cases e'
  exact hc'
theorem zr.news {w:World} {ad:Addr} {xs:List Value} (h:zr w (some ad) xs):∀ j u,xs[j]? = some u→w.cell? (ad.add j)=some u:=by
 intro j u hu
 obtain ⟨b,off,e,hc⟩:=h j u hu
 cases e
 rw [add_eq];exact hc
theorem zr.drop {w:World} {ao:Option Addr} {xs:List Value} (h:zr w ao xs) (a:Nat):zr w (ao.map (·.add a)) (xs.drop a):=by
 intro j u hu
 rw [List.getElem?_drop] at hu
 obtain ⟨b,off,e,hc⟩:=h (a+j) u hu
 refine ⟨b,off+a,?_,?_⟩
 ·rw [e,cB,add_eq]
 ·rw [Nat.add_assoc];exact hc
theorem zr.take {w:World} {ao:Option Addr} {xs:List Value} (h:zr w ao xs) (n:Nat):zr w ao (xs.take n):=by
 intro j u hu
 rw [fK] at hu
 split at hu
 ·exact h j u hu
 ·cases hu
theorem zr.cut {w:World} {ao:Option Addr} {xs:List Value} {cap:Nat} (h:zr w ao xs) (hcap:xs.length≤cap) (a n:Nat) :
  zr w (if cap=a then ao else ao.map (·.add a)) ((xs.drop a).take n):=by
 by_cases hc:cap=a
 ·rw [if_pos hc,Yx (by omega)]
  simp only [List.take_nil]
  exact zr.nil _ _
 ·rw [if_neg hc]
  exact (h.drop a).take n
theorem zr.nQ {w:World} {base:Nat} {e:TypeId} {size:Nat} {ao:Option Addr} {n cap:Nat} {xs:List Value} (h:w.ownsRow base e size (.slice ao n cap) n xs):zr w ao xs:=by
 intro j u hu
 rcases h.2 with ⟨hv,hn⟩ | ⟨g,c,cur,hv,hb,hg,_,_,_,ht⟩
 ·have:xs=[]:=uG (by rw [h.1,hn];simp)
  rw [this] at hu;cases hu
 ·cases hv
  refine ⟨g,0,rfl,?_⟩
  have:=h.cells (g:=g) rfl j u hu
  rw [add_eq] at this
  exact this
theorem zw {w:World} {base:Nat} {e:TypeId} {size:Nat} {v:Value} {n:Nat} {xs:List Value} (h:w.ownsRow base e size v n xs) :
  ∃ ao cap,v=.slice ao n cap∧n≤cap∧cap≤maxLen∧zr w ao xs:=by
 rcases h.2 with ⟨hv,hn⟩ | ⟨g,c,cur,hv,hb,hg,h1,h2,h3,ht⟩
 ·subst hn
  exact ⟨none,0,hv,by omega,by simp [maxLen],zr.nQ (base:=base) (e:=e) (size:=size) (hv ▸ h)⟩
 ·exact ⟨some ⟨g,0,none⟩,c,hv,h1,h2,zr.nQ (base:=base) (e:=e) (size:=size) (hv ▸ h)⟩
theorem zg (bs:List UInt8):∀ u∈bs.map B,u.oneCell'=true:=by
 intro u hu
 obtain ⟨b,_,rfl⟩:=List.mem_map.1 hu
 rfl
theorem Vp {P:Program} (w:World) (t e:TypeId) (a:Option Addr) (l c:Nat) (h:P.underlying t=some (.slice e)) :
  (binOp .eql t (.slice a l c) (.slice none 0 0)).run P w=.ok (.bool a.isNone) w:=by
 simp only [binOp]
 simp [run_equal_slice_nil w t e a l c h]
theorem zr.of_block {w:World} {b:Nat} {cs:Array Value} {t:TypeId} {fr:Nat×Nat} (h:w.heap[b]? = some (.cells cs t fr)):zr w (some ⟨b,0,none⟩) cs.toList:=by
 intro j u hu
 refine ⟨b,0,rfl,?_⟩
 have:=World.news_of_block h j u hu
 rw [add_eq] at this
 exact this
def str (bs:List UInt8):ByteArray:=⟨bs.toArray⟩
theorem zd2 {P:Program} (w:World) (src dst e:TypeId) (hs:P.underlying src=some (.slice e)) (he:P.underlying e=some (.int .u8)) (hd:P.underlying dst=some .string)
  (ao:Option Addr) (len cap:Nat) (bs:List UInt8) (hlen:bs.length=len) (hl:zr w ao (bs.map B)):(convert src dst (.slice ao len cap)).run P w=.ok (.string (str bs)) w:=by
 rw [run_convert_bytes_string w src dst e _ len cap hs he hd]
 cases ao with
 | none =>
  have:bs=[]:=by
   cases bs with
   | nil=>rfl
   | cons x xs=>obtain ⟨_,_,e,_⟩:=hl 0 (B x) rfl;cases e
  subst this
  rfl
 | some ad =>
  have h1:(loadCells ad len).run P w=.ok ((bs.map fun b=>(b.toNat:Int)).map (Value.int .u8)).toArray w:=by
   have:=run_loadCells_list (P:=P) w ad (bs.map B) hl.news
   rw [gq]
   rw [List.length_map,hlen] at this
   exact this
  rw [run_bytesToString w _ len cap _ h1,foldl_push_bytes]
  simp only [gq]
  have h2:(List.map ((fun n=>VW n.toNat)∘fun b:UInt8=>(b.toNat:Int)) bs)=bs:=by
   conv=>rhs;rw [← List.map_id bs]
   apply List.map_congr_left
   intro b _
   simp
  rw [h2]
  simp [str,ByteArray.empty,ByteArray.emptyWithCapacity]
  rfl
def yy (ao:Option Addr) (cap a:Nat):Option Addr:=if cap=a then ao else ao.map (·.add a)
theorem zr.cutA {w:World} {ao:Option Addr} {xs:List Value} {cap:Nat} (h:zr w ao xs) (hcap:xs.length≤cap) (a n:Nat) :
  zr w (yy ao cap a) ((xs.drop a).take n):=zr.cut h hcap a n
theorem zlu {P:Program} (w:World) (t e:TypeId) (ht:P.underlying t=some (.slice e)) (hs:∀ w:World,(sizeOf e).run P w=.ok 1 w) (ao:Option Addr) (len cap lo hi:Nat) (i j:Int) (hi':i=lo) (hj:j=hi) (h1:lo≤hi) (h2:hi≤cap) :
  (Instr.slice t (.slice ao len cap) (some (.int .i64 i)) (some (.int .i64 j)) none).run P w=.ok (.slice (yy ao cap lo) (hi - lo) (cap - lo)) w:=by
 subst hi';subst hj
 simp [Instr.slice,Instr.sliceBounds,Instr.sliceBound,run_underlying ht,hs,asIntOf,h1,h2,yy]
theorem ziy {P:Program} (e:TypeId) (i:TypeInfo) (n:Nat) (hi:P.info? e=some i) (hs:i.size=n) (w:World):(sizeOf e).run P w=.ok n w:=by
 simp [sizeOf,typeInfo,hi,hs]
theorem bytes_of_row {w:World} {a:Option Addr} {len cap:Nat} {zs:List Int}
  (h:(a=none∧len=0∧cap=0∧zs=[])∨∃ x,a=some x∧len≤cap∧cap≤maxLen∧zs.length=cap∧(∀ i,i < zs.length→w.cell? (x.add i)=some (.int .u8 (zs.getD i 0)))∧∀ n∈zs,(Lit.int .u8 n).wf=true) :
  ∃ bs:List UInt8,bs.length=len∧len≤cap∧cap≤maxLen∧zr w a (bs.map B):=by
 rcases h with ⟨rfl,rfl,rfl,rfl⟩ | ⟨x,rfl,hl,hm,hz,hc,hw⟩
 ·exact ⟨[],rfl,xc _,by simp [maxLen],zr.nil _ _⟩
 ·refine ⟨(zs.take len).map fun n=>VW n.toNat,by simp;omega,hl,hm,?_⟩
  intro j u hu
  rw [gq,uV] at hu
  cases hj:(zs.take len)[j]? with
  | none=>rw [hj] at hu;cases hu
  | some n =>
   rw [hj] at hu
   simp only [cB,Option.some.injEq] at hu
   have hj2:zs[j]? = some n:=by
    rw [fK] at hj
    split at hj
    ·exact hj
    ·cases hj
   have hlt:j < zs.length:=(List.getElem?_eq_some_iff.1 hj2).1
   have hcj:=hc j hlt
   have hn:zs.getD j 0=n:=by simp [bT,hj2]
   rw [hn] at hcj
   have hwn:=hw n (xU hj2)
   have hb:0≤n∧n≤255:=by simpa [Lit.wf,IntKind.min,IntKind.max,IntKind.signed,IntKind.bits] using hwn
   have hB:B (VW n.toNat)=.int .u8 n:=by
    show Value.int .u8 _=_
    rw [uY (by show _ < 256;omega)]
    congr 1;omega
   subst hu
   have hx0:x.spot=none:=by
    have hc0:=hc 0 (by omega)
    have e:x.add 0=x:=by simp [Addr.add]
    rw [e] at hc0
    cases hs:x.spot with
    | none=>rfl
    | some s =>
     exfalso
     revert hc0
     simp [World.cell?,hs]
     split <;> simp
   obtain ⟨b,off,sp⟩:=x
   simp only at hx0
   subst hx0
   refine ⟨b,off,rfl,?_⟩
   rw [add_eq] at hcj
   rw [hcj]
   exact congrArg some hB.symm
def KS (w:World) (e:TypeId) (size n:Nat) (xs:List Value) (mk:Value→Value):Ending→World→Prop :=
 fun en w'=>∃ v,en=.returned (mk v)∧w'.ownsRow w.heap.size e size v n xs∧Below w.heap.size w w'
end Go.Mem
namespace Go.Ops
def rE (a b:UInt8):UInt8:=a &&& b
def or8 (a b:UInt8):UInt8:=a ||| b
def ya (a b:UInt8):UInt8:=a ^^^ b
def rF (a:UInt8) (n:Nat):UInt8:=VW (a.toNat / 2 ^ n)
def Z6 (a:UInt8) (n:Nat):UInt8:=VW (a.toNat*2 ^ n)
theorem ofInt8 (a:UInt8):uE 8 (a.toNat:Int)=a.toBitVec:=by
 rw [dY]
 exact fw _ _ |>.trans (by simp)
theorem zfo (n:Nat) (h:n < 256):IntKind.u8.wrap (n:Int)=n:=by
 simp [IntKind.wrap,IntKind.bits,IntKind.signed];omega
theorem lt8 (a:UInt8):a.toNat < 256:=a.toNat_lt
@[go_sem high] theorem zgm (a b:UInt8):bits .and .u8 (a.toNat:Int) (b.toNat:Int)=((rE a b).toNat:Int):=by
 show IntKind.u8.wrap ((uE 8 (a.toNat:Int) &&& uE 8 (b.toNat:Int)).toNat:Int)=_
 rw [ofInt8,ofInt8,zfo _ (dm _)];rfl
@[go_sem high] theorem ziz (a b:UInt8):bits .or .u8 (a.toNat:Int) (b.toNat:Int)=((or8 a b).toNat:Int):=by
 show IntKind.u8.wrap ((uE 8 (a.toNat:Int) ||| uE 8 (b.toNat:Int)).toNat:Int)=_
 rw [ofInt8,ofInt8,zfo _ (dm _)];rfl
@[go_sem high] theorem zeZ (a b:UInt8):bits .xor .u8 (a.toNat:Int) (b.toNat:Int)=((ya a b).toNat:Int):=by
 show IntKind.u8.wrap ((uE 8 (a.toNat:Int) ^^^ uE 8 (b.toNat:Int)).toNat:Int)=_
 rw [ofInt8,ofInt8,zfo _ (dm _)];rfl
theorem zjA (n:Nat) (h:n < 256):(n:Int)=((VW n).toNat:Int):=by
 rw [uY h]
@[go_sem high] theorem zlq (a:UInt8) (n:Nat) (h:n < 256):bits .and .u8 (a.toNat:Int) (no_index (OfNat.ofNat n))=((rE a (VW n)).toNat:Int):=by
 rw [← zgm,← zjA n h];rfl
@[go_sem high] theorem zlv (a:UInt8) (n:Nat) (h:n < 256):bits .or .u8 (a.toNat:Int) (no_index (OfNat.ofNat n))=((or8 a (VW n)).toNat:Int):=by
 rw [← ziz,← zjA n h];rfl
@[go_sem] theorem zhY (a:UInt8) (n:Nat):(a.toNat:Int) / 2 ^ n=((rF a n).toNat:Int):=by
 have h:=lt8 a
 have hd:a.toNat / 2 ^ n < 256:=cK (dP _ _) h
 unfold rF
 rw [uY hd]
 simp
@[go_sem] theorem zhZ (a:UInt8) (n:Nat):(a.toNat:Int)*2 ^ n % 256=((Z6 a n).toNat:Int):=by
 unfold Z6
 rw [dx]
 simp
theorem Xg {p:UInt8→Prop} (h:∀ n,n < 256→p (VW n)) (b:UInt8):p b:=by
 have:=h b.toNat b.toNat_lt
 rwa [UInt8.ofNat_toNat] at this
end Go.Ops
namespace Go.Ops
abbrev W (x:UInt32):Value:=.int .u32 (x.toNat:Int)
abbrev L (x:UInt64):Value:=.int .u64 (x.toNat:Int)
def QB (a b:UInt8):UInt8:=a*b
theorem XR (n:Int):IntKind.u8.wrap n=n % 256:=by
 simp [IntKind.wrap,IntKind.bits,IntKind.signed]
theorem VX (a b:UInt8):IntKind.u8.wrap ((a.toNat:Int)*(b.toNat:Int))=((QB a b).toNat:Int):=by
 rw [XR];unfold QB;rw [UInt8.toNat_mul];simp
@[go_sem high] theorem zls (a:UInt8) (n:Nat) (h:n < 256):IntKind.u8.wrap ((a.toNat:Int)*(no_index (OfNat.ofNat n)))=((QB a (VW n)).toNat:Int):=by
 rw [← VX,← zjA n h];rfl
@[go_sem high] theorem zeH (a b:UInt8):IntKind.u8.wrap ((a.toNat:Int)*(b.toNat:Int))=((QB a b).toNat:Int):=VX a b
theorem zfp (a:UInt8) (n:Nat):(a.toNat:Int) / 2 ^ n=((rF a n).toNat:Int):=by
 have h:=lt8 a
 have hd:a.toNat / 2 ^ n < 256:=cK (dP _ _) h
 unfold rF
 rw [uY hd]
 simp
theorem zfq (a:UInt8) (n:Nat):IntKind.u8.wrap ((a.toNat:Int)*2 ^ n)=((Z6 a n).toNat:Int):=by
 rw [XR];unfold Z6
 rw [dx]
 simp
@[go_sem high] theorem zi0 (a:UInt8) (yk:IntKind) (n:Nat) (h:n≤8):Op.shift .shr .u8 (a.toNat:Int) yk (no_index (OfNat.ofNat n))=pure (.int .u8 ((rF a n).toNat:Int)):=by
 rw [← zfp]
 exact shift_shr .u8 yk _ (n:Int) (by omega) (by simp [IntKind.bits];omega)
@[go_sem high] theorem zi1 (a:UInt8) (yk:IntKind) (n:Nat) (h:n≤8):Op.shift .shl .u8 (a.toNat:Int) yk (no_index (OfNat.ofNat n))=pure (.int .u8 ((Z6 a n).toNat:Int)):=by
 rw [← zfq]
 exact shift_shl .u8 yk _ (n:Int) (by omega) (by simp [IntKind.bits];omega)
@[go_sem high] theorem zfk (a:UInt8) (n:Nat):IntKind.u8.wrap ((a.toNat:Int)*2 ^ n)=((Z6 a n).toNat:Int):=zfq a n
@[go_sem high] theorem zeI (a:UInt8):IntKind.u8.wrap (a.toNat:Int)=(a.toNat:Int):=zfo _ (lt8 a)
def ziA (a b:UInt32):UInt32:=a ||| b
def y6 (a b:UInt32):UInt32:=a ^^^ b
def Y5 (a:UInt32) (n:Nat):UInt32:=bQ (a.toNat / 2 ^ n)
def Q3 (a:UInt32) (n:Nat):UInt32:=bQ (a.toNat*2 ^ n)
theorem ofInt32 (a:UInt32):uE 32 (a.toNat:Int)=a.toBitVec:=by
 rw [dY]
 exact fw _ _ |>.trans (by simp)
theorem wrap32 (n:Nat) (h:n < 4294967296):IntKind.u32.wrap (n:Int)=n:=by
 simp [IntKind.wrap,IntKind.bits,IntKind.signed];omega
theorem lt32 (a:UInt32):a.toNat < 4294967296:=a.toNat_lt
@[go_sem high] theorem zfl (a b:UInt32):bits .or .u32 (a.toNat:Int) (b.toNat:Int)=((ziA a b).toNat:Int):=by
 show IntKind.u32.wrap ((uE 32 (a.toNat:Int) ||| uE 32 (b.toNat:Int)).toNat:Int)=_
 rw [ofInt32,ofInt32,wrap32 _ (dm _)];rfl
@[go_sem high] theorem zeJ (a b:UInt32):bits .xor .u32 (a.toNat:Int) (b.toNat:Int)=((y6 a b).toNat:Int):=by
 show IntKind.u32.wrap ((uE 32 (a.toNat:Int) ^^^ uE 32 (b.toNat:Int)).toNat:Int)=_
 rw [ofInt32,ofInt32,wrap32 _ (dm _)];rfl
def jI (a b:UInt32):UInt32:=a+b
theorem QC (n:Int):IntKind.u32.wrap n=n % 4294967296:=by
 simp [IntKind.wrap,IntKind.bits,IntKind.signed]
theorem zd4 (a b:UInt32):IntKind.u32.wrap ((a.toNat:Int)+(b.toNat:Int))=((jI a b).toNat:Int):=by
 rw [QC];unfold jI;rw [UInt32.toNat_add];simp
@[go_sem high] theorem znh (a b:UInt32):IntKind.u32.wrap ((a.toNat:Int)+(b.toNat:Int))=((jI a b).toNat:Int):=zd4 a b
theorem za7 (a:UInt32) (n:Nat):(a.toNat:Int) / 2 ^ n=((Y5 a n).toNat:Int):=by
 have h:=lt32 a
 have hd:a.toNat / 2 ^ n < 4294967296:=cK (dP _ _) h
 unfold Y5
 rw [uy hd]
 simp
theorem za8 (a:UInt32) (n:Nat):IntKind.u32.wrap ((a.toNat:Int)*2 ^ n)=((Q3 a n).toNat:Int):=by
 rw [QC];unfold Q3
 rw [gQ]
 simp
@[go_sem high] theorem zir (a:UInt32) (yk:IntKind) (n:Nat) (h:n≤32):Op.shift .shr .u32 (a.toNat:Int) yk (no_index (OfNat.ofNat n))=pure (.int .u32 ((Y5 a n).toNat:Int)):=by
 rw [← za7]
 exact shift_shr .u32 yk _ (n:Int) (by omega) (by simp [IntKind.bits];omega)
@[go_sem high] theorem zis (a:UInt32) (yk:IntKind) (n:Nat) (h:n≤32):Op.shift .shl .u32 (a.toNat:Int) yk (no_index (OfNat.ofNat n))=pure (.int .u32 ((Q3 a n).toNat:Int)):=by
 rw [← za8]
 exact shift_shl .u32 yk _ (n:Int) (by omega) (by simp [IntKind.bits];omega)
@[go_sem high] theorem zeK (a:UInt32) (n:Nat):IntKind.u32.wrap ((a.toNat:Int)*2 ^ n)=((Q3 a n).toNat:Int):=za8 a n
@[go_sem] theorem zfm (a:UInt32) (n:Nat):(a.toNat:Int) / 2 ^ n=((Y5 a n).toNat:Int):=za7 a n
def xk (a b:UInt64):UInt64:=a &&& b
def wi (a b:UInt64):UInt64:=a ||| b
def qf (a b:UInt64):UInt64:=a ^^^ b
def yp (a:UInt64) (n:Nat):UInt64:=wF (a.toNat / 2 ^ n)
def xf (a:UInt64) (n:Nat):UInt64:=wF (a.toNat*2 ^ n)
theorem ofInt64 (a:UInt64):uE 64 (a.toNat:Int)=a.toBitVec:=by
 rw [dY]
 exact fw _ _ |>.trans (by simp)
theorem wrap64 (n:Nat) (h:n < 18446744073709551616):IntKind.u64.wrap (n:Int)=n:=by
 simp [IntKind.wrap,IntKind.bits,IntKind.signed];omega
theorem zjB (a:UInt64):a.toNat < 18446744073709551616:=a.toNat_lt
theorem KT (n:Nat) (h:n < 18446744073709551616):(n:Int)=((wF n).toNat:Int):=by
 rw [uM h]
@[go_sem high] theorem zd5 (a b:UInt64):bits .and .u64 (a.toNat:Int) (b.toNat:Int)=((xk a b).toNat:Int):=by
 show IntKind.u64.wrap ((uE 64 (a.toNat:Int) &&& uE 64 (b.toNat:Int)).toNat:Int)=_
 rw [ofInt64,ofInt64,wrap64 _ (dm _)];rfl
@[go_sem high] theorem zi2 (a:UInt64) (n:Nat) (h:n < 18446744073709551616):bits .and .u64 (a.toNat:Int) (no_index (OfNat.ofNat n))=((xk a (wF n)).toNat:Int):=by
 rw [← zd5,← KT n h];rfl
@[go_sem high] theorem zgo (a b:UInt64):bits .or .u64 (a.toNat:Int) (b.toNat:Int)=((wi a b).toNat:Int):=by
 show IntKind.u64.wrap ((uE 64 (a.toNat:Int) ||| uE 64 (b.toNat:Int)).toNat:Int)=_
 rw [ofInt64,ofInt64,wrap64 _ (dm _)];rfl
@[go_sem high] theorem zlt (a:UInt64) (n:Nat) (h:n < 18446744073709551616):bits .or .u64 (a.toNat:Int) (no_index (OfNat.ofNat n))=((wi a (wF n)).toNat:Int):=by
 rw [← zgo,← KT n h];rfl
@[go_sem high] theorem zd6 (a b:UInt64):bits .xor .u64 (a.toNat:Int) (b.toNat:Int)=((qf a b).toNat:Int):=by
 show IntKind.u64.wrap ((uE 64 (a.toNat:Int) ^^^ uE 64 (b.toNat:Int)).toNat:Int)=_
 rw [ofInt64,ofInt64,wrap64 _ (dm _)];rfl
@[go_sem high] theorem zit (a:UInt64) (n:Nat) (h:n < 18446744073709551616):bits .xor .u64 (no_index (OfNat.ofNat n)) (a.toNat:Int)=((qf (wF n) a).toNat:Int):=by
 rw [← zd6,← KT n h];rfl
def za9 (a:UInt64):UInt64 := ~~~a
def zy (a b:UInt64):UInt64:=a+b
def wk (a b:UInt64):UInt64:=a - b
def xP (a b:UInt64):UInt64:=a*b
theorem Ze (n:Int):IntKind.u64.wrap n=n % 18446744073709551616:=by
 simp [IntKind.wrap,IntKind.bits,IntKind.signed]
theorem KU (a b:UInt64):IntKind.u64.wrap ((a.toNat:Int)+(b.toNat:Int))=((zy a b).toNat:Int):=by
 rw [Ze];unfold zy;rw [UInt64.toNat_add];simp
theorem zd7 (a b:UInt64):IntKind.u64.wrap ((a.toNat:Int) - (b.toNat:Int))=((wk a b).toNat:Int):=by
 rw [Ze];unfold wk;rw [UInt64.toNat_sub]
 have:=zjB a;have:=zjB b
 omega
theorem Xj (a b:UInt64):IntKind.u64.wrap ((a.toNat:Int)*(b.toNat:Int))=((xP a b).toNat:Int):=by
 rw [Ze];unfold xP;rw [UInt64.toNat_mul];simp
@[go_sem high] theorem zi3 (a:UInt64) (n:Nat) (h:n < 18446744073709551616):IntKind.u64.wrap ((a.toNat:Int)+(no_index (OfNat.ofNat n)))=((zy a (wF n)).toNat:Int):=by
 rw [← KU,← KT n h];rfl
@[go_sem high] theorem zni (a b:UInt64):IntKind.u64.wrap ((a.toNat:Int)+(b.toNat:Int))=((zy a b).toNat:Int):=KU a b
@[go_sem high] theorem zi4 (a:UInt64) (n:Nat) (h:n < 18446744073709551616):IntKind.u64.wrap ((a.toNat:Int) - (no_index (OfNat.ofNat n)))=((wk a (wF n)).toNat:Int):=by
 rw [← zd7,← KT n h];rfl
@[go_sem high] theorem zi5 (a:UInt64) (n:Nat) (h:n < 18446744073709551616):IntKind.u64.wrap ((a.toNat:Int)*(no_index (OfNat.ofNat n)))=((xP a (wF n)).toNat:Int):=by
 rw [← Xj,← KT n h];rfl
@[go_sem high] theorem ziu (a:UInt64) (n:Nat) (h:n < 18446744073709551616):IntKind.u64.wrap ((no_index (OfNat.ofNat n))*(a.toNat:Int))=((xP (wF n) a).toNat:Int):=by
 rw [← Xj,← KT n h];rfl
@[go_sem high] theorem znj (a b:UInt64):IntKind.u64.wrap ((a.toNat:Int)*(b.toNat:Int))=((xP a b).toNat:Int):=Xj a b
theorem KV (a:UInt64) (n:Nat):(a.toNat:Int) / 2 ^ n=((yp a n).toNat:Int):=by
 have h:=zjB a
 have hd:a.toNat / 2 ^ n < 18446744073709551616:=cK (dP _ _) h
 unfold yp
 rw [uM hd]
 simp
theorem zba (a:UInt64) (n:Nat):IntKind.u64.wrap ((a.toNat:Int)*2 ^ n)=((xf a n).toNat:Int):=by
 rw [Ze];unfold xf
 rw [bJ]
 simp
@[go_sem high] theorem ziv (a:UInt64) (yk:IntKind) (n:Nat) (h:n≤64):Op.shift .shr .u64 (a.toNat:Int) yk (no_index (OfNat.ofNat n))=pure (.int .u64 ((yp a n).toNat:Int)):=by
 rw [← KV]
 exact shift_shr .u64 yk _ (n:Int) (by omega) (by simp [IntKind.bits];omega)
@[go_sem high] theorem ziw (a:UInt64) (yk:IntKind) (n:Nat) (h:n≤64):Op.shift .shl .u64 (a.toNat:Int) yk (no_index (OfNat.ofNat n))=pure (.int .u64 ((xf a n).toNat:Int)):=by
 rw [← zba]
 exact shift_shl .u64 yk _ (n:Int) (by omega) (by simp [IntKind.bits];omega)
@[go_sem high] theorem zeL (a:UInt64) (n:Nat):IntKind.u64.wrap ((a.toNat:Int)*2 ^ n)=((xf a n).toNat:Int):=zba a n
@[go_sem] theorem zfA (a:UInt64) (n:Nat):(a.toNat:Int) / 2 ^ n=((yp a n).toNat:Int):=KV a n
def KW (x:UInt8):UInt32:=bQ x.toNat
@[go_sem high] theorem znk (x:UInt8):IntKind.u32.wrap (x.toNat:Int)=((KW x).toNat:Int):=by
 have:=lt8 x
 rw [wrap32 _ (by omega)];unfold KW;rw [uy (by show _ < 4294967296;omega)]
def Xk (x:UInt32):UInt8:=VW x.toNat
@[go_sem high] theorem znl (x:UInt32):IntKind.u8.wrap (x.toNat:Int)=((Xk x).toNat:Int):=by
 rw [XR];unfold Xk;rw [dx];simp
def Xl (x:UInt8):UInt64:=wF x.toNat
@[go_sem high] theorem znm (x:UInt8):IntKind.u64.wrap (x.toNat:Int)=((Xl x).toNat:Int):=by
 have:=lt8 x
 rw [wrap64 _ (by omega)];unfold Xl;rw [uM (by show _ < 18446744073709551616;omega)]
def Xm (x:UInt64):UInt8:=VW x.toNat
@[go_sem high] theorem znn (x:UInt64):IntKind.u8.wrap (x.toNat:Int)=((Xm x).toNat:Int):=by
 rw [XR];unfold Xm;rw [dx];simp
def yI (x:UInt32):UInt64:=wF x.toNat
@[go_sem high] theorem zlw (x:UInt32):IntKind.u64.wrap (x.toNat:Int)=((yI x).toNat:Int):=by
 have:=lt32 x
 rw [wrap64 _ (by omega)];unfold yI;rw [uM (by show _ < 18446744073709551616;omega)]
def yX (x:UInt64):UInt32:=bQ x.toNat
@[go_sem high] theorem zlx (x:UInt64):IntKind.u32.wrap (x.toNat:Int)=((yX x).toNat:Int):=by
 rw [QC];unfold yX;rw [gQ];simp
theorem zbb (n:Nat):IntKind.u64.wrap (n:Int)=((wF n).toNat:Int):=by
 rw [Ze,bJ];simp
end Go.Ops
namespace Go.Cells
open RowKit Mem Ops
def Blk (w:World) (b:Nat) (vs:List Value) (ty:TypeId):Prop:=w.heap[b]? = some (.cells vs.toArray ty (0,0))
theorem Blk.lt {w:World} {b:Nat} {vs:List Value} {ty:TypeId} (h:Blk w b vs ty):b < w.heap.size:=by
 unfold Blk at h
 exact (uJ.1 h).1
theorem Blk.cell {w:World} {b:Nat} {vs:List Value} {ty:TypeId} (h:Blk w b vs ty) (i:Nat) (u:Value) (hu:vs[i]? = some u):w.cell? ⟨b,i,none⟩=some u:=by
 unfold Blk at h
 simp [World.cell?,h,hu]
theorem Blk.free {w:World} {b:Nat} {vs:List Value} {ty:TypeId} (h:Blk w b vs ty) (i:Nat):w.frozen? ⟨b,i,none⟩=false:=by
 unfold Blk at h
 simp [World.frozen?,h]
theorem Blk.set {w:World} {b:Nat} {vs:List Value} {ty:TypeId} (h:Blk w b vs ty) (i:Nat) (v:Value):Blk (w.setCell ⟨b,i,none⟩ v) b (vs.set i v) ty:=by
 unfold Blk at *
 have hlt:=(uJ.1 h).1
 have he:=(uJ.1 h).2
 simp only [World.setCell,gI,h]
 simp
theorem Blk.setOther {w:World} {b:Nat} {vs:List Value} {ty:TypeId} (h:Blk w b vs ty) {a:Addr} (hne:a.block≠b) (v:Value):Blk (w.setCell a v) b vs ty:=by
 unfold Blk at *
 simp only [World.setCell,gI,h]
 simp [hne]
theorem Blk.new (w:World) (vs:List Value) (ty:TypeId):Blk (w.alloc (.cells vs.toArray ty)) w.heap.size vs ty:=heap_alloc_new w _
theorem Blk.alloc {w:World} {b:Nat} {vs:List Value} {ty:TypeId} (h:Blk w b vs ty) (o:Obj):Blk (w.alloc o) b vs ty:=(heap_alloc_old w _ h.lt).trans h
theorem Blk.drew {w:World} {b:Nat} {vs:List Value} {ty:TypeId} (h:Blk w b vs ty):Blk w.drew b vs ty:=h
theorem Blk.below {w w':World} {b B:Nat} {vs:List Value} {ty:TypeId} (h:Blk w b vs ty) (hb:Below B w w') (h2:b < B):Blk w' b vs ty:=(hb.block b h2).trans h
theorem Blk.lies {w:World} {b:Nat} {vs:List Value} {ty:TypeId} (h:Blk w b vs ty):zr w (some ⟨b,0,none⟩) vs:=by
 have:=zr.of_block h
 simpa using this
theorem Blk.range {w:World} {b:Nat} {vs:List Value} {ty:TypeId} (h:Blk w b vs ty):w.rangeAt b 0 vs:=by
 intro j v hv
 rw [bH]
 exact h.cell j v hv
theorem zU {l:List UInt8} {i:Nat} {x:UInt8} (h:l[i]? = some x):(l.map B)[i]? = some (B x):=by simp [h]
theorem kz {l:List UInt32} {i:Nat} {x:UInt32} (h:l[i]? = some x):(l.map W)[i]? = some (W x):=by simp [h]
theorem yz {l:List UInt64} {i:Nat} {x:UInt64} (h:l[i]? = some x):(l.map L)[i]? = some (L x):=by simp [h]
theorem ym (l:List UInt8) (i:Nat) (x:UInt8):(l.map B).set i (B x)=(l.set i x).map B:=by rw [gu]
theorem xI (l:List UInt32) (i:Nat) (x:UInt32):(l.map W).set i (W x)=(l.set i x).map W:=by rw [gu]
theorem y7 (l:List UInt64) (i:Nat) (x:UInt64):(l.map L).set i (L x)=(l.set i x).map L:=by rw [gu]
def Row (P:Program) (ty:TypeId) (n:Nat):Prop:=(P.underlying ty).map (·.isRow)=some true∧(P.info? ty).map (·.size)=some n
theorem Row.open {P:Program} {ty:TypeId} {n:Nat} (h:Row P ty n):∃ d,P.underlying ty=some d∧d.isRow=true∧(P.info? ty).map (·.size)=some n:=by
 obtain ⟨h1,h2⟩:=h
 cases hd:P.underlying ty with
 | none=>rw [hd] at h1;cases h1
 | some d=>rw [hd] at h1;exact ⟨d,rfl,by simpa using h1,h2⟩
structure Only (b:Nat) (w w':World):Prop where
 os:w'.os=w.os
 tape:w'.tape=w.tape
 output:w'.output=w.output
 size:w'.heap.size=w.heap.size
 block:∀ k,k≠b→w'.heap[k]? = w.heap[k]?
theorem Only.refl (b:Nat) (w:World):Only b w w:=⟨rfl,rfl,rfl,rfl,fun _ _=>rfl⟩
theorem Only.trans {b:Nat} {u v w:World} (h:Only b u v) (k:Only b v w):Only b u w :=
 ⟨k.os.trans h.os,k.tape.trans h.tape,k.output.trans h.output,k.size.trans h.size,fun i hi=>(k.block i hi).trans (h.block i hi)⟩
theorem Only.setCell (w:World) (a:Addr) (v:Value):Only a.block w (w.setCell a v) :=
 ⟨rfl,rfl,rfl,by simp [World.setCell],fun k hk=>heap_setCell_other w a k v hk⟩
theorem Only.setCells (b:Nat):∀ (vs:List Value) (o:Nat) (w:World),Only b w (w.setCells b o vs)
 | [],_,w=>Only.refl b w
 | v::r,o,w=>(Only.setCell w ⟨b,o,none⟩ v).trans (Only.setCells b r (o+1) _)
theorem Blk.only {w w':World} {b c:Nat} {vs:List Value} {ty:TypeId} (h:Blk w c vs ty) (ho:Only b w w') (hne:c≠b):Blk w' c vs ty:=(ho.block c hne).trans h
theorem zk {B b:Nat} {u w w':World} (h:Below B u w) (ho:Only b w w') (hb:B≤b):Below B u w' :=
 ⟨ho.os.trans h.os,ho.tape.trans h.tape,ho.output.trans h.output,by rw [ho.size];exact h.size,fun k hk=>(ho.block k (by omega)).trans (h.block k hk)⟩
theorem Blk.setCells {b:Nat} {ty:TypeId}:∀ (cs vs:List Value) (o:Nat) (w:World),o+cs.length≤vs.length→Blk w b vs ty→Blk (w.setCells b o cs) b (vs.take o++cs++vs.drop (o+cs.length)) ty
 | [],vs,o,w,_,h=>by simpa [World.setCells] using h
 | v::r,vs,o,w,hl,h=>by
  rw [uh] at hl
  have:=Blk.setCells r (vs.set o v) (o+1) _ (by rw [Vo];omega) (h.set o v)
  have e:(vs.set o v).take (o+1)++r++(vs.set o v).drop (o+1+r.length)=vs.take o++(v::r)++vs.drop (o+(v::r).length):=by
   rw [List.drop_set_of_lt (by omega),uh,show o+1+r.length=o+(r.length+1) by omega]
   congr 1
   rw [List.take_add_one,List.take_set_of_le (by omega)]
   simp [show o < vs.length by omega]
  rw [e] at this
  exact this
theorem Blk.zcW {w:World} {b:Nat} {vs cs:List Value} {ty:TypeId} (h:Blk w b vs ty) (hl:cs.length=vs.length):Blk (w.setCells b 0 cs) b cs ty:=by
 have:=Blk.setCells cs vs 0 w (by omega) h
 rw [bH,Yx (by omega)] at this
 simpa using this
theorem Blk.there {w:World} {b:Nat} {vs:List Value} {ty:TypeId} (h:Blk w b vs ty) (o n:Nat) (hn:o+n≤vs.length):w.there b o n:=by
 intro j hj
 have hu:vs[o+j]? = some (vs[o+j]'(by omega)):=by simp
 exact ⟨by rw [h.cell _ _ hu];rfl,h.free _⟩
theorem Blk.mP {P:Program} {w:World} {b n:Nat} {vs:List Value} {ty':TypeId} (h:Blk w b vs ty') {ops:Array Oper} {rest:List Oper} {op:Oper} {a:Act} {Q:Exit→Act→World→Prop} {ty:TypeId} {x:Operand}
  (hgd:op.guard=none) (ho:op.op=.load ty x) (hx:a.eval x=.pointer (some ⟨b,0,none⟩)) (hr:Row P ty n) (hn:vs.length=n)
  (k:wpList P ops Q rest (a.put op.dst (.agg vs.toArray)) w):wpList P ops Q (op::rest) a w:=by
 obtain ⟨d,hu,hd,hi⟩:=hr.open
 exact wpList_load_mid hgd ty x ho b 0 hx vs d h.range hu hd (by rw [hi,hn]) k
theorem Blk.mM {P:Program} {w:World} {b n:Nat} {vs:List Value} {ty':TypeId} (h:Blk w b vs ty') {ops:Array Oper} {rest:List Oper} {op:Oper} {a:Act} {Q:Exit→Act→World→Prop} {ty:TypeId} {x y:Operand} {cs:List Value}
  (hgd:op.guard=none) (ho:op.op=.store ty x y) (hx:a.eval x=.pointer (some ⟨b,0,none⟩)) (hy:a.eval y=.agg cs.toArray) (hr:Row P ty n) (hn:vs.length=n) (hc:cs.length=n)
  (h1:∀ v∈cs,v.oneCell'=true)
  (k:∀ w',Blk w' b cs ty'→Only b w w'→wpList P ops Q rest (a.put op.dst undef) w'):wpList P ops Q (op::rest) a w:=by
 obtain ⟨d,hu,hd,hi⟩:=hr.open
 refine wpList_store_mid hgd ty x y ho b 0 cs.toArray hx hy (h.there 0 _ (by rw [dH];omega)) (by rw [hi];simp [hc]) (all_oneCell_toArray h1) ?_
 exact k (w.setCells b 0 cs) (h.zcW (by omega)) (Only.setCells b cs 0 w)
theorem Blk.za6 {P:Program} {w:World} {g:Nat} {cur:List Value} {t:TypeId} (h:Blk w g cur t) {ops:Array Oper} {rest:List Oper} {o:Oper} {a:Act} {Q:Exit→Act→World→Prop} {d s:Operand} {dT sT elem:TypeId}
  {dp sp:Option Addr} {dLen dCap sLen sCap:Nat} (off:Nat) (cs:List Value)
  (hgd:o.guard=none) (ho:o.op=.call { callee:=.builtin .copy,args:=#[d,s],argTypes:=#[dT,sT] }) (hd:a.eval d=.slice dp dLen dCap) (hs:a.eval s=.slice sp sLen sCap)
  (hu:P.underlying dT=some (.slice elem)) (hsz:(P.info? elem).map (·.size)=some 1)
  (hdp:0 < cs.length→dp=some ⟨g,off,none⟩) (hsrc:zr w sp cs) (hn:cs.length=Nat.min sLen dLen) (hfit:off+cs.length≤cur.length) (h1:∀ v∈cs,v.oneCell'=true)
  (k:∀ w',Blk w' g (splice cur off cs) t→Only g w w'→wpList P ops Q rest (a.put o.dst (goInt cs.length)) w'):wpList P ops Q (o::rest) a w:=by
 by_cases h0:cs.length=0
 ·obtain rfl:cs=[]:=uG h0
  refine wpList_copy_nothing hgd d s dT sT ho elem hu hsz dp sp dLen dCap sLen sCap hd hs (by simpa using hn.symm) ?_
  exact k w (by simpa [splice] using h) (Only.refl _ _)
 ·obtain rfl:=hdp (by omega)
  obtain ⟨b,off',rfl,_,hc⟩:=hsrc.at (by intro e;simp [e] at h0)
  refine wpList_plain hgd fun K hK=>?_
  have hrun:=run_copy_cells (P:=P) w dT sT o.type elem g off dLen dCap ⟨b,off',none⟩ sLen sCap cs hu hsz hn (fun j v hv=>by rw [add_eq];exact hc j v hv)
   (fun j hj=>((h.there off cs.length hfit) j hj).1) (fun j hj=>h.free _) h1
  unfold Oper.wp
  simp [execOp,ho,resolve,invoke,builtin,hd,hs,hrun,Result.andThen]
  refine hK _ _ (k _ ?_ (Only.setCells g cs off w))
  have:=Blk.setCells cs cur off w hfit h
  rwa [QA] at this
theorem zD (w:World) (o:Obj):Below w.heap.size w (w.alloc o):=(Below.refl _ _).alloc (xc _) _
theorem ze {P:Program} {w:World} {ops:Array Oper} {rest:List Oper} {o:Oper} {a:Act} {Q:Exit→Act→World→Prop} (t:TypeId) (vs:List Value) (z:Value)
  (hgd:o.guard=none) (ho:o.op=.alloc t) (hz:(P.info? t).map (·.zero)=some (some z)) (hv:z.cells=vs.toArray)
  (k:∀ w',Blk w' w.heap.size vs t→Below w.heap.size w w'→wpList P ops Q rest (a.put o.dst (.pointer (some ⟨w.heap.size,0,none⟩))) w'):wpList P ops Q (o::rest) a w:=by
 refine wpList_plain hgd fun K hK=>?_
 have hk:=k (w.alloc (.cells vs.toArray t)) (Blk.new w vs t) (zD w _)
 cases hq:P.info? t with
 | none=>rw [hq] at hz;cases hz
 | some x =>
  rw [hq] at hz
  have hx:x.zero=some z:=by simpa using hz
  unfold Oper.wp
  simp [execOp,ho,Instr.alloc,zeroValue,typeInfo,hq,hx,newVar,newRow,hv]
  exact hK _ _ hk
theorem zh {P:Program} {w:World} {ops:Array Oper} {rest:List Oper} {o:Oper} {a:Act} {Q:Exit→Act→World→Prop} (t:TypeId) (x:Operand) (vs:List Value) (v:Value)
  (hgd:o.guard=none) (ho:o.op=.box t x) (hx:a.eval x=v) (hv:v.cells=vs.toArray)
  (k:∀ w',Blk w' w.heap.size vs t→Below w.heap.size w w'→wpList P ops Q rest (a.put o.dst (.pointer (some ⟨w.heap.size,0,none⟩))) w'):wpList P ops Q (o::rest) a w:=by
 refine wpList_plain hgd fun K hK=>?_
 have hk:=k (w.alloc (.cells vs.toArray t)) (Blk.new w vs t) (zD w _)
 unfold Oper.wp
 simp [execOp,ho,Instr.box,hx,newVar,newRow,hv]
 exact hK _ _ hk
theorem KX {w:World} {base:Nat} {e:TypeId} {g n:Nat} {xs:List Value} (h:w.ownsRow base e 1 (.slice (some ⟨g,0,none⟩) n n) n xs):Blk w g xs e∧base≤g:=by
 rcases h.2 with ⟨hv,_⟩ | ⟨g',c,cur,hv,hb,hg,h1,h2,h3,ht⟩
 ·cases hv
 ·cases hv
  refine ⟨?_,hb⟩
  have hl:=h.1
  have:cur.toList=xs:=by
   rw [← ht,Y2 (by simp at h3 ⊢;omega)]
  unfold Blk
  rw [hg,← this]
theorem KY {w:World} {base:Nat} {e:TypeId} {g n:Nat} {xs:List Value} (h:Blk w g xs e) (hb:base≤g) (hn:xs.length=n) (hm:n≤maxLen):w.ownsRow base e 1 (.slice (some ⟨g,0,none⟩) n n) n xs:=by
 refine ⟨by rw [hn,dN],.inr ⟨g,n,xs.toArray,rfl,hb,h,xc _,hm,by simp [hn],?_⟩⟩
 show xs.take (n*1)=xs
 rw [Y2 (by omega)]
theorem jJ {P:Program} {w:World} {ops:Array Oper} {rest:List Oper} {o:Oper} {a:Act} {Q:Exit→Act→World→Prop} (t e:TypeId) (z:Value) (by':Nat) (n:Nat) {l c:Operand} {kl kc:IntKind} {L C:Int}
  (hg:o.guard=none) (hop:o.op=Op.makeSlice t l c) (hl:a.eval l=.int kl L) (hc:a.eval c=.int kc C) (h1:P.underlying t=some (.slice e)) (hi:(P.info? e).map (fun i=>(i.zero,i.size,i.bytes))=some (some z,1,by')) (hz:z.cells=#[z])
  (hL:L=(n:Int)) (hC:C=(n:Int)) (b2:by'*n≤281474976710656) (b3:n≤maxLen)
  (k:∀ w',Blk w' w.heap.size (wh n z) e→Below w.heap.size w w'→wpList P ops Q rest (a.put o.dst (.slice (some ⟨w.heap.size,0,none⟩) n n)) w'):wpList P ops Q (o::rest) a w:=by
 obtain ⟨i0,hi0,hz0,hz1,hz2⟩:=info_parts hi
 refine wpList_make_full w hg l c t hop w.heap.size e i0 z 1 h1 hi0 hz0 hz1 kl kc L C n hl hc hL hC (by rw [hz2];exact b2) b3 (xc _) (fun w' hown hgrow=>?_)
 have hb:=(KX hown).1
 have e1:(madeCells z.cells (n*1)).toList=wh n z:=by
  rw [hz,dN,toList_madeCells_one]
 rw [e1] at hb
 exact k w' hb ((Below.refl w.heap.size w).grown hgrow (xc _) (fun k h=>by cases h))
structure St (w0:World) (base:Nat) (w:World) (L:List (Nat×List Value×TypeId)):Prop where
 nW:base≤w0.heap.size
 bel:Below base w0 w
 all:∀ e∈L,Blk w e.1 e.2.1 e.2.2
theorem St.start (w:World):St w w.heap.size w []:=⟨xc _,Below.refl _ _,fun _ h=>by cases h⟩
theorem St.get {w0 w:World} {base:Nat} {L:List (Nat×List Value×TypeId)} (h:St w0 base w L) (i:Nat) {b:Nat} {vs:List Value} {ty:TypeId} (hi:L[i]? = some (b,vs,ty)):Blk w b vs ty:=h.all _ (xU hi)
theorem St.later {w0 w w':World} {base:Nat} {L:List (Nat×List Value×TypeId)} (h:St w0 base w L) (hl:Below w.heap.size w w'):St w0 base w' L :=
 ⟨h.nW,h.bel.trans (hl.mono (uj h.nW h.bel.size)),fun e he=>(h.all e he).below hl (h.all e he).lt⟩
theorem St.drew {w0 w:World} {base:Nat} {L:List (Nat×List Value×TypeId)} (h:St w0 base w L):St w0 base w.drew L:=⟨h.nW,h.bel.drew,fun e he=>(h.all e he).drew⟩
theorem St.add {w0 w:World} {base:Nat} {L:List (Nat×List Value×TypeId)} (h:St w0 base w L) {b:Nat} {vs:List Value} {ty:TypeId} (hb:Blk w b vs ty):St w0 base w ((b,vs,ty)::L) :=
 ⟨h.nW,h.bel,fun e he=>by
  rcases List.mem_cons.1 he with rfl | he
  ·exact hb
  ·exact h.all e he⟩
theorem St.push {w0 w w':World} {base:Nat} {L:List (Nat×List Value×TypeId)} (h:St w0 base w L) {b:Nat} {vs:List Value} {ty:TypeId} (hb:Blk w' b vs ty) (hl:Below w.heap.size w w'):St w0 base w' ((b,vs,ty)::L):=(h.later hl).add hb
theorem kA {α:Type}:∀ (L:List α) (i j:Nat) (e:α),j≠i→L[j]? = some e→e∈L.eraseIdx i
 | [],_,_,_,_,h=>by simp at h
 | x::r,0,0,_,hne,_=>absurd rfl hne
 | x::r,0,j+1,e,_,h=>by rw [dC] at h;exact xU h
 | x::r,i+1,0,e,_,h=>by simp at h;subst h;simp [List.eraseIdx]
 | x::r,i+1,j+1,e,hne,h=>by
  rw [dC] at h
  exact List.mem_cons_of_mem _ (kA r i j e (fun h=>hne (congrArg (·+1) h)) h)
theorem St.change {w0 w w':World} {base:Nat} {L:List (Nat×List Value×TypeId)} (h:St w0 base w L) (i:Nat) {b:Nat} {us:List Value} {ty:TypeId} (hb:Blk w' b us ty) (ho:Only b w w')
  (hbase:base≤b) (hne:∀ e∈L.eraseIdx i,e.1≠b):St w0 base w' (L.set i (b,us,ty)) :=
 ⟨h.nW,zk h.bel ho hbase,fun e he=>by
  obtain ⟨j,hj⟩:=List.mem_iff_getElem?.1 he
  rw [uU] at hj
  by_cases e1:i=j
  ·subst e1
   rw [if_pos rfl] at hj
   split at hj
   ·cases hj;exact hb
   ·cases hj
  ·rw [if_neg e1] at hj
   exact (h.all e (xU hj)).only ho (hne e (kA _ _ _ _ (fun h=>e1 h.symm) hj))⟩
theorem St.ne {w0 w:World} {base:Nat} {L:List (Nat×List Value×TypeId)} (h:St w0 base w L):∀ e∈L,e.1 < w.heap.size:=fun e he=>(h.all e he).lt
theorem St.size {w0 w:World} {base:Nat} {L:List (Nat×List Value×TypeId)} (h:St w0 base w L):base≤w.heap.size:=uj h.nW h.bel.size
theorem Blk.mZ {P:Program} {w:World} {b n:Nat} {vs:List Value} {ty':TypeId} (h:Blk w b vs ty') {op:Oper} {a:Act} {K:Act→World→Prop} {Q:Exit→Act→World→Prop} {ty:TypeId} {x y:Operand} {cs:List Value}
  (ho:op.op=.store ty x y) (hx:a.eval x=.pointer (some ⟨b,0,none⟩)) (hy:a.eval y=.agg cs.toArray) (hr:Row P ty n) (hn:vs.length=n) (hc:cs.length=n) (h1:∀ v∈cs,v.oneCell'=true)
  (k:∀ w',Blk w' b cs ty'→Only b w w'→K (a.put op.dst undef) w'):op.wp P a w K Q:=by
 obtain ⟨d,hu,hd,hi⟩:=hr.open
 refine wp_store_mid ty x y ho b 0 cs.toArray hx hy (h.there 0 _ (by rw [dH];omega)) (by rw [hi];simp [hc]) (all_oneCell_toArray h1) ?_
 exact k (w.setCells b 0 cs) (h.zcW (by omega)) (Only.setCells b cs 0 w)
theorem Blk.nO {P:Program} {w:World} {b i:Nat} {vs:List Value} {ty':TypeId} (h:Blk w b vs ty') {op:Oper} {a:Act} {K:Act→World→Prop} {Q:Exit→Act→World→Prop} {ty:TypeId} {x y:Operand} {v:Value}
  (ho:op.op=.store ty x y) (hx:a.eval x=.pointer (some ⟨b,i,none⟩)) (hy:a.eval y=v) (hs:(P.info? ty).map (·.size)=some 1) (hv:v.cells=#[v]) (h1:v.oneCell'=true) (hi:i < vs.length)
  (k:∀ w',Blk w' b (vs.set i v) ty'→Only b w w'→K (a.put op.dst undef) w'):op.wp P a w K Q:=by
 have hk:=k _ (h.set i v) (Only.setCell w ⟨b,i,none⟩ v)
 have hrun:=run_storeCells_cells (P:=P) b i [v] 0 w (fun j hj=>by
   have:j=0:=by simpa using hj
   subst this
   have:=((h.there i 1 (by omega)) 0 (by omega)).1
   simpa using this) (fun j _=>h.free _) (by simpa using h1)
 cases hq:P.info? ty with
 | none=>rw [hq] at hs;cases hs
 | some t =>
  have ht:t.size=1:=by rw [hq] at hs;simpa using hs
  unfold Oper.wp
  simp only [Nat.add_zero,World.setCells] at hrun
  simp [execOp,ho,hx,hy,Instr.storeAt,Instr.sureAddr,storeVar,sizeOf,typeInfo,hq,ht,hv,hrun]
  exact hk
theorem Blk.rC {P:Program} {w:World} {g:Nat} {cur:List Value} {t:TypeId} (h:Blk w g cur t) {o:Oper} {a:Act} {K:Act→World→Prop} {Q:Exit→Act→World→Prop} {d s:Operand} {dT sT elem:TypeId}
  {dp sp:Option Addr} {dLen dCap sLen sCap:Nat} (off:Nat) (cs:List Value)
  (ho:o.op=.call { callee:=.builtin .copy,args:=#[d,s],argTypes:=#[dT,sT] }) (hd:a.eval d=.slice dp dLen dCap) (hs:a.eval s=.slice sp sLen sCap)
  (hu:P.underlying dT=some (.slice elem)) (hsz:(P.info? elem).map (·.size)=some 1)
  (hdp:0 < cs.length→dp=some ⟨g,off,none⟩) (hsrc:zr w sp cs) (hn:cs.length=Nat.min sLen dLen) (hfit:off+cs.length≤cur.length) (h1:∀ v∈cs,v.oneCell'=true)
  (k:∀ w',Blk w' g (splice cur off cs) t→Only g w w'→K (a.put o.dst (goInt cs.length)) w'):o.wp P a w K Q:=by
 by_cases h0:cs.length=0
 ·obtain rfl:cs=[]:=uG h0
  have hrun:=run_copy_none (P:=P) w dT sT o.type elem dp sp dLen dCap sLen sCap hu hsz (by simpa using hn.symm)
  unfold Oper.wp
  simp [execOp,ho,resolve,invoke,builtin,hd,hs,hrun,Result.andThen]
  exact k w (by simpa [splice] using h) (Only.refl _ _)
 ·obtain rfl:=hdp (by omega)
  obtain ⟨b,off',rfl,_,hc⟩:=hsrc.at (by intro e;simp [e] at h0)
  have hrun:=run_copy_cells (P:=P) w dT sT o.type elem g off dLen dCap ⟨b,off',none⟩ sLen sCap cs hu hsz hn (fun j v hv=>by rw [add_eq];exact hc j v hv)
   (fun j hj=>((h.there off cs.length hfit) j hj).1) (fun j hj=>h.free _) h1
  unfold Oper.wp
  simp [execOp,ho,resolve,invoke,builtin,hd,hs,hrun,Result.andThen]
  refine k _ ?_ (Only.setCells g cs off w)
  have:=Blk.setCells cs cur off w hfit h
  rwa [QA] at this
theorem Blk.result {P:Program} {w:World} {b n:Nat} {vs:List Value} {ty':TypeId} (h:Blk w b vs ty') {fn:Func} {R:Ending→World→Prop} {a:Act} {p:Tmp} {ty:TypeId}
  (hf:fn.results=#[.cell p ty]) (hd:a.defers=[]) (hp:a.tmps.getD p undef=.pointer (some ⟨b,0,none⟩)) (hr:Row P ty n) (hn:vs.length=n)
  (k:R (.returned (.agg vs.toArray)) w):bodyPost P fn R .ret a w:=by
 obtain ⟨d,hu,hd',hi⟩:=hr.open
 exact bodyPost_ret (results_cell_row hf _ _ _ _ _ _ _ hp h hu (by cases d <;> simp_all [TypeDesc.isRow]) (by rw [hi];simp [hn])) hd k
theorem yY {P:Program} (w:World) (t e:TypeId) (n:Nat) (ht:P.underlying t=some (.array n e)) (hs:(P.info? e).map (·.size)=some 1) (b o lo:Nat) (i:Int) (hi:i=lo) (h:lo < n) :
  (Instr.sliceAt t (.pointer (some ⟨b,o,none⟩)) (some (.int .i64 i)) none none).run P w=.ok (.slice (some ⟨b,o+lo,none⟩) (n - lo) (n - lo)) w:=by
 subst hi
 cases hq:P.info? e with
 | none=>rw [hq] at hs;cases hs
 | some x =>
  have hx:x.size=1:=by rw [hq] at hs;simpa using hs
  have hz:(sizeOf e).run P w=.ok 1 w:=by simp [sizeOf,typeInfo,hq,hx]
  have hne:n≠lo:=by omega
  simp [Instr.sliceAt,run_underlying ht,Instr.sureAddr,Instr.sliceBounds,Instr.sliceBound,asIntOf,hz,show lo≤n by omega,hne,add_eq]
theorem qF {P:Program} (w:World) (t e:TypeId) (n:Nat) (cs:Array Value) (k:IntKind) (i:Nat) (v:Value) (ht:P.underlying t=some (.array n e)) (he:(P.underlying e).map (·.isRow)=some false) (hs:(P.info? e).map (·.size)=some 1)
  (hi:cs[i]? = some v) (hlt:i < n):(Instr.index t (.agg cs) (.int k (i:Int))).run P w=.ok v w:=by
 cases hq:P.info? e with
 | none=>rw [hq] at hs;cases hs
 | some x =>
  have hx:x.size=1:=by rw [hq] at hs;simpa using hs
  cases hd:P.underlying e with
  | none=>rw [hd] at he;cases he
  | some d =>
   have hagg:(isAgg e).run P w=.ok false w:=by
    unfold isAgg
    rw [Sem.run_bind,run_underlying hd w]
    rw [hd] at he
    cases d <;> simp_all [TypeDesc.isRow]
   simp [Instr.index,asIntOf,run_underlying ht,hlt,sizeOf,typeInfo,hq,hx,part,hagg,hi]
end Go.Cells
namespace Go.Oct
open Ops
def at8 (b:List UInt8) (i:Nat):UInt8:=b.getD i 0
def Z9 (f:Nat→UInt8):Nat→UInt64
 | 0=>0
 | k+1=>wi (Z9 f k) (xf (Xl (f k)) (8*k))
def pJ (b:List UInt8) (at':Nat):UInt64:=Z9 (fun k=>at8 b (at'+k)) 8
def yU (b:List UInt8) (at':Nat):UInt32:=yX (Z9 (fun k=>at8 b (at'+k)) 4)
def nz (n:UInt32):List UInt8:=(uf 4).map fun k=>Xk (Y5 n (8*k))
def zz (n:UInt64):List UInt8:=(uf 8).map fun k=>Xm (yp n (8*k))
def block (b:List UInt8):List UInt8:=(uf 16).map fun k=>at8 b k
def nX (a b:List UInt8):List UInt8:=(uf (min a.length b.length)).map fun i=>ya (at8 a i) (at8 b i)
def j8 (n size:Nat):Nat:=(size - n % size) % size
def kF (b:List UInt8) (size:Nat):List UInt8:=b++wh (j8 b.length size) 0
def qv (b:List UInt8) (mark:UInt8) (size:Nat):List UInt8:=kF (b++[mark]) size
def zf (n:Nat):List UInt8:=wh n 0
theorem zd (n:Nat):(zf n).length=n:=by simp [zf]
theorem yF (n:UInt32):(nz n).length=4:=by simp [nz]
theorem zK (n:UInt64):(zz n).length=8:=by simp [zz]
theorem zA (b:List UInt8):(block b).length=16:=by simp [block]
theorem mW (a b:List UInt8):(nX a b).length=min a.length b.length:=by simp [nX]
def yg {α:Type} (f:Nat→α) (n k:Nat) (l:List α):Prop:=l.length=n∧∀ i,i < k→l[i]? = some (f i)
theorem yg.zero {α:Type} {f:Nat→α} {n:Nat} {l:List α} (h:l.length=n):yg f n 0 l:=⟨h,fun i hi=>absurd hi (by omega)⟩
theorem yg.step {α:Type} {f:Nat→α} {n k:Nat} {l:List α} (h:yg f n k l) (hk:k < n):yg f n (k+1) (l.set k (f k)):=by
 refine ⟨by simpa using h.1,fun i hi=>?_⟩
 rw [uU]
 by_cases e:k=i
 ·subst e
  simp [h.1,hk]
 ·rw [if_neg e]
  exact h.2 i (by omega)
theorem yg.all {α:Type} {f:Nat→α} {n:Nat} {l:List α} (h:yg f n n l):l=(uf n).map f:=by
 apply uA
 intro i
 by_cases hi:i < n
 ·rw [h.2 i hi];simp [hi]
 ·rw [qc (by have:=h.1;omega),qc (by simp;omega)]
theorem yg.at {α:Type} {f:Nat→α} {n k:Nat} {l:List α} (h:yg f n k l) {i:Nat} (hi:i < n):∃ x,l[i]? = some x:=⟨l[i]'(by have:=h.1;omega),by simp⟩
theorem zny {b:List UInt8} {i:Nat} {x:UInt8} (h:b[i]? = some x):at8 b i=x:=by simp [at8,bT,h]
theorem XS {b:List UInt8} {i:Nat} (h:b.length≤i):at8 b i=0:=by simp [at8,bT,h]
theorem q4 {b:List UInt8} {i:Nat} (h:i < b.length):b[i]? = some (at8 b i):=by simp [at8,bT,h]
theorem yg.splice {α:Type} {f:Nat→α} {n k m:Nat} {l cs:List α} (h:yg f n k l) (hm:k+m≤n) (hc:cs.length=m) (hcs:∀ j,j < m→cs[j]? = some (f (k+j))):yg f n (k+m) (splice l k cs):=by
 have hl:=h.1
 refine ⟨by rw [length_splice _ _ _ (by omega)];exact hl,fun i hi=>?_⟩
 unfold Go.splice
 by_cases h1:i < k
 ·rw [bO (by rw [Ku];omega),List.getElem?_take_of_lt h1]
  exact h.2 i h1
 ·rw [List.getElem?_append_right (by rw [Ku];omega),Ku,Nat.min_eq_left (by omega),bO (by omega),hcs _ (by omega)]
  congr 2
  omega
theorem xV {α β:Type} (g:α→β) (l cs:List α) (k:Nat):Go.splice (l.map g) k (cs.map g)=(Go.splice l k cs).map g:=by
 simp [Go.splice]
end Go.Oct
namespace Go.Gf
open Ops Oct
def dbl (a:UInt8):UInt8:=ya (Z6 a 1) (QB (rF a 7) 27)
def Zu:Nat→UInt8→UInt8→UInt8→UInt8
 | 0,_,_,s=>s
 | n+1,a,b,s=>if b=0 then s else Zu n (dbl a) (rF b 1) (ya s (QB a (rE b 1)))
def times (a b:UInt8):UInt8:=Zu 8 a b 0
theorem WJ (n:Nat) (a s:UInt8):Zu n a 0 s=s:=by
 cases n <;> simp [Zu]
theorem zly (b:UInt8) (k:Nat) (h:b.toNat < 2 ^ (k+1)):(rF b 1).toNat < 2 ^ k:=by
 have:=lt8 b
 unfold rF
 rw [uY (by show _ < 256;omega)]
 rw [Nat.pow_succ] at h
 omega
theorem Vq {b:UInt8} (h:b.toNat=0):b=0:=UInt8.toNat_inj.1 (by simpa using h)
def rot8 (x:UInt8) (k:Nat):UInt8:=or8 (Z6 x k) (rF x (8 - k))
def zi6 (i:UInt8):Nat→UInt8
 | 0=>99
 | k+1=>ya (zi6 i k) (rot8 i k)
def box (i:UInt8):UInt8:=zi6 i 5
def zfB (l:List UInt8) (a b:UInt8):List UInt8:=(l.set a.toNat b).set (256+b.toNat) a
def Ya:Nat→UInt8
 | 0=>1
 | k+1=>ya (Ya k) (dbl (Ya k))
def Yb:Nat→List UInt8
 | 0=>zfB (zf 512) 0 (box 0)
 | k+1=>zfB (Yb k) (Ya k) (box (Ya ((255 - k) % 255)))
def boxes:List UInt8:=Yb 255
theorem Q4 (l:List UInt8) (a b:UInt8):(zfB l a b).length=l.length:=by simp [zfB]
theorem Y6 (k:Nat):(Yb k).length=512:=by
 induction k with
 | zero=>rw [Yb,Q4,zd]
 | succ k ih=>rw [Yb,Q4,ih]
theorem kX:boxes.length=512:=Y6 255
end Go.Gf
namespace Go.Trn
open Ops Oct Gf
def yR (l:List UInt32) (i:Nat):UInt32:=l.getD i 0
theorem qO {l:List UInt32} {i:Nat} (h:i < l.length):l[i]? = some (yR l i):=by simp [yR,bT,h]
def mixes:List UInt8:=[2,3,1,1]
def unmixes:List UInt8:=[14,11,13,9]
def Yc (by':List UInt8) (row:Nat) (a:UInt8):Nat→UInt32
 | 0=>0
 | r+1=>ziA (Yc by' row a r) (Q3 (KW (times (at8 by' ((row+4 - r) % 4)) a)) (8*r))
def Xn (by':List UInt8) (row:Nat) (a:UInt8):UInt32:=Yc by' row a 4
def ye (row column:Nat):Nat:=row+4*((column+row) % 4)
def both (a b:List UInt8):List UInt8:=(uf 16).map fun i=>ya (at8 a i) (at8 b i)
def entry (T:List UInt8) (i:Nat):UInt32 :=
 if i < 1024 then Xn mixes (i / 256) (at8 T (i % 256)) else Xn unmixes ((i - 1024) / 256) (VW (i % 256))
def entries (T:List UInt8):List UInt32:=(uf 2048).map (entry T)
def Laid (T:List UInt8) (k:Nat) (l:List UInt32):Prop:=l.length=2048∧∀ i,i < k→l[i]? = some (entry T i)∧l[1024+i]? = some (entry T (1024+i))
theorem Laid.zero {T:List UInt8} {l:List UInt32} (h:l.length=2048):Laid T 0 l:=⟨h,fun i hi=>absurd hi (by omega)⟩
theorem Laid.step {T:List UInt8} {k:Nat} {l:List UInt32} (h:Laid T k l) (hk:k < 1024):Laid T (k+1) ((l.set k (entry T k)).set (1024+k) (entry T (1024+k))):=by
 refine ⟨by simpa using h.1,fun i hi=>?_⟩
 have hl:=h.1
 by_cases e:i=k
 ·subst e
  constructor
  ·rw [uH (by omega),uW (by omega)]
  ·rw [uW (by rw [Vo];omega)]
 ·obtain ⟨h1,h2⟩:=h.2 i (by omega)
  constructor
  ·rw [uH (by omega),uH (by omega)];exact h1
  ·rw [uH (by omega),uH (by omega)];exact h2
theorem Laid.all {T:List UInt8} {l:List UInt32} (h:Laid T 1024 l):l=entries T:=by
 apply uA
 intro i
 by_cases hi:i < 1024
 ·rw [(h.2 i hi).1];simp [entries,show i < 2048 by omega]
 ·by_cases hi2:i < 2048
  ·have:=(h.2 (i - 1024) (by omega)).2
   rw [show 1024+(i - 1024)=i by omega] at this
   rw [this];simp [entries,hi2]
  ·rw [qc (by have:=h.1;omega),qc (by simp [entries];omega)]
theorem Yd (T:List UInt8):(entries T).length=2048:=by simp [entries]
theorem Laid.at {T:List UInt8} {k:Nat} {l:List UInt32} (h:Laid T k l) {i:Nat} (hi:i < 2048):∃ x,l[i]? = some x:=⟨l[i]'(by have:=h.1;omega),by simp⟩
def tab (r:Nat) (x:UInt8):UInt32:=yR (entries boxes) (256*r+x.toNat)
def zcM (r:Nat) (x:UInt8):UInt32:=yR (entries boxes) (1024+256*r+x.toNat)
def nJ (b key:List UInt8) (c:Nat):Nat→UInt32
 | 0=>yU key (4*c)
 | r+1=>y6 (nJ b key c r) (tab r (at8 b (ye r c)))
def Zv (b key:List UInt8) (i:Nat):UInt8:=at8 (nz (nJ b key (i / 4) 4)) (i % 4)
def round (b key:List UInt8):List UInt8:=(uf 16).map (Zv b key)
theorem zd8 (b key:List UInt8) (k j:Nat) (hj:j < 4):(nz (nJ b key k 4))[j]? = some (Zv b key (4*k+j)):=by
 unfold Zv
 rw [show (4*k+j) / 4=k by omega,show (4*k+j) % 4=j by omega]
 exact q4 (by rw [yF];exact hj)
def Zw (b:List UInt8) (i:Nat):UInt8:=at8 boxes (at8 b (ye (i % 4) (i / 4))).toNat
def last (b key:List UInt8):List UInt8:=both ((uf 16).map (Zw b)) key
def kK (b:List UInt8) (i:Nat):UInt8:=at8 boxes (256+(at8 b (i % 4+4*((i / 4+4 - i % 4) % 4))).toNat)
def qg (b:List UInt8):List UInt8:=(uf 16).map (kK b)
def qh (b:List UInt8) (c:Nat):Nat→UInt32
 | 0=>0
 | r+1=>y6 (qh b c r) (zcM r (at8 b (r+4*c)))
def xT (b:List UInt8) (i:Nat):UInt8:=at8 (nz (qh b (i / 4) 4)) (i % 4)
theorem WK (b:List UInt8) (k j:Nat) (hj:j < 4):(nz (qh b k 4))[j]? = some (xT b (4*k+j)):=by
 unfold xT
 rw [show (4*k+j) / 4=k by omega,show (4*k+j) % 4=j by omega]
 exact q4 (by rw [yF];exact hj)
def vd (b key:List UInt8):List UInt8:=qg ((uf 16).map (xT (both b key)))
def jZ (b key:List UInt8):List UInt8:=qg (both b key)
def rounds (b:List UInt8) (keys:List (List UInt8)):List UInt8:=keys.foldl round b
theorem zB (a b:List UInt8):(both a b).length=16:=by simp [both]
theorem ve (b key:List UInt8):(round b key).length=16:=by simp [round]
theorem zbc (b key:List UInt8):(last b key).length=16:=by simp [last,both]
theorem qi (b:List UInt8):(qg b).length=16:=by simp [qg]
theorem kY (b key:List UInt8):(vd b key).length=16:=by simp [vd,qg]
theorem jC (b key:List UInt8):(jZ b key).length=16:=by simp [jZ,qg]
end Go.Trn
namespace Go.Aes
open Ops Oct Gf Trn
def zbJ (w:List UInt8):List UInt8:=(uf 4).map fun i=>at8 boxes (at8 w i).toNat
def nY (a b:List UInt8):List UInt8:=(uf 4).map fun i=>ya (at8 a i) (at8 b i)
theorem wo (w:List UInt8):(zbJ w).length=4:=by simp [zbJ]
theorem XT (a b:List UInt8):(nY a b).length=4:=by simp [nY]
theorem QD (a b:List UInt8) (ha:a.length=16) (hb:b.length=16):block (nX a b)=both a b:=by
 apply uA
 intro i
 by_cases hi:i < 16
 ·have h:(nX a b)[i]? = some (ya (at8 a i) (at8 b i)):=by simp [nX,ha,hb,hi]
  simp only [block,both,uV,List.getElem?_range,hi]
  simp [zny h]
 ·rw [qc (by rw [zA];omega),qc (by rw [zB];omega)]
def key (ks:List (List UInt8)) (i:Nat):List UInt8:=ks.getD i []
theorem kB {ks:List (List UInt8)} {i:Nat} (h:i < ks.length):ks[i]? = some (key ks i):=by simp [key,bT,h]
def enc (ks:List (List UInt8)) (b:List UInt8):List UInt8:=last (rounds (both b (key ks 0)) ((ks.drop 1).take (ks.length - 2))) (key ks (ks.length - 1))
def Zf (ks:List (List UInt8)):Nat→List UInt8→List UInt8
 | 0,b=>b
 | 1,b=>b
 | i+2,b=>Zf ks (i+1) (vd b (key ks (i+1)))
theorem Xo (ks:List (List UInt8)) (i:Nat) (b:List UInt8) (h:1 < i):Zf ks i b=Zf ks (i - 1) (vd b (key ks (i - 1))):=by
 obtain ⟨m,rfl⟩:∃ m,i=m+2:=⟨i - 2,by omega⟩
 rfl
def dec (ks:List (List UInt8)) (b:List UInt8):List UInt8:=both (Zf ks (ks.length - 1) (jZ b (key ks (ks.length - 1)))) (key ks 0)
theorem xJ (ks:List (List UInt8)) (b:List UInt8):(enc ks b).length=16:=zbc _ _
theorem kG (ks:List (List UInt8)) (b:List UInt8):(dec ks b).length=16:=zB _ _
theorem qG:∀ (ks:List (List UInt8)) (b:List UInt8),b.length=16→(rounds b ks).length=16
 | [],b,h=>h
 | k::r,b,_=>qG r (round b k) (ve b k)
def turned (n:Nat) (long:Bool) (m:Nat) (w:List UInt8) (zdG:UInt8):List UInt8 :=
 if m % n=0 then (zbJ [at8 w 1,at8 w 2,at8 w 3,at8 w 0]).set 0 (ya (at8 (zbJ [at8 w 1,at8 w 2,at8 w 3,at8 w 0]) 0) zdG)
 else if long=true∧m % n=4 then zbJ w else w
def KI (n:Nat) (long:Bool) (st:List (List UInt8)×UInt8):List (List UInt8)×UInt8 :=
 (st.1++[nY (key st.1 (st.1.length - n)) (turned n long st.1.length (key st.1 (st.1.length - 1)) st.2)],if st.1.length % n=0 then dbl st.2 else st.2)
def jK (n:Nat) (k:List UInt8):List (List UInt8):=(uf n).map fun i=>nz (yU k (4*i))
def ZZ (n:Nat) (long:Bool) (k:List UInt8):Nat→List (List UInt8)×UInt8
 | 0=>(jK n k,1)
 | i+1=>KI n long (ZZ n long k i)
def Zg (n:Nat) (long:Bool) (k:List UInt8):List (List UInt8):=(ZZ n long k (4*(n+7) - n)).1
def expand (n:Nat) (long:Bool) (k:List UInt8):List (List UInt8):=(uf (n+7)).map fun i=>(((Zg n long k).drop (4*i)).take 4).flatten
theorem Vr (n:Nat) (long:Bool) (m:Nat) (w:List UInt8) (zdG:UInt8) (h:w.length=4):(turned n long m w zdG).length=4:=by
 unfold turned
 split
 ·rw [Vo,wo]
 ·split
  ·exact wo _
  ·exact h
theorem Zx (n:Nat) (long:Bool) (k:List UInt8):∀ i,(ZZ n long k i).1.length=n+i
 | 0=>by simp [ZZ,jK]
 | i+1=>by simp [ZZ,KI,Zx n long k i];omega
theorem Xp (n:Nat) (long:Bool) (k:List UInt8):∀ i,∀ x∈(ZZ n long k i).1,x.length=4
 | 0,x,h=>by
  simp [ZZ,jK] at h
  obtain ⟨j,_,rfl⟩:=h
  exact yF _
 | i+1,x,h=>by
  rw [ZZ,KI,List.mem_append] at h
  rcases h with h | h
  ·exact Xp n long k i x h
  ·simp at h;subst h;exact XT _ _
theorem KE (n:Nat) (long:Bool) (k:List UInt8):(Zg n long k).length=4*(n+7):=by
 unfold Zg;rw [Zx];omega
theorem Y7 (n:Nat) (long:Bool) (k:List UInt8):∀ x∈Zg n long k,x.length=4:=Xp n long k _
theorem wJ (n:Nat) (long:Bool) (k:List UInt8):(expand n long k).length=n+7:=by simp [expand]
end Go.Aes
namespace Go.Ring
open Ops Oct Gf Trn Aes
def zbd (a:List UInt8) (i:Nat):UInt8:=if i < 15 then or8 (Z6 (at8 a i) 1) (rF (at8 a (i+1)) 7) else ya (Z6 (at8 a 15) 1) (QB (rF (at8 a 0) 7) 135)
def rV (a:List UInt8):List UInt8:=(uf 16).map (zbd a)
theorem vf (a:List UInt8):(rV a).length=16:=by simp [rV]
def zaH (a b:List UInt8) (wanted:Bool):List UInt8:=if wanted=true then both a b else a
theorem XU (a b:List UInt8) (wanted:Bool) (h:a.length=16):(zaH a b wanted).length=16:=by unfold zaH;split;exact zB _ _;exact h
def Q5:Nat→UInt64→List UInt8→List UInt8→List UInt8
 | 0,_,out,_=>out
 | k+1,n,out,a=>if n.toNat=0 then out else Q5 k (yp n 1) (zaH out a (((xk n 1).toNat:Int)==1)) (rV a)
def multiple (n:UInt64) (a:List UInt8):List UInt8:=Q5 64 n (zf 16) a
theorem XV:∀ (k:Nat) (n:UInt64) (out a:List UInt8),out.length=16→(Q5 k n out a).length=16
 | 0,_,_,_,h=>h
 | k+1,n,out,a,h=>by
  unfold Q5
  split
  ·exact h
  ·exact XV k _ _ _ (XU _ _ _ h)
theorem j0 (n:UInt64) (a:List UInt8):(multiple n a).length=16:=XV _ _ _ _ (zd 16)
def pF:Nat→List UInt8→List UInt8
 | 0,a=>a
 | k+1,a=>pF k (rV a)
theorem vI:∀ (k:Nat) (a:List UInt8),a.length=16→(pF k a).length=16
 | 0,a,h=>h
 | k+1,a,_=>vI k _ (vf a)
end Go.Ring

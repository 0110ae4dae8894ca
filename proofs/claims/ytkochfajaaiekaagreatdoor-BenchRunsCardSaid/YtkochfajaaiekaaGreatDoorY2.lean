/- Laws. -/
import Derived.Test.YtkochfajaaiekaaGreatDoorY1
set_option linter.all false
set_option maxHeartbeats 16000000
set_option maxRecDepth 100000
open Array renaming getElem?_eq_some_iff->zaQ,getElem?_modify->zcO,replicate->zaY,toList_inj->zdb,toList_map->zdc
open Int renaming natCast_emod->zdu
open List renaming append_assoc->zal,append_nil->za5,cons.injEq->zdw,drop_eq_nil_of_le->zak,drop_set_of_lt->zml,eq_nil_of_length_eq_zero->zaI,ext_getElem?->zaK,flatten_cons->za4,getD->zbx,getElem?_append_left->zbC,getElem?_append_right->za6,getElem?_cons_succ->zbI,getElem?_drop->zbw,getElem?_eq_none->zaf,getElem?_replicate->zcN,getElem?_set->zbb,getElem?_set_ne->zaX,getElem?_set_self->zbe,getElem?_take_of_lt->zmk,length_append->zac,length_cons->zaj,length_map->zaa,length_set->zav,length_take->zam,map_append->zaD,map_cons->zca,map_drop->zcb,map_set->zct,mem_cons->zau,mem_cons_of_mem->zaN,mem_map->zaz,mem_of_getElem?->zad,mem_range->zcg,nil_append->zaB,not_mem_nil->zbr,range->zax,replicate->zah,setIfInBounds_toArray->jb,set_cons_succ->zc9,size_toArray->zbT,take_add_one->zbi,take_of_length_le->zai,take_set_of_le->zmm,take_zero->zcn,zipIdx_cons->zdm
open Nat renaming add_mul->zbc,add_sub_cancel_left->zcP,add_zero->zci,div_add_mod->zcX,le_of_lt->zbQ,le_refl->zab,le_trans->zat,lt_of_lt_of_le->za1,lt_or_ge->zbl,min->zmp,min_eq_left->zbF,mod_lt->zc7,mul_comm->zcu,mul_one->zbU,mul_succ->zdy,one_mul->zbZ,strongRecOn->zdA,sub_self->zdz,zero_add->zbt,zero_le->zcr,zero_mul->zcj
open Option renaming some.inj->zaW
open UInt8 renaming ofNat->zaq,toNat_ofNat_of_lt'->zaO
namespace Go.Proofs.YtkochfajaaiekaaGreatDoor
open Go.Proofs.Tryz
open Go.Proofs.Tryz renaming prog->pgm
open RowKit
def Blk(w:World)(b:Nat)(vs:Lb_)(ty:TypeId):Prop:=w.heap[b]? = some (.cells vs.toArray ty (0,0))
def Blk.lt{w:World}{b:Nat}{vs:Lb_}{ty:TypeId}(h:Blk w b vs ty):b<w.heap.size:=by unfold Blk at h;exact(zaQ.1 h).1
def Blk.cell{w:World}{b:Nat}{vs:Lb_}{ty:TypeId}(h:Blk w b vs ty)(i:Nat)(u:Value)(hu:vs[i]? = some u):w.cell? ⟨b,i,none⟩=some u:=by unfold Blk at h;simp[World.cell?,h,hu]
def Blk.free{w:World}{b:Nat}{vs:Lb_}{ty:TypeId}(h:Blk w b vs ty)(i:Nat):w.frozen? ⟨b,i,none⟩=false:=by unfold Blk at h;simp[World.frozen?,h]
def Blk.set{w:World}{b:Nat}{vs:Lb_}{ty:TypeId}(h:Blk w b vs ty)(i:Nat)(v:Value):Blk (w.setCell ⟨b,i,none⟩ v) b (vs.set i v) ty:=by unfold Blk at*;have aB:=(zaQ.1 h).1;have aJ:=(zaQ.1 h).2;simp only[World.setCell,zcO,h];simp
def Blk.setOther{w:World}{b:Nat}{vs:Lb_}{ty:TypeId}(h:Blk w b vs ty){a:Addr}(hne:a.block≠b)(v:Value):Blk (w.setCell a v) b vs ty:=by unfold Blk at*;simp only[World.setCell,zcO,h];simp[hne]
def Blk.new(w:World)(vs:Lb_)(ty:TypeId):Blk (w.alloc (.cells vs.toArray ty)) w.heap.size vs ty:=heap_alloc_new w _
def Blk.alloc{w:World}{b:Nat}{vs:Lb_}{ty:TypeId}(h:Blk w b vs ty)(o:Obj):Blk (w.alloc o) b vs ty:=(heap_alloc_old w _ h.lt).trans h
def Blk.drew{w:World}{b:Nat}{vs:Lb_}{ty:TypeId}(h:Blk w b vs ty):Blk w.drew b vs ty:=h
def Blk.below{w w':World}{b B:Nat}{vs:Lb_}{ty:TypeId}(h:Blk w b vs ty)(hb:Below B w w')(h2:b<B):Blk w' b vs ty:=(hb.block b h2).trans h
def Blk.lies{w:World}{b:Nat}{vs:Lb_}{ty:TypeId}(h:Blk w b vs ty):zr w (some ⟨b,0,none⟩) vs:=by have:=zr.of_block h;simpa using this
def Blk.range{w:World}{b:Nat}{vs:Lb_}{ty:TypeId}(h:Blk w b vs ty):w.rangeAt b 0 vs:=by intro aq aK aL;rw[zbt];exact h.cell aq aK aL
def zX{l:La_}{i:Nat}{x:UInt8}(h:l[i]? = some x):(l.map B)[i]? = some (B x):=As
def jG{l:List UInt32}{i:Nat}{x:UInt32}(h:l[i]? = some x):(l.map W)[i]? = some (W x):=As
def yR{l:List UInt64}{i:Nat}{x:UInt64}(h:l[i]? = some x):(l.map L)[i]? = some (L x):=As
def yD(l:La_)(i:Nat)(x:UInt8):(l.map B).set i (B x)=(l.set i x).map B:=by rw[zct]
def qv(l:List UInt32)(i:Nat)(x:UInt32):(l.map W).set i (W x)=(l.set i x).map W:=by rw[zct]
def xH(l:List UInt64)(i:Nat)(x:UInt64):(l.map L).set i (L x)=(l.set i x).map L:=by rw[zct]
def Row(P:Program)(ty:TypeId)(n:Nat):Prop:=(P.underlying ty).map (·.isRow)=some true/\(P.info? ty).map (·.size)=some n
def Row.open{P:Program}{ty:TypeId}{n:Nat}(h:Row P ty n):∃d,P.underlying ty=some d/\d.isRow=true/\(P.info? ty).map (·.size)=some n:=by
 obtain⟨ag,aM⟩:=h;cases hd:P.underlying ty with
 | none=>rw[hd] at ag;cases ag
 | some d=>rw[hd] at ag;exact⟨d,rfl,c6,aM⟩
structure Only(b:Nat)(w w':World):Prop where
 os:w'.os=w.os
 tape:w'.tape=w.tape
 output:w'.output=w.output
 size:w'.heap.size=w.heap.size
 block:∀k,k≠b->w'.heap[k]? = w.heap[k]?
def Only.refl(b:Nat)(w:World):Only b w w:=⟨rfl,rfl,rfl,rfl,λ_ _=>rfl⟩
def Only.trans{b:Nat}{u v w:World}(h:Only b u v)(k:Only b v w):Only b u w :=
 ⟨k.os.trans h.os,k.tape.trans h.tape,k.output.trans h.output,k.size.trans h.size,λi hi=>(k.block i hi).trans (h.block i hi)⟩
def Only.setCell(w:World)(a:Addr)(v:Value):Only a.block w (w.setCell a v) :=
 ⟨rfl,rfl,rfl,by simp[World.setCell],λk hk=>heap_setCell_other w a k v hk⟩
def Only.setCells(b:Nat):∀(vs:Lb_)(o:Nat)(w:World),Only b w (w.setCells b o vs)
 | [],_,w=>Only.refl b w
 | v::r,o,w=>(Only.setCell w ⟨b,o,none⟩ v).trans (Only.setCells b r (o+1) _)
def Blk.only{w w':World}{b c:Nat}{vs:Lb_}{ty:TypeId}(h:Blk w c vs ty)(ho:Only b w w')(hne:c≠b):Blk w' c vs ty:=(ho.block c hne).trans h
def zi{B b:Nat}{u w w':World}(h:Below B u w)(ho:Only b w w')(hb:B<=b):Below B u w' :=
 ⟨ho.os.trans h.os,ho.tape.trans h.tape,ho.output.trans h.output,by rw[ho.size];exact h.size,λk hk=>(ho.block k ae).trans (h.block k hk)⟩
def Blk.setCells{b:Nat}{ty:TypeId}:∀(cs vs:Lb_)(o:Nat)(w:World),o+cs.length<=vs.length->Blk w b vs ty->Blk (w.setCells b o cs) b (vs.take o++cs++vs.drop (o+cs.length)) ty
 | [],vs,o,w,_,h=>by simpa[World.setCells] using h
 | v::r,vs,o,w,hl,h=>by
  rw[zaj] at hl;have:=Blk.setCells r (vs.set o v) (o+1) _ (by rw[zav];omega) (h.set o v);have e:(vs.set o v).take (o+1)++r++(vs.set o v).drop (o+1+r.length)=vs.take o++(v::r)++vs.drop (o+(v::r).length):=by
   rw[zml ae,zaj,show o+1+r.length=o+(r.length+1) by omega];congr 1;rw[zbi,zmm ae];simp[show o<vs.length by omega]
  rw[e] at this;exact this
def Blk.zhc{w:World}{b:Nat}{vs cs:Lb_}{ty:TypeId}(h:Blk w b vs ty)(hl:cs.length=vs.length):Blk (w.setCells b 0 cs) b cs ty:=by have:=Blk.setCells cs vs 0 w ae h;rw[zbt,zak ae] at this;simpa using this
def Blk.there{w:World}{b:Nat}{vs:Lb_}{ty:TypeId}(h:Blk w b vs ty)(o n:Nat)(hn:o+n<=vs.length):w.there b o n:=by intro aq aA;have aw:vs[o+aq]? = some (vs[o+aq]' ae):=ab;exact⟨by rw[h.cell _ _ aw];rfl,h.free _⟩
def Blk.zdS{P:Program}{w:World}{b n:Nat}{vs:Lb_}{ty':TypeId}(h:Blk w b vs ty'){ops:Array Oper}{rest:List Oper}{op:Oper}{a:Act}{Q:Exit->Act->World->Prop}{ty:TypeId}{x:Operand}(hgd:op.guard=none)(ho:op.op=.load ty x)(hx:a.eval x=.pointer (some ⟨b,0,none⟩))(hr:Row P ty n)(hn:vs.length=n)(k:wpList P ops Q rest (a.put op.dst (.agg vs.toArray)) w):wpList P ops Q (op::rest) a w:=by obtain⟨aN,aw,ah,aO⟩:=hr.open;exact wpList_load_mid hgd ty x ho b 0 hx vs aN h.range aw ah (by rw[aO,hn]) k
def Blk.zdP{P:Program}{w:World}{b n:Nat}{vs:Lb_}{ty':TypeId}(h:Blk w b vs ty'){ops:Array Oper}{rest:List Oper}{op:Oper}{a:Act}{Q:Exit->Act->World->Prop}{ty:TypeId}{x y:Operand}{cs:Lb_}(hgd:op.guard=none)(ho:op.op=.store ty x y)(hx:a.eval x=.pointer (some ⟨b,0,none⟩))(hy:a.eval y=.agg cs.toArray)(hr:Row P ty n)(hn:vs.length=n)(hc:cs.length=n)(h1:∀v∈cs,v.oneCell'=true)(k:∀w',Blk w' b cs ty'->Only b w w'->wpList P ops Q rest (a.put op.dst undef) w'):wpList P ops Q (op::rest) a w:=by obtain⟨aN,aw,ah,aO⟩:=hr.open;refine wpList_store_mid hgd ty x y ho b 0 cs.toArray hx hy (h.there 0 _ (by rw[zbT];omega)) c8 (all_oneCell_toArray h1) ?_;exact k (w.setCells b 0 cs) (h.zhc ae) (Only.setCells b cs 0 w)
def Blk.zgm{P:Program}{w:World}{g:Nat}{cur:Lb_}{t:TypeId}(h:Blk w g cur t){ops:Array Oper}{rest:List Oper}{o:Oper}{a:Act}{Q:Exit->Act->World->Prop}{d s:Operand}{dT sT elem:TypeId}{dp sp:OA}{dLen dCap sLen sCap:Nat}(off:Nat)(cs:Lb_)(hgd:o.guard=none)(ho:o.op=.call { callee:=.builtin .copy,args:=#[d,s],argTypes:=#[dT,sT] })(hd:a.eval d=.slice dp dLen dCap)(hs:a.eval s=.slice sp sLen sCap)(hu:P.underlying dT=some (.slice elem))(hsz:(P.info? elem).map (·.size)=some 1)(hdp:0<cs.length->dp=some ⟨g,off,none⟩)(hsrc:zr w sp cs)(hn:cs.length=zmp sLen dLen)(hfit:off+cs.length<=cur.length)(h1:∀v∈cs,v.oneCell'=true)(k:∀w',Blk w' g (splice cur off cs) t->Only g w w'->wpList P ops Q rest (a.put o.dst (goInt cs.length)) w'):wpList P ops Q (o::rest) a w:=by
 by_cases ag:cs.length=0
 ·obtain rfl:cs=[]:=zaI ag;refine wpList_copy_nothing hgd d s dT sT ho elem hu hsz dp sp dLen dCap sLen sCap hd hs (by simpa using hn.symm) ?_;exact k w (by simpa[splice] using h) (Only.refl _ _)
 ·obtain rfl:=hdp ae;obtain⟨ax,ay,rfl,_,az⟩:=hsrc.at (by intro ai;simp[ai] at ag);refine wpList_plain hgd λK hK=>?_;have aP:=run_copy_cells (P:=P) w dT sT o.type elem g off dLen dCap ⟨ax,ay,none⟩ sLen sCap cs hu hsz hn (λj v hv=>by rw[add_eq];exact az j v hv)
   (λj hj=>((h.there off cs.length hfit) j hj).1) (λj hj=>h.free _) h1
  unfold Oper.wp;refine akl ?_;refine hK _ _ (k _ ?_ (Only.setCells g cs off w));have:=Blk.setCells cs cur off w hfit h
  rwa [zal] at this
def zu(w:World)(o:Obj):Below w.heap.size w (w.alloc o):=(Below.refl _ _).alloc (zab _) _
def zf{P:Program}{w:World}{ops:Array Oper}{rest:List Oper}{o:Oper}{a:Act}{Q:Exit->Act->World->Prop}(t:TypeId)(vs:Lb_)(z:Value)(hgd:o.guard=none)(ho:o.op=.alloc t)(hz:(P.info? t).map (·.zero)=some (some z))(hv:z.cells=vs.toArray)(k:∀w',Blk w' w.heap.size vs t->Below w.heap.size w w'->wpList P ops Q rest (a.put o.dst (.pointer (some ⟨w.heap.size,0,none⟩))) w'):wpList P ops Q (o::rest) a w:=by
 refine wpList_plain hgd λK hK=>?_;refine ahw ?_;intro aQ;cases hq:P.info? t with
 | none=>rw[hq] at hz;cases hz
 | some x =>
  rw[hq] at hz;have aH:x.zero=some z:=by simpa using hz
  unfold Oper.wp;simp[execOp,ho,Instr.alloc,zeroValue,typeInfo,hq,aH,newVar,newRow,hv];exact hK _ _ aQ
def zh{P:Program}{w:World}{ops:Array Oper}{rest:List Oper}{o:Oper}{a:Act}{Q:Exit->Act->World->Prop}(t:TypeId)(x:Operand)(vs:Lb_)(v:Value)(hgd:o.guard=none)(ho:o.op=.box t x)(hx:a.eval x=v)(hv:v.cells=vs.toArray)(k:∀w',Blk w' w.heap.size vs t->Below w.heap.size w w'->wpList P ops Q rest (a.put o.dst (.pointer (some ⟨w.heap.size,0,none⟩))) w'):wpList P ops Q (o::rest) a w:=by refine wpList_plain hgd λK hK=>?_;refine ahw ?_;intro aQ;unfold Oper.wp;simp[execOp,ho,Instr.box,hx,newVar,newRow,hv];exact hK _ _ aQ
def W5{w:World}{base:Nat}{e:TypeId}{g n:Nat}{xs:Lb_}(h:w.ownsRow base e 1 (.slice (some ⟨g,0,none⟩) n n) n xs):Blk w g xs e/\base<=g:=by
 rcases h.2 with⟨hv,_⟩|⟨g',c,cur,hv,hb,hg,h1,h2,h3,ht⟩
 ·cases hv
 ·cases hv;refine⟨?_,hb⟩;have aR:=h.1;have:cur.toList=xs:=by
   rw[<-ht,zai (by simp at h3 |-;omega)]
  unfold Blk;rw[hg,<-this]
def Xg{w:World}{base:Nat}{e:TypeId}{g n:Nat}{xs:Lb_}(h:Blk w g xs e)(hb:base<=g)(hn:xs.length=n)(hm:n<=maxLen):w.ownsRow base e 1 (.slice (some ⟨g,0,none⟩) n n) n xs:=by refine⟨by rw[hn,zbU],.inr ⟨g,n,xs.toArray,rfl,hb,h,zab _,hm,by simp[hn],?_⟩⟩;show xs.take (n*1)=xs;rw[zai ae]
def kW{P:Program}{w:World}{ops:Array Oper}{rest:List Oper}{o:Oper}{a:Act}{Q:Exit->Act->World->Prop}(t e:TypeId)(z:Value)(by':Nat)(n:Nat){l c:Operand}{kl kc:IntKind}{L C:Int}(hg:o.guard=none)(hop:o.op=Op.makeSlice t l c)(hl:a.eval l=.int kl L)(hc:a.eval c=.int kc C)(h1:P.underlying t=some (.slice e))(hi:(P.info? e).map (λi=>(i.zero,i.size,i.bytes))=some (some z,1,by'))(hz:z.cells=#[z])(hL:L=(n:Int))(hC:C=(n:Int))(b2:by'*n<=281474976710656)(b3:n<=maxLen)(k:∀w',Blk w' w.heap.size (zah n z) e->Below w.heap.size w w'->wpList P ops Q rest (a.put o.dst (.slice (some ⟨w.heap.size,0,none⟩) n n)) w'):wpList P ops Q (o::rest) a w:=by
 obtain⟨aS,aO,aT,aU,aV⟩:=info_parts hi;refine wpList_make_full w hg l c t hop w.heap.size e aS z 1 h1 aO aT aU kl kc L C n hl hc hL hC (by rw[aV];exact b2) b3 (zab _) (λw' hown hgrow=>?_);have aF:=(W5 hown).1;have ai:(madeCells z.cells (n*1)).toList=zah n z:=by
  rw[hz,zbU,toList_madeCells_one]
 rw[ai] at aF;exact k w' aF ((Below.refl w.heap.size w).grown hgrow (zab _) (λk h=>by cases h))
structure St(w0:World)(base:Nat)(w:World)(L:List (Nat×Lb_×TypeId)):Prop where
 zeu:base<=w0.heap.size
 bel:Below base w0 w
 all:∀e∈L,Blk w e.1 e.2.1 e.2.2
def St.start(w:World):St w w.heap.size w []:=⟨zab _,Below.refl _ _,λ_ h=>by cases h⟩
def St.get{w0 w:World}{base:Nat}{L:List (Nat×Lb_×TypeId)}(h:St w0 base w L)(i:Nat){b:Nat}{vs:Lb_}{ty:TypeId}(hi:L[i]? = some (b,vs,ty)):Blk w b vs ty:=h.all _ (zad hi)
def St.g0{w0 base w b vs ty l}(h:St w0 base w ((b,vs,ty)::l)):Blk w b vs ty:=h.get 0 rfl
def St.g1{w0 base w b vs ty l a0}(h:St w0 base w (a0::(b,vs,ty)::l)):Blk w b vs ty:=h.get 1 rfl
def St.g2{w0 base w b vs ty l a0 a1}(h:St w0 base w (a0::a1::(b,vs,ty)::l)):Blk w b vs ty:=h.get 2 rfl
def St.later{w0 w w':World}{base:Nat}{L:List (Nat×Lb_×TypeId)}(h:St w0 base w L)(hl:Below w.heap.size w w'):St w0 base w' L :=
 ⟨h.zeu,h.bel.trans (hl.mono (zat h.zeu h.bel.size)),λe he=>(h.all e he).below hl (h.all e he).lt⟩
def St.drew{w0 w:World}{base:Nat}{L:List (Nat×Lb_×TypeId)}(h:St w0 base w L):St w0 base w.drew L:=⟨h.zeu,h.bel.drew,λe he=>(h.all e he).drew⟩
def St.add{w0 w:World}{base:Nat}{L:List (Nat×Lb_×TypeId)}(h:St w0 base w L){b:Nat}{vs:Lb_}{ty:TypeId}(hb:Blk w b vs ty):St w0 base w ((b,vs,ty)::L) :=
 ⟨h.zeu,h.bel,λe he=>by
  rcases zau.1 he with rfl|he
  ·exact hb
  ·exact h.all e he⟩
def St.push{w0 w w':World}{base:Nat}{L:List (Nat×Lb_×TypeId)}(h:St w0 base w L){b:Nat}{vs:Lb_}{ty:TypeId}(hb:Blk w' b vs ty)(hl:Below w.heap.size w w'):St w0 base w' ((b,vs,ty)::L):=(h.later hl).add hb
def jH{α:Type}:∀(L:List α)(i j:Nat)(e:α),j≠i->L[j]? = some e->e∈L.eraseIdx i
 | [],_,_,_,_,h=>by simp at h
 | x::r,0,0,_,hne,_=>absurd rfl hne
 | x::r,0,j+1,e,_,h=>by rw[zbI] at h;exact zad h
 | x::r,i+1,0,e,_,h=>by simp at h;subst h;simp[List.eraseIdx]
 | x::r,i+1,j+1,e,hne,h=>by
  rw[zbI] at h;exact zaN _ (jH r i j e (λh=>hne (congrArg (·+1) h)) h)
def St.change{w0 w w':World}{base:Nat}{L:List (Nat×Lb_×TypeId)}(h:St w0 base w L)(i:Nat){b:Nat}{us:Lb_}{ty:TypeId}(hb:Blk w' b us ty)(ho:Only b w w')(hbase:base<=b)(hne:∀e∈L.eraseIdx i,e.1≠b):St w0 base w' (L.set i (b,us,ty)) :=
 ⟨h.zeu,zi h.bel ho hbase,λe he=>by
  obtain⟨j,hj⟩:=List.mem_iff_getElem?.1 he;rw[zbb] at hj;by_cases e1:i=j
  ·subst e1;rw[if_pos rfl] at hj;split at hj
   ·cases hj;exact hb
   ·cases hj
  ·rw[if_neg e1] at hj;exact(h.all e (zad hj)).only ho (hne e (jH _ _ _ _ (λh=>e1 h.symm) hj))⟩
def St.ne{w0 w:World}{base:Nat}{L:List (Nat×Lb_×TypeId)}(h:St w0 base w L):∀e∈L,e.1<w.heap.size:=λe he=>(h.all e he).lt
def St.size{w0 w:World}{base:Nat}{L:List (Nat×Lb_×TypeId)}(h:St w0 base w L):base<=w.heap.size:=zat h.zeu h.bel.size
def Blk.zd4{P:Program}{w:World}{b n:Nat}{vs:Lb_}{ty':TypeId}(h:Blk w b vs ty'){op:Oper}{a:Act}{K:Act->World->Prop}{Q:Exit->Act->World->Prop}{ty:TypeId}{x y:Operand}{cs:Lb_}(ho:op.op=.store ty x y)(hx:a.eval x=.pointer (some ⟨b,0,none⟩))(hy:a.eval y=.agg cs.toArray)(hr:Row P ty n)(hn:vs.length=n)(hc:cs.length=n)(h1:∀v∈cs,v.oneCell'=true)(k:∀w',Blk w' b cs ty'->Only b w w'->K (a.put op.dst undef) w'):op.wp P a w K Q:=by obtain⟨aN,aw,ah,aO⟩:=hr.open;refine wp_store_mid ty x y ho b 0 cs.toArray hx hy (h.there 0 _ (by rw[zbT];omega)) c8 (all_oneCell_toArray h1) ?_;exact k (w.setCells b 0 cs) (h.zhc ae) (Only.setCells b cs 0 w)
def Blk.zd8{P:Program}{w:World}{b i:Nat}{vs:Lb_}{ty':TypeId}(h:Blk w b vs ty'){op:Oper}{a:Act}{K:Act->World->Prop}{Q:Exit->Act->World->Prop}{ty:TypeId}{x y:Operand}{v:Value}(ho:op.op=.store ty x y)(hx:a.eval x=.pointer (some ⟨b,i,none⟩))(hy:a.eval y=v)(hs:(P.info? ty).map (·.size)=some 1)(hv:v.cells=#[v])(h1:v.oneCell'=true)(hi:i<vs.length)(k:∀w',Blk w' b (vs.set i v) ty'->Only b w w'->K (a.put op.dst undef) w'):op.wp P a w K Q:=by
 have aQ:=k _ (h.set i v) (Only.setCell w ⟨b,i,none⟩ v);have aP:=run_storeCells_cells (P:=P) b i [v] 0 w (λj hj=>by
   have:j=0:=by simpa using hj
   subst this;have:=((h.there i 1 ae) 0 ae).1;simpa using this) (λj _=>h.free _) (by simpa using h1)
 cases hq:P.info? ty with
 | none=>rw[hq] at hs;cases hs
 | some t =>
  have aW:t.size=1:=c9;unfold Oper.wp;simp only[zci,World.setCells] at aP;simp[execOp,ho,hx,hy,Instr.storeAt,Instr.sureAddr,storeVar,sizeOf,typeInfo,hq,aW,hv,aP];exact aQ
def Blk.zeV{P:Program}{w:World}{g:Nat}{cur:Lb_}{t:TypeId}(h:Blk w g cur t){o:Oper}{a:Act}{K:Act->World->Prop}{Q:Exit->Act->World->Prop}{d s:Operand}{dT sT elem:TypeId}{dp sp:OA}{dLen dCap sLen sCap:Nat}(off:Nat)(cs:Lb_)(ho:o.op=.call { callee:=.builtin .copy,args:=#[d,s],argTypes:=#[dT,sT] })(hd:a.eval d=.slice dp dLen dCap)(hs:a.eval s=.slice sp sLen sCap)(hu:P.underlying dT=some (.slice elem))(hsz:(P.info? elem).map (·.size)=some 1)(hdp:0<cs.length->dp=some ⟨g,off,none⟩)(hsrc:zr w sp cs)(hn:cs.length=zmp sLen dLen)(hfit:off+cs.length<=cur.length)(h1:∀v∈cs,v.oneCell'=true)(k:∀w',Blk w' g (splice cur off cs) t->Only g w w'->K (a.put o.dst (goInt cs.length)) w'):o.wp P a w K Q:=by
 by_cases ag:cs.length=0
 ·obtain rfl:cs=[]:=zaI ag;have aP:=run_copy_none (P:=P) w dT sT o.type elem dp sp dLen dCap sLen sCap hu hsz (by simpa using hn.symm);unfold Oper.wp;refine akl ?_;exact k w (by simpa[splice] using h) (Only.refl _ _)
 ·obtain rfl:=hdp ae;obtain⟨ax,ay,rfl,_,az⟩:=hsrc.at (by intro ai;simp[ai] at ag);have aP:=run_copy_cells (P:=P) w dT sT o.type elem g off dLen dCap ⟨ax,ay,none⟩ sLen sCap cs hu hsz hn (λj v hv=>by rw[add_eq];exact az j v hv)
   (λj hj=>((h.there off cs.length hfit) j hj).1) (λj hj=>h.free _) h1
  unfold Oper.wp;refine akl ?_;refine k _ ?_ (Only.setCells g cs off w);have:=Blk.setCells cs cur off w hfit h
  rwa [zal] at this
def Blk.result{P:Program}{w:World}{b n:Nat}{vs:Lb_}{ty':TypeId}(h:Blk w b vs ty'){fn:Func}{R:Ending->World->Prop}{a:Act}{p:Tmp}{ty:TypeId}(hf:fn.results=#[.cell p ty])(hd:a.defers=[])(hp:a.tmps.getD p undef=.pointer (some ⟨b,0,none⟩))(hr:Row P ty n)(hn:vs.length=n)(k:R (.returned (.agg vs.toArray)) w):bodyPost P fn R .ret a w:=by obtain⟨aN,aw,ah,aO⟩:=hr.open;exact bodyPost_ret (results_cell_row hf _ _ _ _ _ _ _ hp h aw cc (by rw[aO];simp[hn])) hd k
def xz{P:Program}(w:World)(t e:TypeId)(n:Nat)(ht:P.underlying t=some (.array n e))(hs:(P.info? e).map (·.size)=some 1)(b o lo:Nat)(i:Int)(hi:i=lo)(h:lo<n):(Instr.sliceAt t (.pointer (some ⟨b,o,none⟩)) (some (.int .i64 i)) none none).run P w=.ok (.slice (some ⟨b,o+lo,none⟩) (n-lo) (n-lo)) w:=by
 subst hi;cases hq:P.info? e with
 | none=>rw[hq] at hs;cases hs
 | some x =>
  have aH:x.size=1:=c9;have aT:(sizeOf e).run P w=.ok 1 w:=by simp[sizeOf,typeInfo,hq,aH]
  have aX:n≠lo:=ae;simp[Instr.sliceAt,run_underlying ht,Instr.sureAddr,Instr.sliceBounds,Instr.sliceBound,asIntOf,aT,show lo<=n by omega,aX,add_eq]
def qn{P:Program}(w:World)(t e:TypeId)(n:Nat)(cs:Array Value)(k:IntKind)(i:Nat)(v:Value)(ht:P.underlying t=some (.array n e))(he:(P.underlying e).map (·.isRow)=some false)(hs:(P.info? e).map (·.size)=some 1)(hi:cs[i]? = some v)(hlt:i<n):(Instr.index t (.agg cs) (.int k (i:Int))).run P w=.ok v w:=by
 cases hq:P.info? e with
 | none=>rw[hq] at hs;cases hs
 | some x =>
  have aH:x.size=1:=c9;cases hd:P.underlying e with
  | none=>rw[hd] at he;cases he
  | some d =>
   have aY:(isAgg e).run P w=.ok false w:=by
    unfold isAgg;rw[Sem.run_bind,run_underlying hd w];rw[hd] at he;cases d<;>simp_all[TypeDesc.isRow]
   simp[Instr.index,asIntOf,run_underlying ht,hlt,sizeOf,typeInfo,hq,aH,part,aY,hi]
def at8(b:La_)(i:Nat):UInt8:=b.getD i 0
def X6(f:Nat->UInt8):Nat->UInt64
 | 0=>0
 | k+1=>ZX (X6 f k) (xN (KH (f k)) (8*k))
def zeE(b:La_)(at':Nat):UInt64:=X6 (λk=>at8 b (at'+k)) 8
def xv(b:La_)(at':Nat):UInt32:=xy (X6 (λk=>at8 b (at'+k)) 4)
def zeb(n:UInt32):La_:=(zax 4).map λk=>KG (kU n (8*k))
def zw(n:UInt64):La_:=(zax 8).map λk=>KI (yG n (8*k))
def block(b:La_):La_:=(zax 16).map λk=>at8 b k
def a0u(a b:La_):La_:=(zax (min a.length b.length)).map λi=>yj (at8 a i) (at8 b i)
def wW(n size:Nat):Nat:=(size-n%size)%size
def jM(b:La_)(size:Nat):La_:=b++zah (wW b.length size) 0
def kz(b:La_)(mark:UInt8)(size:Nat):La_:=jM (b++[mark]) size
def zg(n:Nat):La_:=zah n 0
def ze(n:Nat):(zg n).length=n:=by simp[zg]
def yX(n:UInt32):(zeb n).length=4:=by simp[zeb]
def zy(n:UInt64):(zw n).length=8:=by simp[zw]
def zI(b:La_):(block b).length=16:=by simp[block]
def a00(a b:La_):(a0u a b).length=min a.length b.length:=by simp[a0u]
def yv{α:Type}(f:Nat->α)(n k:Nat)(l:List α):Prop:=l.length=n/\∀i,i<k->l[i]? = some (f i)
def yv.zero{α:Type}{f:Nat->α}{n:Nat}{l:List α}(h:l.length=n):yv f n 0 l:=⟨h,λi hi=>absurd hi ae⟩
def yv.step{α:Type}{f:Nat->α}{n k:Nat}{l:List α}(h:yv f n k l)(hk:k<n):yv f n (k+1) (l.set k (f k)):=by
 refine⟨by simpa using h.1,λi hi=>?_⟩;rw[zbb];by_cases ai:k=i
 ·subst ai;simp[h.1,hk]
 ·rw[if_neg ai];exact h.2 i ae
def yv.all{α:Type}{f:Nat->α}{n:Nat}{l:List α}(h:yv f n n l):l=(zax n).map f:=by
 apply zaK;intro aS;by_cases aO:aS<n
 ·rw[h.2 aS aO];simp[aO]
 ·rw[zaf cn,zaf bq]
def yv.at{α:Type}{f:Nat->α}{n k:Nat}{l:List α}(h:yv f n k l){i:Nat}(hi:i<n):∃x,l[i]? = some x:=⟨l[i]' cn,ab⟩
def zeg{b:La_}{i:Nat}{x:UInt8}(h:b[i]? = some x):at8 b i=x:=by simp[at8,zbx,h]
def Jj{b:La_}{i:Nat}(h:b.length<=i):at8 b i=0:=by simp[at8,zbx,h]
def a01{b:La_}{i:Nat}(h:i<b.length):b[i]? = some (at8 b i):=by simp[at8,zbx,h]
def yv.splice{α:Type}{f:Nat->α}{n k m:Nat}{l cs:List α}(h:yv f n k l)(hm:k+m<=n)(hc:cs.length=m)(hcs:∀j,j<m->cs[j]? = some (f (k+j))):yv f n (k+m) (splice l k cs):=by
 have aR:=h.1;refine⟨by rw[length_splice _ _ _ (by omega)];exact aR,λi hi=>?_⟩;unfold Go.splice;by_cases ag:i<k
 ·rw[zbC cr,zmk ag];exact h.2 i ag
 ·rw[za6 cr,zam,zbF ae,zbC ae,hcs _ ae];congr 2;omega
def qN{α β:Type}(g:α->β)(l cs:List α)(k:Nat):Go.splice (l.map g) k (cs.map g)=(Go.splice l k cs).map g:=by simp[Go.splice]
def dbl(a:UInt8):UInt8:=yj (kT a 1) (Vd (zeR a 7) 27)
def Xh:Nat->UInt8->UInt8->UInt8->UInt8
 | 0,_,_,s=>s
 | n+1,a,b,s=>if b=0 then s else Xh n (dbl a) (zeR b 1) (yj s (Vd a (zeX b 1)))
def times(a b:UInt8):UInt8:=Xh 8 a b 0
def gI(n:Nat)(a s:UInt8):Xh n a 0 s=s:=by cases n<;>simp[Xh]
def Hv(b:UInt8)(k:Nat)(h:b.toNat<2^(k+1)):(zeR b 1).toNat<2^k:=by have:=lt8 b;unfold zeR;rw[zaO bw];rw[Nat.pow_succ] at h;omega
def da{b:UInt8}(h:b.toNat=0):b=0:=UInt8.toNat_inj.1 cw
def rot8(x:UInt8)(k:Nat):UInt8:=or8 (kT x k) (zeR x (8-k))
def DK(i:UInt8):Nat->UInt8
 | 0=>99
 | k+1=>yj (DK i k) (rot8 i k)
def box(i:UInt8):UInt8:=DK i 5
def ziq(l:La_)(a b:UInt8):La_:=(l.set a.toNat b).set (256+b.toNat) a
def X7:Nat->UInt8
 | 0=>1
 | k+1=>yj (X7 k) (dbl (X7 k))
def X8:Nat->La_
 | 0=>ziq (zg 512) 0 (box 0)
 | k+1=>ziq (X8 k) (X7 k) (box (X7 ((255-k)%255)))
def a0s:La_:=X8 255
def VU(l:La_)(a b:UInt8):(ziq l a b).length=l.length:=by simp[ziq]
def Kh(k:Nat):(X8 k).length=512:=by
 induction k with
 | zero=>rw[X8,VU,ze]
 | succ k ih=>rw[X8,VU,ih]
def j4:a0s.length=512:=Kh 255
def xk(l:List UInt32)(i:Nat):UInt32:=l.getD i 0
def kX{l:List UInt32}{i:Nat}(h:i<l.length):l[i]? = some (xk l i):=by simp[xk,zbx,h]
def a0q:La_:=[2,3,1,1]
def a0r:La_:=[14,11,13,9]
def X9(by':La_)(row:Nat)(a:UInt8):Nat->UInt32
 | 0=>0
 | r+1=>Q9 (X9 by' row a r) (qm (xu (times (at8 by' ((row+4-r)%4)) a)) (8*r))
def KJ(by':La_)(row:Nat)(a:UInt8):UInt32:=X9 by' row a 4
def yu(row column:Nat):Nat:=row+4*((column+row)%4)
def both(a b:La_):La_:=(zax 16).map λi=>yj (at8 a i) (at8 b i)
def entry(T:La_)(i:Nat):UInt32 :=
 if i<1024 then KJ a0q (i/256) (at8 T (i%256)) else KJ a0r ((i-1024)/256) (zaq (i%256))
def entries(T:La_):List UInt32:=(zax 2048).map (entry T)
def Laid(T:La_)(k:Nat)(l:List UInt32):Prop:=l.length=2048/\∀i,i<k->l[i]? = some (entry T i)/\l[1024+i]? = some (entry T (1024+i))
def Laid.zero{T:La_}{l:List UInt32}(h:l.length=2048):Laid T 0 l:=⟨h,λi hi=>absurd hi ae⟩
def Laid.step{T:La_}{k:Nat}{l:List UInt32}(h:Laid T k l)(hk:k<1024):Laid T (k+1) ((l.set k (entry T k)).set (1024+k) (entry T (1024+k))):=by
 refine⟨by simpa using h.1,λi hi=>?_⟩;have aR:=h.1;by_cases ai:i=k
 ·subst ai;constructor
  ·rw[zaX ae,zbe ae]
  ·rw[zbe (by rw[zav];omega)]
 ·obtain⟨ag,aM⟩:=h.2 i ae;constructor
  ·rw[zaX ae,zaX ae];exact ag
  ·rw[zaX ae,zaX ae];exact aM
def Laid.all{T:La_}{l:List UInt32}(h:Laid T 1024 l):l=entries T:=by
 apply zaK;intro aS;by_cases aO:aS<1024
 ·rw[(h.2 aS aO).1];simp[entries,show aS<2048 by omega]
 ·by_cases aO:aS<2048
  ·have:=(h.2 (aS-1024) ae).2;rw[show 1024+(aS-1024)=aS by omega] at this;rw[this];simp[entries,aO]
  ·rw[zaf cn,zaf (by simp[entries];omega)]
def Qa(T:La_):(entries T).length=2048:=by simp[entries]
def Laid.at{T:La_}{k:Nat}{l:List UInt32}(h:Laid T k l){i:Nat}(hi:i<2048):∃x,l[i]? = some x:=⟨l[i]' cn,ab⟩
def a0t(r:Nat)(x:UInt8):UInt32:=xk (entries a0s) (256*r+x.toNat)
def zg2(r:Nat)(x:UInt8):UInt32:=xk (entries a0s) (1024+256*r+x.toNat)
def a02(b key:La_)(c:Nat):Nat->UInt32
 | 0=>xv key (4*c)
 | r+1=>xD (a02 b key c r) (a0t r (at8 b (yu r c)))
def Xi(b key:La_)(i:Nat):UInt8:=at8 (zeb (a02 b key (i/4) 4)) (i%4)
def round(b key:La_):La_:=(zax 16).map (Xi b key)
def sO(b key:La_)(k j:Nat)(hj:j<4):(zeb (a02 b key k 4))[j]? = some (Xi b key (4*k+j)):=by unfold Xi;exact asL
def Xj(b:La_)(i:Nat):UInt8:=at8 a0s (at8 b (yu (i%4) (i/4))).toNat
def last(b key:La_):La_:=both ((zax 16).map (Xj b)) key
def jT(b:La_)(i:Nat):UInt8:=at8 a0s (256+(at8 b (i%4+4*((i/4+4-i%4)%4))).toNat)
def qY(b:La_):La_:=(zax 16).map (jT b)
def q6(b:La_)(c:Nat):Nat->UInt32
 | 0=>0
 | r+1=>xD (q6 b c r) (zg2 r (at8 b (r+4*c)))
def qH(b:La_)(i:Nat):UInt8:=at8 (zeb (q6 b (i/4) 4)) (i%4)
def gJ(b:La_)(k j:Nat)(hj:j<4):(zeb (q6 b k 4))[j]? = some (qH b (4*k+j)):=by unfold qH;exact asL
def Zb(b key:La_):La_:=qY ((zax 16).map (qH (both b key)))
def wO(b key:La_):La_:=qY (both b key)
def rounds(b:La_)(keys:List (La_)):La_:=keys.foldl round b
def zK(a b:La_):(both a b).length=16:=by simp[both]
def Zc(b key:La_):(round b key).length=16:=by simp[round]
def mR(b key:La_):(last b key).length=16:=by simp[last,both]
def q7(b:La_):(qY b).length=16:=by simp[qY]
def j5(b key:La_):(Zb b key).length=16:=by simp[Zb,qY]
def vZ(b key:La_):(wO b key).length=16:=by simp[wO,qY]
section
variable{P:Program}{w:World}
def Vs(base:Nat)(t ty e:TypeId)(i:TypeInfo)(size:Nat)(ht:P.underlying t=some (.slice e))(hi:P.info? e=some i)(v:Value)(n:Nat)(xs:Lb_)(hown:w.ownsRow base e size v n xs)(ao:OA)(c:Nat):(Builtin.append_ #[t,t] ty #[v,.slice ao 0 c]).run P w=.ok v w:=by
 rcases hown.2 with⟨rfl,rfl⟩|⟨g,cap,cur,rfl,_,_,hnc,_⟩
 ·cases ao<;>simp[Builtin.append_,run_underlying ht,sizeOf,typeInfo,hi,Builtin.lenOf,Builtin.firstCells,loadCells,loadCellsFrom]
 ·cases ao<;>simp[Builtin.append_,run_underlying ht,sizeOf,typeInfo,hi,Builtin.lenOf,Builtin.firstCells,hnc,storeCells,loadCells,loadCellsFrom]
def uN(t ty:TypeId)(base:Nat)(e:TypeId)(i:TypeInfo)(z:Value)(bytes:Nat)(ht:P.underlying t=some (.slice e))(hi:P.info? e=some i)(hz:i.zero=some z)(hsize:i.size=1)(hby:i.bytes=bytes)(hzs:z.cells.size=1)(v:Value)(n:Nat)(xs:Lb_)(hown:w.ownsRow base e 1 v n xs)(ao:OA)(m c:Nat)(news:Lb_)(hl:news.length=m)(hlies:zr w ao news)(h1:∀u∈news,u.oneCell'=true)(h63:n+m<=maxLen)(hbytes:(n+m)*bytes<=140737488355328)(hbase:base<=w.heap.size):∃v' w',(Builtin.append_ #[t,t] ty #[v,.slice ao m c]).run P w=.ok v' w'/\w'.ownsRow base e 1 v' (n+m) (xs++news)/\w.grownBy w' v.ownBlock:=by
 by_cases eh:m=0
 ·subst eh;obtain rfl:news=[]:=zaI hl;exact⟨v,w,Vs base t ty e i 1 ht hi v n xs hown ao c,by simpa using hown,World.grownBy.refl _ _⟩
 ·have aX:news≠[]:=by rintro rfl;simp at hl;omega
  obtain⟨ax,ay,rfl,_,az⟩:=hlies.at aX;obtain⟨ie,oF,w',eI,oE,oG,_,_⟩:=run_append_lies w t ty base e i z 1 bytes ht hi hz hsize hby hzs bd v n xs hown ⟨ax,ay,none⟩ m c news ae hlies.news h1 ae h63 hbytes hbase _ rfl;exact⟨_,w',eI,oE,oG⟩
def qO{o:Oper}{a:Act}{K:Act->World->Prop}{Q:Exit->Act->World->Prop}(s x:Operand)(t:TypeId)(ho:o.op=.call { callee:=.builtin .append,args:=#[s,x],argTypes:=#[t,t] })(base:Nat)(e:TypeId)(i:TypeInfo)(z:Value)(bytes:Nat)(ht:P.underlying t=some (.slice e))(hi:P.info? e=some i)(hz:i.zero=some z)(hsize:i.size=1)(hby:i.bytes=bytes)(hzs:z.cells.size=1)(v:Value)(n:Nat)(xs:Lb_)(hs:a.eval s=v)(hown:w.ownsRow base e 1 v n xs)(ao:OA)(m c:Nat)(news:Lb_)(hx:a.eval x=.slice ao m c)(hl:news.length=m)(hlies:zr w ao news)(h1:∀u∈news,u.oneCell'=true)(h63:n+m<=maxLen)(hbytes:(n+m)*bytes<=140737488355328)(hbase:base<=w.heap.size)(h:∀v' w',w'.ownsRow base e 1 v' (n+m) (xs++news)->w.grownBy w' v.ownBlock->K (a.put o.dst v') w'):o.wp P a w K Q:=by obtain⟨v',w',aP,ag,aM⟩:=uN (P:=P) t o.type base e i z bytes ht hi hz hsize hby hzs v n xs hown ao m c news hl hlies h1 h63 hbytes hbase;unfold Oper.wp;simp[execOp,ho,resolve,invoke,builtin,hs,hx,aP,Result.andThen];exact h _ _ ag aM
def z8{ops:Array Oper}{rest:List Oper}{o:Oper}{a:Act}{Q:Exit->Act->World->Prop}(hgd:o.guard=none)(s x:Operand)(t:TypeId)(ho:o.op=.call { callee:=.builtin .append,args:=#[s,x],argTypes:=#[t,t] })(base:Nat)(e:TypeId)(i:TypeInfo)(z:Value)(bytes:Nat)(ht:P.underlying t=some (.slice e))(hi:P.info? e=some i)(hz:i.zero=some z)(hsize:i.size=1)(hby:i.bytes=bytes)(hzs:z.cells.size=1)(v:Value)(n:Nat)(xs:Lb_)(hs:a.eval s=v)(hown:w.ownsRow base e 1 v n xs)(ao:OA)(m c:Nat)(news:Lb_)(hx:a.eval x=.slice ao m c)(hl:news.length=m)(hlies:zr w ao news)(h1:∀u∈news,u.oneCell'=true)(h63:n+m<=maxLen)(hbytes:(n+m)*bytes<=140737488355328)(hbase:base<=w.heap.size)(h:∀v' w',w'.ownsRow base e 1 v' (n+m) (xs++news)->w.grownBy w' v.ownBlock->wpList P ops Q rest (a.put o.dst v') w'):wpList P ops Q (o::rest) a w :=
 wpList_plain hgd λ_ hK=>qO s x t ho base e i z bytes ht hi hz hsize hby hzs v n xs hs hown ao m c news hx hl hlies h1 h63 hbytes hbase λv' w' h2 h3=>hK _ _ (h v' w' h2 h3)
def zU{B:Nat}{a w':World}{base:Nat}{e:TypeId}{size:Nat}{v:Value}{n:Nat}{xs:Lb_}(h:Below B a w)(hown:w.ownsRow base e size v n xs)(hg:w.grownBy w' v.ownBlock)(hb:B<=base)(hB:B<=w.heap.size):Below B a w' :=
 h.grown hg hB (λk hk=>zat hb (hown.lt k hk).1)
def zo{w w':World}{base:Nat}{e:TypeId}{size:Nat}{v:Value}{n:Nat}{xs:Lb_}(h:w.ownsRow base e size v n xs)(hb:Below w.heap.size w w'):w'.ownsRow base e size v n xs:=by refine⟨h.1,h.2.imp id ?_⟩;rintro⟨ie,oF,oH,aL,oG,oI,oJ⟩;exact⟨ie,oF,oH,aL,oG,by rw[hb.block ie (zaQ.1 oI).1];exact oI,oJ⟩
def vm(w:World)(base:Nat)(e:TypeId)(size:Nat):w.ownsRow base e size (.slice none 0 0) 0 []:=⟨ab,.inl ⟨rfl,rfl⟩⟩
def wG(xs:La_):∀u∈xs.map B,u.oneCell'=true:=by intro u aw;simp only[zaz] at aw;obtain⟨ef,_,rfl⟩:=aw;rfl
end
structure Cmd where
 kind:Int
 a:Int
 n:Int
 m:Int
 key:La_
 b:La_
 name:La_
def jZ:Row pgm 70 4:=⟨e0,e0⟩
def qI:Row pgm 161 8:=⟨e0,e0⟩
def zd:Row pgm 144 16:=⟨e0,e0⟩
def zl:(pgm.info? 144).map (·.zero)=some (some (.agg ((zg 16).map B).toArray)):=e0
def kG:(pgm.info? 161).map (·.zero)=some (some (.agg ((zg 8).map B).toArray)):=e0
def KY:(pgm.info? 70).map (·.zero)=some (some (.agg ((zg 4).map B).toArray)):=e0
def zm:(pgm.info? 5).map (·.size)=some 1:=e0
def Xw(n:UInt32)(w:World):C_b 119 #[W n] w (.agg ((zeb n).map B).toArray):=by
 go_enter func119,ntmps119;go_wp2;go_loopw [5] (λi wr=>∃(j:Nat)(l:La_),j<=4/\i=.int .i64 j/\yv (λk=>KG (kU n (8*k))) 4 j l/\Blk wr w.heap.size ([0,0,0,0].map B) 70/\Blk wr (w.heap.size+1) (l.map B) 70/\Below w.heap.size w wr)
  (λi _=>4-(intOf i).toNat)
 case atStart =>
  have ag:=Blk.new (w.alloc (.cells #[.int .u8 0,.int .u8 0,.int .u8 0,.int .u8 0] 70)) ([0,0,0,0].map B) 70;simp at ag;exact⟨0,[0,0,0,0],ae,rfl,yv.zero rfl,(Blk.new w ([0,0,0,0].map B) 70).alloc _,ag,((Below.refl _ _).alloc (zab _) _).alloc ab _⟩
 case round =>
  obtain⟨j,l,aA,rfl,oY,oZ,aF,sy⟩:=hrel;by_cases aB:j<4
  ·exact amu
  ·obtain rfl:j=4:=ae;refine ajJ aF oZ oY ?_;intro uX uY A0;clear oZ oY;go_wp2_with (first|(refine uX.zdS rfl rfl rfl jZ e6 ?_)|(refine uY.zdP rfl rfl rfl rfl jZ rfl e6 (zj _) ?_));intro A4 aF oE;go_wp2;refine aF.result rfl rfl rfl jZ e6 ?_;rw[A0.all];exact⟨rfl,zi sy oE (zab _)⟩
def qj(n:UInt64)(w:World):C_b 89 #[L n] w (.agg ((zw n).map B).toArray):=by
 go_enter func89,ntmps89;go_wp2;go_loopw [5] (λi wr=>∃(j:Nat)(l:La_),j<=8/\i=.int .i64 j/\yv (λk=>KI (yG n (8*k))) 8 j l/\Blk wr w.heap.size ([0,0,0,0,0,0,0,0].map B) 161/\Blk wr (w.heap.size+1) (l.map B) 161/\Below w.heap.size w wr)
  (λi _=>8-(intOf i).toNat)
 case atStart =>
  have ag:=Blk.new (w.alloc (.cells ([0,0,0,0,0,0,0,0].map B).toArray 161)) ([0,0,0,0,0,0,0,0].map B) 161;simp at ag;exact⟨0,[0,0,0,0,0,0,0,0],ae,rfl,yv.zero rfl,(Blk.new w ([0,0,0,0,0,0,0,0].map B) 161).alloc _,ag,((Below.refl _ _).alloc (zab _) _).alloc ab _⟩
 case round =>
  obtain⟨j,l,aA,rfl,oY,oZ,aF,sy⟩:=hrel;by_cases aB:j<8
  ·exact amu
  ·obtain rfl:j=8:=ae;refine ajJ aF oZ oY ?_;intro uX uY A0;clear oZ oY;go_wp2_with (first|(refine uX.zdS rfl rfl rfl qI e6 ?_)|(refine uY.zdP rfl rfl rfl rfl qI rfl e6 (zj _) ?_));intro A4 aF oE;go_wp2;refine aF.result rfl rfl rfl qI e6 ?_;rw[A0.all];exact⟨rfl,zi sy oE (zab _)⟩
def Ff(w:World)(c1 c2:Nat)(at':Nat)(ao:OA)(len cap:Nat):Prop :=
 w.cell? ⟨c1,0,none⟩=some (.int .i64 at')/\w.cell? ⟨c2,0,none⟩=some (.slice ao len cap)
def La(c1 c2:Nat)(ao:OA)(len cap at' k:Nat)(bs:La_)(w:World)(hlen:bs.length=len)(hb:at'<=1099511627776)(hk:k<=1099511627776)(hc:len<=1099511627776)(hl:zr w ao (bs.map B))(ht:Ff w c1 c2 at' ao len cap):C_e 169 #[.int .i64 k,pa_ c1,pa_ c2] w (B (at8 bs (at'+k))):=by
 obtain⟨ag,aM⟩:=ht;by_cases aB:at'+k<len
 ·have aH:bs[at'+k]? = some (at8 bs (at'+k)):=a01 ae;generalize at8 bs (at'+k)=ef at*;obtain⟨ax,ay,rfl,A1⟩:=hl _ _ (zX aH);clear hl hlen aH;have aW:decide ((at':Int)>(len:Int)-1-k)=false:=bq;go_enter func169,ntmps169;exact aeJ
 ·have aH:at8 bs (at'+k)=0:=Jj ae;rw[aH];clear hl aH hlen;go_enter func169,ntmps169;exact aeJ
def fG(many:Nat)(c1 c2:Nat)(ao:OA)(len cap at':Nat)(bs:La_)(w:World)(hm:many<=8)(hlen:bs.length=len)(hb:at'<=1099511627776)(hc:len<=1099511627776)(hl:zr w ao (bs.map B))(ht:Ff w c1 c2 at' ao len cap):C_e 141 #[.int .i64 many,.func (.func 169) #[] #[.pointer (some ⟨c1,0,none⟩),.pointer (some ⟨c2,0,none⟩)]] w (L (X6 (λk=>at8 bs (at'+k)) many)):=by
 refine ajJ hlen hl ht ?_;intro A2 A0 A3;clear hlen hl ht;go_enter func141,ntmps141;go_wp2;go_loopw [5,8] (λn i wr=>∃j:Nat,j<=many/\i=.int .i64 j/\n=L (X6 (λk=>at8 bs (at'+k)) j)/\w=wr) (λ_ i _=>many-(intOf i).toNat);case atStart=>exact⟨0,zcr _,rfl,rfl,rfl⟩
 case round =>
  obtain⟨j,aA,rfl,rfl,rfl⟩:=hrel;by_cases aB:j<many
  ·go_wp2_with fail;refine(La c1 c2 ao len cap at' j bs _ A2 hb ae hc A0 A3).mono ?_;rintro ai A4⟨rfl,rfl⟩;go_wp2;go_roundw;case rel=>exact⟨j+1,ae,rfl,rfl,e7⟩
   case measure=>simp[intOf];omega
  ·obtain rfl:j=many:=by omega
   exact ahv
def fH(ao:OA)(len cap at':Nat)(w:World):Ca_ 142 #[.slice ao len cap,.int .i64 at'] w λe w'=>∃c1 c2,e=.returned (.func (.func 169) #[] #[.pointer (some ⟨c1,0,none⟩),.pointer (some ⟨c2,0,none⟩)])/\Ff w' c1 c2 at' ao len cap/\Below w.heap.size w w':=by go_enter func142,ntmps142;go_wp2;go_ret;exact⟨_,_,rfl,⟨ab,ab⟩,((Below.refl _ _).alloc (zab _) _).alloc ab _⟩
def vt(ao:OA)(len cap at':Nat)(bs:La_)(w:World)(hlen:bs.length=len)(hb:at'<=1099511627776)(hc:len<=1099511627776)(hl:zr w ao (bs.map B)):C_b 120 #[.slice ao len cap,.int .i64 at'] w (W (xv bs at')):=by have A2:=zc hlen;have A0:=zc hl;clear hlen hl;go_enter func120,ntmps120;go_wp2_with fail;refine(fH _ _ _ _ _).mono ?_;rintro ai A4⟨iy,A5,rfl,aW,sy⟩;have A3:=zc aW;clear aW;go_wp2_with fail;refine(fG 4 iy A5 ao len cap at' bs _ ae A2 hb hc (A0.below sy) A3).mono ?_;rintro ai A4⟨rfl,rfl⟩;go_wp2;go_ret;exact ak9 sy
def lv(ao:OA)(len cap at':Nat)(bs:La_)(w:World)(hlen:bs.length=len)(hb:at'<=1099511627776)(hc:len<=1099511627776)(hl:zr w ao (bs.map B)):C_b 185 #[.slice ao len cap,.int .i64 at'] w (L (zeE bs at')):=by have A2:=zc hlen;have A0:=zc hl;clear hlen hl;go_enter func185,ntmps185;go_wp2_with fail;refine(fH _ _ _ _ _).mono ?_;rintro ai A4⟨iy,A5,rfl,aW,sy⟩;have A3:=zc aW;clear aW;go_wp2_with fail;refine(fG 8 iy A5 ao len cap at' bs _ ae A2 hb hc (A0.below sy) A3).mono ?_;rintro ai A4⟨rfl,rfl⟩;go_wp2;go_ret;exact ak9 sy
section
attribute [local irreducible] zA zG zH
def zv:Row pgm 146 2:=⟨e0,e0⟩
def z4:(pgm.info? 146).map (·.zero)=some (some (.agg #[L 0,L 0])):=e0
def QW(ao:OA)(len cap:Nat)(bs:La_)(w:World)(hlen:bs.length=len)(hc:len<=1099511627776)(hl:zr w ao (bs.map B)):C_b 221 #[.slice ao len cap] w (.agg #[L (zeE bs 0),L (zeE bs 8)]):=by have A2:=zc hlen;have A0:=zc hl;clear hlen hl;go_enter func221,ntmps221;go_wp2_with (refine aqA ?_);intro A4 aF sy;have uX:=zc aF;go_wp2_with fail;refine(lv ao len cap 0 bs _ A2 ae hc (A0.below sy)).mono ?_;rintro ai A4⟨rfl,Es⟩;go_wp2_with fail;refine(lv ao len cap 8 bs _ A2 ae hc (A0.below (sy.trans (Es.mono sy.size)))).mono ?_;rintro ai A4⟨rfl,Et⟩;have aF:=(uX.below Es uX.lt).below Et (za1 uX.lt Es.size);have uX:=zc aF;clear aF;go_wp2_with (refine uX.zdP rfl rfl rfl (cs:=[L (zeE bs 0),L (zeE bs 8)]) rfl zv rfl rfl eu ?_);intro A4 aF oE;go_wp2;refine aF.result rfl rfl rfl zv rfl ⟨rfl,?_⟩;exact zi ((sy.trans (Es.mono sy.size)).trans (Et.mono (zat sy.size Es.size))) oE (zab _)
def jA(lo hi:UInt64)(w:World):C_b 83 #[.agg #[L lo,L hi]] w (.agg ((zw lo++zw hi).map B).toArray):=by
 go_enter func83,ntmps83;go_wp2_with (refine zh 146 (.tmp 0) [L lo,L hi] _ rfl rfl rfl rfl ?_);intro A4 aF Eu;go_wp2_with (refine aqB ?_);intro Ev Ew Et;go_wp2_with (refine aqB ?_);intro w3 Ex Ey;have Ez:=((aF.below Et aF.lt).below Ey (za1 aF.lt Et.size)).drew;have az:=λ(x:zL w3.drew)=>(Ez.below x.later Ez.lt).cell 0 (L lo) rfl;have AV:=λ(x:zL w3.drew)=>(Ez.below x.later Ez.lt).cell 1 (L hi) rfl;have uX:=zc (Ew.below Ey Ew.lt);have EB:=zc Ex;have aB:=za1 aF.lt (zab A4.heap.size);have aB:=Ew.lt;have aB:=Ex.lt;have EC:=ha_ (Below w.heap.size w w3) ((Eu.trans (Et.mono Eu.size)).trans (Ey.mono (zat Eu.size Et.size)));clear Ez Eu Et Ey;go_wp2_with fail;refine xq [0,1,3,4] [2,5] [8,9] [zT.var 6 4 161 ((zg 8).map B),zT.var 7 5 161 ((zg 8).map B)] e0 e0 ?_;rintro A4 rfl;refine mq0 ?_;refine xF ⟨?_,?_,zab _⟩
 ·intro ib eP;simp at eP;rcases eP with rfl|rfl
  ·exact qk _ _ _ _ _ _ rfl rfl rfl rfl ab kG rfl
  ·exact qk _ _ _ _ _ _ rfl rfl rfl rfl ab kG rfl
 clear az AV;refine kA rfl rfl (λu v w5 hl5 K hK=>?_);go_simp;refine(qj lo w5).mono ?_;rintro ai A4⟨rfl,ED⟩;refine amM ?_;clear hK K;refine kA rfl rfl (λu v w7 hl7 K hK=>?_);go_simp;refine(qj hi w7).mono ?_;rintro ai A4⟨rfl,Eu⟩;go_simp;refine hK _ _ Eu ?_;clear hK K;refine K0 (λn m w9 hl9 hn hm hnm hbn hbm=>?_);go_simp;have aR:=(((hl5.trans ED).trans hl7).trans Eu).trans hl9;have uX:=zc (uX.drew.below aR uX.lt);have EB:=zc (EB.drew.below aR EB.lt);have EE:=ha_ (Blk w9 n ((zg 8).map B) 161) hbn;have EF:=ha_ (Blk w9 m ((zg 8).map B) 161) hbm;have EC:=zc (EC.drew.trans (Below.mono aR EC.drew.size));clear aR hl5 ED hl7 Eu hl9 hbn hbm;refine aeA ?_;intro K hK;refine EE.zd4 rfl rfl rfl qI ev (by simp[zy]) (zj _) (λw10 hn10 ze2=>hK _ _ ?_);clear hK K;go_simp;have uX:=zc (uX.only ze2 ae);have EB:=zc (EB.only ze2 ae);have EF:=zc (EF.only ze2 ae);have EE:=zc hn10;have EC:=zc (zi EC ze2 ae);refine aeA ?_;intro K hK;refine EF.zd4 rfl rfl rfl qI ev (by simp[zy]) (zj _) (λw11 hm11 zfA=>hK _ _ ?_);clear hK K;go_simp;have uX:=zc (uX.only zfA ae);have EB:=zc (EB.only zfA ae);have EE:=zc (EE.only zfA ae);have EF:=zc hm11;have EC:=zc (zi EC zfA ae);clear ze2 zfA hn10 hm11;refine zq ?_;go_wp2_with fail;refine zp [0,1,2] e0 e0 ?_;rintro A4 rfl;refine aiG ?_;intro K hK;refine EB.drew.zeV 0 ((zw lo).map B) rfl rfl rfl underlying23 zm (λ_=>rfl) EE.drew.lies (by simp[zy]) (by simp[zy,ze]) (zj _) (λw13 zgn zgd=>hK _ _ ?_);clear hK K;go_simp;have uX:=zc (uX.drew.only zgd ae);have EF:=zc (EF.drew.only zgd ae);have EB:=zc zgn;have EC:=zc (zi EC.drew zgd ae);clear zgn zgd;refine zq ?_;go_wp2_with fail;refine zp [0,1,2] e0 e0 ?_;rintro A4 rfl;refine aiG ?_;intro K hK;refine EB.drew.zeV 8 ((zw hi).map B) rfl rfl rfl underlying23 zm (λ_=>rfl) EF.drew.lies (by simp[zy]) (by simp[splice,zy,ze]) (zj _) (λw15 zgy zgz=>hK _ _ ?_);clear hK K;go_simp;have EG:splice (splice ((zg 16).map B) 0 ((zw lo).map B)) 8 ((zw hi).map B)=(zw lo++zw hi).map B:=by
  simp[splice,zy,zg]
 rw[EG] at zgy;have eJ:((zw lo++zw hi).map B).length=16:=by simp[zy]
 have uX:=zc (uX.drew.only zgz ae);have EB:=zc zgy;have EC:=zc (zi EC.drew zgz ae);have A2:=zc eJ;have EH:=zc (zj (zw lo++zw hi));clear zgy zgz eJ EG;generalize EI:(zw lo++zw hi).map B=cs at*;have EJ:=zc EI;clear EI;refine zq ?_;go_wp2_with (first|(refine EB.zdS rfl rfl rfl zd A2 ?_)|(refine uX.zdP rfl rfl rfl (cs:=cs) rfl zd ev A2 EH ?_));intro A4 EK EL;go_wp2;refine EK.result rfl rfl rfl zd A2 ⟨by rw[EJ.o],zi EC EL ae⟩
def Lb(n size:Nat)(w:World)(hn:n<=1099511627776)(hs:1<=size)(hs2:size<=1099511627776):C_e 170 #[.int .i64 n,.int .i64 size] w (.int .i64 (wW n size)):=by
 have eh:(n:Int)%size<size:=Int.emod_lt_of_pos _ ae;have eh:(0:Int)<=(n:Int)%size:=Int.emod_nonneg _ ae;have aJ:(((size:Int)-(n:Int)%size)%size)=(wW n size:Int):=by
  unfold wW;rw[zdu,Int.ofNat_sub (zbQ (zc7 _ ae)),zdu]
 have EM:=zc aJ;clear aJ;go_enter func170,ntmps170;go_wp2;go_ret;exact⟨by rw[EM.o];rfl,rfl⟩
def tq(n:Nat):zah n (Value.int .u8 0)=(zg n).map B:=by simp[zg]
def YB(a1 a2:OA)(l1 l2 k1 k2:Nat)(b1 b2:La_)(w:World)(hl1:b1.length=l1)(hl2:b2.length=l2)(hc1:l1<=1099511627776)(_:l2<=1099511627776)(hs1:zr w a1 (b1.map B))(hs2:zr w a2 (b2.map B)):Ca_ 117 #[.slice a1 l1 k1,.slice a2 l2 k2] w (W4 w 5 1 (min l1 l2) ((a0u b1 b2).map B) id):=by
 obtain⟨n,aD⟩:=n_ (min l1 l2);rw[<-aD];have EN:(if l2<l1 then(l2:Int) else(l1:Int))=(n:Int):=by rw[aD];split<;>omega
 have EO:n<=l1:=ae;have EO:n<=l2:=ae;have EP:n=min b1.length b2.length:=by rw[hl1,hl2];exact aD
 refine ajJ hl1 hl2 hs1 ?_;intro A0 ER EW;have EX:=zc hs2;have EZ:=zc EP;clear aD hl1 hl2 hs1 hs2 EP;go_enter func117,ntmps117;go_wp2_with (at_make;refine kW 23 5 (.int .u8 0) 1 n rfl rfl rfl rfl underlying23 z5 rfl ?h1 ?h2 ae ew ?_);case h1=>rfl
 case h2=>rfl
 intro A4 aF Eu;rw[tq] at aF;have aB:=aF.lt;have uX:=zc aF;have I0:=zc Eu;clear aF Eu;go_wp2;go_loopw [15] (λi wr=>∃(j:Nat)(l:La_),j<=n/\i=.int .i64 j/\yv (λk=>yj (at8 b1 k) (at8 b2 k)) n j l/\Blk wr w.heap.size (l.map B) 5/\Below w.heap.size w wr)
  (λi _=>n-(intOf i).toNat)
 case atStart=>exact⟨0,zg n,zcr _,rfl,yv.zero (ze n),uX,I0⟩
 case round =>
  obtain⟨j,l,aA,rfl,I1,aF,sy⟩:=hrel;by_cases aB:j<n
  ·obtain⟨x,aH⟩:=I1.at aB;have et:=a01 (b:=b1) (i:=j) fb;have I2:=a01 (b:=b2) (i:=j) (by rw[ER.o];omega);obtain⟨iy,oC,rfl,hc1⟩:=EW _ _ (zX et);obtain⟨A5,oD,rfl,az⟩:=EX _ _ (zX I2);have hc1:=λ(x:zL wr.drew)=>((sy.drew.trans (Below.mono x.later sy.size)).cell (p:=⟨iy,oC+j,none⟩) (block_lt_of_cell hc1)).trans hc1;have az:=λ(x:zL wr.drew)=>((sy.drew.trans (Below.mono x.later sy.size)).cell (p:=⟨A5,oD+j,none⟩) (block_lt_of_cell az)).trans az;have uX:=zc aF;have I3:=zc I1;clear aF aH I1 et I2;go_wp2_with fail;refine zp [0,1,2,3,4,5,6,7,8,9,10,11,12] e0 e0 ?_;rintro A4 rfl;refine mqR ?_;clear hc1 az;refine aeA ?_;intro K hK;refine uX.drew.zd8 (v:=B (yj (at8 b1 j) (at8 b2 j))) rfl rfl rfl zm rfl rfl (by rw[zaa,I3.1];omega) (λw3 hb3 ho3=>hK _ _ ?_);clear hK K;rw[yD] at hb3;have Ey:=zi sy.drew ho3 (zab _);refine zq ?_;go_wp2;go_roundw;case rel=>exact⟨j+1,_,ae,rfl,I3.step aB,hb3,Ey⟩
   case measure=>simp[intOf];omega
  ·obtain rfl:j=n:=ae;have I4:=Xg aF (zab _) (by rw[zaa,I1.1]) ew;have ai:=I1.all;have I5:=ha_ (l=a0u b1 b2) (by rw[ai,EZ.o];rfl);clear ai;go_wp2;go_ret;refine⟨_,rfl,?_,sy⟩;rw[<-I5.o];exact I4
def lz(bs:La_):splice ((zg 16).map B) 0 ((bs.take 16).map B)=(block bs).map B:=by
 unfold splice;rw[zcn,zaB,zbt,<-zcb,<-zaD];congr 1;apply zaK;intro aS;rw[List.getElem?_append,zaa,zam];by_cases ag:aS<16
 ·have aF:(block bs)[aS]? = some (at8 bs aS):=by simp[block,ag]
  rw[aF];by_cases aO:aS<bs.length
  ·rw[if_pos ae,zmk ag,a01 aO]
  ·rw[if_neg ae,Jj ae,zbw,zg,zcN,if_pos ae]
 ·rw[zaf (l:=block bs) dd];rw[if_neg ae,zbw,zaf (by simp[zg];omega)]
def xj(ao:OA)(len cap:Nat)(bs:La_)(w:World)(hlen:bs.length=len)(hl:zr w ao (bs.map B)):C_b 108 #[.slice ao len cap] w (.agg ((block bs).map B).toArray):=by
 have eS:((bs.take 16).map B).length=zmp len 16:=by rw[zaa,zam,hlen];exact Nat.min_comm _ _
 have I6:0+((bs.take 16).map B).length<=((zg 16).map B).length:=by rw[eS];simp[zg];exact Nat.min_le_right _ _
 have I7:=zc eS;have I8:=zc I6;have A0:=ha_ (zr w ao ((bs.take 16).map B)) (by rw[List.map_take];exact hl.take 16);have EW:=zc (lz bs);have I9:=zc (zj (bs.take 16));clear hlen hl eS I6;generalize (bs.take 16).map B=cs at*;go_enter func108,ntmps108;go_wp2_with (refine aqB ?_);intro A4 aF Eu;go_wp2_with (refine aqB ?_);intro A4 Ew Et;have uX:=zc (aF.below Et aF.lt);have EB:=zc Ew;have aB:=aF.lt;have EC:=zc (Eu.trans (Et.mono Eu.size));have A0:=zc (A0.below EC);clear Eu Et;go_wp2_with (refine EB.zgm 0 cs rfl rfl rfl rfl underlying23 zm (λ_=>rfl) A0 I7 I8 I9 ?_);intro A4 aF oE;rw[EW.o] at aF;have uX:=zc (uX.only oE ae);have EB:=zc aF;have EC:=zc (zi EC oE ae);have A2:=ha_ (((block bs).map B).length=16) (by simp[zI]);have EH:=zc (zj (block bs));generalize EI:(block bs).map B=Ia at*;have Ib:=zc EI;clear EI;go_wp2_with (first|(refine EB.zdS rfl rfl rfl zd A2 ?_)|(refine uX.zdP rfl rfl rfl (cs:=Ia) rfl zd ev A2 EH ?_));intro A4 aF oE;go_wp2;refine aF.result rfl rfl rfl zd A2 ⟨by rw[Ib.o],zi EC oE ae⟩
def JN(bs:La_)(n:Nat)(hn:bs.length<=n):splice ((zg n).map B) 0 (bs.map B)=(bs++zg (n-bs.length)).map B:=by unfold splice;rw[zcn,zaB,zbt,zaa,<-zcb,<-zaD];congr 2;simp[zg]
def Y0(ao:OA)(len cap size:Nat)(bs:La_)(w:World)(hlen:bs.length=len)(hb:len<=1099511627776)(hs:1<=size)(hs2:size<=1099511627776)(hl:zr w ao (bs.map B)):Ca_ 147 #[.slice ao len cap,.int .i64 size] w (W4 w 5 1 (len+wW len size) ((jM bs size).map B) id):=by
 have eI:wW len size<size:=zc7 _ ae;have Ic:jM bs size=bs++zg (len+wW len size-bs.length):=by
  unfold jM zg;rw[hlen,zcP]
 obtain⟨n,aD⟩:=n_ (len+wW len size);have Ie:(len:Int)+(wW len size:Int)=(n:Int):=ae;have EO:n<=2199023255552:=ae;have Ig:len<=n:=ae;rw[<-aD];rw[<-aD] at Ic;refine ajJ Ic hlen hl ?_;intro Ih A2 A0;have I9:=zc (zj bs);have Ii:=zc aD;clear Ic hlen hl aD;go_enter func147,ntmps147;go_wp2_with fail;refine(Lb len size w hb hs hs2).mono ?_;rintro ai A4⟨rfl,rfl⟩;go_wp2_with (at_make;refine kW 23 5 (.int .u8 0) 1 n rfl rfl rfl rfl underlying23 z5 rfl rfl rfl ae ew ?_);intro A4 aF Eu;rw[tq] at aF;have uX:=zc aF;have ER:=zc (A0.below Eu);go_wp2_with (refine uX.zgm 0 (bs.map B) rfl rfl rfl rfl underlying23 zm (λ_=>rfl) ER (by rw[zaa,A2.o];exact(zbF Ig).symm) (by simp[ze,A2.o];exact Ig) I9 ?_);intro A4 aF oE;rw[JN _ _ (by rw[A2.o];exact Ig),<-Ih.o] at aF;have Ij:((jM bs size).map B).length=n:=by rw[Ih.o];simp[ze,A2.o];omega
 have I4:=Xg aF (zab _) Ij ew;have sy:=zi Eu oE (zab _);clear Ij;go_wp2;go_ret;exact⟨_,rfl,I4,sy⟩
def Vw(ao:OA)(len cap size:Nat)(mark:UInt8)(bs:La_)(w:World)(hlen:bs.length=len)(hb:len<=1000000000000)(hs:1<=size)(hs2:size<=1099511627776)(hl:zr w ao (bs.map B)):Ca_ 178 #[.slice ao len cap,B mark,.int .i64 size] w (W4 w 5 1 (len+1+wW (len+1) size) ((kz bs mark size).map B) id):=by
 obtain⟨n,aD⟩:=n_ (len+1);have Ie:(len:Int)+1=(n:Int):=ae;have Ig:len<n:=ae;have eh:kz bs mark size=jM (bs++[mark]) size:=rfl;rw[<-aD,eh];have Ik:(bs++[mark]).length=n:=by simp[hlen,aD]
 have Il:((bs++zg (n-bs.length)).map B).set len (B mark)=(bs++[mark]).map B:=by
  rw[hlen,aD,zcP,yD];congr 1;rw[List.set_append_right _ _ ae,hlen,zdz];rfl
 refine ajJ Il Ik hlen ?_;intro Im Io A2;have A0:=zc hl;have I9:=zc (zj bs);clear hlen hl aD eh Ik Il;go_enter func178,ntmps178;go_wp2_with (at_make;refine kW 23 5 (.int .u8 0) 1 n rfl rfl rfl rfl underlying23 z5 rfl rfl rfl ae ew ?_);intro A4 aF Eu;rw[tq] at aF;have uX:=zc aF;have ER:=zc (A0.below Eu);have I0:=zc Eu;clear Eu;go_wp2_with (refine uX.zgm 0 (bs.map B) rfl rfl rfl rfl underlying23 zm (λ_=>rfl) ER (by rw[zaa,A2.o];exact(zbF (by omega)).symm) (by simp[ze,A2.o];omega) I9 ?_);intro A4 aF oE;rw[JN _ _ fm] at aF;have uX:=zc aF;have Ip:=zc (zi I0 oE (zab _));have aB:(bs++zg (n-bs.length))[len]? = some 0:=by
  rw[A2.o,za6 fm,A2.o,zdz,zg,zcN,if_pos ae]
 have az:=uX.cell len _ (zX aB);have eP:=uX.free len;clear aB;go_wp2_with fail;have aF:=uX.set len (B mark);rw[Im.o] at aF;have Ey:=Ip.setCell (p:=⟨w.heap.size,len,none⟩) (zab _) (B mark);refine(Y0 _ n n size (bs++[mark]) _ Io ae hs hs2 aF.lies).mono ?_;rintro ai A4⟨aK,rfl,I4,Eu⟩;go_wp2;go_ret;exact⟨aK,rfl,I4.mono Ey.size,Ey.trans (Eu.mono Ey.size)⟩
def qB:Code->Nat->Option Code
 | .seq (.label l') y,l=>if l'==l then some y else qB y l
 | .seq x y,l=>if(findLabel x l).isNone then qB y l else none
 | _,_=>none
def XX:∀(c:Code)(l:Nat)(y:Code),qB c l=some y->findLabel c l=some (.seq .skip y):=by
 intro c l
 fun_induction qB c l with
 | case1 l' y0 l h=>intro y et;simp at et;subst et;simp[findLabel,h]
 | case2 l' y0 l h ih=>intro y et;simp[findLabel,h];exact ih y et
 | case3 x y0 l hx h ih=>intro y et;simp[findLabel,Option.isNone_iff_eq_none.1 h];exact ih y et
 | case4=>intro y et;cases et
 | case5=>intro y et;cases et
def qb(P:Program)(l:Nat)(J:Act->World->Prop)(Q:Exit->Act->World->Prop):Code->Act->World->Prop
 | .seq (.label l') y,a,w=>if l'==l then J a w else qb P l J Q y a w
 | .seq x y,a,w=>x.wp P (Exit.then (qb P l J Q y) (Exit.jump l J Q)) a w
 | _,_,_=>False
section
variable{P:Program}{a:Act}{w:World}{Q:Exit->Act->World->Prop}
def B3(l:Nat)(J:Act->World->Prop):∀(c y:Code),qB c l=some y->(∀a w,J a w->y.wp P (Exit.jump l J Q) a w)->∀a w,qb P l J Q c a w->c.wp P (Exit.jump l J Q) a w:=by
 intro c
 fun_induction qB c l with
 | case1 l' y0 l h =>
  intro y et Iq a w eE;simp at et;subst et;simp only[qb,h,if_true] at eE;exact wp_seq (wp_label (Iq _ _ eE))
 | case2 l' y0 l h ih =>
  intro y et Iq a w eE;simp only[qb,h,Bool.false_eq_true,if_false] at eE;exact wp_seq (wp_label (ih y et Iq _ _ eE))
 | case3 x y0 l hx h ih =>
  intro y et Iq a w eE;have Ir:x.wp P (Exit.then (qb P l J Q y0) (Exit.jump l J Q)) a w:=by
   cases x<;>first|exact eE|exact absurd rfl (hx _)
  refine wp_seq (wp_mono Ir ?_);intro ai eT A4 eA;cases ai with
  | normal=>exact ih y et Iq _ _ eA
  | _=>exact eA
 | case4=>intro y et;cases et
 | case5=>intro y et;cases et
def zN{c y:Code}(l:Nat)(J:Act->World->Prop)(μ:Act->World->Nat)(hf:qB c l=some y)(first:qb P l J Q c a w)(pass:∀a w,J a w->y.wp P (Exit.jump l (λa' w'=>J a' w'/\μ a' w'<μ a w) Q) a w):(Code.scope c).wp P Q a w:=by
 have Is:∀a w,J a w->y.wp P (Exit.jump l J Q) a w:=by
  intro a w Iq;refine wp_mono (pass a w Iq) ?_;intro ai a' w' eA;cases ai with
  | goto l'=>exact⟨eA.1,eA.2.1⟩
  | _=>exact eA
 refine wp_scope_jumps l J μ (XX c l y hf) (B3 l J c y hf Is a w first) ?_;intro a' w' Iq;exact wp_seq (wp_skip (pass a' w' Iq))
@[go_sem] theorem _root_.Go.Exit.zhx(l:Nat)(J:Act->World->Prop)(a:Act)(w:World):Exit.jump l J Q .normal a w=Q .normal a w:=rfl
@[go_sem] theorem _root_.Go.Exit.ziG(l:Nat)(J:Act->World->Prop)(id:Nat)(a:Act)(w:World):Exit.jump l J Q (.exit id) a w=Q (.exit id) a w:=rfl
@[go_sem] theorem _root_.Go.Exit.zdZ(l:Nat)(J:Act->World->Prop)(a:Act)(w:World):Exit.jump l J Q .ret a w=Q .ret a w:=rfl
@[go_sem] theorem _root_.Go.Exit.zh7(l:Nat)(J:Act->World->Prop)(ch:List PanicEntry)(a:Act)(w:World):Exit.jump l J Q (.panic ch) a w=Q (.panic ch) a w:=rfl
end
def Vx(a:UInt8)(w:World):C_e 29 #[B a] w (B (dbl a)):=by go_enter func29,ntmps29;exact aeJ
def Lc(a b:UInt8)(w:World)(x:Act)(w':World):Prop :=
 ∃(n:Nat)(a' b' s:UInt8),∃u2 u3 u4 u6 u7 u8 u9 u10 u11 u12 u13 u14 u15 u16 u17 u18:Value,x={ tmps:=#[B a',B b',u2,u3,u4,B s,u6,u7,u8,u9,u10,u11,u12,u13,u14,u15,u16,u17,u18],defers:=[] }/\Hid (Xh n a' b' s=times a b)/\b'.toNat<2^n/\w=w'
def Fh(a b:UInt8)(w:World):C_e 52 #[B a,B b] w (B (times a b)):=by
 go_enter func52,ntmps52;go_wp2;refine zN 0 (Lc a b w) (λa' _=>(intOf (a'.tmps.getD 1 undef)).toNat) rfl ?_ ?_
 ·simp only[qb];go_wp2;exact⟨8,a,b,0,_,_,_,_,_,_,_,_,_,_,_,_,_,_,_,_,rfl,rfl,lt8 b,rfl⟩
 ·rintro ef A4⟨Ep,a',ax,ej,au,It,Iu,Iv,Iw,Ix,Iy,Iz,IA,IB,IC,ID,IE,IF,IG,IH,rfl,A3,hb,rfl⟩;by_cases ag:ax=0
  ·subst ag;have A3:=zc ((gI Ep a' ej).symm.trans A3);go_wp2;go_ret;exact⟨by rw[<-A3.o];rfl,rfl⟩
  ·have aM:ax.toNat≠0:=λh=>ag (da h);have ah:((ax.toNat:Int)==0)=false:=beq_eq_false_iff_ne.2 ae;obtain⟨Ep,rfl⟩:∃m,Ep=m+1:=⟨Ep-1,by cases Ep with|zero=>simp at hb;omega|succ Ep=>rfl⟩
   have eg:=Hv ax Ep hb;have eF:(zeR ax 1).toNat<ax.toNat:=by unfold zeR;rw[zaO (by have:=lt8 ax;show _<256;omega)];omega
   have A3:=ha_ (Xh Ep (dbl a') (zeR ax 1) (yj ej (Vd a' (zeX ax 1)))=times a b) (by have:=A3.o;simpa[Xh,ag] using this);go_wp2_with fail;refine(Vx a' _).mono ?_;rintro ai A4⟨rfl,rfl⟩;go_wp2;refine wp_goto ⟨rfl,⟨Ep,_,_,_,_,_,_,_,_,_,_,_,_,_,_,_,_,_,_,_,rfl,A3,eg,rfl⟩,?_⟩;simpa[intOf] using eF
section
variable{P:Program}{ops:Array Oper}{Q:Exit->Act->World->Prop}{B:Nat}
def zE(B:Nat)(P:Program)(ops:Array Oper)(Q:Exit->Act->World->Prop)(l:List (Nat×Bool))(a:Act)(w:World):Prop:=zR (Below B) [] P ops Q l a w
def wI{id:Nat}{l:List Oper}{a:Act}{w:World}(B:Nat)(order:List (Nat×Bool))(hm:P.follows .mixedOrders=true)(hB:(Region.noSelect l.toArray&&(order.length==l.length)&&Region.zfD [] .any l.toArray order (zaY l.length false))=true)(h:∀w',w'=w.drew->zE B P l.toArray (NoPanic Q) order a w'):(Code.region id l.toArray true).wp P Q a w :=
 yg (Below B) [] order (Below.refl _) (λ_ _ _=>Below.trans) hm hB h
def Y1{a:Act}{w:World}(h:Q .normal a w):zE B P ops (NoPanic Q) [] a w:=h
def qP{i:Nat}{r:List (Nat×Bool)}{o:Oper}{a:Act}{w:World}(ho:ops[i]? = some o)(hw:Region.wanted o (yielded ops a.tmps)=true)(h:∀K:Act->World->Prop,(∀a' w',Below B w w'->zE B P ops Q r a' w'->K a' w')->o.wp P a w K Q):zE B P ops Q ((i,false)::r) a w :=
 zC ho hw λK hK=>h K λa' w' hb=>hK a' w' λ_=>hb
abbrev Vy(B:Nat)(w:World):=zO (Below B) w
def zO.below{w:World}(x:Vy B w):Below B w x.val:=x.rel
def zgD{i:Nat}{r:List (Nat×Bool)}{o:Oper}{tl:List Oper}{a:Act}{w:World}(hd:ops.toList.drop i=o::tl)(hk:o.zen=0)(hh:∀K:Act->Prop,(∀a',zE B P ops Q r a' w->K a')->wpQuiet P ops (WO (Below B) w) K [o] a):zE B P ops Q ((i,true)::r) a w :=
 yK hd hk hh
def Mr{i:Nat}{r:List (Nat×Bool)}{o:Oper}{tl:List Oper}{a:Act}{w:World}(hd:ops.toList.drop i=o::tl)(hk:o.zen=0)(hh:∀K:Act->Prop,(∀a',zE B P ops Q r a' w->K a')->wpQuiet P ops (lx w) K [o] a):zE B P ops Q ((i,false)::r) a w :=
 yc (Below.refl _) hd hk hh
end
end
section
attribute [local irreducible] zA zG zH zE
def and7:∀k:Fin 8,bits .and .u64 ((k.val:Nat):Int) 7=((k.val:Nat):Int):=bd
def Le(x:UInt8)(k:Nat)(hk:k<8)(w:World):C_e 53 #[B x,.int .i64 k] w (B (rot8 x k)):=by have ag:=and7 ⟨k,hk⟩;simp only at ag;go_enter func53,ntmps53;exact aeJ
def Fi(i:UInt8)(w:World):C_e 31 #[B i] w (B (box i)):=by
 go_enter func31,ntmps31;go_wp2;go_loopw [3,5] (λs c wr=>∃k:Nat,k<=5/\c=.int .i64 k/\s=B (DK i k)/\w=wr) (λ_ c _=>5-(intOf c).toNat);case atStart=>exact⟨0,ae,rfl,rfl,rfl⟩
 case round =>
  obtain⟨k,aQ,rfl,rfl,rfl⟩:=hrel;by_cases aB:k<5
  ·go_wp2_with fail;refine(Le i k ae _).mono ?_;rintro ai A4⟨rfl,rfl⟩;go_wp2;go_roundw;case rel=>exact⟨k+1,ae,rfl,rfl,e7⟩
   case measure=>simp[intOf];omega
  ·obtain rfl:k=5:=by omega
   exact ahv
def Fj(p:Nat)(l:La_)(a b:UInt8)(w:World)(hl:l.length=512)(hb:Blk w p (l.map B) 75):Ca_ 30 #[pa_ p,B a,B b] w λe w'=>e=.returned (.tuple #[])/\Blk w' p ((ziq l a b).map B) 75/\Only p w w':=by have Au:=lt8 a;have aF:=lt8 b;have uX:=zc hb;have A0:=zc hl;clear hb hl;go_enter func30,ntmps30;go_wp2_with fail;refine wI p [(0,true),(1,true),(2,true),(3,true),(4,true),(5,true),(6,true),(7,true),(8,true),(10,true),(11,true),(9,false),(12,false),(13,false)] e0 e0 ?_;rintro A4 rfl;refine mqB ?_;refine qP rfl aa (λK hK=>?_);refine uX.drew.zd8 (v:=B b) rfl rfl rfl zm rfl rfl (by rw[zaa,A0.o];omega) (λw3 hb3 ho3=>hK _ _ (zi (Below.refl _ _) ho3 (zab _)) ?_);clear hK K;rw[yD] at hb3;have uX:=zc hb3;have I9:=zc ho3;clear hb3 ho3;go_simp;refine mqB ?_;refine qP rfl aa (λK hK=>?_);refine uX.zd8 (v:=B a) rfl rfl rfl zm rfl rfl (by rw[zaa,zav,A0.o];omega) (λw4 hb4 ho4=>hK _ _ (zi (Below.refl _ _) ho4 (zab _)) ?_);clear hK K;rw[yD] at hb4;refine Y1 ?_;go_wp2;go_end0;exact⟨rfl,hb4,(show Only p w w3 from⟨I9.os,I9.tape,I9.output,I9.size,I9.block⟩).trans ho4⟩
def Fk(p:Nat)(l:La_)(a:UInt8)(w:World)(hl:l.length=512)(hb:Blk w p (l.map B) 75):C_e 28 #[pa_ p,B a] w (B (at8 l a.toNat)):=by have Au:=lt8 a;have az:=hb.cell a.toNat _ (zX (a01 (b:=l) (i:=a.toNat) ae));clear hb hl;go_enter func28,ntmps28;exact ahv
def Lf(p:Nat)(l:La_)(a:UInt8)(w:World)(hl:l.length=512)(hb:Blk w p (l.map B) 75):C_e 210 #[pa_ p,B a] w (B (at8 l (256+a.toNat))):=by have Au:=lt8 a;have az:=hb.cell (256+a.toNat) _ (zX (a01 (b:=l) (i:=256+a.toNat) ae));clear hb hl;go_enter func210,ntmps210;exact ahv
def lA:(pgm.info? 72).map (·.zero)=some (some (.agg ((zg 255).map B).toArray)):=e0
def WE:(Value.agg Tryz.zeroCells75).cells=((zg 512).map B).toArray:=e0
def U1(w:World):Ca_ 20 #[] w λe w'=>∃p,e=.returned (.pointer (some ⟨p,0,none⟩))/\w.heap.size<=p/\Blk w' p (a0s.map B) 75/\Below w.heap.size w w':=by
 go_enter func20,ntmps20;go_wp2_with (refine zf 72 ((zg 255).map B) _ rfl rfl lA rfl ?_);refine anx ?_;intro A4 aF Eu uX I0;have aB:=aF.lt;clear Eu;go_wp2;go_loopw [2,6] (λe c wr=>∃(k:Nat)(l:La_),k<=255/\c=.int .i64 k/\e=B (X7 k)/\yv X7 255 k l/\Blk wr w.heap.size (l.map B) 72/\Below w.heap.size w wr) (λ_ c _=>255-(intOf c).toNat);case atStart=>exact⟨0,zg 255,ae,rfl,rfl,yv.zero (ze _),uX,I0⟩
 case round =>
  obtain⟨k,l,aQ,rfl,rfl,I1,Ew,sy⟩:=hrel;by_cases II:k<255
  ·obtain⟨x,aH⟩:=I1.at II;have az:=Ew.cell k _ (zX aH);have eP:=Ew.free k;have EB:=zc Ew;have I3:=zc I1;clear aH I1;go_wp2_with fail;refine(Vx (X7 k) _).mono ?_;rintro e A4⟨rfl,rfl⟩;go_wp2;go_roundw;case rel=>exact⟨k+1,_,ae,rfl,rfl,I3.step II,yD _ _ _▸EB.set k _,sy.setCell ab _⟩
   case measure=>simp[intOf];omega
  ·obtain rfl:k=255:=ae;have IJ:=zc Ew;have IK:=ha_ (∀i,i<255->l[i]? = some (X7 i)) I1.2;have IL:=Ew.lt;clear I1;go_wp2_with (refine zh 75 _ ((zg 512).map B) _ rfl rfl rfl WE ?_);intro A4 aF Ey;have IJ:=zc (IJ.below Ey IJ.lt);have IM:=zc aF;have EC:=zc (sy.trans (Ey.mono sy.size));clear Ey;generalize eA:wr.heap.size=q at*;have IN:w.heap.size<q:=ae;have IP:=zc eA;clear eA;go_wp2_with fail;refine(Fi 0 _).mono ?_;rintro e A4⟨rfl,rfl⟩;go_wp2_with fail;refine(Fj q (zg 512) 0 (box 0) _ (ze _) IM).mono ?_;rintro e A4⟨rfl,aF,oE⟩;have IJ:=zc (IJ.only oE ae);have EC:=zc (zi EC oE ae);have uX:=zc aF;have IQ:w.heap.size<q:=by have:=uX.lt;have:=IP.o;omega
   go_wp2;go_loopw [22] (λc wr=>∃k:Nat,k<=255/\c=.int .i64 k/\Blk wr w.heap.size (l.map B) 72/\Blk wr q ((X8 k).map B) 75/\Below w.heap.size w wr) (λc _=>255-(intOf c).toNat);case atStart=>exact⟨0,ae,rfl,IJ,uX,EC⟩
   case round =>
    obtain⟨k,aQ,rfl,IS,Ew,sy⟩:=hrel;by_cases II:k<255
    ·have az:=λ(x:Vy q wr.drew)=>(IS.drew.below x.below IQ).cell k _ (zX (IK k II));have AV:∀(x:Vy q wr.drew),x.val.cell? ⟨w.heap.size,(-(k:Int)%255).toNat,none⟩=some (B (X7 ((255-k)%255))):=by
      intro x;rw[show(-(k:Int)%255).toNat=(255-k)%255 by omega];exact(IS.drew.below x.below IQ).cell ((255-k)%255) _ (zX (IK ((255-k)%255) (zc7 _ ae)))
     have IJ:=zc IS;have EB:=zc Ew;clear IS;go_wp2_with fail;refine wI q [(0,true),(1,true),(2,true),(3,true),(4,true),(5,true),(6,true),(7,true),(8,true),(9,false),(10,false)] e0 e0 ?_;rintro A4 rfl;refine mqB ?_;clear az AV;refine qP rfl aa (λK hK=>?_);go_simp;refine(Fi _ _).mono ?_;rintro e A4⟨rfl,rfl⟩;go_simp;refine hK _ _ (Below.refl _ _) ?_;clear hK K;refine qP rfl aa (λK hK=>?_);go_simp;refine(Fj q (X8 k) (X7 k) (box (X7 ((255-k)%255))) _ (Kh k) EB.drew).mono ?_;rintro e A4⟨rfl,aF,oE⟩;go_simp;refine hK _ _ (zi (Below.refl _ _) oE (zab _)) ?_;clear hK K;refine Y1 ?_;have IS:=IJ.drew.only oE ae;have Eu:=zi sy.drew oE ae;have uX:=ha_ (Blk A4 q ((X8 (k+1)).map B) 75) aF;go_wp2;go_roundw;case rel=>exact⟨k+1,ae,rfl,IS,uX,Eu⟩
     case measure=>simp[intOf];omega
    ·obtain rfl:k=255:=ae;have EB:=zc Ew;go_wp2;go_ret;exact⟨q,rfl,zbQ IQ,EB,sy⟩
def K1(row column:Nat)(w:World)(h1:row<4)(h2:column<4):C_e 145 #[.int .i64 row,.int .i64 column] w (.int .i64 (yu row column)):=by have eg:(row:Int)+4*(((column:Int)+row)%4)=((yu row column:Nat):Int):=dk;have EW:=zc eg;clear eg;go_enter func145,ntmps145;go_wp2;go_ret;exact⟨by rw[<-EW.o];rfl,rfl⟩
def fJ(by':La_)(row:Nat)(a:UInt8)(w:World)(hl:by'.length=4)(h1:row<4):C_b 27 #[.agg (by'.map B).toArray,.int .i64 row,B a] w (W (KJ by' row a)):=by
 go_enter func27,ntmps27;go_wp2_with (refine zh 70 _ (by'.map B) _ rfl rfl rfl rfl ?_);intro A4 aF Eu;have uX:=zc aF;have A0:=zc hl;clear hl;go_wp2;go_loopw [7,9] (λn c wr=>∃r:Nat,r<=4/\c=.int .i64 r/\n=W (X9 by' row a r)/\A4=wr) (λ_ c _=>4-(intOf c).toNat);case atStart=>exact⟨0,ae,rfl,rfl,rfl⟩
 case round =>
  obtain⟨r,eI,rfl,rfl,rfl⟩:=hrel;by_cases aB:r<4
  ·obtain⟨ef,aH⟩:=n_ (at8 by' ((row+4-r)%4));have az:=uX.cell ((row+4-r)%4) _ (zX (a01 (b:=by') (i:=(row+4-r)%4) fb));rw[<-aH,show(row+4-r)%4=(((row:Int)-r)%4).toNat by omega] at az;have EZ:=ha_ (Q9 (X9 by' row a r) (qm (xu (times ef a)) (8*r))=X9 by' row a (r+1)) (by rw[aH];rfl);clear aH;go_wp2_with fail;refine(Fh ef a _).mono ?_;rintro ai A4⟨rfl,rfl⟩;go_wp2;go_roundw;case rel=>exact⟨r+1,ae,rfl,by rw[<-EZ.o],e7⟩
   case measure=>simp[intOf];omega
  ·obtain rfl:r=4:=by omega
   go_wp2;go_ret;exact⟨rfl,Eu⟩
def lB(a b:La_)(w:World)(ha:a.length=16)(hb:b.length=16):C_b 146 #[.agg (a.map B).toArray,.agg (b.map B).toArray] w (.agg ((both a b).map B).toArray):=by
 have IT:=zc ha;have IU:=zc hb;have IV:∀l:La_,yv (λi=>yj (at8 a i) (at8 b i)) 16 16 l->l=both a b:=λl h=>h.all;have IW:=zc IV;clear ha hb IV;go_enter func146,ntmps146;go_wp2_with (refine aqC ?_);intro A4 aF Eu;go_wp2_with (refine aqD ?_);intro Ev Ew Et;go_wp2_with (refine aqB ?_);intro IX Ex Ey;have aB:=aF.lt;have aB:=Ew.lt;have aB:=Ex.lt;have IY:=zc ((aF.below Et aF.lt).below Ey ae);have IZ:=zc (Ew.below Ey Ew.lt);have JO:=zc Ex;have EC:=zc ((Eu.trans (Et.mono Eu.size)).trans (Ey.mono (zat Eu.size Et.size)));clear Eu Et Ey;go_wp2;go_loopw [6] (λc wr=>∃(j:Nat)(l:La_),j<=16/\c=.int .i64 j/\l.length=16/\(∀i,i<j->l[i]? = some (yj (at8 a i) (at8 b i)))/\(∀i,j<=i->l[i]? = a[i]?)/\Blk wr w.heap.size (l.map B) 144/\Blk wr A4.heap.size (b.map B) 144/\Blk wr Ev.heap.size ((zg 16).map B) 144/\Below w.heap.size w wr) (λc _=>16-(intOf c).toNat);case atStart=>exact⟨0,a,ae,rfl,IT,λi hi=>absurd hi ae,λi _=>rfl,IY,IZ,JO,EC⟩
 case round =>
  obtain⟨j,l,aA,rfl,Ld,aR,Ec,M0,M1,oZ,sy⟩:=hrel;by_cases aB:j<16
  ·have aH:l[j]? = some (at8 a j):=by rw[Ec j (zab _)];exact a01 (by rw[IT.o];omega)
   have az:=λ(x:zL wr.drew)=>(M0.drew.below x.later M0.lt).cell j _ (zX aH);have AV:=λ(x:zL wr.drew)=>(M1.drew.below x.later M1.lt).cell j _ (zX (a01 (b:=b) (i:=j) (by rw[IU.o];omega)));refine ajJ M0 M1 oZ ?_;intro IY IZ JO;refine ajJ Ld aR Ec ?_;intro M3 A0 ER;clear M0 M1 oZ Ld aR Ec aH;go_wp2_with fail;refine agd ?_;rintro A4 rfl;refine mqR ?_;clear az AV;refine aeA ?_;intro K hK;refine IY.drew.zd8 (v:=B (yj (at8 a j) (at8 b j))) rfl rfl rfl zm rfl rfl fo (λw5 hb5 ho5=>hK _ _ ?_);clear hK K;rw[yD] at hb5;have M4:=IZ.drew.only ho5 ae;have M5:=JO.drew.only ho5 ae;have M6:=zi sy.drew ho5 (zab _);clear ho5;refine zq ?_;have uX:=zc hb5;have IZ:=zc M4;have M7:=zc M5;clear hb5 M4 M5;go_wp2;go_roundw;case rel =>
    refine⟨j+1,_,ae,rfl,by simpa using M3.o,λi hi=>?_,λi hi=>?_,uX,IZ,M7,M6⟩
    ·rw[zbb];exact asJ
    ·rw[zaX ae];exact ER i ae
   case measure=>simp[intOf];omega
  ·obtain rfl:j=16:=by omega
   obtain rfl:=IW l ⟨Ld,aR⟩;refine ajJ M0 oZ Ld ?_;intro IY JO M3;clear M0 oZ Ld aR Ec M1;go_wp2_with (first|(refine IY.zdS rfl rfl rfl zd (by rw[zaa,M3.o]) ?_)|(refine JO.zdP rfl rfl rfl rfl zd ev (by rw[zaa,M3.o]) (zj _) ?_));intro A4 aF oE;go_wp2;refine aF.result rfl rfl rfl zd (by rw[zaa,M3.o]) ⟨rfl,zi sy oE ae⟩
end
section
variable{P:Program}{ops:Array Oper}{Q:Exit->Act->World->Prop}
def Z9{o:Oper}{a:Act}{w:World}{ty:TypeId}{x:Operand}{b off n:Nat}{vs:Lb_}(hop:o.op=.load ty x)(hx:a.eval x=.pointer (some ⟨b,off,none⟩))(hr:Row P ty n)(hn:vs.length=n)(h:w.rangeAt b off vs):(execOp a.eval o).run P w=.ok (.value (.agg vs.toArray)) w:=by obtain⟨aN,aw,ah,aO⟩:=hr.open;simp[execOp,hop,hx,run_loadAt_mid w b off ty vs aN h aw ah (by rw[aO,hn])]
def jB{w w':World}{B b off:Nat}{vs:Lb_}(h:w.rangeAt b off vs)(hb:Below B w w')(hB:b<B):w'.rangeAt b off vs:=λj v hv=>(hb.cell (p:=⟨b,off+j,none⟩) hB).trans (h j v hv)
def zB{i:Nat}{r:List Nat}{o:Oper}{a:Act}{w:World}{ty:TypeId}{x:Operand}{b off n:Nat}{vs:Lb_}(h:w.rangeAt b off vs)(hb:b<w.heap.size)(hr:Row P ty n)(hn:vs.length=n)(ho:ops[i]? = some o)(hg:o.guard=none)(hop:o.op=.load ty x)(hx:a.eval x=.pointer (some ⟨b,off,none⟩))(k:∀K:Act->Prop,(∀a',zA P ops Q r a' w->K a')->K (a.put o.dst (.agg vs.toArray))):zA P ops Q (i::r) a w :=
 fI ho (by unfold Oper.zen;rw[hop]) eo (λw' hw'=>Z9 hop hx hr hn (jB h hw' hb)) k
def z7{k0:Act->World->Prop}{i:Nat}{r:List Nat}{o:Oper}{a:Act}{w:World}{ty:TypeId}{x:Operand}{b off n:Nat}{vs:Lb_}(h:w.rangeAt b off vs)(hb:b<w.heap.size)(hr:Row P ty n)(hn:vs.length=n)(ho:ops[i]? = some o)(hop:o.op=.load ty x)(hx:a.eval x=.pointer (some ⟨b,off,none⟩))(k:∀K:Act->Prop,(∀a',zH P ops k0 r a' w->K a')->K (a.put o.dst (.agg vs.toArray))):zH P ops k0 (i::r) a w:=by simp only[zH,ho];exact⟨_,λw' hw'=>Z9 hop hx hr hn (jB h hw' hb),k _ λ_ h=>h⟩
def Blk.zea{w:World}{b:Nat}{vs:Lb_}{ty:TypeId}(h:Blk w b vs ty)(off n:Nat)(us:Lb_)(hu:(vs.drop off).take n=us):w.rangeAt b off us:=by
 intro aq aK aL;subst hu;rw[List.getElem?_take] at aL;split at aL
 ·rw[zbw] at aL;exact h.cell _ _ aL
 ·cases aL
end
section
attribute [local irreducible] zA zG zH zE
def ze3(w:World)(g:Nat):TypeId:=match w.heap[g]? with
 | some (.cells _ t _)=>t
 | _=>0
structure zeT(w:World):Prop where
 mixes:Blk w 0 (a0q.map B) (ze3 w 0)
 unmixes:Blk w 1 (a0r.map B) (ze3 w 1)
def fK:List UInt32:=zah 2048 0
def lC:fK.length=2048:=by simp[fK]
def JP:Tryz.zeroCells68=(.pointer none::fK.map W).toArray:=e0
def Vz(p:Nat):(Value.agg (Tryz.zeroCells68.setIfInBounds 0 (.pointer (some ⟨p,0,none⟩)))).cells=(.pointer (some ⟨p,0,none⟩)::fK.map W).toArray:=by rw[JP];show Array.setIfInBounds _ _ _=_;rw[jb,List.set_cons_zero]
def yP:(pgm.info? 64).map (·.size)=some 1:=e0
def Fm(p:Nat)(T:La_)(w:World)(hT:T.length=512)(hb:Blk w p (T.map B) 75)(hg:zeT w):Ca_ 19 #[.pointer (some ⟨p,0,none⟩)] w λe w' =>
  ∃q,e=.returned (.pointer (some ⟨q,0,none⟩))/\w.heap.size<=q/\Blk w' q (.pointer (some ⟨p,0,none⟩)::(entries T).map W) 68/\Below w.heap.size w w':=by
 refine ajJ hb hT hg ?_;intro uX A3 M8;clear hb hT hg;go_enter func19,ntmps19;go_wp2_with (refine zh 68 _ (.pointer (some ⟨p,0,none⟩)::fK.map W) _ rfl rfl rfl (Vz p) ?_);intro A4 aF Eu;have aB:=aF.lt;have EB:=zc aF;have I0:=zc Eu;have M9:=uX.lt;have oG:=M8.unmixes.lt;clear Eu;generalize eA:w.heap.size=q at*;have IP:=zc eA;clear eA;go_wp2;go_loopw [11] (λc wr=>∃(r:Nat)(l:List UInt32),r<=4/\c=.int .i64 r/\Laid T (256*r) l/\Blk wr q (.pointer (some ⟨p,0,none⟩)::l.map W) 68/\Below q w wr) (λc _=>4-(intOf c).toNat);case atStart=>exact⟨0,fK,ae,rfl,Laid.zero lC,EB,I0⟩
 case round =>
  obtain⟨r,l,eI,rfl,aR,hb,sy⟩:=hrel;by_cases aB:r<4
  ·refine ajJ hb aR sy ?_;intro JO Mt Mu;have ah:decide ((r:Int)<4)=true:=bq;clear aR;go_wp2;go_loopw [14] (λc ws=>∃(a:Nat)(l:List UInt32),a<=256/\c=.int .i64 a/\Laid T (256*r+a) l/\Blk ws q (.pointer (some ⟨p,0,none⟩)::l.map W) 68/\Below q w ws) (λc _=>256-(intOf c).toNat);case atStart=>exact⟨0,l,ae,rfl,Mt,JO,Mu⟩
   case round =>
    obtain⟨a,Mv,Au,rfl,Ec,aF,Et⟩:=hrel;by_cases II:a<256
    ·obtain⟨x,rfl⟩:∃x:UInt8,a=x.toNat:=⟨zaq a,by rw[zaO (by show _<256;omega)]⟩
     have ai:entry T (256*r+x.toNat)=KJ a0q r (at8 T x.toNat):=by
      unfold entry;rw[if_pos ae,show(256*r+x.toNat)/256=r by omega,show(256*r+x.toNat)%256=x.toNat by omega]
     have aj:entry T (1024+(256*r+x.toNat))=KJ a0r r x:=by
      unfold entry;rw[if_neg ae,show(1024+(256*r+x.toNat)-1024)/256=r by omega,show(1024+(256*r+x.toNat))%256=x.toNat by omega,UInt8.ofNat_toNat]
     refine ajJ ai aj aF ?_;intro Mw Mx EB;have A0:=zc Ec;have Ip:=zc Et;have My:=zc (Blk.below M8.mixes Et ae).drew;clear Ec Et ai aj;go_wp2_with fail;refine zp [0,1,2,3,4,5,6,7,10,11,12,8,9,13,14] e0 e0 ?_;rintro A4 rfl;refine Zy rfl rfl (λK hK=>?_);go_big_quiet_step (fail);refine wpQuiet_nil (hK _ ?_);clear hK K;refine Zy rfl rfl (λK hK=>?_);go_big_quiet_step (fail);refine wpQuiet_nil (hK _ ?_);clear hK K;refine Zy rfl rfl (λK hK=>?_);go_big_quiet_step (fail);refine wpQuiet_nil (hK _ ?_);clear hK K;refine ahQ ?_;refine Pm ?_;intro K hK;refine(Fk p T x _ A3 (uX.below (Ip.drew) M9)).mono ?_;rintro e Ev⟨rfl,rfl⟩;refine aly ?_;clear hK K;refine Pm ?_;intro K hK;refine(fJ a0q r (at8 T x.toNat) _ rfl aB).mono ?_;rintro e Ev⟨rfl,Eu⟩;go_simp;rw[<-Mw.out];refine hK _ _ Eu ?_;clear hK K;refine mqR ?_;have uX:=zc (EB.drew.below Eu EB.lt);have Mz:=zc (Ip.drew.trans (Below.mono Eu (zbQ EB.lt)));have aO:1+r*256+x.toNat<(.pointer (some ⟨p,0,none⟩)::Mv.map W:Lb_).length:=by rw[zaj,zaa,A0.1];omega
     clear Eu;refine aeA ?_;intro K hK;refine uX.zd8 (v:=W (entry T (256*r+x.toNat))) rfl rfl rfl yP rfl rfl aO (λw9 hb9 ho9=>hK _ _ ?_);clear hK K;rw[show 1+r*256+x.toNat=(256*r+x.toNat)+1 by omega,zc9,qv] at hb9;have uX:=zc hb9;have MA:=zc (zi Mz ho9 (zab _));have My:=zc (Blk.below M8.unmixes MA ae).drew;clear hb9 ho9 aO;refine aeS ?_;go_wp2_with fail;refine zp [0,1,2,3,4,5,6,8,9,10,7,11,12] e0 e0 ?_;rintro A4 rfl;refine Zy rfl rfl (λK hK=>?_);go_big_quiet_step (fail);refine wpQuiet_nil (hK _ ?_);clear hK K;refine Zy rfl rfl (λK hK=>?_);go_big_quiet_step (fail);refine wpQuiet_nil (hK _ ?_);clear hK K;refine Zy rfl rfl (λK hK=>?_);go_big_quiet_step (fail);refine wpQuiet_nil (hK _ ?_);clear hK K;refine ahQ ?_;refine Pm ?_;intro K hK;refine(fJ a0r r x _ rfl aB).mono ?_;rintro e A4⟨rfl,Eu⟩;go_simp;rw[<-Mx.out];refine hK _ _ Eu ?_;clear hK K;refine mqR ?_;have aoY:=zc (uX.drew.below Eu uX.lt);have MB:=zc (MA.drew.trans (Below.mono Eu (zbQ uX.lt)));have aO:1025+r*256+x.toNat<(.pointer (some ⟨p,0,none⟩)::(Mv.set (256*r+x.toNat) (entry T (256*r+x.toNat))).map W:Lb_).length:=by rw[zaj,zaa,zav,A0.1];omega
     clear Eu;refine aeA ?_;intro K hK;refine aoY.zd8 (v:=W (entry T (1024+(256*r+x.toNat)))) rfl rfl rfl yP rfl rfl aO (λw11 zf0 zfA=>hK _ _ ?_);clear hK K;rw[show 1025+r*256+x.toNat=(1024+(256*r+x.toNat))+1 by omega,zc9,qv] at zf0;have MC:=zc zf0;have MD:=zc (zi MB zfA (zab _));clear zf0 zfA aO;refine aeS ?_;go_wp2;go_roundw;case rel=>exact⟨x.toNat+1,_,ae,rfl,A0.step ae,MC,MD⟩
     case measure=>simp[intOf];omega
    ·obtain rfl:a=256:=ae;have EB:=zc aF;have A0:=ha_ (Laid T (256*(r+1)) Mv) (by rw[show 256*(r+1)=256*r+256 by omega];exact Ec);have Ip:=zc Et;clear Ec Et;go_wp2;go_roundw;case rel=>exact⟨r+1,_,ae,rfl,A0,EB,Ip⟩
     case measure=>simp[intOf];omega
  ·obtain rfl:r=4:=by omega
   obtain rfl:=Laid.all (T:=T) (l:=l) aR;have EB:=zc hb;clear aR;go_wp2;go_ret;obtain rfl:=IP;exact⟨_,rfl,zab _,EB,sy⟩
structure Tab(w:World)(q p:Nat):Prop where
 boxes:Blk w p (a0s.map B) 75
 tab:Blk w q (.pointer (some ⟨p,0,none⟩)::(entries a0s).map W) 68
def Tab.below{w w':World}{q p:Nat}(h:Tab w q p){B:Nat}(hb:Below B w w')(hB:w.heap.size<=B):Tab w' q p :=
 ⟨h.boxes.below hb (za1 h.boxes.lt hB),h.tab.below hb (za1 h.tab.lt hB)⟩
def Tab.drew{w:World}{q p:Nat}(h:Tab w q p):Tab w.drew q p:=⟨h.boxes.drew,h.tab.drew⟩
def Tab.only{w w':World}{q p b:Nat}(h:Tab w q p)(ho:Only b w w')(h1:p≠b)(h2:q≠b):Tab w' q p:=⟨h.boxes.only ho h1,h.tab.only ho h2⟩
def Tab.mix{w:World}{q p:Nat}(h:Tab w q p)(r:Nat)(x:UInt8)(hr:r<4):w.cell? ⟨q,1+r*256+x.toNat,none⟩=some (W (a0t r x)):=by have:=lt8 x;have aH:=kX (l:=entries a0s) (i:=256*r+x.toNat) (by rw[Qa];omega);refine h.tab.cell _ _ ?_;rw[show 1+r*256+x.toNat=(256*r+x.toNat)+1 by omega,zbI];exact jG aH
def Tab.zkH{w:World}{q p:Nat}(h:Tab w q p)(r:Nat)(x:UInt8)(hr:r<4):w.cell? ⟨q,1025+r*256+x.toNat,none⟩=some (W (zg2 r x)):=by have:=lt8 x;have aH:=kX (l:=entries a0s) (i:=1024+256*r+x.toNat) (by rw[Qa];omega);refine h.tab.cell _ _ ?_;rw[show 1025+r*256+x.toNat=(1024+256*r+x.toNat)+1 by omega,zbI];exact jG aH
def Fo(q p:Nat)(b key:La_)(w:World)(ht:Tab w q p)(hlb:b.length=16)(hlk:key.length=16):C_b 144 #[.pointer (some ⟨q,0,none⟩),.agg (b.map B).toArray,.agg (key.map B).toArray] w (.agg ((round b key).map B).toArray):=by
 refine ajJ ht hlb hlk ?_;intro A3 IU ME;clear ht hlb hlk;go_enter func144,ntmps144;go_wp2_with (refine aqD ?_);intro A4 aF Eu;go_wp2_with (refine aqE ?_);intro Ev Ew Et;go_wp2_with (refine aqB ?_);intro IX Ex Ey;go_wp2_with (refine aqB ?_);intro MF MG MH;have aB:=aF.lt;have II:=Ew.lt;have MI:=Ex.lt;have MJ:=MG.lt;have MK:=A3.tab.lt;have ML:=A3.boxes.lt;have ag:=Eu.trans (Et.mono Eu.size);have aM:=ag.trans (Ey.mono ag.size);have ij:=aM.trans (MH.mono aM.size);have uX:=zc (((aF.below Et aB).below Ey ae).below MH ae);have MM:=zc ((Ew.below Ey II).below MH ae);have uY:=zc (Ex.below MH MI);have I9:=zc MG;have EC:=zc ij;have A3:=zc (A3.below ij (zab _));clear Eu Et Ey MH ag aM ij;generalize M1:w.heap.size=MN at*;generalize A4.heap.size=MO at*;generalize Ev.heap.size=MP at*;generalize IX.heap.size=MQ at*;have IZ:=zc M1;clear M1;go_wp2;go_loopw [15] (λc wr=>∃(k:Nat)(l:La_),k<=4/\c=.int .i64 k/\yv (Xi b key) 16 (4*k) l/\Blk wr MN (b.map B) 144/\Blk wr MO (key.map B) 144/\Blk wr MP ((zg 16).map B) 144/\Blk wr MQ (l.map B) 144/\Tab wr q p/\Below MN w wr) (λc _=>4-(intOf c).toNat);case atStart=>exact⟨0,zg 16,ae,rfl,yv.zero (ze _),uX,MM,uY,I9,A3,EC⟩
 case round =>
  clear uX MM uY I9 EC A3;obtain⟨k,l,aQ,rfl,I1,aF,MR,eI,oE,ht,sy⟩:=hrel;refine ajJ I1 aF MR ?_;intro I3 uX MM;refine ajJ eI oE ht ?_;intro uY I9 A3;have EC:=zc sy;clear I1 MR eI ht;by_cases aB:k<4
  ·have ah:decide ((k:Int)<4)=true:=by simp;omega
   go_wp2_with fail;refine(vt _ 16 16 (4*k) key _ ME ae ae MM.lies).mono ?_;rintro ai A4⟨rfl,M6⟩;have MS:=uX.lt;have uX:=zc (uX.below M6 uX.lt);have MM:=zc (MM.below M6 MM.lt);have uY:=zc (uY.below M6 uY.lt);have I9:=zc (I9.below M6 I9.lt);have A3:=zc (A3.below M6 (zab _));have EC:=zc (EC.trans (M6.mono (zbQ MS)));have MT:=zat (zbQ MS) M6.size;clear M6;go_wp2;go_loopw [9,22] (λn c ws=>∃r:Nat,r<=4/\c=.int .i64 r/\n=W (a02 b key k r)/\z9 A4 ws) (λ_ c _=>4-(intOf c).toNat);case atStart=>exact⟨0,ae,rfl,rfl,z9.refl _⟩
   case round =>
    obtain⟨r,eI,rfl,rfl,MU⟩:=hrel;by_cases II:r<4
    ·have eg:yu r k<16:=dk;have az:=λ(x:zL wr.drew)=>(uX.below (MU.drew.trans (Below.mono x.later MU.size)) uX.lt).cell _ _ (zX (a01 (b:=b) (i:=yu r k) (by rw[IU.o];exact eg)));have AV:=λ(x:zL wr.drew)=>(A3.below (MU.drew.trans (Below.mono x.later MU.size)) (zab _)).mix r (at8 b (yu r k)) II;have ag:=lt8 (at8 b (yu r k));go_wp2_with fail;refine zp [0,1,2,3,4,8,9,10,5,6,7,11,12,13,14] e0 e0 ?_;rintro A4 rfl;refine aiz ?_;intro K hK;refine(K1 r k _ II aB).mono ?_;rintro ai Ev⟨rfl,rfl⟩;refine aly ?_;clear hK K;refine mqR ?_;clear az AV eg ag;refine zq ?_;go_wp2;go_roundw;case rel=>exact⟨r+1,ae,rfl,rfl,MU.drew⟩
     case measure=>simp[intOf];omega
    ·obtain rfl:r=4:=ae;have uX:=zc (uX.below MU uX.lt);have MM:=zc (MM.below MU MM.lt);have uY:=zc (uY.below MU uY.lt);have I9:=zc (I9.below MU I9.lt);have A3:=zc (A3.below MU (zab _));have EC:=zc (EC.trans (Below.mono MU MT));have MS:=zat MT MU.size;clear MU;go_wp2_with fail;refine(Xw _ _).mono ?_;rintro ai Ev⟨rfl,Eu⟩;have uX:=zc (uX.below Eu uX.lt);have MM:=zc (MM.below Eu MM.lt);have uY:=zc (uY.below Eu uY.lt);have I9:=zc (I9.below Eu I9.lt);have A3:=zc (A3.below Eu (zab _));have EC:=zc (EC.trans (Below.mono Eu MS));have MT:=zat MS Eu.size;clear Eu;go_wp2_with (refine zf 70 ((zg 4).map B) _ rfl rfl KY rfl ?_);intro Ev aF MV;have uX:=zc (uX.below MV uX.lt);have MM:=zc (MM.below MV MM.lt);have uY:=zc (uY.below MV uY.lt);have MW:=I9.lt;have I9:=zc (I9.below MV I9.lt);have MX:=uY.lt;have A3:=zc (A3.below MV (zab _));have EC:=zc (EC.trans (Below.mono MV MT));have MY:=zc aF;clear MV;go_wp2_with (refine MY.zdP rfl rfl rfl (cs:=(zeb (a02 b key k 4)).map B) rfl jZ ev (by simp[yX]) (zj _) ?_);intro Ev MZ AN;have uX:=zc (uX.only AN ae);have MM:=zc (MM.only AN ae);have uY:=zc (uY.only AN ae);have I9:=zc (I9.only AN ae);have A3:=zc (A3.only AN ae ae);have EC:=zc (zi EC AN ae);have MY:=zc MZ;clear AN MZ;have N0:=λ(w':World)=>xz (P:=pgm) w' 144 5 16 underlying144 zm MQ 0 (4*k) (4*(k:Int)) rfl ae;rw[zbt] at N0;go_wp2_with fail;refine zp [0,1,2,3,4] e0 e0 ?_;rintro Ev rfl;refine aiG ?_;intro K hK;refine I9.drew.zeV (4*k) ((zeb (a02 b key k 4)).map B) rfl rfl rfl underlying23 zm (λ_=>rfl) MY.drew.lies (by rw[zaa,yX];exact(zbF (by omega)).symm) (by rw[zaa,zaa,yX,I3.1];omega) (zj _) (λw12 zfs zfM=>hK _ _ ?_);clear hK K N0;rw[qN] at zfs;have N1:=I3.splice (m:=4) (cs:=zeb (a02 b key k 4)) ae (yX _) (λj hj=>sO b key k j hj);have I3:=ha_ (yv (Xi b key) 16 (4*(k+1)) (splice l (4*k) (zeb (a02 b key k 4)))) N1;have uX:=zc (uX.drew.only zfM ae);have MM:=zc (MM.drew.only zfM ae);have uY:=zc (uY.drew.only zfM ae);have A3:=zc (A3.drew.only zfM ae ae);have EC:=zc (zi EC.drew zfM ae);have I9:=zc zfs;clear zfM zfs N1;refine aeS ?_;go_wp2;go_roundw;case rel=>exact⟨k+1,_,ae,rfl,I3,uX,MM,uY,I9,A3,EC⟩
     case measure=>simp[intOf];omega
  ·obtain rfl:k=4:=ae;have ai:=I3.all;have EM:=ha_ (l=round b key) ai;clear ai;have N2:=I3.1;go_wp2_with (first|(refine I9.zdS rfl rfl rfl zd (by rw[zaa];exact N2) ?_)|(refine uY.zdP rfl rfl rfl rfl zd ev (by rw[zaa];exact N2) (zj _) ?_));intro A4 aF oE;have ED:=zi EC oE ae;go_wp2;refine aF.result rfl rfl rfl zd (by rw[zaa];exact N2) ⟨g7,?_⟩;exact ahj
def nS:∀(cs:Lb_)(k off:Nat)(A:Lb_),off+k+cs.length<=A.length ->
  (cs.zipIdx k).foldl (λ(acc:Array Value)(p:Value×Nat)=>acc.setIfInBounds (off+p.2) p.1) A.toArray=(A.take (off+k)++cs++A.drop (off+k+cs.length)).toArray
 | [],k,off,A,_=>by simp
 | c::r,k,off,A,h=>by
  rw[zaj] at h;rw[zdm,List.foldl_cons];simp only[jb];rw[nS r (k+1) off (A.set (off+k) c) (by rw[zav];omega)];congr 1;rw[zml ae,zaj,show off+(k+1)+r.length=off+k+(r.length+1) by omega];congr 1;rw[show off+(k+1)=(off+k)+1 by omega,zbi,zmm ae];simp[show off+k<A.length by omega]
def fL(n:Nat):∀(vs:List (Lb_))(k:Nat)(A:Lb_),(∀v∈vs,v.length=n)->(k+vs.length)*n<=A.length ->
  Instr.fill (λi=>some (i*n,n)) A.toArray ((vs.zipIdx k).map λp=>(p.2,Value.agg p.1.toArray))=some (A.take (k*n)++vs.flatten++A.drop ((k+vs.length)*n)).toArray
 | [],k,A,_,_=>by simp[Instr.fill]
 | v::r,k,A,hv,h=>by
  have hn:=hv v ab;have hle:k*n+n<=A.length:=by
   have:(k+(v::r).length)*n=k*n+n+r.length*n:=by rw[zaj,zbc,zbc,zbZ];omega
   omega
  rw[zdm,zca];unfold Instr.fill;have ai:(Value.agg v.toArray).cells=v.toArray:=rfl;simp only[ai,zbT,hn];rw[if_neg bq];have eP:=nS v 0 (k*n) A ae;simp only[zci] at eP;have aT:v.toArray.zipIdx.foldl (λ(cs:Array Value)(p:Value×Nat)=>cs.setIfInBounds (k*n+p.2) p.1) A.toArray=(A.take (k*n)++v++A.drop (k*n+v.length)).toArray:=by
   rw[<-eP];simp
  rw[aT,fL n r (k+1) _ (λu hu=>hv u (zaN _ hu)) (by
   rw[zac,zac,zam,List.length_drop,hn,zbF ae];have:(k+(v::r).length)*n=(k+1+r.length)*n:=by rw[zaj];congr 1;omega
   omega)]
  congr 2;have ag:(k+1)*n=k*n+n:=by rw[zbc,zbZ]
  have aM:(k+(v::r).length)*n=k*n+n+r.length*n:=by rw[zaj,zbc,zbc,zbZ];omega
  have ij:(k+1+r.length)*n=k*n+n+r.length*n:=by rw[zbc,ag]
  have aR:(A.take (k*n)++v).length=k*n+n:=by rw[zac,zam,hn,zbF (by omega)]
  rw[ag,aM,ij,List.take_append,List.drop_append,aR,zai ae,zdz,zcn,za5,zak ae,zaB,List.drop_drop,hn,za4];simp only[zal];congr 3;congr 1;omega
def YC{P:Program}(w:World)(t e:TypeId)(n m:Nat)(z:Value)(vs:List (Lb_))(parts:Array (Nat×Value))(ht:P.underlying t=some (.slice e))(hs:(P.info? e).map (λi=>(i.zero,i.size))=some (some z,n))(hz:z.cells.size=n)(hn:0<n)(hm:vs.length=m)(hm0:0<m)(hb:m*n<=16777216)(hv:∀v∈vs,v.length=n)(hp:parts=((vs.zipIdx 0).map λp=>(p.2,Value.agg p.1.toArray)).toArray):(Instr.buildSlice t m parts).run P w=.ok (.slice (some ⟨w.heap.size,0,none⟩) m m) (w.alloc (.cells vs.flatten.toArray e)):=by
 cases hq:P.info? e with
 | none=>rw[hq] at hs;cases hs
 | some x =>
  rw[hq] at hs;simp only[Option.map_some,Option.some.injEq,Prod.mk.injEq] at hs;obtain⟨ag,aM⟩:=hs;have ij:m*n≠0:=Nat.mul_ne_zero ae ae;have eP:=fL n vs 0 ((zax (m*n)).map (z.cells[· % z.cells.size]!)) hv (by simp[hm]);have NJ:((Array.range (m*n)).map (z.cells[· % z.cells.size]!))=((zax (m*n)).map (z.cells[· % z.cells.size]!)).toArray:=by
   rw[<-List.toArray_range,List.map_toArray]
  have eJ:((zax (m*n)).map (z.cells[· % z.cells.size]!)).length=m*n:=ab;rw[zcj,zcn,zaB,zbt,hm,zak ae,za5] at eP;subst hp;simp[Instr.buildSlice,run_underlying ht,sizeOf,typeInfo,hq,aM,ij,show ¬(16777216<m*n) by omega,zeroValue,ag,newRow];rw[NJ,eP];rfl
def qL{P:Program}{w:World}{ops:Array Oper}{rest:List Oper}{o:Oper}{a:Act}{Q:Exit->Act->World->Prop}(t e:TypeId)(n m:Nat)(z:Value)(vs:List (Lb_)){parts:Array (Nat×Operand)}(hgd:o.guard=none)(ho:o.op=.buildSlice t m parts)(hp':(parts.toList.map λp=>(p.1,a.eval p.2))=(vs.zipIdx 0).map λp=>(p.2,Value.agg p.1.toArray))(ht:P.underlying t=some (.slice e))(hs:(P.info? e).map (λi=>(i.zero,i.size))=some (some z,n))(hz:z.cells.size=n)(hn:0<n)(hm:vs.length=m)(hm0:0<m)(hb:m*n<=16777216)(hv:∀v∈vs,v.length=n)(k:∀w',Blk w' w.heap.size vs.flatten e->Below w.heap.size w w'->wpList P ops Q rest (a.put o.dst (.slice (some ⟨w.heap.size,0,none⟩) m m)) w'):wpList P ops Q (o::rest) a w:=by
 refine wpList_plain hgd λK hK=>?_;have eE:(parts.map λ(i,x)=>(i,a.eval x))=((vs.zipIdx 0).map λp=>(p.2,Value.agg p.1.toArray)).toArray:=by
  exact asM
 refine ah3 ?_;intro aQ aP;exact hK _ _ aQ
def qD{P:Program}{w:World}{o:Oper}{a:Act}{K:Act->World->Prop}{Q:Exit->Act->World->Prop}(t e:TypeId)(n m:Nat)(z:Value)(vs:List (Lb_)){parts:Array (Nat×Operand)}(ho:o.op=.buildSlice t m parts)(hp':(parts.toList.map λp=>(p.1,a.eval p.2))=(vs.zipIdx 0).map λp=>(p.2,Value.agg p.1.toArray))(ht:P.underlying t=some (.slice e))(hs:(P.info? e).map (λi=>(i.zero,i.size))=some (some z,n))(hz:z.cells.size=n)(hn:0<n)(hm:vs.length=m)(hm0:0<m)(hb:m*n<=16777216)(hv:∀v∈vs,v.length=n)(k:∀w',Blk w' w.heap.size vs.flatten e->Below w.heap.size w w'->K (a.put o.dst (.slice (some ⟨w.heap.size,0,none⟩) m m)) w'):o.wp P a w K Q:=by
 have eE:(parts.map λ(i,x)=>(i,a.eval x))=((vs.zipIdx 0).map λp=>(p.2,Value.agg p.1.toArray)).toArray:=by
  exact asM
 refine ah3 ?_;intro aQ aP;exact aQ
def _root_.Go.Exit.jumps(J:Nat->Act->World->Prop)(Q:Exit->Act->World->Prop):Exit->Act->World->Prop
 | .goto l,a,w=>J l a w
 | e,a,w=>Q e a w
def Y5(P:Program)(c:Code)(J:Nat->Act->World->Prop)(Q:Exit->Act->World->Prop):Code->Act->World->Prop
 | .seq (.label l') y,a,w=>qB c l'=some y/\J l' a w
 | .seq x y,a,w=>x.wp P (Exit.then (Y5 P c J Q y) (Exit.jumps J Q)) a w
 | x,a,w=>x.wp P (Exit.jumps J Q) a w
section
variable{P:Program}{a:Act}{w:World}{Q:Exit->Act->World->Prop}
def dw{c:Code}(J:Nat->Act->World->Prop)(μ:Nat->Act->World->Nat)(first:c.wp P (Exit.jumps J Q) a w)(pass:∀l a w,J l a w->∃rest,findLabel c l=some rest/\rest.wp P (Exit.jumps (λl' a' w'=>J l' a' w'/\μ l' a' w'<μ l a w) Q) a w):(Code.scope c).wp P Q a w:=by
 intro ax Pp RE;have ow:∀n l a w rest,μ l a w=n->J l a w->findLabel c l=some rest->∃e a' w',Q e a' w'/\Arrives P (lone (ax.at a (.code rest::.inScope c::Pp)) RE w) ax Pp RE e a' w':=by
  intro n;induction n using zdA with
  | _ n ih =>
   intro l a w rest aD Iq eP;obtain⟨oJ,AK,eE⟩:=pass l a w Iq;rw[eP] at AK;obtain rfl:rest=oJ:=zaW AK;obtain⟨e,RF,RG,eA,RH⟩:=eE ax (.inScope c::Pp) RE;cases e with
   | normal=>exact⟨.normal,RF,RG,eA,Steps.trans RH (.one step_inScope)⟩
   | exit id=>exact⟨.exit id,RF,RG,eA,λk' hk=>RH k' (by simp[exitTo,hk])⟩
   | goto l' =>
    obtain⟨Iq,aB⟩:=eA;obtain⟨RI,eP,_⟩:=pass l' RF RG Iq;have oG:gotoIn l' (.inScope c::Pp)=some (.code RI::.inScope c::Pp):=by simp[gotoIn,eP]
    obtain⟨RJ,RK,RL,RM,RN⟩:=ih _ ae l' RF RG RI rfl Iq eP;exact⟨RJ,RK,RL,RM,.of_steps (RH _ oG) RN⟩
   | ret=>exact⟨_,RF,RG,eA,RH⟩
   | panic ch=>exact⟨_,RF,RG,eA,RH⟩
   | outgrown=>exact⟨_,RF,RG,eA,RH⟩
 obtain⟨e,RF,RG,eA,RH⟩:=first ax (.inScope c::Pp) RE
 cases e with
 | normal=>exact⟨.normal,RF,RG,eA,.head step_scope (Steps.trans RH (.one step_inScope))⟩
 | exit id=>exact⟨.exit id,RF,RG,eA,λk' hk=>.head step_scope (RH k' (by simp[exitTo,hk]))⟩
 | goto l' =>
  obtain⟨RI,eP,_⟩:=pass l' RF RG eA;have oG:gotoIn l' (.inScope c::Pp)=some (.code RI::.inScope c::Pp):=by simp[gotoIn,eP]
  obtain⟨RJ,RK,RL,RM,RN⟩:=ow _ l' RF RG RI rfl eA eP;exact⟨RJ,RK,RL,RM,.of_steps (.head step_scope (RH _ oG)) RN⟩
 | ret=>exact⟨_,RF,RG,eA,.of_steps (.one step_scope) RH⟩
 | panic ch=>exact⟨_,RF,RG,eA,.of_steps (.one step_scope) RH⟩
 | outgrown=>exact⟨_,RF,RG,eA,.of_steps (.one step_scope) RH⟩
def fN{c:Code}{J:Nat->Act->World->Prop}(H:∀l a w y,J l a w->qB c l=some y->y.wp P (Exit.jumps J Q) a w):∀(z:Code)(a:Act)(w:World),Y5 P c J Q z a w->z.wp P (Exit.jumps J Q) a w:=by
 intro z;induction z with
 | seq x y ihx ihy =>
  intro a w eE;by_cases aR:∃l',x=.label l'
  ·obtain⟨l',rfl⟩:=aR;simp only[Y5] at eE;exact wp_seq (wp_label (H _ _ _ _ eE.2 eE.1))
  ·have Ir:x.wp P (Exit.then (Y5 P c J Q y) (Exit.jumps J Q)) a w:=by
    cases x<;>first|exact eE|exact absurd ⟨_,rfl⟩ aR
   refine wp_seq (wp_mono Ir ?_);intro ai eT A4 eA;cases ai with
   | normal=>exact ihy _ _ eA
   | _=>exact eA
 | _=>intro a w eE;exact eE
def XY{c:Code}(J:Nat->Act->World->Prop)(μ:Nat->Act->World->Nat)(first:Y5 P c J Q c a w)(pass:∀l a w,J l a w->∃y,qB c l=some y/\Y5 P c (λl' a' w'=>J l' a' w'/\μ l' a' w'<μ l a w) Q y a w):(Code.scope c).wp P Q a w:=by
 have RO:∀n l a w y,μ l a w=n->J l a w->qB c l=some y->y.wp P (Exit.jumps (λl' a' w'=>J l' a' w'/\μ l' a' w'<μ l a w) Q) a w:=by
  intro n;induction n using zdA with
  | _ n ih =>
   intro l a w y aD hJ hy;obtain⟨er,et,eg⟩:=pass l a w hJ;rw[hy] at et;obtain rfl:y=er:=zaW et;refine fN (λl' a' w' z hJ' hz=>?_) y a w eg;refine wp_mono (ih _ ae l' a' w' z rfl hJ'.1 hz) ?_;intro ai eT A4 eA;cases ai with
   | goto l2=>exact⟨eA.1,Nat.lt_trans eA.2 hJ'.2⟩
   | _=>exact eA
 refine dw J μ (fN (λl a w y hJ hy=>?_) c _ _ first) (λl a w hJ=>?_)
 ·refine wp_mono (RO _ l a w y rfl hJ hy) ?_;intro ai eT A4 eA;cases ai with
  | goto l2=>exact eA.1
  | _=>exact eA
 ·obtain⟨y,hy,_⟩:=pass l a w hJ;exact⟨_,XX c l y hy,wp_seq (wp_skip (RO _ l a w y rfl hJ hy))⟩
@[go_sem] theorem _root_.Go.Exit.zhg(J:Nat->Act->World->Prop)(a:Act)(w:World):Exit.jumps J Q .normal a w=Q .normal a w:=rfl
@[go_sem] theorem _root_.Go.Exit.zib(J:Nat->Act->World->Prop)(id:Nat)(a:Act)(w:World):Exit.jumps J Q (.exit id) a w=Q (.exit id) a w:=rfl
@[go_sem] theorem _root_.Go.Exit.zeZ(J:Nat->Act->World->Prop)(a:Act)(w:World):Exit.jumps J Q .ret a w=Q .ret a w:=rfl
@[go_sem] theorem _root_.Go.Exit.zic(J:Nat->Act->World->Prop)(l:Nat)(a:Act)(w:World):Exit.jumps J Q (.goto l) a w=J l a w:=rfl
@[go_sem] theorem _root_.Go.Exit.zhD(J:Nat->Act->World->Prop)(ch:List PanicEntry)(a:Act)(w:World):Exit.jumps J Q (.panic ch) a w=Q (.panic ch) a w:=rfl
end
def _root_.Go.Region.after:List Nat->Array Bool->Array Bool
 | [],l=>l
 | i::r,l=>Region.after r (l.setIfInBounds i true)
def _root_.Go.Region.zfU(brk:List Nat)(md:Region.Mode)(ops:Array Oper):List Nat->Array Bool->Bool
 | [],_=>true
 | i::r,listed =>
  (match ops[i]? with
   | none=>false
   | some _=>(Region.ready md ops listed).contains i&&Region.zgq brk md ops listed i) &&
  Region.zfU brk md ops r (listed.setIfInBounds i true)
section
variable{P:Program}{ops:Array Oper}{Q:Exit->Act->World->Prop}{md:Region.Mode}{R:World->World->Prop}{brk:List Nat}{C:Act->World->Prop}
def je(R:World->World->Prop)(P:Program)(ops:Array Oper)(C:Act->World->Prop):List Nat->Act->World->Prop
 | [],a,w=>C a w
 | i::r,a,w =>
  match ops[i]? with
  | none=>False
  | some o =>
   if Region.wanted o (yielded ops a.tmps)=true then ∃v,(∀w',R w w'->(execOp a.eval o).run P w'=.ok (.value v) w')/\je R P ops C r (a.put o.dst v) w
   else je R P ops C r (a.put o.dst undef) w
def YF(fuel:Nat)(hrf:∀a,R a a)(ht:∀a b c,R a b->R b c->R a c)(hs:Region.noSelect ops=true)(hQ:∀c a w,¬Q (.panic c) a w):∀(order:List Nat)(listed:Array Bool)(a:Act)(w:World),
  Region.zfU brk md ops order listed=true->je R P ops (kh R brk P md ops Q fuel (Region.after order listed)) order a w->kh R brk P md ops Q (order.length+fuel) listed a w
 | [],listed,a,w,_,h=>by
  simp only[List.length_nil,zbt];exact h
 | i::r,listed,a,w,hB,h=>by
  simp only[Region.zfU,Bool.and_eq_true] at hB;obtain⟨hB1,hB2⟩:=hB;have hfu:(i::r).length+fuel=(r.length+fuel)+1:=by simp only[zaj];omega
  rw[hfu];cases ho:ops[i]? with
  | none=>simp[ho] at hB1
  | some o =>
   simp only[ho,Bool.and_eq_true] at hB1;simp only[je,ho,Region.after] at h;by_cases Am:Region.wanted o (yielded ops a.tmps)=true
   ·rw[if_pos Am] at h;obtain⟨aK,aL,eI⟩:=h;obtain⟨Ek,_,E8,E9,Ea,Eb⟩:=Region.zeL ho hB1.2;exact jl hrf ht ho (Region.noSelect_spec hs) (λc a w hq=>absurd hq (hQ _ _ _)) Ek E8 E9 (r.length+fuel) listed a w Ea Eb eb (.inl ⟨Am,aL⟩)
     (YF fuel hrf ht hs hQ r _ _ _ hB2 eI)
   ·rw[if_neg Am] at h;obtain⟨Ek,_,E8,E9,Ea,Eb⟩:=Region.zeL ho hB1.2;exact jl hrf ht ho (Region.noSelect_spec hs) (λc a w hq=>absurd hq (hQ _ _ _)) Ek E8 E9 (r.length+fuel) listed a w Ea Eb eb (.inr ⟨by simpa using Am,rfl⟩)
     (YF fuel hrf ht hs hQ r _ _ _ hB2 h)
def Wg{id:Nat}{l:List Oper}{a:Act}{w:World}(R:World->World->Prop)(brk:List Nat)(order:List Nat)(fuel:Nat)(hrf:∀a,R a a)(ht:∀a b c,R a b->R b c->R a c)(hm:P.follows .mixedOrders=true)(hB:(Region.noSelect l.toArray&&(order.length+fuel==l.length)&&Region.zfU brk .any l.toArray order (zaY l.length false))=true)(h:∀w',w'=w.drew->je R P l.toArray (kh R brk P .any l.toArray (NoPanic Q) fuel (Region.after order (zaY l.length false))) order a w'):(Code.region id l.toArray true).wp P Q a w:=by simp only[Bool.and_eq_true,beq_iff_eq] at hB;obtain⟨⟨eg,aR⟩,hB⟩:=hB;refine wp_region_noPanic (wp_region_any hm (XA (R:=R) (brk:=brk) _ _ _ _ ?_));have:=YF (R:=R) (brk:=brk) (P:=P) (Q:=NoPanic Q) fuel hrf ht eg (λc a w hq=>hq) order _ a w.drew hB (h _ rfl);rw[aR] at this;exact this
def tK{fuel i j:Nat}{oi oj:Oper}{listed:Array Bool}{a:Act}{w:World}(hr:Region.ready md ops listed=[i,j])(hoi:ops[i]? = some oi)(hoj:ops[j]? = some oj)(hwi:Region.wanted oi (yielded ops a.tmps)=true)(hwj:Region.wanted oj (yielded ops a.tmps)=true)(h1:∀K:Act->World->Prop,(∀a' w',(brk.contains i=false->R w w')->kh R brk P md ops Q fuel (listed.setIfInBounds i true) a' w'->K a' w')->oi.wp P a w K Q)(h2:∀K:Act->World->Prop,(∀a' w',(brk.contains j=false->R w w')->kh R brk P md ops Q fuel (listed.setIfInBounds j true) a' w'->K a' w')->oj.wp P a w K Q):kh R brk P md ops Q (fuel+1) listed a w:=by
 refine⟨λh=>(by rw[hr] at h;cases h),λk hk=>?_⟩;rw[hr] at hk;simp only[zau,zbr,or_false] at hk;rcases hk with rfl|rfl
 ·unfold wpOp;simp only[hoi];rw[if_pos hwi];exact .inl (h1 _ λ_ _ ha hb=>⟨ha,hb⟩)
 ·unfold wpOp;simp only[hoj];rw[if_pos hwj];exact .inl (h2 _ λ_ _ ha hb=>⟨ha,hb⟩)
def VG{a:Act}{w:World}(h:C a w):je R P ops C [] a w:=h
def Y7{i:Nat}{r:List Nat}{o:Oper}{tl:List Oper}{a:Act}{w:World}(hd:ops.toList.drop i=o::tl)(hk:o.zen=0)(hh:∀K:Act->Prop,(∀a',je R P ops C r a' w->K a')->wpQuiet P ops (WO R w) K [o] a):je R P ops C (i::r) a w:=by
 have h:=hh (λa'=>je R P ops C r a' w) (λ_ h=>h);have oE:ops[i]? = some o:=by
  exact agp
 simp only[wpQuiet] at h;simp only[je,oE];exact af3
end
section
variable{P:Program}{ops:Array Oper}{Q:Exit->Act->World->Prop}{md:Region.Mode}{R:World->World->Prop}{brk:List Nat}
def Jb{C C':Act->World->Prop}(hc:∀a w,C a w->C' a w):∀(order:List Nat)(a:Act)(w:World),je R P ops C order a w->je R P ops C' order a w
 | [],a,w,h=>hc a w h
 | i::r,a,w,h=>by
  unfold je at h |-;cases ho:ops[i]? with
  | none=>rw[ho] at h;exact h
  | some o =>
   simp only[ho] at h |-;by_cases hw:Region.wanted o (yielded ops a.tmps)=true
   ·rw[if_pos hw] at h |-;obtain⟨v,hv,hr⟩:=h;exact⟨v,hv,Jb hc r _ _ hr⟩
   ·rw[if_neg hw] at h |-;exact Jb hc r _ _ h
def Wi{id:Nat}{l:List Oper}{a:Act}{w:World}(R:World->World->Prop)(brk:List Nat)(s0 M:List Nat)(s2:List (Nat×Bool))(need:List (Nat×List Nat))(I:(Nat->Bool)->Act->World->Prop)(hrf:∀a,R a a)(ht:∀a b c,R a b->R b c->R a c)(hm:P.follows .mixedOrders=true)(hB:(Region.noSelect l.toArray&&(s0.length+(M.length+s2.length)==l.length)&&Region.zfU brk .any l.toArray s0 (zaY l.length false)&&Region.zfm .any l.toArray M need (Region.after s0 (zaY l.length false)) &&
   Region.zfD brk .any l.toArray s2 (Region.plus (Region.after s0 (zaY l.length false)) M))=true)(h:∀w',w'=w.drew->je R P l.toArray (λa w1=>I (λ_=>false) a w1) s0 a w')(hstep:∀D a w k,k∈M->D k=false->(∀d∈yw need k,D d=true)->I D a w->wpOp P l.toArray (NoPanic Q) k (λa' w'=>(brk.contains k=false->R w w')/\I (λj=>D j||j==k) a' w') a w)(hend:∀a w,I (λj=>M.contains j) a w->zR R brk P l.toArray (NoPanic Q) s2 a w):(Code.region id l.toArray true).wp P Q a w:=by simp only[Bool.and_eq_true,beq_iff_eq] at hB;obtain⟨⟨⟨⟨eg,aR⟩,ag⟩,a2b⟩,Em⟩:=hB;refine Wg R brk s0 (M.length+s2.length) hrf ht hm (by simp only[Bool.and_eq_true,beq_iff_eq];exact⟨⟨eg,aR⟩,ag⟩) (λw' hw'=>?_);refine Jb ?_ _ _ _ (h w' hw');intro eT w1 ag;have:=QG (R:=R) (brk:=brk) (P:=P) (Q:=NoPanic Q) M need I _ s2.length a2b hstep (λa w fuel hf hk=>Wh _ _ _ _ _ hf (kq hrf ht eg (λc a w hq=>hq) s2 _ a w Em (hend a w hk))) M.length (λ_=>false) eT w1 (M.length+s2.length) (List.length_filter_le _ _) ab ab ag (zab _);rw[show M.filter (λ_=>false)=[] from List.filter_eq_nil_iff.2 ab] at this;exact this
end
section
variable{P:Program}{ops:Array Oper}{Q:Exit->Act->World->Prop}{md:Region.Mode}{brk:List Nat}{C:Act->World->Prop}
instance (w:World):Nonempty (zO z9 w):=⟨⟨w,z9.refl w⟩⟩
def Wn{i:Nat}{r:List Nat}{o:Oper}{a:Act}{w:World}{ty:TypeId}{x:Operand}{b off n:Nat}{vs:Lb_}(h:w.rangeAt b off vs)(hb:b<w.heap.size)(hr:Row P ty n)(hn:vs.length=n)(ho:ops[i]? = some o)(hg:o.guard=none)(hop:o.op=.load ty x)(hx:a.eval x=.pointer (some ⟨b,off,none⟩))(k:∀K:Act->Prop,(∀a',je z9 P ops C r a' w->K a')->K (a.put o.dst (.agg vs.toArray))):je z9 P ops C (i::r) a w:=by have Am:Region.wanted o (yielded ops a.tmps)=true:=eo;simp only[je,ho,Am,if_true];exact⟨_,λw' hw'=>Z9 hop hx hr hn (jB h hw' hb),k _ λ_ h=>h⟩
def J2{listed:Array Bool}{a:Act}{w:World}(order:List (Nat×Nat))(hB:(Region.noSelect ops&&Region.checkN brk md ops order listed)=true)(h:xc z9 brk P ops (NoPanic Q) order a w):kh z9 brk P md ops (NoPanic Q) order.length listed a w:=by simp only[Bool.and_eq_true] at hB;exact xP z9.refl (λ_ _ _ h1 h2=>h1.trans h2) hB.1 (λc a w hq=>hq) order listed a w hB.2 h
end
open ChangeShapes WideShapes
variable{w w':World}{ao:OA}{vs:List (Lb_)}{i base fuel:Nat}{H:Type}{enc:TypeId×Value->H}{P:Program}{spare:Nat->Bool}{held:Bool}{t:TypeId}{fs:Array Field}{cs:Lb_}{x:DataW H×List MemPlace}
structure a03(n:Nat)(w:World)(ao:OA)(vs:List (Lb_)):Prop where
 each:∀v∈vs,v.length=n
 lies:zr w ao vs.flatten
def a04(n:Nat):∀(vs:List (Lb_))(i j:Nat)(v:Lb_),(∀v∈vs,v.length=n)->vs[i]? = some v->j<n->vs.flatten[n*i+j]? = v[j]?
 | [],i,j,v,_,hi,_=>by cases hi
 | x::vs,0,j,v,hv,hi,hj=>by
  simp at hi;subst hi;have:=hv x ab;rw[za4,Nat.mul_zero,zbt,zbC ae]
 | x::vs,i+1,j,v,hv,hi,hj=>by
  have:=hv x ab;rw[zbI] at hi;rw[za4,za6 (by rw[zdy];omega),this,show n*(i+1)+j-n=n*i+j by rw[zdy];omega];exact a04 n vs i j v (λu hu=>hv u (zaN _ hu)) hi hj
def JH(n:Nat):∀vs:List (Lb_),(∀v∈vs,v.length=n)->vs.flatten.length=vs.length*n
 | [],_=>by simp
 | x::vs,hv=>by
  rw[za4,zac,hv x ab,JH n vs (λu hu=>hv u (zaN _ hu)),zaj,zbc];omega
def a03.below{n:Nat}(h:a03 n w ao vs)(hb:Below w.heap.size w w'):a03 n w' ao vs:=⟨h.each,h.lies.below hb⟩
def a03.nil(n:Nat)(w:World)(ao:OA):a03 n w ao []:=⟨ab,zr.nil _ _⟩
def a03.range{n:Nat}(h:a03 n w ao vs)(hn:0<n){v:Lb_}(hi:vs[i]? = some v):∃b off,ao=some ⟨b,off,none⟩/\b<w.heap.size/\w.rangeAt b (off+i*n) v:=by
 have aQ:=h.each v (zad hi);have oK:∀j u,v[j]? = some u->vs.flatten[n*i+j]? = some u:=λj u hu=>by
  have aA:j<n:=by
   exact al1
  rw[a04 n vs i j v h.each hi aA];exact hu
 exact akT
def BZ{e:TypeId}{C:Nat}(ht:P.underlying t=some (.slice e))(he:P.underlying e=some (.struct fs))(hC:P.cellsOf e=C)(hC0:0<C)(h:DataW.trod enc P w base spare held fuel t cs=some x):∃(ao:OA)(len cap:Nat)(vs:List (Lb_)),cs=[.slice ao len cap]/\vs.length=len/\len<=cap/\cap<=maxLen/\a03 C w ao vs /\
   ∀v∈vs,∃n,∀(i:Nat)(f:Field),fs[i]? = some f->∃y,DataW.trod enc P w base spare held n f.type ((v.drop f.offset).take (P.cellsOf f.type))=some y:=by
 rcases Go.Deep.open_slice ht h with⟨rfl,_⟩|⟨a,len,cap,m,n,D,Pl,rfl,hb,hl,hm,hmm,rfl,hx⟩
 ·exact⟨none,0,0,[],rfl,rfl,zab _,bk,a03.nil _ _ _,ab⟩
 have a4v:len<=m:=by rw[hmm];split<;>omega
 have aaI:∀i,i<len->∃v:Lb_,v.length=C/\(∀j u,v[j]? = some u->w.cell? (a.add (i*C+j))=some u) /\
   ∃n,∀(i:Nat)(f:Field),fs[i]? = some f->∃y,DataW.trod enc P w base spare held n f.type ((v.drop f.offset).take (P.cellsOf f.type))=some y:=by
  intro i aO;obtain⟨RE,ag,aM⟩:=hx i ae;rw[hC] at ag;obtain⟨_,eJ,A1⟩:=World.cells?_some ag;obtain⟨Te,Pp,aQ,aaJ,_,EP,eP⟩:=DataW.trod_struct he aM;refine⟨RE,eJ,λj u hu=>?_,Pp,λi f hfi=>?_⟩
  ·have aA:j<C:=by
    rcases zbl j C with h|h
    ·exact h
    ·rw[zaf ae] at hu;cases hu
   have:=A1 j aA;rw[Go.Deep.add_add] at this;rw[this,hu]
  ·have ig:i<Te.length:=by
    rw[EP];exact(zaQ.1 hfi).1
   refine⟨Te[i],?_⟩;rw[eP i f hfi];simp[ig]
 obtain⟨Tz,Ty⟩:=Go.Deep.choose_lt aaI;refine⟨some a,len,cap,(zax len).map Tz,rfl,ab,hl,hm,⟨?_,?_⟩,?_⟩
 ·intro v aL;obtain⟨i,aO,rfl⟩:=zaz.1 aL;exact(Ty i (zcg.1 aO)).1
 ·intro j u hu;have aaK:∀v∈(zax len).map Tz,v.length=C:=by
   intro v aL;obtain⟨i,aO,rfl⟩:=zaz.1 aL;exact(Ty i (zcg.1 aO)).1
  have Nz:((zax len).map Tz).flatten.length=len*C:=by
   rw[JH C _ aaK];simp
  have aA:j<len*C:=by
   rcases zbl j (len*C) with h|h
   ·exact h
   ·rw[zaf ae] at hu;cases hu
  have aO:j/C<len:=Nat.div_lt_of_lt_mul (by rw[zcu];exact aA);have eh:j%C<C:=zc7 _ hC0;have oK:=a04 C _ (j/C) (j%C) (Tz (j/C)) aaK (by simp[aO]) eh;rw[zcX] at oK;rw[oK] at hu;have aM:=(Ty _ aO).2.1 _ _ hu;rw[show j/C*C+j%C=j by rw[zcu];exact zcX j C] at aM;have aaL:0<len:=Nat.lt_of_le_of_lt (zcr _) aO;have aR:=(Ty 0 aaL).1;have ag:=(Ty 0 aaL).2.1 0 ((Tz 0)[0]'(by rw[aR];exact hC0)) ab;rw[zcj] at ag;have eg:=World.cell?_spot ag;obtain⟨ax,ay,aI⟩:=a;have eF:aI=none:=by simpa[Addr.add] using eg
  subst eF;exact⟨ax,ay,rfl,by rw[add_eq] at aM;exact aM⟩
 ·intro v aL;obtain⟨i,aO,rfl⟩:=zaz.1 aL;exact(Ty i (zcg.1 aO)).2.2
structure Opr where
 c:Cmd
 ko:OA
 kc:Nat
 bo:OA
 bc:Nat
def Opr.vals(x:Opr):Lb_ :=
 [.int .i64 x.c.kind,.int .i64 x.c.a,.int .i64 x.c.n,.int .i64 x.c.m,.slice x.ko x.c.key.length x.kc,.slice x.bo x.c.b.length x.bc,.string (str x.c.name)]
def a05(n:Int):Prop:=-9223372036854775808<=n/\n<=9223372036854775807
structure Opr.In(w:World)(x:Opr):Prop where
 kind:a05 x.c.kind
 a:a05 x.c.a
 n:a05 x.c.n
 m:a05 x.c.m
 key:zr w x.ko (x.c.key.map B)
 b:zr w x.bo (x.c.b.map B)
 kc:x.c.key.length<=x.kc/\x.kc<=maxLen
 bc:x.c.b.length<=x.bc/\True
 name:x.c.name.length<=maxLen
def Opr.In.below{x:Opr}(h:x.In w)(hb:Below w.heap.size w w'):x.In w' :=
 ⟨h.kind,h.a,h.n,h.m,h.key.below hb,h.b.below hb,h.kc,h.bc,h.name⟩
def Opr.zew(x:Opr):x.vals.length=7:=rfl
def Opr.zfa(x:Opr):∀v∈x.vals,v.oneCell'=true:=by intro v aL;simp only[Opr.vals,zau,zbr,or_false] at aL;rcases aL with rfl|rfl|rfl|rfl|rfl|rfl|rfl<;>rfl
structure wN(w:World)(ao:OA)(xs:List Opr):Prop where
 rows:a03 7 w ao (xs.map Opr.vals)
 each:∀x∈xs,x.In w
def wN.below{xs:List Opr}(h:wN w ao xs)(hb:Below w.heap.size w w'):wN w' ao xs :=
 ⟨h.rows.below hb,λx hx=>(h.each x hx).below hb⟩
def wN.at{xs:List Opr}(h:wN w ao xs){x:Opr}(hi:xs[i]? = some x):x.In w/\∃b off,ao=some ⟨b,off,none⟩/\b<w.heap.size/\w.rangeAt b (off+i*7) x.vals :=
 ⟨h.each x (zad hi),h.rows.range ae Ax⟩
def a06{n:Int}(h:(Lit.int .i64 n).wf=true):a05 n:=by have:-9223372036854775808<=n/\n<=9223372036854775807:=dr;exact this
def a07{e:TypeId}(ht:P.underlying t=some (.slice e))(he:P.underlying e=some (.int .u8))(hc:P.cellsOf e=1)(h:DataW.trod enc P w base spare held fuel t cs=some x):∃(ao:OA)(cap:Nat)(bs:La_),cs=[.slice ao bs.length cap]/\bs.length<=cap/\cap<=maxLen/\zr w ao (bs.map B):=by exact akQ
def open_ops{e ti ts tb ty:TypeId}(ht:P.underlying t=some (.slice e))(he:P.underlying e=some (.struct fs))(hC:P.cellsOf e=7)(hfs:fs.toList.map (λf=>(f.type,f.offset))=[(ti,0),(ti,1),(ti,2),(ti,3),(ts,4),(ts,5),(tb,6)])(hi:P.underlying ti=some (.int .i64))(hs:P.underlying ts=some (.slice ty))(hy:P.underlying ty=some (.int .u8))(hb:P.underlying tb=some .string)(ci:P.cellsOf ti=1)(cs':P.cellsOf ts=1)(cy:P.cellsOf ty=1)(cb:P.cellsOf tb=1)(h:DataW.trod enc P w base spare held fuel t cs=some x):∃(ao:OA)(cap:Nat)(xs:List Opr),cs=[.slice ao xs.length cap]/\xs.length<=cap/\cap<=maxLen/\wN w ao xs:=by
 obtain⟨ao,aaM,cap,vs,rfl,aR,a1h,S8,O4,aL⟩:=BZ ht he hC ae h;have aaI:∀v∈vs,∃x:Opr,v=x.vals/\x.In w:=by
  intro v aaN;have eJ:=O4.each v aaN;obtain⟨Ep,eP⟩:=aL v aaN;obtain⟨Mv⟩:=fs;simp only at hfs;have Ig:Mv.length=7:=by have:=congrArg List.length hfs;simpa using this
  match Mv,Ig,hfs with
  | [f0,f1,f2,f3,f4,f5,f6],_,hfs =>
   simp only[zca,List.map_nil,zdw,Prod.mk.injEq,and_true] at hfs;obtain⟨⟨ek,oC⟩,⟨iJ,oD⟩,⟨iK,aaO⟩,⟨iL,aaP⟩,⟨iM,aaQ⟩,⟨iN,aaR⟩,⟨iO,aaS⟩⟩:=hfs
   match v,eJ with
   | [v0,v1,v2,v3,v4,v5,v6],_ =>
    obtain⟨er,ie⟩:=eP 0 f0 rfl;obtain⟨er,oL⟩:=eP 1 f1 rfl;obtain⟨er,oM⟩:=eP 2 f2 rfl;obtain⟨er,oN⟩:=eP 3 f3 rfl;obtain⟨er,oO⟩:=eP 4 f4 rfl;obtain⟨er,oP⟩:=eP 5 f5 rfl;obtain⟨er,aaT⟩:=eP 6 f6 rfl;simp only[ek,iJ,iK,iL,iM,iN,iO,oC,oD,aaO,aaP,aaQ,aaR,aaS,ci,cs',cb,List.drop_succ_cons,List.drop_zero,List.take_succ_cons,zcn] at ie oL oM oN oO oP aaT;exact asz
 have:∃xs:List Opr,vs=xs.map Opr.vals/\∀x∈xs,x.In w:=by
  clear O4 aL aR h;induction vs with
  | nil=>exact⟨[],rfl,ab⟩
  | cons v vs ih =>
   obtain⟨x,rfl,aH⟩:=aaI v ab;obtain⟨xs,rfl,aaY⟩:=ih (λu hu=>aaI u (zaN _ hu));refine⟨x::xs,rfl,λy hy=>?_⟩;rcases zau.1 hy with rfl|hy
   ·exact aH
   ·exact aaY y hy
 obtain⟨xs,rfl,aaY⟩:=this;rw[zaa] at aR;subst aR;exact⟨ao,cap,xs,rfl,a1h,S8,O4,aaY⟩
structure rq where
 e:Int
 n:Int
 bo:OA
 bc:Nat
 b:La_
def rq.vals(x:rq):Lb_:=[.int .i64 x.e,.int .i64 x.n,.slice x.bo x.b.length x.bc]
structure rq.In(w:World)(x:rq):Prop where
 e:a05 x.e
 n:a05 x.n
 b:zr w x.bo (x.b.map B)
 bc:x.b.length<=x.bc/\x.bc<=maxLen
structure GF(w:World)(ao:OA)(xs:List rq):Prop where
 rows:a03 3 w ao (xs.map rq.vals)
 each:∀x∈xs,x.In w
def GF.at{xs:List rq}(h:GF w ao xs){x:rq}(hi:xs[i]? = some x):x.In w/\∃b off,ao=some ⟨b,off,none⟩/\b<w.heap.size/\w.rangeAt b (off+i*3) x.vals :=
 ⟨h.each x (zad hi),h.rows.range ae Ax⟩


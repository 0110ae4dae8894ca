/- Laws. -/
import Derived.Test.YtkochfajaaiekaaGreatDoorY16
set_option linter.all false
set_option maxHeartbeats 16000000
set_option maxRecDepth 100000
open Int renaming toNat_natCast->zbL
open List renaming append_assoc->zal,append_nil->za5,drop_of_length_le->zcU,eq_of_mem_replicate->zbJ,getElem?_drop->zbw,getElem?_eq_some_iff->zbD,getElem?_map->zay,length_append->zac,length_cons->zaj,length_drop->zan,length_map->zaa,length_nil->zas,length_take->zam,map_append->zaD,map_drop->zcb,map_set->zct,map_take->zbW,mem_cons->zau,mem_or_eq_of_mem_set->zcK,replicate->zah,take_add_one->zbi,take_of_length_le->zai
open Nat renaming add_comm->zb5,eq_zero_or_pos->zdj,le_refl->zab,le_trans->zat,lt_of_lt_of_le->za1,lt_or_ge->zbl,mul_comm->zcu,mul_le_mul->zdE,succ_mul->zmo,zero_add->zbt
open Option renaming getD_none->zb1,getD_some->zbK,isSome_none->zbR,isSome_some->zbS,map_some->zbM
open UInt64 renaming ofNat->zae
open UInt8 renaming toNat_inj->zbp
namespace Go.Proofs.YtkochfajaaiekaaGreatDoor
open Go.Proofs.Tryz
open Go.Proofs.Tryz renaming prog->pgm
open RowKit
variable{vp sp b q np a base n p hp:Nat}{u w w' w0:World}{v:Vol}{vs:Lb_}{ty:TypeId}{F:List Nat}{load xp:Value}{xs:La_}{P:Program}{ss:List Str}
structure Chg(vp sp:Nat)(w w':World):Prop where
 os:w'.os=w.os
 tape:w'.tape=w.tape
 output:w'.output=w.output
 size:w.heap.size<=w'.heap.size
 block:∀k,k<w.heap.size->k≠vp->k≠sp->w'.heap[k]? = w.heap[k]?
def Chg.refl(vp sp:Nat)(w:World):Chg vp sp w w:=⟨rfl,rfl,rfl,zab _,λ_ _ _ _=>rfl⟩
def Chg.trans{v:World}(h:Chg vp sp u v)(k:Chg vp sp v w):Chg vp sp u w :=
 ⟨k.os.trans h.os,k.tape.trans h.tape,k.output.trans h.output,zat h.size k.size,λi hi h1 h2=>(k.block i (za1 hi h.size) h1 h2).trans (h.block i hi h1 h2)⟩
def Chg.of_below(h:Below w.heap.size w w'):Chg vp sp w w':=⟨h.os,h.tape,h.output,h.size,λk hk _ _=>h.block k hk⟩
def Chg.zeU(h:zJ sp w w'):Chg vp sp w w':=⟨h.os,h.tape,h.output,h.size,λk hk _ h2=>h.block k hk h2⟩
def Chg.of_cell(h:zJ vp w w'):Chg vp sp w w':=⟨h.os,h.tape,h.output,h.size,λk hk h1 _=>h.block k hk h1⟩
def Chg.drew(h:Chg vp sp w w'):Chg vp sp w w'.drew:=⟨h.os,h.tape,h.output,h.size,h.block⟩
def Chg.bel{B:Nat}(hb:Below B u w)(h:Chg vp sp w w')(h0:B<=w.heap.size)(h1:B<=vp)(h2:B<=sp):Below B u w' :=
 ⟨h.os.trans hb.os,h.tape.trans hb.tape,h.output.trans hb.output,zat hb.size h.size,λk hk=>(h.block k (za1 hk h0) ae ae).trans (hb.block k hk)⟩
def Blk.chg(h:Blk w b vs ty)(hc:Chg vp sp w w')(h1:b≠vp)(h2:b≠sp):Blk w' b vs ty:=(hc.block b h.lt h1 h2).trans h
section
attribute [local irreducible] zA zG zH zE zR
def Chg.up(h:Chg vp sp w w')(hin:vp∈F/\sp∈F):Up (cD F) w w':=⟨h.size,λi hi hl=>h.block i hl (λe=>hi (e▸hin.1)) (λe=>hi (e▸hin.2))⟩
def rk(x:Int):pgm.built 146 [(0,.int .u64 x)]=some #[.int .u64 x,.int .u64 0]:=e0
def gh(n:Nat)(w:World)(hn:n<=1000000):Ca_ 62 #[.int .i64 n] w λe w'=>∃g,e=.returned (.slice (some ⟨g,0,none⟩) 16 16)/\zr w' (some ⟨g,0,none⟩) ((k9 n).map B)/\Below w.heap.size w w':=by
 obtain⟨a77,a78⟩:=n_ (zae n);have a1B:IntKind.u64.wrap (n:Int)=(a77.toNat:Int):=by rw[a78];exact X5 n
 have A3:=ha_ (k9 n=zw a77++zw 0/\(zw a77++zw 0).length=16) ⟨by rw[a78];rfl,by rw[zac,zy,zy]⟩;have a57:=rk (a77.toNat:Int);refine aeC ?_;intro EW;clear a78;go_enter func62,ntmps62;go_wp2_with fail;refine(jA a77 0 _).mono ?_;refine aio ?_;intro A4 sy EW;clear a57 a1B;go_wp2_with (first|(refine zf 144 ((zg 16).map B) _ rfl rfl zl rfl ?_)|(refine EW.g0.zdP rfl rfl rfl (cs:=(zw a77++zw 0).map B) rfl zd ga (by rw[zaa];exact A3.2) (zj _) ?_));intro A4 aF sy;have Ts:=zc EW.size;have EW:=zc (EW.push aF sy);go_wp2_with (refine EW.g0.zdP rfl rfl rfl (cs:=(zw a77++zw 0).map B) rfl zd ga (by rw[zaa];exact A3.2) (zj _) ?_);intro A4 aF oE;have uX:=zc (zi EW.bel oE Ts);have A0:=zc aF.lies;go_wp2;go_ret;exact⟨_,rfl,by rw[A3.1];exact A0,uX⟩
def mh(n:Nat)(h:yp 102 F w q vp sp v load np xp)(hn:n<v.zdO):C_b 80 #[pa_ vp,.int .i64 n] w (.slice (some ⟨sp,n*v.size,none⟩) v.size (v.size*v.zdO-n*v.size)):=by
 have eP:=fits (size:=v.size) hn;have eg:=h.zei.size;have eF:=h.zei.zdO;have SW:=zc h.cells;obtain⟨oT,a9E⟩:=n_ v.alg;obtain⟨sz,Eh⟩:=n_ v.size;obtain⟨oR,On⟩:=n_ (v.size*v.zdO);obtain⟨lo,a5p⟩:=n_ (n*v.size);obtain⟨hi,a5r⟩:=n_ (n*v.size+v.size);have a9F:oR<=1048576:=by rw[On];exact zdE eg.2 eF.2
 have ai:IntKind.i64.wrap ((n:Int)*(sz:Int))=(lo:Int):=by
  have ai:((n:Int)*(sz:Int))=(lo:Int):=by rw[a5p,Eh];push_cast;rfl
  rw[ai];exact IntWalk.i64_in _ ae
 have aj:IntKind.i64.wrap ((n:Int)+1)=((n+1:Nat):Int):=by rw[show(n:Int)+1=((n+1:Nat):Int) by omega];exact IntWalk.i64_in _ (by omega)
 have aj:IntKind.i64.wrap (((n+1:Nat):Int)*(sz:Int))=(hi:Int):=by
  have ai:(((n+1:Nat):Int)*(sz:Int))=(hi:Int):=by rw[a5r,Eh,<-zmo];push_cast;rfl
  rw[ai];exact IntWalk.i64_in _ ae
 have a9G:yz (some ⟨sp,0,none⟩) oR lo=some ⟨sp,lo,none⟩:=by
  unfold yz;rw[if_neg ae];simp only[zbM,add_eq,zbt]
 have NG:∀w',(Instr.slice 23 (.slice (some ⟨sp,0,none⟩) oR oR) (some (.int .i64 (lo:Int))) (some (.int .i64 (hi:Int))) none).run pgm w'=.ok (.slice (some ⟨sp,lo,none⟩) sz (oR-lo)) w':=λw'=>by
  have h:=UN (P:=pgm) w' 23 5 underlying23 (λw=>by kernel_rfl) (some ⟨sp,0,none⟩) oR oR lo hi (lo:Int) (hi:Int) rfl rfl ae ae
  rwa [a9G,show hi-lo=sz by omega] at h
 clear a9G;rw[<-a5p,<-On,<-Eh];have EM:=ha_ (qc q v np xp sp load=[.pointer (some ⟨q,0,none⟩),.int .i64 oT,.int .i64 sz,.int .i64 v.zdO,.pointer (some ⟨np,0,none⟩),xp,.int .i64 v.moved,.slice (some ⟨sp,0,none⟩) oR oR,load]) (by unfold qc;rw[a9E,Eh,On]);have az:=λ(x:zL w.drew)=>(SW.drew.below x.later SW.drew.lt).cell 2 (.int .i64 sz) (by rw[EM.o];rfl);have az:=λ(x:zL w.drew)=>(SW.drew.below x.later SW.drew.lt).cell 7 (.slice (some ⟨sp,0,none⟩) oR oR) (by rw[EM.o];rfl);generalize ((n+1:Nat):Int)=Ep at*;clear a9E Eh On a5p a5r eP eg eF hn a9F;go_enter func80,ntmps80;go_wp2_with fail;refine zp [0,1,2,3,4,5,6,7,8,9,10,11,12,13,14,15,16,17,18,19,20] e0 e0 ?_;rintro A4 rfl;refine afE ?_;go_wp2;go_ret;exact⟨rfl,(Below.refl _ _).drew⟩
def cE(n:Nat)(h:yp 102 F w q vp sp v load np xp):Ca_ 59 #[pa_ vp,.int .i64 n] w λe w'=>∃cp,e=.returned (pa_ cp)/\xA F w (λw''=>xB w'' cp (v.zec n))/\w=w':=by
 have az:=h.cells.cell 4 (.pointer (some ⟨np,0,none⟩)) rfl;have az:=h.cells.cell 5 xp rfl;have az:=h.cells.cell 6 (.int .i64 v.moved) rfl;rcases h.zec n with⟨e,hx⟩|⟨k,hk,hn,e⟩
 ·have uY:=ha_ (xA F w (λw''=>xB w'' np (v.zec n))) (by rw[e];exact h.now);generalize v.moved=oS at*;have hd:xp=.pointer none\/∃x,xp=.pointer (some ⟨x,0,none⟩)/\decide (n<oS)=false:=by
   have oI:=h.next;cases hxx:v.next with
   | none=>rw[hxx] at oI;exact .inl oI
   | some k =>
    rw[hxx] at oI;obtain⟨x,aH,_⟩:=oI;refine .inr ⟨x,aH,?_⟩;rcases hx with hx|hx
    ·rw[hxx] at hx;cases hx
    ·simp;omega
  clear h e hx;rcases hd with rfl|⟨x,rfl,hd⟩
  ·exact arC
  ·exact arC
 ·have oI:=h.next;rw[hk] at oI;obtain⟨x,rfl,MR⟩:=oI;have uY:=ha_ (xA F w (λw''=>xB w'' x (v.zec n))) (by rw[e];exact MR);generalize v.moved=oS at*;have hd:decide (n<oS)=true:=bq;clear h hk hn e MR;exact arC
def J6(cp:Nat)(k:yo)(n:Nat)(back:Bool)(h:yp 102 F w q vp sp v load np xp)(hk:xB w cp k)(hle:k.least<=v.size)(hn:n<v.zdO):Ca_ 58 #[pa_ vp,pa_ cp,.int .i64 n,.bool back] w λe w'=>(∃z,e=.returned z)/\Blk w' sp ((kK v.size k v.store n back).map B) 5/\zJ sp w w':=by
 have eg:=h.zei.size;have eg:=h.zei.zdO;refine ajJ h hk hn ?_;intro PW MM Nl;have a0H:=zc hle;have aD:n<=1000000:=ae;clear h hk hle eg hn;go_enter func58,ntmps58;go_wp2_with fail;refine(gh n _ aD).mono ?_;rintro e A4⟨ie,rfl,aR,sy⟩;have A0:=zc aR;have a9H:=zc (PW.below sy);have uX:=zc sy;clear aR;go_wp2_with fail;refine(mh n a9H Nl).mono ?_;rintro e A4⟨rfl,sy⟩;have A0:=zc (A0.below sy);have a9I:=zc (a9H.below sy);have aT:=uX.size;have uX:=zc (uX.trans (sy.mono aT));go_wp2_with fail;refine(CP cp k (some ⟨ie,0,none⟩) 16 16 (k9 n) sp (n*v.size) v.size (v.size*v.zdO-n*v.size) (v.store.map B) (kf v.size v.store n) back _ (MM.later uX) (Kt n) ae ae A0 (ja PW.zei.len Nl) a0H ae (by have:=fits (size:=v.size) Nl;omega) a9I.store (by unfold kf;rw[zbW,zcb]) (by rw[zaa,PW.zei.len];exact fits Nl)).mono ?_;rintro e A4⟨rfl,aF,oE⟩;have uY:=zc aF;have I9:=zc ((zJ.of_below uX).trans oE);go_wp2;go_end0;refine⟨⟨_,rfl⟩,?_,I9⟩;have a9J:splice (v.store.map B) (n*v.size) ((xG k (k9 n) (kf v.size v.store n) back).map B)=(kK v.size k v.store n back).map B:=by
  unfold kK Qu splice;simp only[zaD,zbW,zcb,zaa,zal]
 rw[<-a9J];exact uY
instance (b:Nat)(w:World):Nonempty (zO (zJ b) w):=⟨⟨w,zJ.refl b w⟩⟩
def yQ(v:Vol):Value:=.complex .f64 (fl v.reads) (fl v.writes)
def Gx:fl 1=4607182418800017408:=ar
def CQ(ha:a<=1000000)(hb:b<=1000000):cSumBits .add .f64 (fl a) (fl b) 4607182418800017408 0=some (fl (a+1),fl b):=by have ag:=lM a 1 ae ae ae;have aM:=lM b 0 ae ae ae;rw[Gx] at ag;rw[Yb] at aM;simp[cSumBits,ag,aM]
def Ue(ha:a<=1000000)(hb:b<=1000000):cSumBits .add .f64 (fl a) (fl b) 0 4607182418800017408=some (fl a,fl (b+1)):=by have ag:=lM a 0 ae ae ae;have aM:=lM b 1 ae ae ae;rw[Yb] at ag;rw[Gx] at aM;simp[cSumBits,ag,aM]
def yp.to{v':Vol}{load':Value}(h:yp ty F w q vp sp v load np xp)(hc:Chg vp sp w w')(hb:Blk w' vp (qc q v' np xp sp load') ty)(hs:Blk w' sp (v'.store.map B) 5)(hv:v'.zeq)(hn:v'.now=v.now)(hx:v'.next=v.next):yp ty F w' q vp sp v' load' np xp :=
 ⟨hv,h.ne,h.inF,hb,hs,by rw[hn];exact h.now.at (hc.up h.inF),by rw[hx];exact h.next.imp λ_ k=>k.at (hc.up h.inF)⟩
def Got(base:Nat)(w:World)(v:Value)(n:Nat)(xs:La_):Prop:=∃g cap tl,v=.slice (some ⟨g,0,none⟩) n cap/\n<=cap/\base<=g/\Blk w g (xs.map B++tl) 5
def Got.zef{v:Value}(h:w.ownsRow base 5 1 v n (xs.map B))(hn:0<n):Got base w v n xs:=by obtain⟨ie,oF,eC,rfl,aF,oG,az⟩:=rm h hn;exact⟨ie,oF,eC,rfl,az,oG,aF⟩
def Got.up{v:Value}(h:Got base w v n xs)(hu:Up (λi=>base<=i) w w'):Got base w' v n xs:=by obtain⟨ie,oF,eC,ai,ag,aM,ij⟩:=h;exact⟨ie,oF,eC,ai,ag,aM,ij.up hu aM⟩
def Got.only{v:Value}(h:Got base w v n xs)(ho:Only b w w')(h1:b<base):Got base w' v n xs:=h.up (Up.zd1 ho ae)
def Got.le{v:Value}(h:Got base w v n xs)(hb:b<=base):Got b w v n xs:=by obtain⟨ie,oF,eC,ai,ag,aM,ij⟩:=h;exact⟨ie,oF,eC,ai,ag,zat hb aM,ij⟩
def Chg.other{v:World}(h:Chg vp sp u v)(ho:Only b v w)(hb:u.heap.size<=b):Chg vp sp u w :=
 ⟨ho.os.trans h.os,ho.tape.trans h.tape,ho.output.trans h.output,by rw[ho.size];exact h.size,λk hk h1 h2=>(ho.block k ae).trans (h.block k hk h1 h2)⟩
def Chg.later{v:World}(h:Chg vp sp u v)(hb:Below v.heap.size v w):Chg vp sp u w:=h.trans (Chg.of_below hb)
def cF(args:Array Value)(w:World):(callFunc 60 args).run pgm w=.ok (.enter 60 args) w:=Y9 func60 e0 e0 args w
def dP(args:Array Value)(w:World):(callFunc 63 args).run pgm w=.ok (.enter 63 args) w:=Y9 func63 e0 e0 args w
def WH(args:Array Value)(w:World):(callFunc 57 args).run pgm w=.ok (.enter 57 args) w:=Y9 func57 e0 e0 args w
def jn:(pgm.info? 23).map (·.zero)=some (some (.slice none 0 0)):=e0
def J7:(pgm.info? 23).map (·.size)=some 1:=e0
def Kz:(pgm.info? 47).map (·.size)=some 1:=e0
def cG(n:Int)(do':Value)(h:yp 102 F w q vp sp v load np xp)(hn:¬v.has n):C_e 56 #[pa_ vp,.int .i64 n,do'] w (.int .i64 11):=by
 have az:=h.cells.cell 3 (.int .i64 v.zdO) rfl;unfold Vol.has at hn;generalize v.zdO=ss at*;by_cases ag:n<0
 ·have aN:decide (n<0)=true:=by simp;omega
  clear h ag hn;go_enter func56,ntmps56;exact aeJ
 ·have aN:decide (n<0)=false:=bq;have aN:decide (n>=(ss:Int))=true:=bq;have aN:decide ((ss:Int)<=n)=true:=bq;clear h ag hn;go_enter func56,ntmps56;exact aeJ
def gj(fid:Nat)(c1 c2 c3:Value)(n:Nat)(R:Int->World->Prop)(h:yp 102 F w q vp sp v load np xp)(hn:n<v.zdO)(hF:∀args w,(callFunc fid args).run pgm w=.ok (.enter fid args) w)(hd:∀w',Below w.heap.size w w'->Ca_ fid #[.slice (some ⟨sp,n*v.size,none⟩) v.size (v.size*v.zdO-n*v.size),c1,c2,c3] w' λe w''=>∃c,e=.returned (.int .i64 c)/\R c w''):Ca_ 56 #[.pointer (some ⟨vp,0,none⟩),.int .i64 n,.func (.func fid) #[] #[c1,c2,c3]] w λe w'=>∃c,e=.returned (.int .i64 c)/\R c w':=by exact arV
def CR(fid:Nat)(c1:Value)(n:Nat)(R:Int->World->Prop)(h:yp 102 F w q vp sp v load np xp)(hn:n<v.zdO)(hF:∀args w,(callFunc fid args).run pgm w=.ok (.enter fid args) w)(hd:∀w',Below w.heap.size w w'->Ca_ fid #[.slice (some ⟨sp,n*v.size,none⟩) v.size (v.size*v.zdO-n*v.size),c1] w' λe w''=>∃c,e=.returned (.int .i64 c)/\R c w''):Ca_ 56 #[.pointer (some ⟨vp,0,none⟩),.int .i64 n,.func (.func fid) #[] #[c1]] w λe w'=>∃c,e=.returned (.int .i64 c)/\R c w':=by exact arV
def CS(b1 b2 b3 n:Nat)(h:yp 102 F w0 q vp sp v (yQ v) np xp)(hb:Below w0.heap.size w0 w)(hn:n<v.zdO)(hr:v.reads<=1000000/\v.writes<=1000000)(h1:Blk w b1 [pa_ vp] 58)(h2:Blk w b2 [.int .i64 n] 3)(h3:Blk w b3 [.slice none 0 0] 23)(g1:w0.heap.size<=b1)(g2:w0.heap.size<=b2)(g3:w0.heap.size<=b3):Ca_ 60 #[.slice (some ⟨sp,n*v.size,none⟩) v.size (v.size*v.zdO-n*v.size),pa_ b1,pa_ b2,pa_ b3] w λe w'=>∃c:Int,e=.returned (.int .i64 c)/\c=0/\∃val,Blk w' b3 [val] 23/\Got w.heap.size w' val v.size (v.sec n) /\
   yp 102 F w' q vp sp (v.read n).1 (yQ (v.read n).1) np xp/\Chg vp sp w0 w':=by
 have a9L:=h.below hb;have S3:=h.cells.lt;have a4Y:=h.store.lt;have eg:=h.zei.size;have eg:=h.zei.zdO;have eP:=fits (size:=v.size) hn;obtain⟨aK,hv'⟩:=n_ ((v.read n).1);have aL:aK={ v with reads:=v.reads+1 }:=by rw[hv'];unfold Vol.read;rw[if_pos (by unfold Vol.has;omega)]
 have OS:=ha_ (aK.zeq/\aK.now=v.now/\aK.next=v.next/\aK.store=v.store/\(∀np xp load,qc q aK np xp sp load=qc q v np xp sp load)/\yQ aK=.complex .f64 (fl (v.reads+1)) (fl v.writes)/\(∀m,aK.zec m=v.zec m)/\aK.size=v.size/\aK.zdO=v.zdO) (by subst aL;exact⟨h.zei.count _ _,rfl,rfl,rfl,λ_ _ _=>rfl,rfl,λ_=>rfl,rfl,rfl⟩);rw[<-hv'];have a0L:=ha_ ((kf v.size v.store n).length=v.size/\xG (v.zec n) (k9 n) (kf v.size v.store n) true=v.sec n/\(v.sec n).length=v.size/\(v.zec n).least<=v.size) ⟨ja h.zei.len hn,rfl,h.zei.zff hn,(h.zei.zec n).least⟩;have a9M:=ha_ (∀w',Blk w' sp (v.store.map B) 5->zr w' (some ⟨sp,n*v.size,none⟩) ((kf v.size v.store n).map B)) (λw' hb'=>by
  have e:=(hb'.lies.drop (n*v.size)).take v.size;simp only[zbM,add_eq,zbt] at e;unfold kf;rw[zbW,zcb];exact e)
 have a9N:=λ(w:World)=>run_complex_sum (P:=pgm) (w:=w) .add (Or.inl rfl) 47 .f64 _ _ _ _ _ _ (CQ hr.1 hr.2);have az:=a9L.cells.cell 8 _ rfl;unfold yQ at az;have A6:=zc h;have uX:=zc (Chg.of_below (vp:=vp) (sp:=sp) hb);have a9O:=zc a9L.cells;have a9P:=zc a9L.store;refine ajJ h1 h2 h3 ?_;intro Pw Py a4U;have eE:=h1.cell 0 _ rfl;have aD:n<=1000000:=ae;have Nl:=zc hn;have a1O:=zc (h.ne);have a9Q:=h3.lt;have Ep:b1≠b3:=by rintro rfl;have:=h1.symm.trans h3;simp at this
 have a1G:b2≠b3:=by rintro rfl;have:=h2.symm.trans h3;simp at this
 have Ts:=zc hb.size;clear hb h a9L h1 h2 h3 eg hv' aL eP hn;go_enter func60,ntmps60;go_wp2_with (refine a9O.zeJ (i:=8) (v:=.complex .f64 (fl (v.reads+1)) (fl v.writes)) rfl rfl rfl rfl Kz rfl rfl (by simp[qc]) ?_);intro w2 aF oE;have SW:=zc (uX.trans (Chg.of_cell (zJ.zd1 oE)));have aT:w2.heap.size=w.heap.size:=oE.size;have Pw:=zc (Pw.only oE ae);have Py:=zc (Py.only oE ae);have a4U:=zc (a4U.only oE ae);have PI:=ha_ (yp 102 F w2 q vp sp aK (yQ aK) np xp) (A6.to SW (by rw[OS.2.2.2.2.1,OS.2.2.2.2.2.1];exact aF) u1 OS.1 OS.2.1 OS.2.2.1);clear a9N az eE;go_wp2;have aR:=λ(x:zO (zJ b3) w2.drew)=>(Pw.drew.zeD x.rel Ep).cell 0 _ rfl;have Ec:=λ(x:zO (zJ b3) w2.drew)=>(Py.drew.zeD x.rel a1G).cell 0 _ rfl;go_wp2_with fail;refine yg (zJ b3) [] [(0,true),(1,true),(3,true),(5,true),(2,false),(4,false),(6,false),(7,true),(8,true),(9,true),(10,false),(11,true)] (zJ.refl b3) (λ_ _ _ h k=>h.trans k) e0 e0 ?_;rintro A4 rfl;iterate 4 refine m1K ?_
 have ah:Below w2.heap.size w2 w2.drew:=(Below.refl _ _).drew;have PR:=zc (PI.below ah);have SW:=zc SW.drew;have a4U:=zc a4U.drew;have Nd:=zc ah;clear ah aR Ec;refine al8 ?_;intro K hK;refine(cE n PR).mono ?_;rintro e A4⟨a2s,rfl,aQ,rfl⟩;have MM:=zc aQ.self;rw[OS.2.2.2.2.2.2.1] at MM;go_simp;refine hK _ _ (λ_=>zJ.refl _ _) ?_;clear hK K aQ;refine al8 ?_;intro K hK;refine(gh n _ aD).mono ?_;rintro e A4⟨ie,rfl,aR,sy⟩;have A0:=zc aR;have MM:=zc (MM.later sy);have PR:=zc (PR.below sy);have SW:=zc (SW.later sy);have a4U:=zc (a4U.below sy a4U.lt);have Nd:=zc (Nd.trans (sy.mono Nd.size));go_simp;refine hK _ _ (λ_=>zJ.of_below sy) ?_;clear hK K aR;refine al8 ?_;intro K hK;refine(mf a2s (v.zec n) (some ⟨ie,0,none⟩) 16 16 (k9 n) (some ⟨sp,n*v.size,none⟩) v.size (v.size*v.zdO-n*v.size) (kf v.size v.store n) _ MM (Kt n) ae ae A0 a0L.1 a0L.2.2.2 ae (by have:=fits (size:=v.size) Nl;omega) (a9M _ (by rw[<-OS.2.2.2.1];exact PR.store))).mono ?_;rintro e A4⟨val,rfl,I4,sy⟩;rw[a0L.2.1] at I4;obtain⟨Ny,oF,rfl,_,_,_⟩:=zz I4;have I9:=zc (Got.zef (yt (b:=w.heap.size) I4 (by have:=Nd.size;omega)) ae);have PR:=zc (PR.below sy);have SW:=zc (SW.later sy);have a4U:=zc (a4U.below sy a4U.lt);go_simp;refine hK _ _ (λ_=>zJ.of_below sy) ?_;clear hK K;iterate 3 refine m1K ?_
 refine aeR ?_;intro K hK;refine a4U.zd8 rfl rfl rfl J7 rfl rfl ab (λw7 hb7 ho7=>hK _ _ (λ_=>zJ.zd1 ho7) ?_);clear hK K;have PR:=zc (A6.to (SW.other ho7 g3) (PR.cells.only ho7 ae) (PR.store.only ho7 ae) OS.1 OS.2.1 OS.2.2.1);go_simp;refine m1K ?_;refine yB ?_;go_wp2;go_ret;exact⟨0,rfl,rfl,_,hb7,I9.only ho7 a9Q,PR,SW.other ho7 g3⟩
def Gy(n:Nat)(h:yp 102 F w q vp sp v (yQ v) np xp)(hn:n<v.zdO)(hr:v.reads<=1000000/\v.writes<=1000000):Ca_ 34 #[pa_ vp,.int .i64 n] w λe w'=>∃val,e=.returned (.tuple #[val,.int .i64 0])/\Got w.heap.size w' val v.size (v.sec n)/\yp 102 F w' q vp sp (v.read n).1 (yQ (v.read n).1) np xp/\Chg vp sp w w':=by
 have OS:=zc h;have Nl:=zc hn;refine aeC ?_;intro EW;clear h hn;have a9R:=cF;go_enter func34,ntmps34;go_wp2_with (refine aqT ?_);intro A4 aF sy;have EW:=zc (EW.push aF sy);have ie:=sy.size;go_wp2_with (refine zh 3 _ [.int .i64 n] _ rfl rfl rfl rfl ?_);intro Ev aF sy;have EW:=zc (EW.push aF sy);have ie:=sy.size;go_wp2_with (refine zf 23 [.slice none 0 0] _ rfl rfl jn rfl ?_);intro IX aF sy;have EW:=zc (EW.push aF sy);have aH:=EW.g2.cell 0 _ rfl;have T6:=EW.g1.cell 0 _ rfl;have a9S:=zc (OS.below EW.bel);have aT:=EW.size;generalize M1:w.heap.size=MN at*;go_wp2_with fail;refine(gj 60 _ _ _ n (λc w'=>c=0/\∃val,Blk w' Ev.heap.size [val] 23/\Got MN w' val v.size (v.sec n)/\yp 102 F w' q vp sp (v.read n).1 (yQ (v.read n).1) np xp/\Chg vp sp w w') a9S Nl a9R
  (λw' hb'=>(CS MN A4.heap.size Ev.heap.size n OS (by rw[M1];exact EW.bel.trans (hb'.mono EW.size)) Nl hr ((EW.later hb').get 2 rfl) ((EW.later hb').get 1 rfl) ((EW.later hb').get 0 rfl) ae ae ae).mono λe w'' ⟨c,he,hc0,val,h1,h2,h3,h4⟩=>⟨c,he,hc0,val,h1,h2.le (zat aT hb'.size),h3,h4⟩)).mono ?_
 rintro e A4⟨c,rfl,rfl,val,aF,a9T,a5o,R5⟩;have Tf:=aF.cell 0 _ rfl;have uY:=zc (And.intro a9T (And.intro a5o R5));clear a9T a5o R5 aH T6 a9R;go_wp2;go_ret2;exact⟨_,rfl,by rw[M1];exact uY.1,uY.2.1,uY.2.2⟩
def Gz(n:Int)(h:yp 102 F w q vp sp v (yQ v) np xp)(hn:¬v.has n):C_b 34 #[pa_ vp,.int .i64 n] w (.tuple #[.slice none 0 0,.int .i64 11]):=by have OS:=zc h;have Nl:=zc hn;refine aeC ?_;intro EW;clear h hn;go_enter func34,ntmps34;go_wp2_with (refine aqT ?_);intro A4 aF sy;have EW:=zc (EW.push aF sy);go_wp2_with (refine zh 3 _ [.int .i64 n] _ rfl rfl rfl rfl ?_);intro A4 aF sy;have EW:=zc (EW.push aF sy);go_wp2_with (refine zf 23 [.slice none 0 0] _ rfl rfl jn rfl ?_);intro A4 aF sy;have EW:=zc (EW.push aF sy);have aH:=EW.g2.cell 0 _ rfl;have aH:=EW.g1.cell 0 _ rfl;exact ang
def GA(b3 n:Nat)(h:yp 102 F w0 q vp sp v load np xp)(hb:Below w0.heap.size w0 w)(hn:n<v.zdO)(h3:Blk w b3 [.slice none 0 0] 23)(g3:w0.heap.size<=b3):Ca_ 63 #[.slice (some ⟨sp,n*v.size,none⟩) v.size (v.size*v.zdO-n*v.size),pa_ b3] w λe w'=>∃c:Int,e=.returned (.int .i64 c)/\c=0/\∃val,Blk w' b3 [val] 23/\Got w.heap.size w' val v.size (kf v.size v.store n)/\Below w0.heap.size w0 w':=by
 have a9L:=h.below hb;have eg:=h.zei.size;have a0L:=ha_ ((kf v.size v.store n).length=v.size) (ja h.zei.len hn);have a9M:=ha_ (zr w (some ⟨sp,n*v.size,none⟩) ((kf v.size v.store n).map B)) (by
  have e:=(a9L.store.lies.drop (n*v.size)).take v.size;simp only[zbM,add_eq,zbt] at e;unfold kf;rw[zbW,zcb];exact e)
 have uX:=zc hb;have A6:=zc h3;have a9Q:=h3.lt;clear h a9L hn h3 hb;go_enter func63,ntmps63;go_wp2_with fail;refine(vU _ v.size _ _ _ (by rw[zaa];exact a0L) ae a9M (zj _)).mono ?_;rintro e A4⟨val,rfl,I4,sy⟩;have I9:=zc (Got.zef I4 ae);have A6:=zc (A6.below sy a9Q);have aT:=uX.size;have uX:=zc (uX.trans (sy.mono aT));simp only[id];go_wp2_with (refine A6.zeJ (i:=0) (v:=val) rfl rfl rfl rfl J7 ?_ ?_ ab ?_)
 ·obtain⟨ie,oF,eC,rfl,_⟩:=I9;rfl
 ·obtain⟨ie,oF,eC,rfl,_⟩:=I9;rfl
 intro A4 aF oE;have uY:=ha_ (Blk A4 b3 [val] 23/\Got w.heap.size A4 val v.size (kf v.size v.store n)/\Below w0.heap.size w0 A4) ⟨aF,I9.only oE a9Q,zi uX oE g3⟩;go_wp2;go_ret;exact⟨0,rfl,rfl,val,uY⟩
def LP(n:Nat)(h:yp 102 F w q vp sp v load np xp)(hn:n<v.zdO):Ca_ 35 #[pa_ vp,.int .i64 n] w λe w'=>∃val,e=.returned (.tuple #[val,.int .i64 0])/\Got w.heap.size w' val v.size (kf v.size v.store n)/\Below w.heap.size w w':=by
 have OS:=zc h;have Nl:=zc hn;refine aeC ?_;intro EW;clear h hn;have a9R:=dP;go_enter func35,ntmps35;go_wp2_with (refine zf 23 [.slice none 0 0] _ rfl rfl jn rfl ?_);intro A4 aF sy;have EW:=zc (EW.push aF sy);have ie:=sy.size;go_wp2_with fail;refine(CR 63 _ n (λc w'=>c=0/\∃val,Blk w' w.heap.size [val] 23/\Got w.heap.size w' val v.size (kf v.size v.store n)/\Below w.heap.size w w') (OS.below EW.bel) Nl a9R
  (λw' hb'=>(GA w.heap.size n OS (EW.bel.trans (hb'.mono EW.size)) Nl ((EW.later hb').get 0 rfl) (zab _)).mono λe w'' ⟨c,he,hc0,val,h1,h2,h3⟩=>⟨c,he,hc0,val,h1,h2.le (zat ie hb'.size),h3⟩)).mono ?_
 rintro e A4⟨c,rfl,rfl,val,aF,a9T,sy⟩;have aH:=aF.cell 0 _ rfl;have uY:=zc (And.intro a9T sy);clear a9T a9R;go_wp2;go_ret2;exact⟨_,rfl,uY.1,uY.2⟩
def Uf(b1 b2 b3 n:Nat)(ba:OA)(bn bc:Nat)(bs:La_)(h:yp 102 F w0 q vp sp v (yQ v) np xp)(hb:Below w0.heap.size w0 w)(hn:n<v.zdO)(hr:v.reads<=1000000/\v.writes<=1000000)(h1:Blk w b1 [.slice ba bn bc] 23)(h2:Blk w b2 [pa_ vp] 58)(h3:Blk w b3 [.int .i64 n] 3)(g1:w0.heap.size<=b1)(g2:w0.heap.size<=b2)(g3:w0.heap.size<=b3)(hbn:bs.length=bn)(hl:xA F w0 (λw'=>zr w' ba (bs.map B))):Ca_ 57 #[.slice (some ⟨sp,n*v.size,none⟩) v.size (v.size*v.zdO-n*v.size),pa_ b1,pa_ b2,pa_ b3] w λe w'=>∃c:Int,e=.returned (.int .i64 c)/\c=(v.write n bs).2 /\
   yp 102 F w' q vp sp (v.write n bs).1 (yQ (v.write n bs).1) np xp/\Chg vp sp w0 w':=by
 have S3:=h.cells.lt;have a4Y:=h.store.lt;have eg:=h.zei.size;have eF:=h.zei.zdO;have eP:=fits (size:=v.size) hn;have eE:=h1.cell 0 _ rfl;have a9U:v.has n:=by unfold Vol.has;omega
 by_cases aJ:bn=v.size;rotate_left
 ·have aN:((bn:Int) != (v.size:Int))=true:=bq;have uY:=ha_ (v.write n bs=(v,4)) (by unfold Vol.write;rw[if_pos a9U,if_neg (by omega)]);have OS:=zc (h.below hb);have SW:=zc (Chg.of_below (vp:=vp) (sp:=sp) hb);generalize v.size=oW at*;clear h hb hn hr h1 h2 h3 hbn hl eg eF eP a9U aJ;go_enter func57,ntmps57;go_wp2;go_ret;exact⟨4,rfl,by rw[uY.o],by rw[uY.o];exact OS,SW⟩
 subst aJ;have a9L:=h.below hb;obtain⟨aK,aL⟩:=n_ ({ v with writes:=v.writes+1 });obtain⟨OF,iA⟩:=n_ ({ v with store:=Qu v.store (n*v.size) bs,writes:=v.writes+1 });have a9V:(Qu v.store (n*v.size) bs).length=v.store.length:=Z7 (by rw[hbn,h.zei.len];exact eP);have OS:=ha_ (aK.zeq/\aK.now=v.now/\aK.next=v.next/\aK.store=v.store/\(∀np xp load,qc q aK np xp sp load=qc q v np xp sp load)/\yQ aK=.complex .f64 (fl v.reads) (fl (v.writes+1))) (by subst aL;exact⟨h.zei.count _ _,rfl,rfl,rfl,λ_ _ _=>rfl,rfl⟩);have PI:=ha_ (OF.zeq/\OF.now=v.now/\OF.next=v.next/\OF.store=Qu v.store (n*v.size) bs/\(∀np xp load,qc q OF np xp sp load=qc q aK np xp sp load)/\yQ OF=yQ aK/\OF.size=v.size/\OF.zdO=v.zdO/\(∀m,OF.zec m=v.zec m)) (by
  subst aL iA;exact⟨⟨h.zei.size,h.zei.zdO,by show(Qu _ _ _).length=_;rw[a9V];exact h.zei.len,h.zei.now,h.zei.next⟩,rfl,rfl,rfl,λ_ _ _=>rfl,rfl,rfl,rfl,λ_=>rfl⟩)
 have uY:=ha_ (v.write n bs=(v.put n bs,0)/\(v.put n bs).store=kK v.size (v.zec n) (Qu v.store (n*v.size) bs) n false/\(v.put n bs).zeq/\(v.put n bs).now=v.now/\(v.put n bs).next=v.next/\(∀np xp load,qc q (v.put n bs) np xp sp load=qc q aK np xp sp load)/\yQ (v.put n bs)=yQ aK) (by
  subst aL;exact⟨by unfold Vol.write;rw[if_pos a9U,if_pos hbn,zbL],rfl,h.zei.put hn hbn,rfl,rfl,λ_ _ _=>rfl,rfl⟩)
 have No:=ha_ ((v.zec n).least<=v.size) ((h.zei.zec n).least);have Rx:=ha_ (splice (v.store.map B) (n*v.size) (bs.map B)=(Qu v.store (n*v.size) bs).map B) (by
  unfold Qu splice;simp only[zaD,zbW,zcb,zaa,zal])
 have a9N:=λ(w:World)=>run_complex_sum (P:=pgm) (w:=w) .add (Or.inl rfl) 47 .f64 _ _ _ _ _ _ (Ue hr.1 hr.2);have az:=a9L.cells.cell 8 _ rfl;unfold yQ at az;have aN:((v.size:Int) != (v.size:Int))=false:=ab;have A6:=zc h;have uX:=zc (Chg.of_below (vp:=vp) (sp:=sp) hb);have a9O:=zc a9L.cells;have a9P:=zc a9L.store;refine ajJ h1 h2 h3 ?_;intro Pw Py a4U;have Ir:=h2.cell 0 _ rfl;have Nl:=zc hn;have a1O:=zc h.ne;have EE:=zc hbn;have IU:=zc hl;have Ps:=ha_ (n*v.size+bs.length<=v.store.length) (by rw[hbn,h.zei.len];exact eP);have aT:=hb.size;clear hb h a9L h1 h2 h3 eF aL iA eP hn hbn hl a9V a9U;go_enter func57,ntmps57;go_wp2_with (refine a9O.zeJ (i:=8) (v:=.complex .f64 (fl v.reads) (fl (v.writes+1))) rfl rfl rfl rfl Kz rfl rfl (by simp[qc]) ?_);intro A4 aF oE;have SW:=zc (uX.trans (Chg.of_cell (zJ.zd1 oE)));have Pw:=zc (Pw.only oE ae);have Py:=zc (Py.only oE ae);have a4U:=zc (a4U.only oE ae);have EZ:=ha_ (yp 102 F A4 q vp sp aK (yQ aK) np xp) (A6.to SW (by rw[OS.2.2.2.2.1,OS.2.2.2.2.2];exact aF) u1 OS.1 OS.2.1 OS.2.2.1);have P7:=ha_ (Blk A4 sp (v.store.map B) 5) (a9P.only oE (λe=>a1O e.symm));have eE:=Pw.cell 0 _ rfl;clear a9N az Ir;have aR:=IU.o A4 (SW.up A6.inF);go_wp2_with (refine P7.zgm (n*v.size) (bs.map B) rfl rfl rfl rfl underlying23 zm (λ_=>rfl) aR (by rw[zaa,EE.o];exact(Nat.min_self _).symm) (by rw[zaa,zaa];exact Ps) (zj _) ?_);intro w3 aF oE;rw[Rx.o] at aF;have SW:=zc (SW.trans (Chg.zeU (zJ.zd1 oE)));have Py:=zc (Py.only oE ae);have a4U:=zc (a4U.only oE ae);have I5:=ha_ (yp 102 F w3 q vp sp OF (yQ OF) np xp) (A6.to SW (by rw[PI.2.2.2.2.1,PI.2.2.2.2.2.1];exact EZ.cells.only oE a1O) (by rw[PI.2.2.2.1];exact aF) PI.1 PI.2.1 PI.2.2.1);clear eE aR;go_wp2;have Ec:=λ(x:zO z9 w3.drew)=>(Py.drew.below x.rel Py.drew.lt).cell 0 _ rfl;have aR:=λ(x:zO z9 w3.drew)=>(a4U.drew.below x.rel a4U.drew.lt).cell 0 _ rfl;go_wp2_with fail;refine yg z9 [5] [(0,true),(1,true),(2,true),(4,true),(3,false),(5,false)] z9.refl (λ_ _ _ h k=>h.trans k) e0 e0 ?_;rintro A4 rfl;iterate 4 refine m1K ?_
 have EZ:=zc (I5.below ((Below.refl _ _).drew:Below w3.heap.size w3 w3.drew));have SW:=zc SW.drew;clear Ec aR;refine al8 ?_;intro K hK;refine(cE n EZ).mono ?_;rintro e A4⟨a2s,rfl,aQ,rfl⟩;have MM:=zc aQ.self;rw[PI.2.2.2.2.2.2.2.2] at MM;go_simp;refine hK _ _ (λ_=>Below.refl _ _) ?_;clear hK K aQ;refine al8 ?_;intro K hK;refine(J6 a2s (v.zec n) n false EZ MM (by rw[PI.2.2.2.2.2.2.1];exact No) (by rw[PI.2.2.2.2.2.2.2.1];exact Nl)).mono ?_;rintro e A4⟨⟨ep,rfl⟩,aF,oE⟩;rw[PI.2.2.2.2.2.2.1,PI.2.2.2.1] at aF;have SW:=zc (SW.trans (Chg.zeU oE));have I5:=ha_ (yp 102 F A4 q vp sp (v.put n bs) (yQ (v.put n bs)) np xp) (A6.to SW (by rw[uY.2.2.2.2.2.1,uY.2.2.2.2.2.2,<-PI.2.2.2.2.1,<-PI.2.2.2.2.2.1];exact EZ.cells.zeD oE a1O) (by rw[uY.2.1];exact aF) uY.2.2.1 uY.2.2.2.1 uY.2.2.2.2.1);go_simp;refine hK _ _ (λhno=>absurd hno bd) ?_;clear hK K;refine yB ?_;go_wp2;go_ret;exact⟨0,rfl,by rw[uY.1],by rw[uY.1];exact I5,SW⟩
def rn(n:Int)(ba:OA)(bn bc:Nat)(bs:La_)(h:yp 102 F w q vp sp v (yQ v) np xp)(hr:v.reads<=1000000/\v.writes<=1000000)(hbn:bs.length=bn)(hl:xA F w (λw'=>zr w' ba (bs.map B))):Ca_ 33 #[pa_ vp,.int .i64 n,.slice ba bn bc] w λe w'=>e=.returned (.int .i64 (v.write n bs).2)/\yp 102 F w' q vp sp (v.write n bs).1 (yQ (v.write n bs).1) np xp/\Chg vp sp w w':=by
 refine ajJ h hbn hl ?_;intro OS EE IU;refine aeC ?_;intro EW;obtain⟨An,a9W⟩:=n_ (v.write n bs);have uY:=zc a9W;rw[<-a9W];by_cases aD:v.has n;rotate_left
 ·have a9X:=zc aD;have EM:=ha_ (An=(v,11)) (by rw[a9W];unfold Vol.write;rw[if_neg aD]);clear h hbn hl aD a9W;go_enter func33,ntmps33;go_wp2_with (refine aqT ?_);intro A4 aF sy;have EW:=zc (EW.push aF sy);go_wp2_with (refine zh 3 _ [.int .i64 n] _ rfl rfl rfl rfl ?_);intro Ev aF sy;have EW:=zc (EW.push aF sy);go_wp2_with (refine zh 23 _ [.slice ba bn bc] _ rfl rfl rfl rfl ?_);intro IX aF sy;have EW:=zc (EW.push aF sy);have aH:=EW.g2.cell 0 _ rfl;have T6:=EW.g1.cell 0 _ rfl;go_wp2_with fail;refine(cG n _ (OS.below EW.bel) a9X).mono ?_;rintro e MF⟨rfl,rfl⟩;go_wp2;go_ret;rw[EM.o];exact⟨rfl,OS.below EW.bel,Chg.of_below EW.bel⟩
 obtain⟨m,rfl⟩:∃m:Nat,n=(m:Int):=⟨n.toNat,um⟩
 have Nl:=ha_ (m<v.zdO) um;have a9R:=WH;clear h hbn hl aD a9W;go_enter func33,ntmps33;go_wp2_with (refine aqT ?_);intro A4 aF sy;have EW:=zc (EW.push aF sy);have ie:=sy.size;go_wp2_with (refine zh 3 _ [.int .i64 m] _ rfl rfl rfl rfl ?_);intro Ev aF sy;have EW:=zc (EW.push aF sy);have ie:=sy.size;go_wp2_with (refine zh 23 _ [.slice ba bn bc] _ rfl rfl rfl rfl ?_);intro IX aF sy;have EW:=zc (EW.push aF sy);have aH:=EW.g2.cell 0 _ rfl;have T6:=EW.g1.cell 0 _ rfl;have a9S:=zc (OS.below EW.bel);generalize M1:w.heap.size=MN at*;go_wp2_with fail;refine(gj 57 _ _ _ m (λc w'=>c=(v.write m bs).2/\yp 102 F w' q vp sp (v.write m bs).1 (yQ (v.write m bs).1) np xp/\Chg vp sp w w') a9S Nl a9R
  (λw' hb'=>(Uf Ev.heap.size MN A4.heap.size m ba bn bc bs OS (by rw[M1];exact EW.bel.trans (hb'.mono EW.size)) Nl hr ((EW.later hb').get 0 rfl) ((EW.later hb').get 2 rfl) ((EW.later hb').get 1 rfl) ae ae ae EE IU))).mono ?_
 rintro e MF⟨c,rfl,rfl,a5o,R5⟩;rw[<-uY.o] at a5o;rw[<-uY.o];have Ts:=zc (And.intro a5o R5);clear a5o R5 aH T6 a9R;go_wp2;go_ret;exact⟨rfl,Ts.1,Ts.2⟩
def Nz(h:yp 102 F w q vp sp v load np xp):C_e 25 #[pa_ vp] w load:=by have az:=h.cells.cell 8 _ rfl;clear h;go_enter func25,ntmps25;exact aeJ
def GB(k:Int)(x:UInt8)(h:yp 102 F w q vp sp v (yQ v) np xp):Ca_ 36 #[pa_ vp,.int .i64 k,B x] w λe w'=>e=.returned (.int .i64 (v.harm k x).2)/\yp 102 F w' q vp sp (v.harm k x).1 (yQ (v.harm k x).1) np xp/\Chg vp sp w w':=by
 have eg:=h.zei.size;have eF:=h.zei.zdO;have a9F:v.size*v.zdO<=1048576:=zdE eg.2 eF.2;have az:=h.cells.cell 7 (.slice (some ⟨sp,0,none⟩) (v.size*v.zdO) (v.size*v.zdO)) rfl;have OS:=zc h;have A2:=zc h.zei.len;obtain⟨An,eI⟩:=n_ (v.harm k x);rw[<-eI];unfold Vol.harm at eI;obtain⟨st,On⟩:=n_ (v.size*v.zdO);rw[<-On] at az a9F eI;have P7:=zc (On.symm.trans (id rfl):v.size*v.zdO=st);by_cases ag:k<0
 ·have aN:decide (k<0)=true:=bq;have uY:=ha_ (An=(v,11)) (by rw[eI,if_neg (by omega)]);clear h eI ag On eg eF;exact arM
 have aN:decide (k<0)=false:=bq;by_cases aM:(st:Int)<=k
 ·have aN:decide (k>=(st:Int))=true:=bq;have eK:decide ((st:Int)<=k)=true:=bq;have uY:=ha_ (An=(v,11)) (by rw[eI,if_neg (by omega)]);clear h eI ag aM On eg eF;exact arM
 obtain⟨m,rfl⟩:∃m:Nat,k=(m:Int):=⟨k.toNat,ae⟩
 have eh:m<st:=ae;have aN:decide ((m:Int)>=(st:Int))=false:=bq;have eK:decide (st<=m)=false:=bq;have uY:=ha_ (An=(v.zeP m x,0)) (by rw[eI,if_pos (by omega),zbL]);obtain⟨y,et⟩:∃y,v.store[m]? = some y:=⟨v.store[m]'(by rw[A2.o,P7.o];exact eh),ab⟩
 have az:=h.store.cell m (B y) (zX et);have a0s:=ha_ ((v.store.map B).set m (B (yj y x))=((v.zeP m x).store).map B) (by
  rw[yD];show _=(v.store.set m (v.store.getD m 0^^^x)).map B;rw[List.getD_eq_getElem?_getD,et];rfl)
 have Av:m<(v.store.map B).length:=by rw[zaa,A2.o,P7.o];exact eh
 clear h eI ag aM On eg eF et;go_enter func36,ntmps36;go_wp2_with (refine OS.store.zeJ (i:=m) (v:=B (yj y x)) rfl rfl rfl rfl zm rfl rfl Av ?_);intro A4 aF oE;rw[a0s.o] at aF;have Ts:=ha_ (yp 102 F A4 q vp sp (v.zeP m x) (yQ (v.zeP m x)) np xp/\Chg vp sp w A4) (by
  have R5:=Chg.zeU (vp:=vp) (zJ.zd1 oE);exact⟨OS.to R5 (OS.cells.only oE OS.ne) aF (OS.zei.zeP m x) rfl rfl,R5⟩)
 clear az;go_wp2;go_ret;rw[uY.o];exact⟨rfl,Ts.1,Ts.2⟩
structure VN(F:List Nat)(w:World)(q p:Nat):Prop where
 tab:xA F w (λw'=>Tab w' q p)
 q:q∉F
 p:p∉F
 lt:∀i∈F,i<w.heap.size
def VN.at(h:VN F w q p)(hu:Up (cD F) w w'):VN F w' q p:=⟨h.tab.at hu,h.q,h.p,λi hi=>za1 (h.lt i hi) hu.size⟩
def vY:(pgm.info? 60).map (·.size)=some 1:=e0
def gk(ka:OA)(kn kc:Nat)(key:La_)(h:yp 102 F w q vp sp v (yQ v) np xp)(ht:VN F w q p)(hkn:key.length=kn)(hkc:kn<=kc)(hkl:zr w ka (key.map B))(hg:yi w):Ca_ 37 #[pa_ vp,.slice ka kn kc] w λe w'=>e=.returned (.int .i64 (v.start key).2)/\(∃xp',yp 102 F w' q vp sp (v.start key).1 (yQ (v.start key).1) np xp')/\Chg vp sp w w':=by
 have az:=h.cells.cell 5 xp rfl;have OS:=zc h;obtain⟨An,eI⟩:=n_ (v.start key);rw[<-eI];unfold Vol.start at eI;cases hx:v.next with
 | some k =>
  rw[hx] at eI;have uY:=ha_ (An=(v,12)) eI;have SY:=h.next;rw[hx] at SY;obtain⟨ef,rfl,_⟩:=SY;clear h eI hx hkl hg ht;go_enter func37,ntmps37;go_wp2;go_ret;rw[uY.o];exact⟨rfl,⟨_,OS⟩,Chg.refl _ _ _⟩
 | none =>
  rw[hx] at eI;simp only at eI;have SY:=h.next;rw[hx] at SY;obtain rfl:xp=.pointer none:=SY;have AV:=λ(y:zL w.drew)=>(h.cells.drew.below y.later h.cells.drew.lt).cell 0 _ rfl;have AW:=λ(y:zL w.drew)=>(h.cells.drew.below y.later h.cells.drew.lt).cell 1 _ rfl;refine ajJ ht hkl hg ?_;intro A3 No M8;have a6E:=zc hkn;have EZ:=t_ hx;by_cases Am:zd6 v.alg kn=0;rotate_left
  ·have aN:(((zd6 v.alg kn:Nat):Int)==0)=false:=bq;have uY:=ha_ (An=(v,((zd6 v.alg kn:Nat):Int))) (by rw[eI,hkn,if_neg Am]);have Nl:=zc (QN v.alg q ka kn kc w.drew Am);clear h eI hx hkl hg ht Am hkn;generalize zd6 v.alg kn=oU at*;generalize v.alg=oT at*;go_enter func37,ntmps37;go_wp2_with fail;refine agE ?_;rintro A4 rfl;refine mqR ?_;clear AV AW az;refine Pm ?_;intro K hK;refine Nl.mono ?_;rintro e Ev⟨rfl,rfl⟩;go_simp;refine hK _ _ (Below.refl _ _) ?_;clear hK K;refine afE ?_;go_wp2;go_ret;rw[uY.o];exact⟨rfl,⟨_,OS.below ((Below.refl _ _).drew)⟩,(Chg.refl _ _ _).drew⟩
  have uY:=ha_ (An=(v.begin' (vS v.alg key),0)) (by rw[eI,hkn,if_pos Am]);have Nl:=zc (Q3 v.alg q p ka kn kc key w.drew hkn Am hkc (hkl.below (Below.refl _ _).drew) (ht.tab.self.drew) (hg.below (Below.refl _ _).drew));have a9Y:=ha_ (Xv v.size (vS v.alg key)) (Yz _ _ h.zei.size.1);have S3:=h.cells.lt;have a4Y:=h.store.lt;have a9Z:=h.cells.cell 5 _ rfl;clear h eI hx hkl hg ht Am hkn;obtain⟨oT,a9E⟩:=n_ v.alg;rw[<-a9E] at uY Nl a9Y;simp only[qc,<-a9E] at AV AW;clear a9E;go_enter func37,ntmps37;go_wp2_with fail;refine agE ?_;rintro A4 rfl;refine mqR ?_;clear AV AW az a9Z;refine Pm ?_;intro K hK;refine Nl.mono ?_;rintro e Ev⟨a2s,rfl,On,sy⟩;have MM:=ha_ (xA F Ev (λw'=>xB w' a2s (vS oT key))) (xA.zgS On (Below.refl _ _) (λi hi=>.inr ⟨A3.lt i hi,by simp only[zau,List.not_mem_nil,or_false];rintro(e|e);exact A3.q (e▸hi);exact A3.p (e▸hi)⟩));have OS:=zc (OS.below (w':=Ev) ((Below.refl _ _).drew.trans sy));have SW:=zc (Chg.of_below (vp:=vp) (sp:=sp) (show Below w.heap.size w Ev from(Below.refl _ _).drew.trans sy));refine aeN ?_;clear hK K On;refine afE ?_;go_wp2_with (refine OS.cells.zeJ (i:=5) (v:=.pointer (some ⟨a2s,0,none⟩)) rfl rfl rfl rfl vY rfl rfl (by simp[qc]) ?_);refine anx ?_;intro A4 aF oE uX I9;go_wp2_with (refine uX.zeJ (i:=6) (v:=.int .i64 0) rfl rfl rfl rfl Zs rfl rfl (by simp[qc]) ?_);intro A4 aF oE;have Ts:=ha_ (yp 102 F A4 q vp sp (v.begin' (vS oT key)) (yQ v) np (.pointer (some ⟨a2s,0,none⟩))/\Chg vp sp w A4) (by
   have Oo:=I9.trans oE;have R5:=SW.trans (Chg.of_cell (zJ.zd1 Oo));have Tu:Up (cD F) Ev A4:=(Chg.of_cell (zJ.zd1 Oo)).up OS.inF;exact⟨⟨OS.zei.begin' a9Y,OS.ne,OS.inF,aF,OS.store.only Oo (λe=>OS.ne e.symm),OS.now.at Tu,⟨a2s,rfl,MM.at Tu⟩⟩,R5⟩)
  go_wp2;go_ret;rw[uY.o];exact⟨rfl,⟨_,Ts.1⟩,Ts.2⟩
def GC(h:yp 102 F w q vp sp v load np xp)(hx:v.next=none):C_e 38 #[pa_ vp] w (.tuple #[.int .i64 0,.int .i64 12]):=by have az:=h.cells.cell 5 xp rfl;have SY:=h.next;rw[hx] at SY;obtain rfl:xp=.pointer none:=SY;clear h hx;go_enter func38,ntmps38;exact aiF
def cH(k:yo)(h:yp 102 F w q vp sp v (yQ v) np xp)(hx:v.next=some k):Ca_ 38 #[pa_ vp] w λe w'=>e=.returned (.tuple #[.int .i64 ((v.zdO-v.moved-1:Nat):Int),.int .i64 0])/\(∃np' xp',yp 102 F w' q vp sp (v.step k) (yQ (v.step k)) np' xp')/\Chg vp sp w w':=by
 have eg:=h.zei.zdO;have SY:=h.next;rw[hx] at SY;obtain⟨ef,rfl,aa0⟩:=SY;have a4C:=(h.zei.next k hx).2;have aa1:=zc aa0;have az:=h.cells.cell 5 _ rfl;have A6:=zc h;have eJ:=uP h.zei hx;obtain⟨S0,aa2⟩:=n_ ({ v with store:=kK v.size v.now v.store v.moved true });obtain⟨aa3,aa4⟩:=n_ ({ v with store:=kK v.size k (kK v.size v.now v.store v.moved true) v.moved false });have a5h:=ha_ (S0.zeq/\S0.now=v.now/\S0.next=v.next/\S0.store=kK v.size v.now v.store v.moved true/\(∀np xp load,qc q S0 np xp sp load=qc q v np xp sp load)/\yQ S0=yQ v/\S0.size=v.size/\S0.zdO=v.zdO/\S0.moved=v.moved) (by
  subst aa2;exact⟨⟨h.zei.size,h.zei.zdO,eJ.1,h.zei.now,h.zei.next⟩,rfl,rfl,rfl,λ_ _ _=>rfl,rfl,rfl,rfl,rfl⟩)
 have aa5:=ha_ (aa3.zeq/\aa3.now=v.now/\aa3.next=v.next/\aa3.store=kK v.size k (kK v.size v.now v.store v.moved true) v.moved false/\(∀np xp load,qc q aa3 np xp sp load=qc q v np xp sp load)/\yQ aa3=yQ v) (by
  subst aa4;exact⟨⟨h.zei.size,h.zei.zdO,eJ.2,h.zei.now,h.zei.next⟩,rfl,rfl,rfl,λ_ _ _=>rfl,rfl⟩)
 have A0:=ha_ (v.now.least<=v.size/\k.least<=v.size) ⟨h.zei.now.least,(h.zei.next k hx).1.least⟩;have EZ:=t_ hx;have PK:=zc a4C;obtain⟨left,aa6⟩:=n_ (v.zdO-v.moved-1);rw[<-aa6];have a9l:=zc aa6;clear aa2 aa4 eJ hx aa0 h aa6;go_enter func38,ntmps38;go_wp2;have aQ:=λ(y:zO z9 w.drew)=>(A6.cells.drew.below y.rel A6.cells.drew.lt).cell 4 _ rfl;have Ef:=λ(y:zO z9 w.drew)=>(A6.cells.drew.below y.rel A6.cells.drew.lt).cell 6 _ rfl;go_wp2_with fail;refine yg z9 [9] [(0,true),(1,true),(2,true),(3,true),(4,true),(5,true),(6,true),(7,true),(8,true),(9,false)] z9.refl (λ_ _ _ h k=>h.trans k) e0 e0 ?_;rintro A4 rfl;iterate 9 refine m1K ?_
 have NI:=zc (A6.below (w':=w.drew) (Below.refl _ _).drew);clear aQ Ef az;refine al8 ?_;intro K hK;refine(J6 np v.now v.moved true NI NI.now.self A0.1 PK).mono ?_;rintro e w3⟨⟨ep,rfl⟩,aF,oE⟩;have SW:=ha_ (Chg vp sp w w3) ((Chg.refl _ _ _).drew.trans (Chg.zeU oE));have aa7:=ha_ (yp 102 F w3 q vp sp S0 (yQ S0) np (.pointer (some ⟨ef,0,none⟩))) (A6.to SW (by rw[a5h.2.2.2.2.1,a5h.2.2.2.2.2.1];exact NI.cells.zeD oE A6.ne) (by rw[a5h.2.2.2.1];exact aF) a5h.1 a5h.2.1 a5h.2.2.1);go_simp;refine hK _ _ (λhno=>absurd hno bd) ?_;clear hK K;refine yB ?_;have aa8:=a5h.2.2.2.2.1;have aQ:=λ(y:zO z9 w3.drew)=>(aa7.cells.drew.below y.rel aa7.cells.drew.lt).cell 5 (.pointer (some ⟨ef,0,none⟩)) (by rw[aa8];rfl);have Ef:=λ(y:zO z9 w3.drew)=>(aa7.cells.drew.below y.rel aa7.cells.drew.lt).cell 6 (.int .i64 v.moved) (by rw[aa8];rfl);clear aa8;go_wp2_with fail;refine yg z9 [9] [(0,true),(1,true),(2,true),(3,true),(4,true),(5,true),(6,true),(7,true),(8,true),(9,false)] z9.refl (λ_ _ _ h k=>h.trans k) e0 e0 ?_;rintro A4 rfl;iterate 9 refine m1K ?_
 have NI:=zc (aa7.below (w':=w3.drew) (Below.refl _ _).drew);have SW:=zc SW.drew;clear aQ Ef;refine al8 ?_;intro K hK;refine(J6 ef k v.moved false NI (aa1 _ (SW.up A6.inF)) (by rw[a5h.2.2.2.2.2.2.1];exact A0.2) (by rw[a5h.2.2.2.2.2.2.2.1];exact PK)).mono ?_;rintro e A4⟨⟨ep,rfl⟩,aF,oE⟩;rw[a5h.2.2.2.2.2.2.1,a5h.2.2.2.1] at aF;have SW:=zc (SW.trans (Chg.zeU oE));have uX:=ha_ (Blk A4 vp (qc q v np (.pointer (some ⟨ef,0,none⟩)) sp (yQ v)) 102) (by
  have:=NI.cells.zeD oE A6.ne;rw[a5h.2.2.2.2.1,a5h.2.2.2.2.2.1] at this;exact this)
 have a0L:=ha_ (Blk A4 sp (aa3.store.map B) 5) (by rw[aa5.2.2.2.1];exact aF);go_simp;refine hK _ _ (λhno=>absurd hno bd) ?_;clear hK K;refine yB ?_;have az:=uX.cell 6 (.int .i64 v.moved) rfl;obtain⟨m1,eh⟩:=n_ (v.moved+1);have a0d:=zc (fF (v:=v) k);have aa9:=zc (A6.zei.step EZ.1);have a0f:=ha_ ((v.step k).store=aa3.store) (by rw[aa5.2.2.2.1];unfold Vol.step;split<;>rfl);have a5g:=ha_ (yQ (v.step k)=yQ v) (by
  obtain⟨_,_,_,ai,aj⟩:=Zx v k;unfold yQ;rw[ai,aj])
 have a5O:=ha_ (∀np xp load,qc q (v.step k) np xp sp load=[.pointer (some ⟨q,0,none⟩),.int .i64 v.alg,.int .i64 v.size,.int .i64 v.zdO,.pointer (some ⟨np,0,none⟩),xp,.int .i64 (m1:Int),.slice (some ⟨sp,0,none⟩) (v.size*v.zdO) (v.size*v.zdO),load]) (λnp xp load=>by
  obtain⟨ib,ic,iw,ix,_,_⟩:=a0d;unfold qc;rw[ib,ic,iw,ix,eh])
 go_wp2_with (refine uX.zeJ (i:=6) (v:=.int .i64 ((v.moved:Int)+1)) rfl rfl rfl rfl Zs rfl rfl (by simp[qc]) ?_);intro w6 aF oE;rw[show(v.moved:Int)+1=(m1:Int) by omega] at aF;have EB:=ha_ (Blk w6 vp [.pointer (some ⟨q,0,none⟩),.int .i64 v.alg,.int .i64 v.size,.int .i64 v.zdO,.pointer (some ⟨np,0,none⟩),.pointer (some ⟨ef,0,none⟩),.int .i64 (m1:Int),.slice (some ⟨sp,0,none⟩) (v.size*v.zdO) (v.size*v.zdO),yQ v] 102) aF;have SW:=zc (SW.trans (Chg.of_cell (zJ.zd1 oE)));have a0L:=zc (a0L.only oE (λe=>A6.ne e.symm));clear az;have aaa:=λ(y:zL w6.drew)=>(EB.drew.below y.later EB.drew.lt).cell 3 _ rfl;have Ef:=λ(y:zL w6.drew)=>(EB.drew.below y.later EB.drew.lt).cell 6 _ rfl;have aa6:=a9l.o;have aab:IntKind.i64.wrap ((v.zdO:Int)-(m1:Int))=(left:Int):=by
  rw[show(v.zdO:Int)-(m1:Int)=(left:Int) by omega];exact IntWalk.i64_in _ ae
 by_cases aR:left=0
 ·have aN:((left:Int)==0)=true:=bq;have aac:=ha_ ((v.step k).next=none/\(v.step k).now=k/\v.moved+1=v.zdO) (by
   obtain⟨_,_,_,_,aad,aae⟩:=a0d;have e:v.moved+1=v.zdO:=ae;rw[if_pos e] at aad aae;exact⟨aad,aae,e⟩)
  clear aR aa6 eh;generalize (v.zdO:Int)=a6h at*;go_wp2_with fail;refine aic ?_;rintro Ev rfl;refine ak5 EB ?_;intro EB;have SW:=zc SW.drew;have a0L:=zc a0L.drew;clear aaa Ef;refine zq ?_;have aQ:=EB.cell 5 _ rfl;go_wp2_with (refine EB.zeJ (i:=4) (v:=.pointer (some ⟨ef,0,none⟩)) rfl rfl rfl rfl vY rfl rfl ab ?_);refine anx ?_;intro A4 aF oE uX I9;clear aQ;go_wp2_with (refine uX.zeJ (i:=5) (v:=.pointer none) rfl rfl rfl rfl vY rfl rfl ab ?_);intro A4 aF oE;have SW:=zc (SW.trans (Chg.of_cell (zJ.zd1 (I9.trans oE))));have a0L:=zc ((a0L.only I9 (λe=>A6.ne e.symm)).only oE (λe=>A6.ne e.symm));have Ts:=zc (show yp 102 F A4 q vp sp (v.step k) (yQ (v.step k)) ef (.pointer none) from
   ⟨aa9,A6.ne,A6.inF,by rw[a5O.o,a5g.o];exact aF,by rw[a0f.o];exact a0L,by rw[aac.2.1];exact aa1.at (SW.up A6.inF),by rw[aac.1];rfl⟩)
  go_wp2;go_ret2;exact⟨rfl,⟨_,_,Ts⟩,SW⟩
 ·have aN:((left:Int)==0)=false:=bq;have aac:=ha_ ((v.step k).next=some k/\(v.step k).now=v.now) (by
   obtain⟨_,_,_,_,aad,aae⟩:=a0d;rw[if_neg ae] at aad aae;exact⟨aad,aae⟩)
  clear aR aa6 eh;generalize (v.zdO:Int)=a6h at*;go_wp2_with fail;refine aic ?_;rintro Ev rfl;refine ak5 EB ?_;intro EB;have SW:=zc SW.drew;have a0L:=zc a0L.drew;clear aaa Ef;refine zq ?_;have Ts:=zc (show yp 102 F w6.drew q vp sp (v.step k) (yQ (v.step k)) np (.pointer (some ⟨ef,0,none⟩)) from
   ⟨aa9,A6.ne,A6.inF,by rw[a5O.o,a5g.o];exact EB,by rw[a0f.o];exact a0L,by rw[aac.2];exact A6.now.at (SW.up A6.inF),by rw[aac.1];exact⟨ef,rfl,aa1.at (SW.up A6.inF)⟩⟩)
  go_wp2;go_ret2;exact⟨rfl,⟨_,_,Ts⟩,SW⟩
def cI(k:yo):∀(j:Nat)(v:Vol),xK k (j+1) v=(xK k j v).step k
 | 0,_=>rfl
 | j+1,v=>by
  show xK k (j+1) (v.step k)=(xK k j (v.step k)).step k;exact cI k j (v.step k)
def WW(w:World)(vp:Nat):Nat:=match w.cell? ⟨vp,6,none⟩ with
 | some (.int _ n)=>n.toNat
 | _=>0
def yp.moved(h:yp ty F w q vp sp v load np xp):WW w vp=v.moved:=by unfold WW;rw[h.cells.cell 6 (.int .i64 v.moved) rfl];rfl
abbrev cJ(vp:Nat)(ka:OA)(kn kc:Nat)(us:Nat->Value):Act:={ tmps:=#[.pointer (some ⟨vp,0,none⟩),.slice ka kn kc,us 2,us 3,us 4,us 5,us 6,us 7,us 8,us 9,us 10,us 11,us 12,us 13,us 14,us 15,us 16,us 17,us 18,us 19,us 20],defers:=[] }
def rp(F:List Nat)(q vp sp:Nat)(ka:OA)(kn kc:Nat)(v:Vol)(k:yo)(w:World)(x:Act)(wr:World):Prop :=
 ∃(j:Nat)(us:Nat->Value)(np:Nat)(xp:Value),x=cJ vp ka kn kc us/\j<v.zdO/\Hid (yp 102 F wr q vp sp (xK k j (v.begin' k)) (yQ (xK k j (v.begin' k))) np xp)/\Hid (Chg vp sp w wr)
def rp.intro{ka:OA}{kn kc:Nat}{k:yo}{x:Act}{wr:World}(j np:Nat)(xp:Value)(hx:x=cJ vp ka kn kc (λi=>x.tmps.getD i undef))(hj:j<v.zdO)(hv:yp 102 F wr q vp sp (xK k j (v.begin' k)) (yQ (xK k j (v.begin' k))) np xp)(hc:Chg vp sp w wr):rp F q vp sp ka kn kc v k w x wr:=⟨j,_,np,xp,hx,hj,hv,hc⟩
def LQ(ka:OA)(kn kc:Nat)(key:La_)(h:yp 102 F w q vp sp v (yQ v) np xp)(ht:VN F w q p)(hkn:key.length=kn)(hkc:kn<=kc)(hkl:zr w ka (key.map B))(hg:yi w):Ca_ 39 #[pa_ vp,.slice ka kn kc] w λe w'=>e=.returned (.int .i64 (v.all key).2)/\(∃np' xp',yp 102 F w' q vp sp (v.all key).1 (yQ (v.all key).1) np' xp')/\Chg vp sp w w':=by
 have uX:=zc (gk ka kn kc key h ht hkn hkc hkl hg);obtain⟨An,eI⟩:=n_ (v.all key);rw[<-eI];by_cases eg:(v.start key).2=0;rotate_left
 ·have uY:=ha_ (An=v.start key) (by
   rw[eI];unfold Vol.all Vol.start;unfold Vol.start at eg;split
   ·rfl
   ·next hn =>
    rw[hn] at eg;simp only at eg;split
    ·next hw=>rw[if_pos hw] at eg;exact absurd rfl eg
    ·rfl)
  obtain⟨iy,az⟩:=n_ ((v.start key).2);rw[<-az] at uX eg;have aN:(iy != 0)=true:=by simp;exact eg
  have SW:=zc az;clear h ht hkl hg eI eg az hkn;go_enter func39,ntmps39;go_wp2_with fail;refine zN 0 (λ_ _=>False) (λ_ _=>0) rfl ?_ (λ_ _ h=>h.elim);simp only[qb];go_wp2_with fail;refine uX.mono ?_;rintro e A4⟨rfl,⟨xp',aL⟩,R5⟩;have OS:=zc aL;have aaf:=zc R5;clear aL R5;go_wp2;try rw[Exit.zdZ]
  go_ret;rw[uY.o];exact⟨by show Ending.returned (Value.int .i64 iy)=_;rw[SW.o],⟨_,_,OS⟩,aaf⟩
 obtain⟨k,aQ,hn,hw,uY,On⟩:∃k,k=vS v.alg key/\v.next=none/\zd6 v.alg key.length=0/\Hid (An=(v.zfp k,0)/\True)/\v.start key=(v.begin' k,0):=by
  refine⟨_,rfl,?_⟩;unfold Vol.start at eg |-;unfold Vol.all at eI;cases hn:v.next with
  | some k=>rw[hn] at eg;exact absurd (show(12:Int)=0 from eg) bd
  | none =>
   rw[hn] at eg eI;simp only at eg eI |-;by_cases hw:zd6 v.alg key.length=0
   ·rw[if_pos hw] at eI |-;exact⟨e7,hw,⟨eI,trivial⟩,rfl⟩
   ·rw[if_neg hw] at eg;exact absurd eg bq
 rw[On] at uX;simp only at uX;have aag:Xv v.size k:=by rw[aQ];exact Yz _ _ h.zei.size.1
 have eF:=h.zei.zdO;have P7:=ha_ (∀j,j<v.zdO->(xK k j (v.begin' k)).moved=j/\(xK k j (v.begin' k)).next=some k/\(xK k j (v.begin' k)).zdO=v.zdO) (λj hj=>by
  obtain⟨ej,iF,iG,iH,_,iI⟩:=uQ (k:=k) j (h.zei.begin' aag) rfl (by show 0+j<=v.zdO;omega);refine⟨by rw[iH];show 0+j=j;omega,?_,iG⟩;by_cases ag:0<j
  ·rw[(iI ag).1,if_neg];show ¬0+j=v.zdO;omega
  ·obtain rfl:j=0:=by omega
   rfl)
 clear h ht hkl hg eI eg aQ hw On aag hn hkn;go_enter func39,ntmps39;go_wp2_with fail;refine zN 0 (rp F q vp sp ka kn kc v k w) (λ_ wr=>v.zdO-WW wr vp) rfl ?_ ?_
 ·simp only[qb];go_wp2_with fail;refine uX.mono ?_;rintro e A4⟨rfl,⟨xp',aL⟩,R5⟩;have OS:=zc aL;have aaf:=zc R5;clear aL R5;go_wp2;exact rp.intro 0 np xp' rfl ae OS aaf
 ·rintro ef wr⟨j,NU,np',xp',rfl,hj,OS,SW⟩;simp only[cJ];obtain⟨eh,SY,a6i⟩:=P7 j hj;obtain⟨au,aw⟩:=n_ (xK k j (v.begin' k));have Pu:=ha_ (au.step k=xK k (j+1) (v.begin' k)) (by rw[aw,cI]);have OS:=ha_ (yp 102 F wr q vp sp au (yQ au) np' xp') (by rw[aw];exact OS);rw[<-aw] at eh SY a6i;have aah:=ha_ (WW wr vp=j) (by rw[OS.moved,eh]);have EZ:=t_ SY;obtain⟨aai,aa6⟩:=n_ (v.zdO-j-1);have P3:=ha_ (au.zdO-au.moved-1=aai) (by rw[eh,a6i,aa6]);clear aw eh SY a6i;by_cases ag:aai=0
  ·have aN:decide (0<aai)=false:=bq;have EM:=ha_ (j+1=v.zdO) ae;clear aa6 ag;go_wp2_with fail;refine(cH k OS EZ.1).mono ?_;rintro e A4⟨rfl,⟨aaj,aak,aL⟩,R5⟩;rw[P3.o];rw[Pu.o,EM.o] at aL;have PI:=zc aL;have SW:=zc (SW.trans R5);clear aL R5;go_wp2;try rw[Exit.zdZ]
   go_ret;rw[uY.1];exact⟨rfl,⟨_,_,PI⟩,SW⟩
  ·have aN:decide (0<aai)=true:=bq;have aA:j+1<v.zdO:=ae;clear aa6 ag;go_wp2_with fail;refine(cH k OS EZ.1).mono ?_;rintro e A4⟨rfl,⟨aaj,aak,aL⟩,R5⟩;rw[P3.o];rw[Pu.o] at aL;have PI:=zc aL;have SW:=zc (SW.trans R5);clear aL R5;go_wp2;refine wp_goto ⟨rfl,rp.intro (j+1) aaj aak rfl aA PI SW,?_⟩;rw[PI.moved,(P7.o (j+1) aA).1,aah.o];omega
def mi:Row pgm 100 3:=⟨e0,e0⟩
def CT(q np sp:Nat)(alg size zdO:Int)(st:Nat):pgm.built 102 [(0,.pointer (some ⟨q,0,none⟩)),(1,.agg #[.int .i64 alg,.int .i64 size,.int .i64 zdO]),(2,.pointer (some ⟨np,0,none⟩)),(5,.slice (some ⟨sp,0,none⟩) st st)] =
  some #[.pointer (some ⟨q,0,none⟩),.int .i64 alg,.int .i64 size,.int .i64 zdO,.pointer (some ⟨np,0,none⟩),.pointer none,.int .i64 0,.slice (some ⟨sp,0,none⟩) st st,.complex .f64 0 0]:=e0
def jE(alg:Int)(size zdO:Nat)(k:yo)(n:Nat):Vol:=⟨alg,size,zdO,k,none,0,JJ size k (zg (size*zdO)) n,0,0⟩
def Ug(F0:List Nat)(q p:Nat)(alg:Int)(size zdO:Nat)(ka:OA)(kn kc:Nat)(key:La_)(w:World)(hz:16<=size/\size<=4096)(hs:1<=zdO/\zdO<=256)(hw:zd6 alg kn=0)(hkn:key.length=kn)(hkc:kn<=kc)(hkl:zr w ka (key.map B))(ht:Tab w q p)(hg:yi w)(hF0:∀i∈F0,i<w.heap.size/\i≠q/\i≠p):Ca_ 54 #[.pointer (some ⟨q,0,none⟩),.agg #[.int .i64 alg,.int .i64 size,.int .i64 zdO],.slice ka kn kc] w λe w'=>∃vp sp np,e=.returned (.tuple #[.pointer (some ⟨vp,0,none⟩),.int .i64 0]) /\
   yp 102 (vp::sp::F0) w' q vp sp (zeA alg size zdO key) (yQ (zeA alg size zdO key)) np (.pointer none)/\VN (vp::sp::F0) w' q p/\w.heap.size<=vp/\w.heap.size<=sp/\Below w.heap.size w w':=by
 refine aeC ?_;intro EW;refine ajJ ht hkl hg ?_;intro A3 No M8;have a6E:=zc hkn;have MY:=zc hw;obtain⟨k,aQ⟩:=n_ (vS alg key);have a9Y:=ha_ (vS alg key=k/\Xv size k) ⟨aQ.symm,by rw[aQ];exact Yz alg key hz.1⟩;obtain⟨st,On⟩:=n_ (size*zdO);have aal:st<=1048576:=by rw[On];exact zdE hz.2 hs.2
 have ai:IntKind.i64.wrap ((size:Int)*(zdO:Int))=(st:Int):=by
  have e:((size:Int)*(zdO:Int))=(st:Int):=by rw[On];push_cast;rfl
  rw[e];exact IntWalk.i64_in _ ae
 have P7:=s_ On;have a9C:=ha_ (zeA alg size zdO key=jE alg size zdO k zdO) (by unfold zeA jE;rw[aQ]);have aam:=ha_ (∀n,n<=zdO->(jE alg size zdO k n).zeq) (λn hn=>⟨hz,hs,by
  show(JJ _ _ _ _).length=_;rw[Zl (ze _) a9Y.2.least n hn,ze];rfl,a9Y.2,λk h=>by cases h⟩)
 have aan:=zc hz;have a0f:=zc hs;have eA:=ht.tab.lt;have eE:=ht.boxes.lt;have aN:decide ((size:Int)<16)=false:=bq;have eK:decide ((size:Int)>4096)=false:=bq;have Ed:decide ((zdO:Int)<1)=false:=bq;have a4S:decide ((zdO:Int)>256)=false:=bq;have I3:=zc hF0;clear hz hs hw hkn hkl ht hg aQ On hF0;go_enter func54,ntmps54;go_wp2_with (refine aqU ?_);intro A4 aF sy;have EW:=zc (EW.push aF sy);have aH:=EW.g0.cell 0 _ rfl;have T6:=EW.g0.cell 1 _ rfl;have Tf:=EW.g0.cell 2 _ rfl;go_wp2_with fail;refine(Q3 alg q p ka kn kc key _ a6E MY hkc (No.below EW.bel) (A3.below EW.bel (zab _)) (M8.below EW.bel)).mono ?_;rintro e w2⟨np,rfl,aao,sy⟩;rw[a9Y.1] at aao;have aap:=zc aao;have aT:=EW.size;refine aex ?_;intro EW;have aU:=EW.size;have uX:=zc sy;clear aao aH T6 Tf;have T6:=λ(y:zL w2.drew)=>((EW.drew.later y.later).get 0 rfl).cell 1 _ rfl;have Tf:=λ(y:zL w2.drew)=>((EW.drew.later y.later).get 0 rfl).cell 2 _ rfl;go_wp2_with fail;refine agX ?_;rintro A4 rfl;refine ak5 EW ?_;intro EW;refine zB EW.g0.range EW.g0.lt mi rfl rfl rfl rfl rfl (λK hK=>?_);refine ali ?_;clear hK K;refine mqR ?_;clear T6 Tf;have Nd:=ha_ (Below w2.heap.size w2 w2.drew) ((Below.refl _ _).drew);refine Sm ?_;intro K hK;refine VH 23 5 (.int .u8 0) 1 st rfl rfl rfl underlying23 z5 rfl rfl rfl ae ew (λw4 hb4 zd5=>?_);rw[tq] at hb4;refine hK _ _ zd5 ?_;have EW:=zc (EW.push hb4 zd5);have Nd:=zc (Nd.trans zd5);have aV:w2.heap.size<w4.heap.size:=hb4.lt;clear hK K hb4 zd5;go_simp;refine jd rfl rfl aa 102 _ _ _ rfl rfl (CT q np w2.heap.size alg size zdO st) (λK hK=>?_);go_simp;refine hK _ ?_;clear hK K;refine Sm ?_;intro K hK;refine U6 102 _ [.pointer (some ⟨q,0,none⟩),.int .i64 alg,.int .i64 size,.int .i64 zdO,.pointer (some ⟨np,0,none⟩),.pointer none,.int .i64 0,.slice (some ⟨w2.heap.size,0,none⟩) st st,.complex .f64 0 0] _ rfl rfl rfl (λw5 hb5 zdV=>hK _ _ zdV ?_);clear hK K;have EW:=zc (EW.push hb5 zdV);have Nd:=zc (Nd.trans (zdV.mono ae));have aaq:w4.heap.size<w5.heap.size:=hb5.lt;have a8U:=EW.get 0 rfl;have TJ:=EW.get 1 rfl;clear hb5 zdV;go_simp;refine afE ?_;have Rl:=zc (show yp 102 (w4.heap.size::w2.heap.size::F0) w5 q w4.heap.size w2.heap.size (jE alg size zdO k 0) (yQ (jE alg size zdO k 0)) np (.pointer none) from
  ⟨aam 0 ae,ae,ab,by
   have aj:fl 0=0:=Yb;unfold yQ qc jE;simp only[aj];rw[P7.1];exact a8U,by
   show Blk w5 w2.heap.size ((zg (size*zdO)).map B) _;rw[P7.1];exact TJ,xA.zgS aap Nd (λi hi=>by
   rcases zau.1 hi with rfl|hi
   ·exact .inl ae
   ·rcases zau.1 hi with rfl|hi
    ·exact .inl (zab _)
    ·have h:=I3.o i hi;exact .inr ⟨ae,bq⟩),rfl⟩)
 have a0g:=ha_ (VN (w4.heap.size::w2.heap.size::F0) w5 q p) (by
  have ag:=A3.below EW.bel (zab _);have aar:q∉w4.heap.size::w2.heap.size::F0:=by
   simp only[zau,not_or];exact⟨ae,ae,λh=>(I3 _ h).2.1 rfl⟩
  have aas:p∉w4.heap.size::w2.heap.size::F0:=by
   simp only[zau,not_or];exact⟨ae,ae,λh=>(I3 _ h).2.2 rfl⟩
  refine⟨λw' hu=>⟨ag.boxes.up hu aas,ag.tab.up hu aar⟩,aar,aas,λi hi=>?_⟩;rcases zau.1 hi with rfl|hi
  ·omega
  ·rcases zau.1 hi with rfl|hi
   ·omega
   ·have h:=I3.o i hi;omega)
 have SM:=zc EW.bel;have aat:w.heap.size<=w4.heap.size:=ae;have a9J:w.heap.size<=w2.heap.size:=ae;have Tf:=EW.g2.cell 2 _ rfl;clear a8U TJ aN eK Ed a4S ai eA eE aT aU aV aaq;generalize w4.heap.size=vp at*;generalize w2.heap.size=sp at*;go_wp2;go_loopw [57] (λc wr=>∃n:Nat,n<=zdO/\c=.int .i64 n/\Hid (yp 102 (vp::sp::F0) wr q vp sp (jE alg size zdO k n) (yQ (jE alg size zdO k n)) np (.pointer none))/\Hid (Chg vp sp w5 wr)) (λc _=>zdO-(intOf c).toNat);case atStart=>exact⟨0,ae,rfl,Rl,Chg.refl _ _ _⟩
 case round =>
  obtain⟨n,hn,rfl,OS,SW⟩:=hrel;have a91:=a0f.2;by_cases aB:n<zdO
  ·have aN:decide (n<zdO)=true:=bq;have az:=OS.cells.cell 4 (.pointer (some ⟨np,0,none⟩)) rfl;go_wp2_with fail;refine(J6 np k n false OS OS.now.self a9Y.2.least aB).mono ?_;rintro e A4⟨⟨ep,rfl⟩,aF,oE⟩;have SW:=zc (SW.trans (Chg.zeU oE));have PI:=zc (show yp 102 (vp::sp::F0) A4 q vp sp (jE alg size zdO k (n+1)) (yQ (jE alg size zdO k (n+1))) np (.pointer none) from
    OS.to (Chg.zeU oE) (OS.cells.zeD oE OS.ne) aF (aam (n+1) aB) rfl rfl)
   clear az aN;go_wp2;go_roundw;case rel=>exact⟨n+1,ae,hM,PI,SW⟩
   case measure=>simp[intOf];omega
  ·obtain rfl:n=zdO:=by omega
   go_wp2;go_ret2;rw[a9C.o];exact⟨vp,sp,np,rfl,OS,a0g.at (SW.up ab),aat,a9J,SW.bel SM SM.size aat a9J⟩
def ru(n:Nat)(w:World)(hn:n<8):Ca_ 78 #[.int .i64 n] w λe w'=>∃a,e=.returned (.slice (some a) 8 8)/\zr w' (some a) ((zfz n).map B)/\Below w.heap.size w w':=by
 have ai:IntKind.u64.wrap (n:Int)=((zae n).toNat:Int):=by
  rw[UInt64.toNat_ofNat_of_lt' ki];exact ahu
 refine aeC ?_;intro EW;have PH:=zc (zy (zae n));go_enter func78,ntmps78;go_wp2_with fail;refine(qj (zae n) _).mono ?_;rintro e A4⟨rfl,Eu⟩;have EW:=zc (EW.later Eu);have aT:=EW.size;clear Eu;go_wp2_with (refine aqF ?_);refine am7 ?_;intro A4 aF sy EW aB;go_wp2_with (refine EW.g0.zdP rfl rfl rfl (cs:=(zw (zae n)).map B) rfl qI ev k6 (zj _) ?_);intro A4 aF oE;have A0:=zc aF.lies;have uX:=zc (zi EW.bel oE aT);go_wp2;go_ret;exact⟨_,rfl,A0,uX⟩
def ml(w:World)(t e:TypeId)(size:Nat)(ht:P.underlying t=some (.slice e))(hs:(P.info? e).map (·.size)=some size)(ao:OA)(len cap n:Nat)(h:n<=cap):(Instr.slice t (.slice ao len cap) none (some (.int .i64 (n:Int))) none).run P w=.ok (.slice ao n cap) w:=by
 cases hq:P.info? e with
 | none=>rw[hq] at hs;cases hs
 | some x =>
  have aH:x.size=size:=c9;cases ao with
  | none=>simp[Instr.slice,Instr.sliceBounds,Instr.sliceBound,run_underlying ht,sizeOf,typeInfo,hq,aH,asIntOf,h]
  | some a=>cases a;simp[Instr.slice,Instr.sliceBounds,Instr.sliceBound,run_underlying ht,sizeOf,typeInfo,hq,aH,asIntOf,h,Addr.add]
def mo{ops:Array Oper}{rest:List Oper}{o:Oper}{a:Act}{Q:Exit->Act->World->Prop}(t:TypeId)(parts:Array (Nat×Operand))(vs:List (Nat×Value))(cells:Array Value)(hg:o.guard=none)(hop:o.op=.build t parts)(hp':(parts.toList.map λp=>(p.1,a.eval p.2))=vs)(hb:P.built t vs=some cells)(k:wpList P ops Q rest (a.put o.dst (.agg cells)) w):wpList P ops Q (o::rest) a w:=by
 have eE:(parts.map λ(i,x)=>(i,a.eval x))=vs.toArray:=by
  exact arv
 exact asF
def Blk.ne{c:Nat}{us:Lb_}{t t':TypeId}(h:Blk w b vs t)(k:Blk w c us t')(hne:t≠t'):b≠c:=by rintro rfl;unfold Blk at h k;rw[h] at k;cases k;exact hne rfl
def WI:Str:=⟨none,0,[]⟩
def mq(w:World):WI.In w:=⟨zab _,zr.nil _ _⟩
def GG(s:Str)(x:UInt8):B x≠s.val:=by simp[Str.val]
def Yh(q:Nat)(ss:List Str):Lb_:=.pointer (some ⟨q,0,none⟩)::ss.map Str.val
structure Head(w:World)(hp q p:Nat)(ss:List Str):Prop where
 tab:Tab w q p
 blk:Blk w hp (Yh q ss) 105
 len:ss.length=8
 each:∀s∈ss,s.In w
 nil:∀s∈ss,s.bs.length=0->s.a=none
def Head.later(h:Head w hp q p ss)(hb:Below w.heap.size w w'):Head w' hp q p ss :=
 ⟨h.tab.below hb (zab _),h.blk.below hb h.blk.lt,h.len,λs hs=>(h.each s hs).below hb,h.nil⟩
def Head.drew(h:Head w hp q p ss):Head w.drew hp q p ss:=h.later (Below.refl _ _).drew
def Head.zgv(h:Head w hp q p ss):w.cell? ⟨hp,0,none⟩=some (.pointer (some ⟨q,0,none⟩)):=h.blk.cell 0 _ rfl
def Head.cells(h:Head w hp q p ss)(i:Nat)(s:Str)(hs:ss[i]? = some s):w.cell? ⟨hp,1+i,none⟩=some s.val:=h.blk.cell (1+i) _ (by rw[zb5];simp[Yh,hs])
def Head.range(h:Head w hp q p ss):w.rangeAt hp 1 (ss.map Str.val):=Blk.zea h.blk 1 8 _ (by simp[Yh,zai,h.len])
def Head.set(h:Head w hp q p ss)(i:Nat)(s:Str)(hs:s.In w)(hn:s.bs.length=0->s.a=none)(hb:Blk w' hp ((Yh q ss).set (1+i) s.val) 105)(ho:Only hp w w'):Head w' hp q p (ss.set i s):=by
 have aG:∀x:UInt8,B x∉Yh q ss:=by
  intro x aH;simp[Yh] at aH;obtain⟨ek,_,ht⟩:=aH;exact GG ek x ht.symm
 refine⟨h.tab.only ho (h.tab.boxes.ne h.blk bd) (h.tab.tab.ne h.blk bd),?_,by rw[List.length_set];exact h.len,?_,?_⟩
 ·have:(Yh q ss).set (1+i) s.val=Yh q (ss.set i s):=by rw[zb5];simp[Yh,zct]
  rw[<-this];exact hb
 ·intro ek ht;rcases zcK ht with ht|rfl
  ·exact(h.each ek ht).only h.blk aG ho
  ·exact hs.only h.blk aG ho
 ·intro ek ht ag;rcases zcK ht with ht|rfl
  ·exact h.nil ek ht ag
  ·exact hn ag
def Uh(q:Nat):pgm.built 105 [(0,.pointer (some ⟨q,0,none⟩))]=some (Yh q (zah 8 WI)).toArray:=e0
def ry(q p:Nat)(w:World)(ht:Tab w q p):Ca_ 26 #[pa_ q] w λe w'=>∃hp,e=.returned (pa_ hp)/\Head w' hp q p (zah 8 WI)/\w.heap.size<=hp/\Below w.heap.size w w':=by
 have A3:=zc ht;have a0q:=Uh q;clear ht;go_enter func26,ntmps26;go_wp2_with (first|(refine mo 105 _ _ _ rfl rfl rfl a0q ?_)|(refine zh 105 _ (Yh q (zah 8 WI)) _ rfl rfl rfl rfl ?_));intro A4 aF sy;have PW:=ha_ (Head A4 w.heap.size q p (zah 8 WI)) ⟨A3.below sy (zab _),aF,rfl,by
  intro ej eg;obtain rfl:=zbJ eg;exact mq _,by
  intro ej eg _;obtain rfl:=zbJ eg;rfl⟩
 have uX:=zc sy;clear a0q;go_wp2;go_ret;exact⟨_,rfl,PW,zab _,uX⟩
def mr:(pgm.underlying 23).map (·.isRow)=some false:=e0
def cK:(pgm.info? 103).map (·.size)=some 8:=e0
def LU{i:Nat}{s:Str}(h:ss[i]? = some s):(ss.map Str.val).toArray[i]? = some s.val:=As
def Xa(b:Nat)(w w':World):Prop:=∃w1,Below w.heap.size w w1/\Only b w1 w'
end
variable{ss:List Str}
section
attribute [local irreducible] zA zG zH zE zR
def rz(hp n:Nat)(w:World)(hn:n<8):C_e 77 #[pa_ hp,.int .i64 n] w (.bool true):=by have aN:decide ((n:Int)>=0)=true:=ab;have aN:decide ((n:Int)<8)=true:=bq;exact as5
def KA(n:Nat):(zfz n).length=8:=zy _
abbrev Xb(bh bc:Nat)(us:Nat->Value):Act:={ tmps:=#[us 0,us 1,.pointer (some ⟨bh,0,none⟩),us 3,us 4,us 5,us 6,.pointer (some ⟨bc,0,none⟩),.func (.func 79) #[] #[.pointer (some ⟨bc,0,none⟩),.pointer (some ⟨bh,0,none⟩)],us 9,us 10,us 11,us 12,us 13,us 14,us 15,us 16,us 17,us 18,us 19,us 20,us 21,us 22,us 23,us 24,us 25,us 26,us 27,us 28,us 29,us 30,us 31,us 32,us 33,us 34,us 35,us 36,us 37,us 38,us 39,us 40,us 41,us 42,us 43,us 44,us 45,us 46,us 47],defers:=[] }
def GH(ci kp hp q p:Nat)(b:La_)(ss:List Str)(w:World)(x:Act)(wr:World):Prop :=
 ∃(us:Nat->Value)(bh bc:Nat),x=Xb bh bc us/\Hid (lQ wr ci kp q p (qy b))/\Hid (Head wr hp q p ss)/\Hid (Blk wr bc [.pointer (some ⟨ci,0,none⟩)] 60)/\Hid (Blk wr bh [.pointer (some ⟨hp,0,none⟩)] 57)/\Hid (Below w.heap.size w wr)
def GH.intro{ci kp hp q p:Nat}{b:La_}{w:World}{x:Act}{wr:World}(bh bc:Nat)(hx:x=Xb bh bc (λi=>x.tmps.getD i undef))(h1:lQ wr ci kp q p (qy b))(h2:Head wr hp q p ss)(h3:Blk wr bc [.pointer (some ⟨ci,0,none⟩)] 60)(h4:Blk wr bh [.pointer (some ⟨hp,0,none⟩)] 57)(h5:Below w.heap.size w wr):GH ci kp hp q p b ss w x wr :=
 ⟨_,bh,bc,hx,h1,h2,h3,h4,h5⟩
def Ui{i:Nat}{s:Str}(h:ss[i]? = some s):(rowOf ss).drop i=s.bs::(rowOf ss).drop (i+1):=by have ag:=(zbD.1 h).1;rw[List.drop_eq_getElem_cons (by simpa[rowOf] using ag)];simp[rowOf,(zbD.1 h).2]
def Wu:(pgm.info? 60).map (·.zero)=some (some (.pointer none)):=e0
def Wv:(pgm.info? 60).map (·.size)=some 1:=e0
attribute [local go_sem] Option.isNone_none
end
section
attribute [local irreducible] zA zG zH zE zR
section
variable{P:Program}{ops:Array Oper}{Q:Exit->Act->World->Prop}
end
variable{w:World}{P:Program}{t:TypeId}{ops:Array Oper}{rest:List Oper}{o:Oper}{a:Act}{Q:Exit->Act->World->Prop}{s b out:La_}{n pad k:Nat}{x y:UInt8}
def gl(w:World)(xs:Lb_)(ty:TypeId)(fr:Nat×Nat):zr (w.alloc (.cells xs.toArray ty fr)) (some ⟨w.heap.size,0,none⟩) xs:=by exact akZ
def CU(w:World):(convert 23 23 (.slice (some ⟨w.heap.size,0,none⟩) 4 4)).run pgm (w.alloc (.cells #[.int .u8 100,.int .u8 111,.int .u8 111,.int .u8 114] 5))=.ok (.slice (some ⟨w.heap.size,0,none⟩) 4 4) (w.alloc (.cells #[.int .u8 100,.int .u8 111,.int .u8 111,.int .u8 114] 5 (4,5))) :=
 Joins.run_convert_bytes_const_at w 23 5 #[.int .u8 100,.int .u8 111,.int .u8 111,.int .u8 114] 4 4 w.heap.size rfl underlying23 underlying5
instance (w:World):Nonempty (zO (λu v=>Below u.heap.size u v) w):=⟨⟨w,Below.refl _ _⟩⟩
def Q4(hp:Nat)(n:Int)(w:World):C_e 77 #[pa_ hp,.int .i64 n] w (.bool (decide (0<=n/\n<8))):=by
 by_cases ag:n<0
 ·have aN:decide (n>=0)=false:=bq;have eK:decide (0<=n/\n<8)=false:=bq;rw[eK];exact as5
 ·have aN:decide (n>=0)=true:=by simp;omega
  by_cases ag:n<8
  ·have eK:decide (0<=n/\n<8)=true:=bq;have aN:decide (n<8)=true:=bq;rw[eK];exact as5
  ·have eK:decide (0<=n/\n<8)=false:=bq;have aN:decide (n<8)=false:=bq;rw[eK];exact as5
def gm(ss:List Str)(i:Nat)(s:Str):rowOf (ss.set i s)=(rowOf ss).set i s.bs:=by unfold rowOf;rw[zct]
def Xa.of_below{hp:Nat}{w':World}(h:Below w.heap.size w w'):Xa hp w w':=⟨w',h,Only.refl _ _⟩
def Xc:∀(l:La_)(c:UInt8),0<=Lib.indexByte l c↔c∈l
 | [],c=>by simp[Lib.indexByte]
 | b::l,c=>by
  have ih:=Xc l c;have hg:=Lib.indexByte_ge l c;unfold Lib.indexByte;by_cases h:b=c
  ·subst h;simp
  ·have h2:(b==c)=false:=by simpa using h
   rw[h2];simp only[Bool.false_eq_true,if_false,zau];by_cases ag:Lib.indexByte l c=-1
   ·rw[if_pos (by simp[ag])];constructor
    ·intro oI;omega
    ·rintro(oI|oI)
     ·exact absurd oI.symm h
     ·have:=ih.2 oI;omega
   ·rw[if_neg c6];constructor
    ·intro _;exact .inr (ih.1 ae)
    ·intro _;omega
def Blk.zjD{g:Nat}{cur:Lb_}(h:Blk w g cur t){d s:Operand}{dT sT elem:TypeId}{dLen dCap:Nat}(bs:La_)(hgd:o.guard=none)(ho:o.op=.call { callee:=.builtin .copy,args:=#[d,s],argTypes:=#[dT,sT] })(hd:a.eval d=.slice (some ⟨g,0,none⟩) dLen dCap)(hs:a.eval s=.string (str bs))(hu:P.underlying dT=some (.slice elem))(hsz:∀w,(sizeOf elem).run P w=.ok 1 w)(hle:bs.length<=dLen)(hfit:bs.length<=cur.length)(k:∀w',Blk w' g (splice cur 0 (bs.map B)) t->Only g w w'->wpList P ops Q rest (a.put o.dst (goInt bs.length)) w'):wpList P ops Q (o::rest) a w:=by
 refine wpList_plain hgd λK hK=>?_;have ai:(str bs).size=bs.length:=xa;have aj:(str bs).data.toList=bs:=by simp[str]
 have aR:(bs.map B).length=bs.length:=zaa _;have aP:=run_copy_string (P:=P) w dT sT o.type elem g 0 dLen dCap (str bs) hu hsz (by rw[ai];exact hle) (λj hj=>by rw[ai] at hj;exact((h.there 0 bs.length ae) j hj).1) (λj hj=>h.free _);rw[ai,aj] at aP;unfold Oper.wp;refine akl ?_;refine hK _ _ (k _ ?_ (Only.setCells g _ 0 w));have:=Blk.setCells (bs.map B) cur 0 w ae h
 rwa [zal] at this
def Q6(pad:Nat)(w:World)(h:Pad pad):C_e 66 #[.int .i64 pad] w (.int .i64 0):=by
 rcases h with rfl|rfl|rfl
 all_goals(
  go_enter func66,ntmps66;go_wp2;go_ret;exact⟨rfl,rfl⟩)
def GX(z:Int)(w:World)(h:¬(z=16\/z=32\/z=64)):C_e 66 #[.int .i64 z] w (.int .i64 4):=by have aN:(z==16)=false:=bq;have aN:(z==32)=false:=bq;have aN:(z==64)=false:=bq;clear h;go_enter func66,ntmps66;exact aeJ
def UA(bs:La_)(w:World):(callFunc 149 #[.string (str bs),.int .u8 0]).run pgm w=.ok (.value (.int .i64 (Lib.indexByte bs 0))) w:=by rw[run_callFunc_extern func149 e0 e0 e0 (e:=Extern.BytealgIndexByte.indexByte) e0,Lib.run_indexByteString];simp[str]
def GY(bs:La_)(w:World):C_e 109 #[.string (str bs),.int .u8 0] w (.int .i64 (Lib.indexByte bs 0)):=by
 have ag:=λw=>UA bs w;generalize Lib.indexByte bs 0=ep at*;generalize str bs=ej at*;have aM:∀w,Calls pgm 131 #[.string ej,.int .u8 0] w λe w'=>e=.returned (.int .i64 ep)/\w=w':=by
  intro w;go_enter func131,ntmps131;exact aeJ
 have A6:=zc aM;clear aM ag;go_enter func109,ntmps109;go_wp2_with fail;refine(A6 _).mono ?_;rintro e A4⟨rfl,rfl⟩;exact aeJ
def gy(bs:La_)(w:World):C_e 87 #[.string (str bs)] w (.int .i64 (if jt bs then 0 else 15)):=by
 have NK:=zc (GY bs);obtain⟨n,aD⟩:=n_ bs.length;have Eh:(str bs).size=n:=by rw[aD];simp[str,ByteArray.size]
 have Nx:=Xc bs 0;have Ot:(str bs).toList=bs:=by rw[Lib.toList_data];simp[str]
 obtain⟨res,a7S⟩:∃res:Int,res=(if jt bs then 0 else 15):=⟨_,rfl⟩
 rw[<-a7S];by_cases ag:n=0
 ·have uY:=ha_ (res=15/\True) ⟨by rw[a7S,if_neg (by unfold jt;omega)],trivial⟩;have aF:bs=[]:=List.eq_nil_of_length_eq_zero ae;have ach:(str bs).toList=[]:=by rw[Ot,aF]
  have aci:(str bs).toList.isEmpty=true:=by rw[ach];rfl
  clear Ot Nx;generalize str bs=ej at*;clear aD Eh ag a7S aF;exact asa
 ·have eA:¬(str bs).toList=[]:=by rw[Ot];intro e;rw[e] at aD;exact ag aD
  have aci:(str bs).toList.isEmpty=false:=by rw[Bool.eq_false_iff];intro e;exact eA (List.isEmpty_iff.1 e)
  clear Ot;by_cases aM:255<n
  ·have uY:=ha_ (res=15/\True) ⟨by rw[a7S,if_neg (by unfold jt;omega)],trivial⟩;have aN:decide ((n:Int)>255)=true:=bq;have eK:decide ((255:Int)<n)=true:=bq;have Ed:decide (255<n)=true:=bq;generalize str bs=ej at*;clear Nx aD ag aM a7S;exact asa
  ·have aN:decide ((n:Int)>255)=false:=bq;have eK:decide ((255:Int)<n)=false:=bq;have Ed:decide (255<n)=false:=bq;obtain⟨ep,aT⟩:=n_ (Lib.indexByte bs 0);rw[<-aT] at Nx;have NK:=ha_ (∀w,Calls pgm 109 #[.string (str bs),.int .u8 0] w λe w'=>e=.returned (.int .i64 ep)/\w=w') (by rw[aT];exact NK);have ac9:=ha_ (res=(if 0<=ep then 15 else 0)/\True) ⟨by
    rw[a7S];by_cases hm:0<=ep
    ·rw[if_pos hm,if_neg (λhr=>hr.2.2 (Nx.1 hm))]
    ·rw[if_neg hm,if_pos ⟨ae,ae,λhh=>hm (Nx.2 hh)⟩],trivial⟩
   have ah:(0<=ep/\decide (ep>=0)=true/\decide (0<=ep)=true)\/(¬0<=ep/\decide (ep>=0)=false/\decide (0<=ep)=false):=by
    by_cases hm:0<=ep
    ·exact .inl ⟨hm,bq,bq⟩
    ·exact .inr ⟨hm,bq,bq⟩
   generalize str bs=ej at*;clear Nx aD ag aM aT a7S;rcases ah with⟨hm,e1,e2⟩|⟨hm,e1,e2⟩
   ·rw[if_pos hm] at ac9;exact arY
   ·rw[if_neg hm] at ac9;exact arY
def GZ(n pad:Nat)(w:World)(hn:n<=255)(hp:Pad pad):C_e 88 #[.int .i64 n,.int .i64 pad] w (.int .i64 (wX n pad)):=by
 have eE:16<=pad/\pad<=64:=xl;obtain⟨m,eh⟩:=n_ (n+pad-1);obtain⟨q,eA⟩:=n_ (m/pad);obtain⟨r,eI⟩:=n_ (q*pad);have PS:r<=400:=by
  rw[eI,eA];have:=Nat.div_mul_le_self m pad;omega
 have PU:q<=400:=by rw[eA];exact zat (Nat.div_le_self _ _) (by omega)
 have ai:(n:Int)+(pad:Int)-1=(m:Int):=ae;have ai:(m:Int).tdiv (pad:Int)=(q:Int):=by rw[eA];rfl
 have ai:(q:Int)*(pad:Int)=(r:Int):=by rw[eI];push_cast;rfl
 have eE:¬((pad:Int)=0):=ae;obtain⟨ek,aW⟩:=n_ (wX n pad);have acj:ek=min r 255:=by rw[aW];unfold wX;rw[eI,eA,eh]
 rw[<-aW];by_cases ag:255<(r:Int)
 ·obtain rfl:ek=255:=by omega
  clear eh eA eI hp aW acj;go_enter func88,ntmps88;exact aeJ
 ·obtain rfl:ek=r:=by omega
  clear eh eA eI hp aW acj;go_enter func88,ntmps88;exact aeJ
def L1(bs:La_)(n:Nat)(h:bs.length<=n):splice ((zg n).map B) 0 (bs.map B)=(bs++zg (n-bs.length)).map B:=by unfold splice zg;simp[zaD,List.drop_replicate]
def cS(bs:La_)(pad:Nat)(w:World)(hp:Pad pad)(hr:jt bs):Ca_ 67 #[.string (str bs),.int .i64 pad] w λe w'=>∃g,e=.returned (.tuple #[.slice (some ⟨g,0,none⟩) (WD bs pad).length (WD bs pad).length,.int .i64 0])/\Blk w' g ((WD bs pad).map B) 5/\w.heap.size<=g/\Below w.heap.size w w':=by have a6S:=zc (gy bs);rw[if_pos hr] at a6S;have ack:=KV hp hr.1 hr.2.1;have eJ:=Qr hp hr;have Eh:(str bs).size=bs.length:=xa;have Ih:=zc hp;have uY:=zc hr;obtain⟨aZ,eh⟩:=n_ (wX bs.length pad);have acm:=zc (λw=>GZ bs.length pad w hr.2.1 hp);rw[<-eh] at acm ack eJ;rw[eJ];have a6Z:=ha_ (splice ((zg aZ).map B) 0 (bs.map B)=(WD bs pad).map B) (by rw[L1 bs aZ ack.1];unfold WD;rw[eh]);obtain⟨aS,aO,aA,R4,acn⟩:=info_parts z5;have NK:=zc (And.intro aO (And.intro aA (And.intro R4 acn)));have aan:=zc (λw=>mQ (P:=pgm) 5 aS 1 aO R4 w);have Pq:=ack.1;have abC:=ack.2.2.1;clear eh eJ ack hp hr aO aA R4 acn;go_enter func67,ntmps67;go_wp2_with fail;refine(Q6 pad _ Ih).mono ?_;rintro e A4⟨rfl,rfl⟩;go_wp2_with fail;refine(a6S _).mono ?_;rintro e A4⟨rfl,rfl⟩;go_wp2_with fail;refine(acm _).mono ?_;rintro e A4⟨rfl,rfl⟩;go_wp2_with (refine kW 23 5 (.int .u8 0) 1 aZ rfl rfl rfl rfl underlying23 z5 rfl rfl rfl ae ew ?_);intro A4 aF Ey;have uX:=ha_ (Blk A4 w.heap.size ((zg aZ).map B) 5) (by unfold zg;rw[List.map_replicate];exact aF);have A0:=zc Ey;clear Ey;go_wp2_with (refine uX.zjD bs rfl rfl rfl rfl underlying23 aan Pq (by rw[zaa,ze];exact Pq) ?_);intro A4 aF oE;rw[a6Z.o] at aF;have uX:=zc aF;have ER:=zc (zi A0 oE (zab _));go_wp2;go_ret2;exact⟨_,rfl,uX,zab _,ER⟩
def cT(bs:La_)(pad:Nat)(w:World)(hp:Pad pad)(hr:¬jt bs):C_e 67 #[.string (str bs),.int .i64 pad] w (.tuple #[.slice none 0 0,.int .i64 15]):=by have a6S:=zc (gy bs);rw[if_neg hr] at a6S;have Ih:=zc hp;clear hp hr;go_enter func67,ntmps67;go_wp2_with fail;refine(Q6 pad _ Ih).mono ?_;rintro ai A4⟨rfl,rfl⟩;go_wp2_with fail;refine(a6S _).mono ?_;exact an3
def rX(hp:Pad pad)(h:∀j,j<k->n≠min ((j+1)*pad) 255)(hk:255<=k*pad):Ks n pad=false:=by
 unfold Ks;rw[decide_eq_false_iff_not];have aQ:0<k:=by
  rcases zdj k with h0|h0
  ·subst h0;omega
  ·exact h0
 rintro(ai|⟨ag,aM,ij⟩)
 ·have ag:=h (k-1) ae;rw[show k-1+1=k by omega] at ag;omega
 ·have ah:=Nat.div_add_mod n pad;rw[ij,Nat.add_zero] at ah;have eA:0<n/pad:=by
   rcases zdj (n/pad) with h0|h0
   ·rw[h0] at ah;omega
   ·exact h0
  have aB:n/pad-1<k:=by
   rcases zbl (n/pad-1) k with h4|h4
   ·exact h4
   ·have:=Nat.mul_le_mul_right pad (show k<=n/pad by omega);rw[zcu] at ah;omega
  have ag:=h (n/pad-1) aB;rw[show n/pad-1+1=n/pad by omega,zcu,ah] at ag;omega
def gz(hp:Pad pad)(h:n=min ((k+1)*pad) 255):Ks n pad=true:=by
 unfold Ks;rw[decide_eq_true_iff];have ag:pad<=(k+1)*pad:=Nat.le_mul_of_pos_left pad ae;have ag:16<=pad:=xl;by_cases ag:255<=(k+1)*pad
 ·left;omega
 ·right;have ai:n=(k+1)*pad:=ae;exact⟨ae,ae,by rw[ai];exact Nat.mul_mod_left _ _⟩
def rY(hn:n<b.length)(h0:b[n]? = some 0):qz (b.take (n+1))=qz (b.take n):=by rw[zbi,h0];exact YX _
def rZ(hn:n<b.length)(h0:b[n]? = some x)(hx:x≠0):qz (b.take (n+1))=n+1:=by rw[zbi,h0];show qz (b.take n++[x])=_;rw[Qs _ _ hx,zam];omega
abbrev gA(n pad:Nat)(us:Nat->Value):Act:={ tmps:=#[.int .i64 n,.int .i64 pad,us 2,us 3,us 4,us 5,us 6,us 7,us 8,us 9,us 10,us 11,us 12,us 13,us 14,us 15,us 16,us 17],defers:=[] }
def r9(n pad:Nat)(w:World)(hn:n<=1000000)(hp:Pad pad):C_e 72 #[.int .i64 n,.int .i64 pad] w (.int .i64 (if Ks n pad then 0 else 4)):=by
 have Ih:=zc hp;have eE:16<=pad/\pad<=64:=xl;obtain⟨res,a7S⟩:∃res:Int,res=(if Ks n pad then 0 else 4):=⟨_,rfl⟩
 refine ajU a7S ?_;intro uY;rw[<-a7S];clear hp a7S;go_enter func72,ntmps72;go_wp2_with fail;refine zN 0 (λx wr=>(∃us:Nat->Value,x=gA n pad us)/\w=wr) (λ_ _=>0) rfl ?_ ?_
 ·simp only[qb];exact⟨⟨λi=>if i=4 then .int .i64 0 else undef,rfl⟩,by first|rfl|trivial⟩
 ·rintro x wr⟨⟨us,rfl⟩,rfl⟩;simp only[gA];go_wp2;go_loopw [5] (λc wr=>∃at' k:Nat,c=.int .i64 at'/\Hid (at'=(k+1)*pad/\(∀j,j<k->n≠min ((j+1)*pad) 255))/\at'<=400/\w=wr) (λc _=>500-(intOf c).toNat);case atStart=>exact⟨pad,0,rfl,zc ⟨ae,λj hj=>by omega⟩,ae,rfl⟩
  case round =>
   obtain⟨at',k,rfl,a1L,Au,rfl⟩:=hrel;by_cases ag:255<at'
   ·have aN:decide ((at':Int)>=255)=true:=bq;have eK:decide ((255:Int)<=at')=true:=bq;have aco:(255:Int)<at':=ae;have ah:decide (255<=at')=true:=bq;by_cases aM:n=255
    ·have IP:=ha_ (res=0/\True) ⟨xm,trivial⟩;have ai:((n:Int)==255)=true:=bq;clear aM ag;exact aiU
    ·have IP:=ha_ (res=4/\True) ⟨by
      rw[uY.1,rX Ih.o (k:=k+1) (λj hj=>?_) (by rw[<-a1L.1];omega)]
      ·rfl
      ·rcases zbl j k with h|h
       ·exact a1L.2 j h
       ·obtain rfl:j=k:=by omega
        rw[<-a1L.1];omega,trivial⟩
     have ai:((n:Int)==255)=false:=bq;clear aM ag;exact aiU
   ·have aco:¬(255:Int)<at':=by omega
    by_cases aM:n=at'
    ·have IP:=ha_ (res=0/\True) ⟨xm,trivial⟩;have ai:((n:Int)==(at':Int))=true:=bq;clear aM ag;exact aiU
    ·have ai:((n:Int)==(at':Int))=false:=bq;have Ab:∀j,j<k+1->n≠min ((j+1)*pad) 255:=λj hj=>by
      rcases zbl j k with h|h
      ·exact a1L.2 j h
      ·obtain rfl:j=k:=by omega
       rw[<-a1L.1];omega
     by_cases ij:255<=at'
     ·have IP:=ha_ (res=4/\True) ⟨by rw[uY.1,rX Ih.o Ab (by rw[<-a1L.1];omega)];rfl,trivial⟩;have aN:decide ((at':Int)>=255)=true:=bq;have eK:decide ((255:Int)<=at')=true:=bq;have ah:decide (255<=at')=true:=bq;clear aM ag ij Ab;exact aiU
     ·have aN:decide ((at':Int)>=255)=false:=bq;have eK:decide ((255:Int)<=at')=false:=bq;have ah:decide (255<=at')=false:=bq;have Nl:=ha_ (at'+pad=(k+1+1)*pad/\(∀j,j<k+1->n≠min ((j+1)*pad) 255)) ⟨by rw[zmo (k+1),<-a1L.1],Ab⟩;clear aM ag Ab;go_wp2;go_roundw;case rel=>exact⟨at'+pad,k+1,hM,Nl,ae,by first|rfl|trivial⟩
      case measure=>simp[intOf];omega
def sd:(pgm.info? 5).map (·.size)=some 1:=e0
def C9(ao:OA)(n cap:Nat)(b:La_)(pad:Nat)(w:World)(hb:b.length=n)(hc:n<=cap)(hn:n<=1000)(hl:zr w ao (b.map B))(hp:Pad pad)(hlong:Ks n pad=true):C_b 73 #[.slice ao n cap,.int .i64 pad] w (.tuple #[.string (str (Vr b pad).1),.int .i64 (Vr b pad).2]):=by
 obtain⟨An,hr⟩:=n_ (Vr b pad);rw[<-hr];refine ajU hr ?_;intro uY;have OC:=zc (r9 n pad w ae hp);rw[if_pos hlong] at OC;refine ajJ hp hb hl ?_;intro Ih uX A0;have N0:=λ(w:World)(m:Nat)(hm:m<=cap)=>ml (P:=pgm) w 23 5 1 underlying23 sd ao n cap m hm;have Om:=zc N0;clear hp hb hl hlong hr N0;go_enter func73,ntmps73;go_wp2_with fail;refine(Q6 pad _ Ih).mono ?_;rintro e A4⟨rfl,rfl⟩;go_wp2_with fail;refine OC.mono ?_;rintro e A4⟨rfl,rfl⟩;go_wp2;go_loopw [8] (λc wr=>∃m:Nat,c=.int .i64 m/\m<=n/\Hid (qz (b.take m)=qz b/\True)/\w=wr) (λc _=>(intOf c).toNat);case atStart=>exact⟨n,rfl,zab _,zc ⟨by rw[zai (by rw[uX.o];exact zab _)],trivial⟩,rfl⟩
 case round =>
  obtain⟨m,rfl,aba,PK,rfl⟩:=hrel;have acp:(∃k,m=k+1/\b[k]? = some 0)\/(qz b=m/\(m=0\/∃k x,m=k+1/\b[k]? = some x/\x≠0)):=by
   cases m with
   | zero=>exact .inr ⟨by rw[<-PK.1];rfl,.inl rfl⟩
   | succ k =>
    have hk:k<b.length:=by rw[uX.o];omega
    obtain⟨x,hx⟩:∃x,b[k]? = some x:=⟨b[k],by simp[hk]⟩
    by_cases h0:x=0
    ·subst h0;exact .inl ⟨k,rfl,hx⟩
    ·exact .inr ⟨by rw[<-PK.1,rZ hk hx h0],.inr ⟨k,x,rfl,hx,h0⟩⟩
  rcases acp with⟨k,rfl,hk⟩|⟨hst,hmc⟩
  ·obtain⟨bb,off,rfl,hcell⟩:=A0 k (B 0) (by rw[zay,hk];rfl);have d0:decide (((k+1:Nat):Int)>0)=true:=decide_eq_true ae;have d1:decide ((0:Int)<((k+1:Nat):Int))=true:=decide_eq_true ae;have e1:(((k+1:Nat):Int))-1=(k:Int):=ae;have PK:=ha_ (qz (b.take k)=qz b/\True) ⟨by rw[<-PK.1,rY (by rw[uX.o];omega) hk],trivial⟩;have hk2:k<n:=ae;generalize ((k+1:Nat):Int)=Pp at*;clear hk;go_wp2;go_roundw;case rel=>exact⟨k,hM,ae,PK,by first|rfl|trivial⟩
   case measure=>simp[intOf];omega
  ·have a91:=λw=>Om w m ae;have Ot:(b.take m).length=m:=by rw[zam,uX.o];omega
   have a2h:=fS w ao m cap (b.take m) Ot (by rw[zbW];exact A0.take m);obtain⟨ek,ht⟩:=n_ (b.take m);have A3:=ha_ (An=(if jt ek/\wX ek.length pad=n then(ek,0) else([],14))/\True) ⟨by rw[uY.1];unfold Vr;rw[hst,<-ht,uX.o],trivial⟩;rw[<-ht] at a2h;clear ht Ot;have Ox:=ha_ ((¬jt ek/\∀w,Calls pgm 67 #[.string (str ek),.int .i64 pad] w λe w'=>e=.returned (.tuple #[.slice none 0 0,.int .i64 15])/\w=w')\/(jt ek/\∀w,Calls pgm 67 #[.string (str ek),.int .i64 pad] w λe w'=>∃g l,e=.returned (.tuple #[.slice (some ⟨g,0,none⟩) l l,.int .i64 0])/\l=wX ek.length pad/\Below w.heap.size w w')) (by
    by_cases hr:jt ek
    ·exact .inr ⟨hr,λw=>(cS ek pad w Ih hr).mono λe w' ⟨g,h1,h2,h3,h4⟩=>⟨g,_,h1,Qr Ih hr,h4⟩⟩
    ·exact .inl ⟨hr,λw=>cT ek pad w Ih hr⟩)
   obtain⟨acq,NH⟩:=n_ (wX ek.length pad);refine ajU NH ?_;intro Nv;clear NH hst;have acr:(m=0)\/∃(k:Nat)(x:UInt8)(bb off:Nat),decide ((m:Int)>0)=true/\decide (0<(m:Int))=true/\decide (0<m)=true/\(m:Int)-1=(k:Int)/\k<n/\ao=some ⟨bb,off,none⟩/\w.cell? ⟨bb,off+k,none⟩=some (B x)/\((x.toNat:Int)==0)=false:=by
    rcases hmc with h|⟨k,x,h,hx,h0⟩
    ·exact .inl h
    ·obtain⟨bb,off,Th,hcell⟩:=A0 k (B x) (by rw[zay,hx];rfl);refine .inr ⟨k,x,bb,off,decide_eq_true ae,decide_eq_true ae,decide_eq_true ae,ae,ae,Th,hcell,?_⟩;have:x.toNat≠0:=λe=>h0 (zbp.1 e);simp;omega
   clear hmc;rcases acr with rfl|⟨k,x,bb,off,d0,d1,d2,e1,hk2,rfl,hcell,e3⟩
   all_goals(
    rcases Ox.o with⟨hr,ht⟩|⟨hr,ht⟩
    ·have IP:=ha_ (An=([],14)/\True) ⟨by rw[A3.1,if_neg (λh=>hr h.1)],trivial⟩;have Ok:=zc ht;clear hr ht Ox;go_wp2_with fail;refine(Ok _).mono ?_;rintro e A4⟨rfl,rfl⟩;go_wp2;go_ret2;rw[IP.1];exact⟨rfl,Below.refl _ _⟩
    ·have Ok:=zc ht;have Rg:=zc hr;clear hr ht Ox;go_wp2_with fail;refine(Ok _).mono ?_;rintro e A4⟨g,l,rfl,aR,sy⟩;have EC:=zc sy;rw[<-Nv.1] at aR;subst aR;by_cases eA:l=n
     ·have IP:=ha_ (An=(ek,0)/\True) ⟨by rw[A3.1,if_pos ⟨Rg.o,by rw[<-Nv.1];exact eA⟩],trivial⟩;have ai:((l:Int) != (n:Int))=false:=bq;clear eA;go_wp2;go_ret2;rw[IP.1];exact ak9 EC
     ·have IP:=ha_ (An=([],14)/\True) ⟨by rw[A3.1,if_neg (λh=>eA (by rw[Nv.1];exact h.2))],trivial⟩;have ai:((l:Int) != (n:Int))=true:=bq;clear eA;go_wp2;go_ret2;rw[IP.1];exact⟨rfl,EC⟩)
def G0(cp:Nat)(z:Int)(w:World)(h:¬(z=16\/z=32\/z=64)):C_e 41 #[pa_ cp,.int .i64 z] w (.tuple #[.pointer none,.int .i64 4]):=by have PW:=zc h;clear h;go_enter func41,ntmps41;go_wp2_with fail;refine(GX z _ PW).mono ?_;exact an3
def L2(cp pad:Nat)(w:World)(h:Pad pad):Ca_ 41 #[pa_ cp,.int .i64 pad] w λe w'=>∃np,e=.returned (.tuple #[pa_ np,.int .i64 0])/\Blk w' np [pa_ cp,.int .i64 pad] 124/\w.heap.size<=np/\Below w.heap.size w w':=by have PW:=zc h;clear h;go_enter func41,ntmps41;go_wp2_with fail;refine(Q6 pad _ PW).mono ?_;rintro e A4⟨rfl,rfl⟩;go_wp2_with (refine zh 124 _ [.pointer (some ⟨cp,0,none⟩),.int .i64 pad] _ rfl rfl rfl rfl ?_);refine anx ?_;intro A4 aF sy uX A0;go_wp2;go_ret2;exact⟨_,rfl,uX,zab _,A0⟩
def cU(fid cp:Nat)(u:UInt64)(bv:Value)(w:World)(R:Ending->World->Prop)(hF:∀args w,(callFunc fid args).run pgm w=.ok (.enter fid args) w)(hd:∀g w',Below w.heap.size w w'->zr w' (some ⟨g,0,none⟩) ((zw u).map B)->Ca_ fid #[.pointer (some ⟨cp,0,none⟩),.slice (some ⟨g,0,none⟩) 8 8,bv] w' λe w''=>∃v c,e=.returned (.tuple #[v,.int .i64 c])/\R e w''):Ca_ 68 #[.func (.func fid) #[.pointer (some ⟨cp,0,none⟩)] #[],L u,bv] w R:=by have NI:=zc hd;refine aeC ?_;intro EW;have PH:=zc (zy u);clear hd;go_enter func68,ntmps68;go_wp2_with fail;refine(qj u _).mono ?_;rintro e A4⟨rfl,Eu⟩;have EW:=zc (EW.later Eu);have aT:=EW.size;clear Eu;go_wp2_with (refine aqF ?_);refine am7 ?_;intro A4 aF sy EW aB;go_wp2_with (refine EW.g0.zdP rfl rfl rfl (cs:=(zw u).map B) rfl qI ev k6 (zj _) ?_);intro A4 aF oE;have A0:=zc aF.lies;have uX:=zc (zi EW.bel oE aT);go_wp2_with fail;refine(NI _ _ uX A0).mono ?_;rintro e A4⟨v,c,rfl,eI⟩;have uY:=zc eI;clear eI hF;go_wp2;exact uY
def qU{x i:Operand}{s:ByteArray}{k:IntKind}{n:Int}(j:Nat)(c:UInt8)(hgd:o.guard=none)(ho:o.op=.index t x i)(hx:a.eval x=.string s)(hi:a.eval i=.int k n)(ht:P.underlying t=some .string)(hn:n=(j:Int))(hc:s.data[j]? = some c)(kk:wpList P ops Q rest (a.put o.dst (B c)) w):wpList P ops Q (o::rest) a w:=by
 refine wpList_plain hgd λK hK=>?_;obtain⟨aB,oG⟩:=Array.getElem?_eq_some_iff.1 hc;have Eh:j<s.size:=aB;have aP:=run_index_string (P:=P) w t s k n ht;rw[dif_pos ae] at aP;have ai:s[n.toNat]' ae=c:=by
  have ag:n.toNat=j:=ae;have:s[n.toNat]' ae=s[j]'Eh:=by congr 1
  rw[this];exact oG
 rw[ai] at aP;unfold Oper.wp;simp only[execOp,ho,hx,hi,Sem.run_bind,aP,Result.andThen_ok,Sem.run_pure];exact hK _ _ kk
def mC(c:UInt8)(lo hi:Nat):(lo<=c.toNat/\c.toNat<=hi)\/(¬(lo<=c.toNat/\c.toNat<=hi)/\c.toNat<lo)\/(¬(lo<=c.toNat/\c.toNat<=hi)/\lo<=c.toNat/\hi<c.toNat):=ae
def Q7(c:UInt8)(w:World):C_e 90 #[B c] w (.tuple #[B ((jg c).getD 0),.bool (jg c).isSome]):=by
 obtain⟨An,eI⟩:=n_ (jg c);rw[<-eI];refine ajU eI ?_;intro uY;have ej:IntKind.u8.wrap ((c.toNat:Int)-65)=((ZA c 65).toNat:Int):=Ve c 65;have ej:IntKind.u8.wrap ((c.toNat:Int)-97)=((ZA c 97).toNat:Int):=Ve c 97;have ej:IntKind.u8.wrap ((c.toNat:Int)-48)=((ZA c 48).toNat:Int):=Ve c 48;have eT:IntKind.u8.wrap (((ZA c 97).toNat:Int)+26)=((Vc (ZA c 97) 26).toNat:Int):=fc (ZA c 97) 26;have eT:IntKind.u8.wrap (((ZA c 48).toNat:Int)+52)=((Vc (ZA c 48) 52).toNat:Int):=fc (ZA c 48) 52;have Pu:=ha_ (jg c=(if 65<=c.toNat/\c.toNat<=90 then some (ZA c 65) else if 97<=c.toNat/\c.toNat<=122 then some (Vc (ZA c 97) 26) else if 48<=c.toNat/\c.toNat<=57 then some (Vc (ZA c 48) 52) else if c.toNat=45 then some 62 else if c.toNat=95 then some 63 else none)/\True) ⟨rfl,trivial⟩;clear eI;show Calls pgm 90 #[.int .u8 (c.toNat:Int)] w _;rcases mC c 65 90 with⟨h1,h2⟩|hout1
 ·have IP:=ha_ (An=some (ZA c 65)/\True) ⟨xn,trivial⟩;have Pp:(65:Int)<=(c.toNat:Int):=ae;have TC:(c.toNat:Int)<=90:=ae;clear h1 h2;exact arB
 have Ep:¬(65<=c.toNat/\c.toNat<=90):=by rcases hout1 with h|h<;>exact h.1
 have Pu:=ha_ (jg c=(if 97<=c.toNat/\c.toNat<=122 then some (Vc (ZA c 97) 26) else if 48<=c.toNat/\c.toNat<=57 then some (Vc (ZA c 48) 52) else if c.toNat=45 then some 62 else if c.toNat=95 then some 63 else none)/\True) ⟨by rw[Pu.1,if_neg Ep],trivial⟩;clear Ep;have acs:((c.toNat:Int)<65)\/((65:Int)<=(c.toNat:Int)/\(90:Int)<(c.toNat:Int)):=by
  rcases hout1 with h|h
  ·exact .inl ae
  ·exact .inr ⟨ae,ae⟩
 have I9:=zc acs;clear acs hout1;rcases mC c 97 122 with⟨h1,h2⟩|hout2
 ·have IP:=ha_ (An=some (Vc (ZA c 97) 26)/\True) ⟨xn,trivial⟩;have Pp:(97:Int)<=(c.toNat:Int):=ae;have TC:(c.toNat:Int)<=122:=ae;clear h1 h2;rcases I9.o with f1|⟨f1,f2⟩
  all_goals(
   go_enter func90,ntmps90;go_wp2;all_goals(go_ret2;rw[IP.1];exact⟨rfl,rfl⟩))
 have Ep:¬(97<=c.toNat/\c.toNat<=122):=by rcases hout2 with h|h<;>exact h.1
 have Pu:=ha_ (jg c=(if 48<=c.toNat/\c.toNat<=57 then some (Vc (ZA c 48) 52) else if c.toNat=45 then some 62 else if c.toNat=95 then some 63 else none)/\True) ⟨by rw[Pu.1,if_neg Ep],trivial⟩;clear Ep;have acs:((c.toNat:Int)<97)\/((97:Int)<=(c.toNat:Int)/\(122:Int)<(c.toNat:Int)):=by
  rcases hout2 with h|h
  ·exact .inl ae
  ·exact .inr ⟨ae,ae⟩
 have TQ:=zc acs;clear acs hout2;rcases mC c 48 57 with⟨h1,h2⟩|zhX
 ·have IP:=ha_ (An=some (Vc (ZA c 48) 52)/\True) ⟨xn,trivial⟩;have Pp:(48:Int)<=(c.toNat:Int):=ae;have TC:(c.toNat:Int)<=57:=ae;clear h1 h2;rcases I9.o with f1|⟨f1,f2⟩
  all_goals(
   rcases TQ.o with g1|⟨g1,g2⟩
   all_goals(
    go_enter func90,ntmps90;go_wp2;all_goals(go_ret2;rw[IP.1];exact⟨rfl,rfl⟩)))
 have Ep:¬(48<=c.toNat/\c.toNat<=57):=by rcases zhX with h|h<;>exact h.1
 have Pu:=ha_ (jg c=(if c.toNat=45 then some 62 else if c.toNat=95 then some 63 else none)/\True) ⟨by rw[Pu.1,if_neg Ep],trivial⟩;clear Ep;have acs:((c.toNat:Int)<48)\/((48:Int)<=(c.toNat:Int)/\(57:Int)<(c.toNat:Int)):=by
  rcases zhX with h|h
  ·exact .inl ae
  ·exact .inr ⟨ae,ae⟩
 have a0u:=zc acs;clear acs zhX;have eA:∃q4 q5:Bool,((c.toNat:Int)==45)=q4/\((c.toNat:Int)==95)=q5/\An=(if q4 then some 62 else if q5 then some 63 else none):=by
  refine⟨_,_,rfl,rfl,?_⟩;rw[uY.1,Pu.1];by_cases ai:c.toNat=45
  ·have ib:((c.toNat:Int)==45)=true:=by rw[beq_iff_eq];omega
   rw[if_pos ai,ib];rfl
  ·have ib:((c.toNat:Int)==45)=false:=by rw[beq_eq_false_iff_ne];omega
   rw[if_neg ai,ib];by_cases aj:c.toNat=95
   ·have ib:((c.toNat:Int)==95)=true:=by rw[beq_iff_eq];omega
    rw[if_pos aj,ib];rfl
   ·have ib:((c.toNat:Int)==95)=false:=by rw[beq_eq_false_iff_ne];omega
    rw[if_neg aj,ib];rfl
 obtain⟨q4,q5,ai,aj,acu⟩:=eA;refine ajU acu ?_;intro IP;clear acu;rcases I9.o with f1|⟨f1,f2⟩
 all_goals(
  rcases TQ.o with g1|⟨g1,g2⟩
  all_goals(
   rcases a0u.o with i1|⟨i1,i2⟩
   all_goals(
    cases q4
    ·cases q5
     ·exact arB
     ·exact arB
    ·go_enter func90,ntmps90;go_wp2;all_goals(go_ret2;rw[IP.1];exact⟨rfl,rfl⟩))))
def a0p:∀b:La_,(kV b).length<=2*b.length+2
 | []=>by simp[kV]
 | [a]=>by simp[kV]
 | [a,b]=>by simp[kV]
 | a::b::c::r=>by
  have:=a0p r;simp only[kV,zaj] at*;omega
def UB(b:La_)(i:Nat):(b.length<=i/\b.drop i=[])\/(∃a,b.drop i=[a]/\b.length=i+1/\b[i]? = some a)\/(∃a c,b.drop i=[a,c]/\b.length=i+2/\b[i]? = some a/\b[i+1]? = some c)\/(∃a c d r,b.drop i=a::c::d::r/\i+3<=b.length/\b[i]? = some a/\b[i+1]? = some c/\b[i+2]? = some d/\b.drop (i+3)=r):=by
 have aR:(b.drop i).length=b.length-i:=zan;have oG:∀j,(b.drop i)[j]? = b[i+j]?:=λj=>zbw
 match h:b.drop i with
 | []=>rw[h] at aR;left;exact⟨by simp at aR;omega,rfl⟩
 | [a] =>
  rw[h] at aR oG;right;left;exact⟨a,rfl,by simp at aR;omega,y1⟩
 | [a,c] =>
  rw[h] at aR oG;right;right;left;exact⟨a,c,rfl,by simp at aR;omega,y1,by have:=oG 1;simpa using this.symm⟩
 | a::c::d::r =>
  rw[h] at aR oG;right;right;right;exact⟨a,c,d,r,rfl,by simp at aR;omega,y1,by have:=oG 1;simpa using this.symm,by have:=oG 2;simpa using this.symm,by rw[<-List.drop_drop,h];rfl⟩
def zjE:ByteArray:={ data:=#[65,66,67,68,69,70,71,72,73,74,75,76,77,78,79,80,81,82,83,84,85,86,87,88,89,90,97,98,99,100,101,102,103,104,105,106,107,108,109,110,111,112,113,114,115,116,117,118,119,120,121,122,48,49,50,51,52,53,54,55,56,57,45,95] }
def VS:∀j,j<64->zjE.data[j]? = some (sgn j):=ar
def yW(nn:UInt32)(m:Nat):La_:=(List.range m).map (xf nn)
def QO(nn:UInt32)(m:Nat):yW nn (m+1)=yW nn m++[xf nn m]:=by unfold yW;rw[List.range_succ,zaD];rfl
def L3(ao:OA)(n cap:Nat)(b:La_)(w:World)(hb:b.length=n)(hc:n<=cap)(hn:n<=1000)(hl:zr w ao (b.map B)):C_b 70 #[.slice ao n cap] w (.string (str (kV b))):=by
 obtain⟨aS,aO,aA,R4,acn⟩:=info_parts z5;have NK:=zc (And.intro aO (And.intro aA (And.intro R4 acn)));have uX:=zc hb;have A0:=zc hl;obtain⟨aZ,eh⟩:=n_ ((n+2)/3*4);have AG:aZ<=2000:=ae;refine ajU eh ?_;intro PK;clear hb hl aO aA R4 acn eh;go_enter func70,ntmps70;go_wp2_with (at_make;refine wpList_make_own _ rfl _ _ 23 rfl w.heap.size 5 aS (.int .u8 0) 1 underlying23 NK.1 NK.2.1 NK.2.2.1 _ _ _ aZ rfl rfl ?m1 ?m2 ?m3 (zab _) ?_);case m1=>have:=PK.1;omega
 case m2=>rw[NK.2.2.2];omega
 case m3=>unfold maxLen;omega
 intro A4 I4 NN;have I9:=ha_ (A4.ownsRow w.heap.size 5 1 _ ([]:La_).length (([]:La_).map B)) I4;have To:=ha_ (Below w.heap.size w A4) ((Below.refl w.heap.size w).grown NN (zab _) (λk h=>by cases h));have EM:=ha_ (kV b=[]++kV (b.drop 0)/\True) ⟨rfl,trivial⟩;clear NN;go_wp2;go_loopw [3,4] (λv c wr=>∃(i:Nat)(O:La_),i<=n+2/\c=.int .i64 i/\Hid (kV b=O++kV (b.drop i)/\True)/\Hid (wr.ownsRow w.heap.size 5 1 v O.length (O.map B))/\Hid (Below w.heap.size w wr)) (λ_ c _=>n+2-(intOf c).toNat);case atStart=>exact⟨0,[],ae,rfl,EM,I9,To⟩
 case round =>
  clear EM I9 To;obtain⟨i,O,aO,rfl,EM,I9,To⟩:=hrel;have acv:O.length<=2002:=by
   have h1:=a0p b;have h2:=congrArg List.length EM.1;rw[zac] at h2;have:=uX.o;omega
  obtain⟨acw,MW⟩:=n_ O.length;refine ajU MW ?_;intro PA;have acx:acw<=2002:=ae;rw[<-MW] at I9;obtain⟨S0,acy,ai,_,_,_⟩:=zz I9;subst ai;clear acv MW;rcases UB b i with⟨h1,h2⟩|⟨a,h1,h2,ha⟩|⟨a,c,h1,h2,ha,hc⟩|⟨a,c,d,r,h1,h2,ha,hc,hd,hr⟩
  ·have a1N:(n:Int)<=i:=by have:=uX.o;omega
   have TO:=ha_ (kV b=O/\True) ⟨by rw[EM.1,h2];simp[kV],trivial⟩;have a2h:=fS wr S0 acw acy O PA.1.symm (zr.zef I9);clear h1 h2;go_wp2;go_ret;rw[TO.1];exact ak9 To
  ·have PC:=uX.o;have ig:n=i+1:=ae;have ib:(i:Int)<n:=ae;have ic:(n:Int)<=(i:Int)+1:=ae;have iw:(n:Int)<=(i:Int)+2:=ae;obtain⟨a8l,oV⟩:=n_ (qm (xu a) 16);have Nl:=ha_ (a8l=qm (xu a) 16/\kV [a]=yW a8l 2) ⟨oV,by rw[oV];exact Ht a⟩;have a5f:=ha_ (kV b=O++yW a8l 2++kV (b.drop (i+3))/\True) ⟨y2,trivial⟩;obtain⟨ie,oC,a8g,aH⟩:=A0 (i) (B a) (by rw[zay,ha];rfl);subst a8g;have aH:=λw' (hw:Below w.heap.size w w')=>(hw.cell (p:=⟨ie,oC+i,none⟩) (block_lt_of_cell aH)).trans aH;have et:=aH wr To;clear aH;clear aH;have acz:i<n:=ae;clear ig PC h1 h2 ha oV EM;go_wp2;refine aoy ?_;intro TQ acA;clear I9;go_loopw [3,58] (λv c wx=>∃j:Nat,j<=2/\c=.int .i64 j/\Hid (wx.ownsRow w.heap.size 5 1 v (acw+j) ((O++yW a8l j).map B))/\Hid (Below w.heap.size w wx)) (λ_ c _=>2-(intOf c).toNat);case atStart=>exact⟨0,ae,rfl,TQ,acA⟩
   case round =>
    clear TQ acA;obtain⟨j,aA,rfl,a4p,Nd⟩:=hrel;obtain⟨S0,acy,ai,_,_,_⟩:=zz a4p;subst ai;by_cases aB:j<2
    ·refine afM ?_;intro sh Ph Pp TC acB R4;have acC:(j:Int)<2:=ae;have a1N:63<4294967296:=ae;exact ar5
    ·obtain rfl:2=j:=ae;have acF:(O++yW a8l 2).length=acw+2:=y6;have a4p:=ha_ (wr.ownsRow w.heap.size 5 1 (Value.slice S0 (acw+2) acy) (O++yW a8l 2).length ((O++yW a8l 2).map B)) (by rw[acF];exact a4p);clear acF;go_wp2;go_roundw;case rel=>exact⟨i+3,O++yW a8l 2,ae,hM,a5f,a4p,Nd⟩
     case measure=>simp[intOf];omega
  ·have PC:=uX.o;have ig:n=i+2:=ae;have ib:(i:Int)<n:=ae;have ic:(i:Int)+1<n:=ae;have iw:(n:Int)<=(i:Int)+2:=ae;obtain⟨a8l,oV⟩:=n_ (Q9 (qm (xu a) 16) (qm (xu c) 8));have Nl:=ha_ (a8l=Q9 (qm (xu a) 16) (qm (xu c) 8)/\kV [a,c]=yW a8l 3) ⟨oV,by rw[oV];exact Hu a c⟩;have a5f:=ha_ (kV b=O++yW a8l 3++kV (b.drop (i+3))/\True) ⟨y2,trivial⟩;obtain⟨ie,oC,a8g,aH⟩:=A0 (i) (B a) (by rw[zay,ha];rfl);obtain⟨oL,oD,acG,T6⟩:=A0 (i+1) (B c) (by rw[zay,hc];rfl);rw[a8g] at acG;cases acG;subst a8g;refine agH ?_;intro aH T6;have et:=aH wr To;have I2:=T6 wr To;clear aH;clear T6;clear aH;clear T6;have acz:i<n:=ae;clear ig PC h1 h2 ha hc oV EM;go_wp2;refine aoy ?_;intro TQ acA;clear I9;go_loopw [3,58] (λv c wx=>∃j:Nat,j<=3/\c=.int .i64 j/\Hid (wx.ownsRow w.heap.size 5 1 v (acw+j) ((O++yW a8l j).map B))/\Hid (Below w.heap.size w wx)) (λ_ c _=>3-(intOf c).toNat);case atStart=>exact⟨0,ae,rfl,TQ,acA⟩
   case round =>
    clear TQ acA;obtain⟨j,aA,rfl,a4p,Nd⟩:=hrel;obtain⟨S0,acy,ai,_,_,_⟩:=zz a4p;subst ai;by_cases aB:j<3
    ·refine afM ?_;intro sh Ph Pp TC acB R4;have acC:(j:Int)<3:=ae;have a1N:63<4294967296:=ae;exact ar5
    ·obtain rfl:3=j:=ae;have acF:(O++yW a8l 3).length=acw+3:=y6;have a4p:=ha_ (wr.ownsRow w.heap.size 5 1 (Value.slice S0 (acw+3) acy) (O++yW a8l 3).length ((O++yW a8l 3).map B)) (by rw[acF];exact a4p);clear acF;go_wp2;go_roundw;case rel=>exact⟨i+3,O++yW a8l 3,ae,hM,a5f,a4p,Nd⟩
     case measure=>simp[intOf];omega
  ·have PC:=uX.o;have ig:i+3<=n:=ae;have ib:(i:Int)<n:=ae;have ic:(i:Int)+1<n:=ae;have iw:(i:Int)+2<n:=ae;obtain⟨a8l,oV⟩:=n_ (Q9 (Q9 (qm (xu a) 16) (qm (xu c) 8)) (xu d));have Nl:=ha_ (a8l=Q9 (Q9 (qm (xu a) 16) (qm (xu c) 8)) (xu d)/\kV (a::c::d::r)=yW a8l 4++kV r) ⟨oV,by rw[oV];exact Bz a c d r⟩;have a5f:=ha_ (kV b=O++yW a8l 4++kV (b.drop (i+3))/\True) ⟨by rw[EM.1,h1,Nl.2,zal,hr],trivial⟩;obtain⟨ie,oC,a8g,aH⟩:=A0 (i) (B a) (by rw[zay,ha];rfl);obtain⟨oL,oD,acG,T6⟩:=A0 (i+1) (B c) (by rw[zay,hc];rfl);obtain⟨oL,oD,acH,Tf⟩:=A0 (i+2) (B d) (by rw[zay,hd];rfl);rw[a8g] at acG;cases acG;rw[a8g] at acH;cases acH;subst a8g;refine agH ?_;intro aH T6;have Tf:=λw' (hw:Below w.heap.size w w')=>(hw.cell (p:=⟨ie,oC+(i+2),none⟩) (block_lt_of_cell Tf)).trans Tf;have et:=aH wr To;have I2:=T6 wr To;have et:=Tf wr To;clear aH;clear T6;clear Tf;clear aH;clear T6;clear Tf;have acz:i<n:=ae;clear ig PC h1 h2 ha hc hd hr oV EM;go_wp2;refine aoy ?_;intro TQ acA;clear I9;go_loopw [3,58] (λv c wx=>∃j:Nat,j<=4/\c=.int .i64 j/\Hid (wx.ownsRow w.heap.size 5 1 v (acw+j) ((O++yW a8l j).map B))/\Hid (Below w.heap.size w wx)) (λ_ c _=>4-(intOf c).toNat);case atStart=>exact⟨0,ae,rfl,TQ,acA⟩
   case round =>
    clear TQ acA;obtain⟨j,aA,rfl,a4p,Nd⟩:=hrel;obtain⟨S0,acy,ai,_,_,_⟩:=zz a4p;subst ai;by_cases aB:j<4
    ·refine afM ?_;intro sh Ph Pp TC acB R4;have acC:(j:Int)<4:=ae;have a1N:63<4294967296:=ae;exact ar5
    ·obtain rfl:4=j:=ae;have acF:(O++yW a8l 4).length=acw+4:=y6;have a4p:=ha_ (wr.ownsRow w.heap.size 5 1 (Value.slice S0 (acw+4) acy) (O++yW a8l 4).length ((O++yW a8l 4).map B)) (by rw[acF];exact a4p);clear acF;go_wp2;go_roundw;case rel=>exact⟨i+3,O++yW a8l 4,ae,hM,a5f,a4p,Nd⟩
     case measure=>simp[intOf];omega
def jq.fail{l:La_}(h:jq s k out)(hd:s.drop k=l)(hl:qX l=none):qX s=none:=by unfold jq at h;rw[h,hd,hl];rfl
def jq.done(h:jq s k out)(hd:s.drop k=[]):qX s=some out:=by unfold jq at h;rw[h,hd];simp[qX]
def jq.two{a b:UInt8}(h:jq s k out)(hd:s.drop k=[a,b])(ha:jg a=some x)(hb:jg b=some y):qX s=if kT y 4=0 then some (out++[by0 x y]) else none:=by unfold jq at h;rw[h,hd,qX,ha,hb];simp only;split<;>rfl
def jq.three{a b c z:UInt8}(h:jq s k out)(hd:s.drop k=[a,b,c])(ha:jg a=some x)(hb:jg b=some y)(hc:jg c=some z):qX s=if kT z 6=0 then some (out++[by0 x y,by1 y z]) else none:=by unfold jq at h;rw[h,hd,qX,ha,hb,hc];simp only;split<;>rfl
abbrev jF(s1:ByteArray)(r5:UInt8)(at':Nat)(v:Value)(us:Nat->Value):Act:={ tmps:=#[.string s1,us 1,us 2,us 3,us 4,B r5,us 6,.int .i64 at',v,us 9,us 10,us 11,us 12,us 13,us 14,us 15,us 16,us 17,us 18,us 19,us 20,us 21,us 22,us 23,us 24,us 25,us 26,us 27,us 28,us 29,us 30,us 31,us 32,us 33,us 34,us 35,us 36,us 37,us 38,us 39,us 40,us 41,us 42,us 43,us 44,us 45,us 46,us 47,us 48,us 49,us 50,us 51,us 52,us 53,us 54,us 55,us 56,us 57,us 58,us 59,us 60,us 61,us 62,us 63,us 64,us 65,us 66,us 67,us 68,us 69,us 70,us 71,us 72,us 73,us 74,us 75,us 76,us 77,us 78,us 79,us 80,us 81,us 82,us 83,us 84,us 85,us 86,us 87,us 88,us 89,us 90,us 91,us 92,us 93,us 94,us 95,us 96,us 97,us 98,us 99,us 100,us 101,us 102,us 103,us 104],defers:=[] }
def VT(s:La_)(s1:ByteArray)(w:World)(l:Nat)(x:Act)(wr:World):Prop :=
 ∃(us:Nat->Value)(r5:UInt8)(at':Nat)(v:Value)(O:La_),x=jF s1 r5 at' v us/\at'<=s.length/\O.length<=at'/\Hid (wr.ownsRow w.heap.size 5 1 v O.length (O.map B))/\Hid (Below w.heap.size w wr)/\Hid ((l=0/\jq s at' O)\/(l=1/\qX s=none)\/(l=2/\qX s=if r5=0 then some O else none))
def VT.intro{s1:ByteArray}{wr:World}{l:Nat}{x:Act}(r5:UInt8)(at':Nat)(v:Value)(O:La_)(hx:x=jF s1 r5 at' v (λi=>x.tmps.getD i undef))(h1:at'<=s.length)(h2:O.length<=at')(ho:wr.ownsRow w.heap.size 5 1 v O.length (O.map B))(hb:Below w.heap.size w wr)(h:(l=0/\jq s at' O)\/(l=1/\qX s=none)\/(l=2/\qX s=if r5=0 then some O else none)):VT s s1 w l x wr:=⟨_,r5,at',v,O,hx,h1,h2,ho,hb,h⟩
def DecR(w':World)(base:Nat)(o:Option (La_))(e:Ending):Prop:=match o with
 | some b=>∃v,e=.returned (.tuple #[v,.int .i64 0])/\w'.ownsRow base 5 1 v b.length (b.map B)
 | none=>e=.returned (.tuple #[.slice none 0 0,.int .i64 13])
def muD(n l:Nat)(x:Act):Nat:=if l=0 then 3+(n-(intOf (x.tmps.getD 7 undef)).toNat) else if l=2 then 2 else 1
def L4(s:La_)(w:World)(hn:s.length<=1000):Ca_ 71 #[.string (str s)] w λe w'=>DecR w' w.heap.size (qX s) e/\Below w.heap.size w w':=by
 obtain⟨aS,aO,aA,R4,acn⟩:=info_parts z5;have NK:=zc (And.intro aO (And.intro aA (And.intro R4 acn)));obtain⟨n,oV⟩:=n_ s.length;refine ajU oV ?_;intro Nl;have Eh:(str s).size=n:=by rw[oV];simp[str,ByteArray.size]
 have N5:=ha_ (∀(j:Nat)(c:UInt8),s[j]? = some c->(str s).data[j]? = some c) (λj c h=>by simpa[str] using h);have aD:n<=1000:=ae;obtain⟨acI,a7S⟩:=n_ (qX s);refine ajU a7S ?_;intro a7c;rw[<-a7S];obtain⟨aZ,eh⟩:=n_ (n/4*3+2);refine ajU eh ?_;intro PK;have AG:aZ<=2000:=ae;generalize str s=ej at*;clear aO aA R4 acn oV hn a7S eh;go_enter func71,ntmps71;go_wp2_with fail;refine XY (VT s ej w) (λl x _=>muD n l x) ?first ?pass;case first =>
  simp only[Y5];go_wp2_with (at_make;refine wpList_make_own _ rfl _ _ 23 rfl w.heap.size 5 aS (.int .u8 0) 1 underlying23 NK.1 NK.2.1 NK.2.2.1 _ _ _ aZ rfl rfl ?m1 ?m2 ?m3 (zab _) ?_);case m1=>have:=PK.1;omega
  case m2=>rw[NK.2.2.2];omega
  case m3=>unfold maxLen;omega
  intro A4 I4 NN;have To:=ha_ (Below w.heap.size w A4) ((Below.refl w.heap.size w).grown NN (zab _) (λk h=>by cases h));go_wp2;exact⟨rfl,VT.intro 0 0 _ [] rfl (Nat.zero_le _) (zab _) I4 To (.inl ⟨rfl,jq.start s⟩)⟩
 case pass =>
  rintro l x oU⟨NU,An,at',aK,acJ,rfl,ag,aM,I9,To,acp⟩;obtain⟨S0,acy,ai,_,_,_⟩:=zz I9;obtain⟨acw,MW⟩:=n_ acJ.length;refine ajU MW ?_;intro PA;rw[<-MW] at ai;subst ai;have I9:=ha_ (oU.ownsRow w.heap.size 5 1 (.slice S0 acw acy) acw (acJ.map B)) (by have:=I9.o;rw[<-MW] at this;exact this);have acx:acw<=1000:=by have:=Nl.1;omega
  have Au:at'<=1000:=by have:=Nl.1;omega
  have a0H:=zc (And.intro ag aM);clear ag aM MW;rcases acp.out with⟨rfl,hda⟩|⟨rfl,hnone⟩|⟨rfl,hend⟩
  rotate_left
  ·refine⟨_,rfl,?_⟩;simp only[Y5];have IP:=ha_ (acI=none/\True) ⟨by rw[a7c.1];exact hnone,trivial⟩;clear hnone acp;go_wp2;rw[Exit.zeZ];go_ret2;rw[IP.1];exact ak9 To
  ·refine⟨_,rfl,?_⟩;simp only[Y5];have IP:=ha_ (acI=(if An=0 then some acJ else none)/\True) ⟨by rw[a7c.1];exact hend,trivial⟩;clear hend acp;by_cases ag:An=0
   ·have aj:((An.toNat:Int)==0)=true:=by rw[ag];rfl
    have IP:=ha_ (acI=some acJ/\True) ⟨by rw[IP.1,if_pos ag],trivial⟩;clear ag;go_wp2;rw[Exit.zeZ];go_ret2;rw[IP.1];refine⟨⟨_,rfl,?_⟩,To⟩;rw[<-PA.1];exact I9
   ·have aj:((An.toNat:Int)==0)=false:=by
     have:An.toNat≠0:=λe=>ag (zbp.1 e);rw[beq_eq_false_iff_ne];omega
    have IP:=ha_ (acI=none/\True) ⟨by rw[IP.1,if_neg ag],trivial⟩;clear ag;go_wp2;refine⟨rfl,VT.intro An at' _ acJ rfl a0H.1 a0H.2 (by rw[<-PA.1];exact I9) To (.inr (.inl ⟨rfl,by rw[<-a7c.1];exact IP.1⟩)),?_⟩;simp[muD]
  ·refine⟨_,rfl,?_⟩;simp only[Y5];have acK:=zc hda;clear hda acp;have eJ:(s.drop at').length=n-at':=by rw[zan,<-Nl.1]
   have M8:=ha_ (∀j,(s.drop at')[j]? = s[at'+j]?) (λj=>zbw);obtain⟨acL,acM⟩:=n_ (s.drop at');rw[<-acM] at eJ M8;refine ajU eJ ?_;intro Ru;have a6N:=zc (And.intro acM.symm trivial);clear acM;cases acL with
   | nil =>
    have eA:((at':Int)==(n:Int))=true:=by have:=a0H.1;have:=Nl.1;rw[beq_iff_eq];simp at eJ;omega
    have IP:=ha_ (acI=some acJ/\True) ⟨by rw[a7c.1];exact acK.done a6N.1,trivial⟩;clear eJ;go_wp2;rw[Exit.zeZ];go_ret2;rw[IP.1];exact⟨⟨_,rfl,by rw[<-PA.1];exact I9⟩,To⟩
   | cons a r1 =>
    have eA:((at':Int)==(n:Int))=false:=yl;obtain⟨ey,PU⟩:=n_ (jg a);have acN:=zc (And.intro PU.symm trivial);have acO:=zc (Q7 a);rw[<-PU] at acO;clear PU;have SW:=zc (N5 (at'+0) a (by rw[<-M8.o 0];rfl));go_wp2_with (refine qU (at'+0) a rfl rfl rfl rfl underlying9 z2 SW ?_);go_wp2_with fail;refine(acO _).mono ?_;rintro e A4⟨rfl,rfl⟩;cases ey with
    | none =>
     simp only[zb1,zbR];go_wp2;refine wp_goto ⟨VT.intro An (at') (.slice S0 acw acy) (acJ) ?_ ?_ ?_ ?_ To (.inr (.inl ⟨rfl,acK.fail a6N.1 (sJ acN.1)⟩)),?_⟩
     ·exact agk
     ·exact afu
     ·exact age
     ·rw[<-PA.1];exact I9
     ·exact afm
    | some x =>
     simp only[zbK,zbS];cases r1 with
     | nil =>
      have PU:((at':Int)+1==(n:Int))=true:=z3;clear eA eJ;go_wp2;refine wp_goto ⟨VT.intro (kT x 2) (at'+1) (.slice S0 acw acy) (acJ) ?_ ?_ ?_ ?_ To (.inr (.inl ⟨rfl,acK.fail a6N.1 rfl⟩)),?_⟩
      ·exact agk
      ·exact afu
      ·exact age
      ·rw[<-PA.1];exact I9
      ·exact afm
     | cons b r2 =>
      have PU:((at':Int)+1==(n:Int))=false:=yl;obtain⟨ey,PU⟩:=n_ (jg b);have acP:=zc (And.intro PU.symm trivial);have acO:=zc (Q7 b);rw[<-PU] at acO;clear PU;have SW:=zc (N5 (at'+1) b (by rw[<-M8.o 1];rfl));go_wp2_with (refine qU (at'+1) b rfl rfl rfl rfl underlying9 z2 SW ?_);go_wp2_with fail;refine(acO _).mono ?_;rintro e A4⟨rfl,rfl⟩;cases ey with
      | none =>
       simp only[zb1,zbR];go_wp2;refine wp_goto ⟨VT.intro (kT x 2) (at'+1) (.slice S0 acw acy) (acJ) ?_ ?_ ?_ ?_ To (.inr (.inl ⟨rfl,acK.fail a6N.1 (sK acP.1)⟩)),?_⟩
       ·exact agk
       ·exact afu
       ·exact age
       ·rw[<-PA.1];exact I9
       ·exact afm
      | some y =>
       simp only[zbK,zbS];go_wp2_with (at_builtin;refine z8 rfl (.tmp 48) (.tmp 53) 23 rfl w.heap.size 5 aS (.int .u8 0) 1 underlying23 NK.1 NK.2.1 NK.2.2.1 NK.2.2.2 rfl _ _ _ rfl (zo I9 (zu oU _)) _ 1 1 [B (by0 x y)] rfl rfl (Blk.new oU [B (by0 x y)] 5).lies (zj [by0 x y]) ew ae (by have:=To.size;simp;omega) ?_);intro aK acQ I4 oG;have acE:Below w.heap.size w (oU.alloc (.cells #[B (by0 x y)] 5)):=To.trans ((zu oU _).mono To.size);have acR:=zc (zU acE (zo I9 (zu oU _)) oG (zab _) y5);obtain⟨acS,acT⟩:=n_ (acw+1);have I9:=ha_ (acQ.ownsRow w.heap.size 5 1 aK acS ((acJ++[by0 x y]).map B)) (by have ag:=I4;rw[acT];simpa[zaD] using ag);clear oG acE;obtain⟨S0,acU,ai,_,_,_⟩:=zz I9;subst ai;have acW:=ha_ (acS=(acJ++[by0 x y]).length) (by rw[acT];simp only[zac,zaj,zas];have:=PA.1;omega);have MW:acS<=1000+1:=ae;clear acT;cases r2 with
       | nil =>
        have PU:((at':Int)+2==(n:Int))=true:=z3;clear eJ;go_wp2;refine wp_goto ⟨VT.intro (kT y 4) (at'+2) (.slice S0 acS acU) (acJ++[by0 x y]) ?_ ?_ ?_ ?_ acR (.inr (.inr ⟨rfl,acK.two a6N.1 acN.1 acP.1⟩)),?_⟩
        ·exact agk
        ·exact afu
        ·exact age
        ·rw[<-acW.o];exact I9
        ·exact afm
       | cons c r3 =>
        have eA:((at':Int)+2==(n:Int))=false:=yl;obtain⟨ey,eA⟩:=n_ (jg c);have acX:=zc (And.intro eA.symm trivial);have acO:=zc (Q7 c);rw[<-eA] at acO;clear eA;have SW:=zc (N5 (at'+2) c (by rw[<-M8.o 2];rfl));go_wp2_with (refine qU (at'+2) c rfl rfl rfl rfl underlying9 z2 SW ?_);go_wp2_with fail;refine(acO _).mono ?_;rintro e A4⟨rfl,rfl⟩;cases ey with
        | none =>
         simp only[zb1,zbR];go_wp2;refine wp_goto ⟨VT.intro (kT y 4) (at'+2) (.slice S0 acS acU) (acJ++[by0 x y]) ?_ ?_ ?_ ?_ acR (.inr (.inl ⟨rfl,acK.fail a6N.1 (sL acX.1)⟩)),?_⟩
         ·exact agk
         ·exact afu
         ·exact age
         ·rw[<-acW.o];exact I9
         ·exact afm
        | some z =>
         simp only[zbK,zbS];go_wp2_with (at_builtin;refine z8 rfl (.tmp 72) (.tmp 77) 23 rfl w.heap.size 5 aS (.int .u8 0) 1 underlying23 NK.1 NK.2.1 NK.2.2.1 NK.2.2.2 rfl _ _ _ rfl (zo I9 (zu acQ _)) _ 1 1 [B (by1 y z)] rfl rfl (Blk.new acQ [B (by1 y z)] 5).lies (zj [by1 y z]) ew ae (by have:=acR.size;simp;omega) ?_);intro aK acY I4 oG;have acE:Below w.heap.size w (acQ.alloc (.cells #[B (by1 y z)] 5)):=acR.trans ((zu acQ _).mono acR.size);have acZ:=zc (zU acE (zo I9 (zu acQ _)) oG (zab _) y5);obtain⟨acw,ad0⟩:=n_ (acS+1);have I9:=ha_ (acY.ownsRow w.heap.size 5 1 aK acw ((acJ++[by0 x y]++[by1 y z]).map B)) (by have ag:=I4;rw[ad0];simpa[zaD] using ag);clear oG acE;obtain⟨S0,ad1,ai,_,_,_⟩:=zz I9;subst ai;have ad2:=ha_ (acw=(acJ++[by0 x y]++[by1 y z]).length) (by rw[ad0];simp only[zac,zaj,zas];have:=PA.1;have:=acW.o;simp only[zac,zaj,zas] at this;omega);have MW:acw<=1000+2:=ae;clear ad0;cases r3 with
         | nil =>
          have PU:((at':Int)+3==(n:Int))=true:=z3;clear eJ;go_wp2;refine wp_goto ⟨VT.intro (kT z 6) (at'+3) (.slice S0 acw ad1) (acJ++[by0 x y]++[by1 y z]) ?_ ?_ ?_ ?_ acZ (.inr (.inr ⟨rfl,by have ag:=acK.three a6N.1 acN.1 acP.1 acX.1;rw[ag];simp⟩)),?_⟩
          ·exact agk
          ·exact afu
          ·exact age
          ·rw[<-ad2.o];exact I9
          ·exact afm
         | cons d r4 =>
          have eA:((at':Int)+3==(n:Int))=false:=yl;obtain⟨ey,eA⟩:=n_ (jg d);have a1t:=zc (And.intro eA.symm trivial);have acO:=zc (Q7 d);rw[<-eA] at acO;clear eA;have SW:=zc (N5 (at'+3) d (by rw[<-M8.o 3];rfl));go_wp2_with (refine qU (at'+3) d rfl rfl rfl rfl underlying9 z2 SW ?_);go_wp2_with fail;refine(acO _).mono ?_;rintro e A4⟨rfl,rfl⟩;cases ey with
          | none =>
           simp only[zb1,zbR];go_wp2;refine wp_goto ⟨VT.intro (kT z 6) (at'+3) (.slice S0 acw ad1) (acJ++[by0 x y]++[by1 y z]) ?_ ?_ ?_ ?_ acZ (.inr (.inl ⟨rfl,acK.fail a6N.1 (sM a1t.1)⟩)),?_⟩
           ·exact agk
           ·exact afu
           ·exact age
           ·rw[<-ad2.o];exact I9
           ·exact afm
          | some u =>
           simp only[zbK,zbS];go_wp2_with (at_builtin;refine z8 rfl (.tmp 96) (.tmp 100) 23 rfl w.heap.size 5 aS (.int .u8 0) 1 underlying23 NK.1 NK.2.1 NK.2.2.1 NK.2.2.2 rfl _ _ _ rfl (zo I9 (zu acY _)) _ 1 1 [B (by2 z u)] rfl rfl (Blk.new acY [B (by2 z u)] 5).lies (zj [by2 z u]) ew ae (by have:=acZ.size;simp;omega) ?_);intro aK acQ I4 oG;have acE:Below w.heap.size w (acY.alloc (.cells #[B (by2 z u)] 5)):=acZ.trans ((zu acY _).mono acZ.size);have To:=zc (zU acE (zo I9 (zu acY _)) oG (zab _) y5);obtain⟨acS,ad3⟩:=n_ (acw+1);have I9:=ha_ (acQ.ownsRow w.heap.size 5 1 aK acS ((acJ++[by0 x y]++[by1 y z]++[by2 z u]).map B)) (by have ag:=I4;rw[ad3];simpa[zaD] using ag);clear oG acE;obtain⟨S0,ad4,ai,_,_,_⟩:=zz I9;subst ai;have ad5:=ha_ (acS=(acJ++[by0 x y]++[by1 y z]++[by2 z u]).length) (by rw[ad3];simp only[zac,zaj,zas];have:=PA.1;have:=acW.o;simp only[zac,zaj,zas] at this;have:=ad2.o;simp only[zac,zaj,zas] at this;omega);have MW:acS<=1000+3:=ae;clear ad3;go_wp2;refine wp_goto ⟨VT.intro (kT z 6) (at'+4) (.slice S0 acS ad4) (acJ++[by0 x y]++[by1 y z]++[by2 z u]) ?_ ?_ ?_ ?_ To (.inl ⟨rfl,by have ag:=acK.next a6N.1 acN.1 acP.1 acX.1 a1t.1;simpa using ag⟩),?_⟩
           ·exact agk
           ·exact afu
           ·exact age
           ·rw[<-ad5.o];exact I9
           ·exact afm


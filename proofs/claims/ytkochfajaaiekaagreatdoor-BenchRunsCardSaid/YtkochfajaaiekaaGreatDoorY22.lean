/- Laws. -/
import Derived.Test.YtkochfajaaiekaaGreatDoorY20
set_option linter.all false
set_option maxHeartbeats 16000000
set_option maxRecDepth 100000
open Int renaming toNat_natCast->zbL
open List renaming mem_cons->zau
open Nat renaming le_refl->zab,le_trans->zat
namespace Go.Proofs.YtkochfajaaiekaaGreatDoor
open Go.Proofs.Tryz
open Go.Proofs.Tryz renaming prog->pgm
section
open RowKit
attribute [local irreducible] zA zG zH zE zR
def WY{base n:Nat}{w:World}{v:Value}{xs:La_}(h:w.ownsRow base 5 1 v n (xs.map B)):∃ao cap,v=.slice ao xs.length cap/\yq [] base w ao cap xs:=by
 have aR:xs.length=n:=by have:=h.1;simpa using this
 obtain⟨ao,cap,rfl,ag,aM,ij⟩:=zz h;refine⟨ao,cap,by rw[aR],ae,ij,λ_ a ha=>⟨?_,λhi=>by cases hi⟩⟩;subst ha;exact(h.lt a.block rfl).1
def Yj(w:World)(bs:La_):∃cap w',(convert 9 23 (.string (str bs))).run pgm w=.ok (.slice (some ⟨w.heap.size,0,none⟩) bs.length cap) w'/\Below w.heap.size w w'/\zr w' (some ⟨w.heap.size,0,none⟩) (bs.map B)/\bs.length<=cap/\w'.heap.size=w.heap.size+1:=by
 have ag:=Lib.run_convert_string_bytes (P:=pgm) w 9 23 5 (str bs) underlying9 underlying23 underlying5;have Eh:(str bs).size=bs.length:=xa;rw[Eh] at ag;refine⟨_,_,ag,⟨rfl,rfl,rfl,by rw[Lib.bytesWorld_size];omega,λk hk=>Lib.bytesWorld_at_old w _ _ k hk⟩,?_,grownCap_ge _ _ _ _,Lib.bytesWorld_size _ _ _⟩;intro aq au aw;refine⟨_,_,rfl,?_⟩;rw[List.getElem?_map] at aw;cases hb:bs[aq]? with
 | none=>rw[hb] at aw;cases aw
 | some x =>
  rw[hb] at aw;simp only[Option.map_some,Option.some.injEq] at aw;subst aw;have aA:aq<bs.length:=(List.getElem?_eq_some_iff.1 hb).1;have:=Lib.bytesWorld_cell w 5 (str bs) aq (by rw[Eh];exact aA);rw[Nat.zero_add,this];simp[str,List.getD,hb]
def dS(c:Int)(k:yo)(FX:List Nat)(w:World)(v:Value):Prop :=
 (c≠0/\v=.pointer none)\/(c=0/\∃cp,v=.pointer (some ⟨cp,0,none⟩)/\xA FX w (λw'=>xB w' cp k))
def dS.good{c:Int}{k:yo}{FX:List Nat}{w:World}{v:Value}(h:dS c k FX w v)(hc:c=0):∃cp,v=.pointer (some ⟨cp,0,none⟩)/\xA FX w (λw'=>xB w' cp k):=by
 rcases h with h|h
 ·exact absurd hc h.1
 ·exact h.2
def dS.cons{c:Int}{k:yo}{FX:List Nat}{w w':World}{v:Value}(h:dS c k FX w v)(hb:Below w.heap.size w w')(hlt:w.heap.size<w'.heap.size):dS c k (w.heap.size::FX) w' v:=by
 rcases h with h|⟨h,cp,e1,hk⟩
 ·exact .inl h
 ·exact .inr ⟨h,cp,e1,hk.wider hb (λi hi=>by
   rcases zau.1 hi with rfl|hi
   ·exact .inr (zab _)
   ·exact .inl hi)⟩
def dS.only{c:Int}{k:yo}{bx:Nat}{FX:List Nat}{w w':World}{v:Value}{vs:Lb_}{ty:TypeId}(h:dS c k FX w v)(ho:Only bx w w')(hb:Blk w bx vs ty)(hin:bx∈FX):dS c k FX w' v:=by
 rcases h with h|⟨h,cp,e1,hk⟩
 ·exact .inl h
 ·exact .inr ⟨h,cp,e1,hk.at (Up.zd1 ho (λh=>h hin))⟩
def se(FX:List Nat)(alg:Int)(q p:Nat)(ka:OA)(kn kc:Nat)(key:La_)(w:World)(hkn:key.length=kn)(hkc:kn<=kc)(hkl:zr w ka (key.map B))(ht:Tab w q p)(hg:yi w)(hF:∀i∈FX,i<w.heap.size/\i≠q/\i≠p):Ca_ 40 #[pa_ q,.int .i64 alg,.slice ka kn kc] w λe w'=>∃v:OA,e=.returned (.tuple #[.pointer v,.int .i64 ((zd6 alg kn:Nat):Int)])/\dS ((zd6 alg kn:Nat):Int) (vS alg key) FX w' (.pointer v)/\Below w.heap.size w w':=by
 by_cases Am:zd6 alg kn=0
 ·rw[Am];refine(Q3 alg q p ka kn kc key w hkn Am hkc hkl ht hg).mono ?_;rintro e w'⟨a2s,he,eg,hb⟩;exact⟨_,he,.inr ⟨rfl,a2s,rfl,xA.zgS eg (Below.refl _ _) (λi hi=>by have:=hF i hi;exact .inr ⟨this.1,bq⟩)⟩,hb⟩
 ·exact(QN alg q ka kn kc w Am).mono λe w' ⟨he,hb⟩=>⟨none,he,.inl ⟨ae,rfl⟩,hb▸Below.refl _ _⟩
def KC:(pgm.info? 60).map (·.size)=some 1:=e0
def dU:(pgm.info? 60).map (·.zero)=some (some (.pointer none)):=e0
def dV:∀args w,(callFunc 46 args).run pgm w=.ok (.enter 46 args) w:=enters func46 e0 rfl
def L5(b1 b2 bp:Nat)(hp q:Nat)(vv nv cv vn:Value)(w:World)(h1:Blk w b1 [vn] 60)(h2:Blk w b2 [pa_ bp] 27)(hb:Blk w bp (qd hp q vv nv cv) 62)(hvn:vn.oneCell'=true)(hvc:vn.cells=#[vn]):Ca_ 46 #[pa_ b1,pa_ b2] w λe w'=>(∃z,e=.returned z)/\Blk w' bp (qd hp q vv nv vn) 62/\Only bp w w':=by have uX:=zc hb;have iy:=h1.cell 0 _ rfl;have iy:=h2.cell 0 _ rfl;clear h1 h2 hb;go_enter func46,ntmps46;go_wp2_with (refine uX.zeJ (i:=4) (v:=vn) rfl rfl rfl rfl KC hvc hvn (by simp[qd]) ?_);exact anf
def jo(z:Int):pgm.built 35 [(0,.int .i64 z)]=some #[.int .i64 z,.int .i64 0,.slice none 0 0]:=e0
section
variable{F O:List Nat}{w:World}{bp hp q p:Nat}{s:yN}{ss:List Str}{vv nv cv:Value}{x:Opr}
def ctxB{k:yo}{cp t N adc:Nat}{ado:OA}{ads:List Str}(hk:xB w cp k)(ht:t<=16)(hx:yT F w x)(hN:ads.length=N)(hss:rowOf ads=adB x.c)(zjJ:yI w ado ads):Ctx w cp k t x.ko x.c.key.length x.kc x.c.key ado N adc ads:=by
 have ag:=hx.few;have aR:∀b∈rowOf ads,b.length<=1000:=by
  rw[hss];unfold adB;split
  ·intro b aF;simp at aF;subst aF;exact ag.2.2
  ·intro b aF;cases aF
 have acg:N<=1:=by
  have:(rowOf ads).length<=1:=by rw[hss];unfold adB;split<;>simp
  rw[<-hN];simpa[rowOf] using this
 refine⟨hk,ht,rfl,ae,hx.in.kc.1,hx.in.key,hN,ae,zjJ,λt ht=>?_,?_⟩
 ·have:=aR t.bs (List.mem_map.2 ⟨t,ht,rfl⟩);omega
 ·show(zeN (zeN _ _) _).length<=_;rw[vq,vq,hss];unfold adB;split<;>simp[zy]<;>omega
def Vb(s:yN){x:Cmd}(h:x.kind=13\/x.kind=14):(qe s x).1=s/\(qe s x).2.2.1=0:=by
 unfold qe;rw[if_neg ae];split
 ·exact aeU
 ·cases s.cip with
  | none=>exact⟨rfl,rfl⟩
  | some k =>
   simp only;repeat' split
   all_goals exact⟨rfl,rfl⟩
def cV{t:Int}(h:¬(0<=t/\t<=16)):YK t=4:=by unfold YK;rw[if_neg h]
def sf(h:yr F O w bp s hp q p ss vv nv cv)(hx:yT F w x)(hk:x.c.kind=13)(hm:x.c.m=0\/x.c.m=1)(ado:OA)(N adc:Nat)(ads:List Str)(hN:ads.length=N)(hss:rowOf ads=adB x.c)(zjJ:yI w ado ads):Ca_ 47 #[cv,.int .i64 x.c.n,.slice x.ko x.c.key.length x.kc,.slice ado N adc,.slice x.bo x.c.b.length x.bc] w λe w'=>(∃ao cap,e=.returned (.tuple #[.slice ao (qe s x.c).2.2.2.length cap,.int .i64 (qe s x.c).2.1])/\yq [] w.heap.size w' ao cap (qe s x.c).2.2.2)/\Below w.heap.size w w':=by
 have az:=h.cip;unfold qe;rw[if_neg ae,if_neg ae];cases e:s.cip with
 | none =>
  rw[e] at az;cases az;exact(gp _ _ _ _ _ 2 w bd (cM _ _ _ w)).mono λe w' ⟨he,hb⟩=>⟨⟨none,0,he,yq.none _ _ _⟩,hb⟩
 | some k =>
  rw[e] at az;obtain⟨a2s,rfl,MR⟩:=az;simp only;by_cases aW:0<=x.c.n/\x.c.n<=16;rotate_left
  ·rw[if_pos aW];exact(gp _ _ _ _ _ 4 w bd (gn a2s _ _ _ w (cV aW))).mono λe w' ⟨he,hb⟩=>⟨⟨none,0,he,yq.none _ _ _⟩,hb⟩
  ·rw[if_neg (by simpa using aW),if_pos hk];refine ahd ?_;intro t abE hb eP ad6;by_cases eI:k.alg=3\/k.least<=x.c.b.length+t
   ·rw[if_pos eI];refine(rQ x.bo _ x.bc x.c.b w ad6 rfl ae hb hx.in.b eI).mono λe w' ⟨v,he,hown,hbel⟩=>?_;rw[hss] at hown;obtain⟨ao,cap,rfl,oE⟩:=WY hown;exact⟨⟨ao,cap,he,oE⟩,hbel⟩
   ·rw[if_neg eI];exact(rN x.bo _ x.bc x.c.b w ad6 ae rfl ae hb hx.in.b ae).mono λe w' ⟨he,hb⟩=>⟨⟨none,0,he,yq.none _ _ _⟩,hb⟩
def sg(h:yr F O w bp s hp q p ss vv nv cv)(hx:yT F w x)(hk:x.c.kind=14)(hm:x.c.m=0\/x.c.m=1)(ado:OA)(N adc:Nat)(ads:List Str)(hN:ads.length=N)(hss:rowOf ads=adB x.c)(zjJ:yI w ado ads):Ca_ 48 #[cv,.int .i64 x.c.n,.slice x.ko x.c.key.length x.kc,.slice ado N adc,.slice x.bo x.c.b.length x.bc] w λe w'=>(∃ao cap,e=.returned (.tuple #[.slice ao (qe s x.c).2.2.2.length cap,.int .i64 (qe s x.c).2.1])/\yq [] w.heap.size w' ao cap (qe s x.c).2.2.2)/\Below w.heap.size w w':=by
 have az:=h.cip;unfold qe;rw[if_neg ae,if_neg ae];cases e:s.cip with
 | none =>
  rw[e] at az;cases az;exact(gq _ _ _ _ _ 2 w bd (cM _ _ _ w)).mono λe w' ⟨he,hb⟩=>⟨⟨none,0,he,yq.none _ _ _⟩,hb⟩
 | some k =>
  rw[e] at az;obtain⟨a2s,rfl,MR⟩:=az;simp only;by_cases aW:0<=x.c.n/\x.c.n<=16;rotate_left
  ·rw[if_pos aW];exact(gq _ _ _ _ _ 4 w bd (gn a2s _ _ _ w (cV aW))).mono λe w' ⟨he,hb⟩=>⟨⟨none,0,he,yq.none _ _ _⟩,hb⟩
  ·rw[if_neg (by simpa using aW),if_neg ae];refine ahd ?_;intro t abE hb eP ad6;refine(rR x.bo _ x.bc x.c.b w ad6 rfl ae hb hx.in.b).mono λe w' ⟨ho,hbel⟩=>⟨?_,hbel⟩
   rw[hss] at ho;cases hop:JM k t x.c.key (adB x.c) x.c.b with
   | none=>rw[hop] at ho;exact⟨none,0,ho,yq.none _ _ _⟩
   | some m =>
    rw[hop] at ho;obtain⟨ao,he,aR,ac3⟩:=ho;refine⟨ao,m.length,he,zab _,aR,λh0 a ha=>?_⟩;obtain⟨ie,eC,ai,ag,_⟩:=ac3 h0;rw[ai] at ha;cases ha;exact⟨ag,λhi=>by cases hi⟩
def G1(h:xi F O w bp s)(hx:yT F w x)(hg:yi w)(hk:x.c.kind=12):Ca_ 23 #[pa_ bp,.agg x.vals.toArray] w (yh F O w bp (qe s x.c)):=by
 refine alL ?_;intro eE ey ox a6h a4F a2v abw hi MM A6 EZ M8 EW;clear h;refine aoE ?_;intro c az V Ty SW OS;have abJ:=ha_ (qe s x.c=(if c=0 then({ s with cip:=some V },(0,0,[])) else(s,(c,0,[])))/\True) ⟨by
  unfold qe;rw[if_pos hk,az,Ty];by_cases ag:zd6 x.c.a x.c.key.length=0
  ·exact ain
  ·rw[if_neg ag,if_neg ae],trivial⟩
 clear az Ty;clear hk hi hx hg;go_enter func23,ntmps23;go_wp2_with (refine ar0 ?_);refine anw EW ?_;intro A4 hb hbel EW aB;go_wp2_with (refine aqY ?_);refine anw EW ?_;intro Ev hb hbel EW aB;go_wp2_with (refine aqZ ?_);refine anw EW ?_;intro w3 hb hbel EW aB;refine aeO ?_;intro aT EM uX EZ M8 a9X aX;have iy:=EW.g1.cell 0 (.int .i64 12) vi;have Pp:=λ(z:zL w3.drew)=>((EW.drew.later z.later).get 2 rfl).cell 0 _ rfl;have TC:=λ(z:zL w3.drew)=>((EW.drew.later z.later).get 1 rfl).cell 1 (.int .i64 x.c.a) rfl;have a7K:=λ(z:zL w3.drew)=>((EW.drew.later z.later).get 1 rfl).cell 4 (.slice x.ko x.c.key.length x.kc) rfl;have Np:=λ(z:zL w3.drew)=>((uX.blk.drew).below z.later uX.blk.drew.lt).cell 1 (.pointer (some ⟨ey,0,none⟩)) rfl;go_wp2_with fail;refine QE [0,1,2,3,4,5,6,7] [8,9,10,11,12,13] [14] [(9,[8]),(10,[9]),(11,[9]),(13,[10,12])] (λD y wx=>∃(rv:OA)(v7 v9 v22 v23 v24:Value)(FX:List Nat),y={ tmps:=#[.pointer (some ⟨bp,0,none⟩),.agg x.vals.toArray,.pointer (some ⟨w.heap.size,0,none⟩),.pointer (some ⟨A4.heap.size,0,none⟩),.pointer (some ⟨Ev.heap.size,0,none⟩),v7,undef,undef,undef,.pointer (some ⟨A4.heap.size,0,none⟩),.int .i64 12,.bool true,v9,.pointer (some ⟨bp,0,none⟩),.pointer (some ⟨bp,0,none⟩),.pointer (some ⟨bp,1,none⟩),.pointer (some ⟨ey,0,none⟩),.pointer (some ⟨A4.heap.size,1,none⟩),.int .i64 x.c.a,.pointer (some ⟨A4.heap.size,4,none⟩),.slice x.ko x.c.key.length x.kc,v22,v23,v24,undef,undef,undef,undef,undef,undef,undef,undef,undef,undef,undef,undef,undef,undef,undef,undef,undef,undef,undef,undef,undef,undef,undef,undef,undef,undef,undef,undef,undef,undef,undef,undef,undef,undef,undef,undef,undef,undef,undef,undef,undef,undef,undef,undef,undef,undef,undef,undef,undef,undef,undef,undef,undef],defers:=[] }/\Hid (Below w3.heap.size w3 wx)/\Hid (∀i∈FX,i∈[Ev.heap.size,A4.heap.size,w.heap.size]++F\/w3.heap.size<=i/\i<wx.heap.size)/\Hid (∀i∈[Ev.heap.size,A4.heap.size,w.heap.size]++F,i∈FX)/\Hid (D 8=true->v22=.tuple #[.pointer rv,.int .i64 c]/\dS c V FX wx (.pointer rv))/\Hid (D 9=true->D 8=true/\v9=.tuple #[.pointer rv,.int .i64 c])/\Hid (D 10=true->D 9=true/\v23=.pointer rv)/\Hid (D 11=true->D 9=true/\v24=.int .i64 c)/\Hid (D 12=true->∃bx,v7=.pointer (some ⟨bx,0,none⟩)/\bx∈FX/\w3.heap.size<=bx/\Blk wx bx [.pointer (if D 13 then rv else none)] 60)/\Hid (D 13=true->D 10=true/\D 12=true)) e0 e0 ?_ ?_ ?_
 ·rintro ad7 rfl;iterate 8 refine m10 ?_
  refine xF ⟨none,_,_,_,_,_,[Ev.heap.size,A4.heap.size,w.heap.size]++F,rfl,zc (Below.refl _ _).drew,zc (λi hi=>.inl hi),zc (λi hi=>hi),zc (λh=>by cases h),zc (λh=>by cases h),zc (λh=>by cases h),zc (λh=>by cases h),zc (λh=>by cases h),zc (λh=>by cases h)⟩
 ·clear iy Pp TC a7K Np;rintro D y wx a2m a1V a1Y a1X⟨rv,v7,v9,v22,v23,v24,FX,rfl,To,abK,abL,TN,PK,TO,a1F,a0G,HST⟩;have eg:=To.size;simp only[zau,List.not_mem_nil,or_false] at a1V;rcases a1V with rfl|rfl|rfl|rfl|rfl|rfl
  ·have abM:D 9=true->False:=λh=>by have:=(PK h).1;rw[a1Y] at this;cases this
   have zjy:D 10=true->False:=λh=>abM (TO h).1;have abN:D 11=true->False:=λh=>abM (a1F h).1;have abO:D 13=false:=by cases h:D 13 with|false=>rfl|true=>exact(zjy (HST h).1).elim
   refine aiL ?_;intro K hK;have abP:∀i∈FX,i<wx.heap.size/\i≠ey/\i≠ox:=λi hi=>mA uX.tabs To (abK i hi);refine(se FX x.c.a ey ox x.ko x.c.key.length x.kc x.c.key _ rfl EZ.in.kc.1 (EZ.in.key.below To) (uX.tabs.tab.self.below To (zab _)) (M8.below To) abP).mono ?_;rintro e w'⟨abQ,rfl,OZ,hbel⟩;rw[SW.1] at OZ |-;rw[OS.1] at OZ;exact afg
  ·obtain⟨rfl,hg⟩:=TN (a1X 8 p0);refine aiL ?_;intro K hK;refine hK _ _ ?_;exact⟨λ_=>Below.refl _ _,rv,v7,_,_,v23,v24,FX,rfl,To,abK,abL,zc (λ_=>⟨rfl,hg⟩),zc (λ_=>⟨by simp[a1X 8 (by simp[yw])],rfl⟩),zc (λh=>⟨ab,(TO cw).2⟩),zc (λh=>⟨ab,(a1F cw).2⟩),zc (λh=>by simpa using a0G.o cw),zc (λh=>by have ag:=HST.o cw;simp[ag.1,ag.2])⟩
  ·obtain⟨abR,rfl⟩:=PK (a1X 9 p0);refine aiL ?_;intro K hK;refine hK _ _ ?_;exact⟨λ_=>Below.refl _ _,rv,v7,_,v22,_,v24,FX,rfl,To,abK,abL,zc (λh=>TN cw),zc (λh=>⟨by simp[abR],rfl⟩),zc (λ_=>⟨za,rfl⟩),zc (λh=>⟨za,(a1F cw).2⟩),zc (λh=>by simpa using a0G.o cw),zc (λh=>by have ag:=HST.o cw;simp[ag.1,ag.2])⟩
  ·obtain⟨abR,rfl⟩:=PK (a1X 9 p0);refine aiL ?_;intro K hK;refine hK _ _ ?_;exact⟨λ_=>Below.refl _ _,rv,v7,_,v22,v23,_,FX,rfl,To,abK,abL,zc (λh=>TN cw),zc (λh=>⟨by simp[abR],rfl⟩),zc (λh=>⟨za,(TO cw).2⟩),zc (λ_=>⟨za,rfl⟩),zc (λh=>by simpa using a0G.o cw),zc (λh=>by have ag:=HST.o cw;simp[ag.1,ag.2])⟩
  ·have abO:D 13=false:=by cases h:D 13 with|false=>rfl|true=>(have:=(HST h).2;rw[a1Y] at this;cases this)
   refine afl ?_;intro K hK;refine QF 60 [.pointer none] _ rfl dU rfl (λw' hb hbel=>hK _ _ ?_);have aB:=hb.lt;have eF:=hbel.size;refine⟨λ_=>hbel,rv,.pointer (some ⟨wx.heap.size,0,none⟩),v9,v22,v23,v24,wx.heap.size::FX,rfl,zc (To.trans (hbel.mono eg)),zc (λi hi=>?_),zc (λi hi=>List.mem_cons_of_mem _ (abL i hi)),zc (λh=>⟨(TN cw).1,(TN cw).2.cons hbel aB⟩),zc (λh=>by simpa using PK.o cw),zc (λh=>by simpa using TO.o cw),zc (λh=>by simpa using a1F.o cw),zc (λ_=>⟨_,rfl,ab,eg,by simpa[abO] using hb⟩),zc (λh=>by simp[abO] at h)⟩;exact ahz
  ·obtain⟨aM,rfl⟩:=TO (a1X 10 p0);obtain⟨bx,rfl,aF,Ew,Ex⟩:=a0G (a1X 12 p0);obtain⟨ij,aj⟩:=PK aM;obtain⟨ak,hg⟩:=TN ij;refine afl ?_;intro K hK;refine Ex.zd8 (i:=0) (v:=.pointer rv) rfl rfl rfl KC rfl rfl ab (λw4 hb4 ho4=>hK _ _ ?_);refine⟨λhno=>absurd rfl hno,rv,_,v9,v22,_,v24,FX,rfl,zc (zi To ho4 Ew),zc (λi hi=>(abK i hi).imp id (λh=>⟨h.1,by rw[ho4.size];exact h.2⟩)),abL,zc (λh=>⟨ak,hg.only ho4 Ex aF⟩),zc (λh=>⟨by simp[ij],aj⟩),zc (λh=>⟨by simp[aM],rfl⟩),zc (λh=>by simpa using a1F.o cw),zc (λ_=>⟨bx,rfl,aF,Ew,by simpa using hb4⟩),zc (λ_=>⟨by simp[a1X 10 (by simp[yw])],by simp[a1X 12 (by simp[yw])]⟩)⟩
 ·clear iy Pp TC a7K Np;rintro y wx⟨rv,v7,v9,v22,v23,v24,FX,rfl,To,abK,abL,TN,PK,TO,a1F,a0G,HST⟩;obtain⟨bx,rfl,abS,Nb,abT⟩:=a0G rfl;obtain⟨rfl,hg⟩:=TN rfl;obtain⟨_,rfl⟩:=PK rfl;obtain⟨_,rfl⟩:=TO rfl;obtain⟨_,rfl⟩:=a1F rfl;have eg:=To.size;have abU:=zc hg;have Nd:=ha_ (Blk wx bx [.pointer rv] 60) (by simpa using abT);have a6C:=zc abS;clear TN PK TO a1F a0G HST hg abT abS;dsimp only;refine m1R ?_;refine zq ?_;have EX:=zc (EW.later To);have ad8:=To.size;have TO:=zc (EM.trans (Ext.of_below To) (λi hi=>.inl hi));have aM:yr FX O wx bp s eE ey ox a6h a4F a2v abw:=uX.wider To abK abL (λi hi=>hi) (λi hi=>abL i (List.mem_append_right _ (a9X.2 i hi)));have HBL:=zc aM;have abA:=zc EX.g0;clear aM;by_cases az:c=0
  ·refine ajU az ?_;intro SW;obtain⟨cp,ai,a1l⟩:=abU.good az;obtain rfl:rv=some ⟨cp,0,none⟩:=by cases ai;rfl
   have HCP:=zc a1l;subst az;clear a1l ai;have a9R:=dV;go_wp2_with fail;refine(cP 46 _ _ _ (λw'=>Blk w' bp (qd eE ey a4F a2v (.pointer (some ⟨cp,0,none⟩))) 62/\Only bp wx w') a9R (L5 bx w.heap.size bp eE ey a4F a2v abw (.pointer (some ⟨cp,0,none⟩)) wx Nd EX.g2 HBL.blk rfl rfl)).mono ?_;rintro e IX⟨rfl,hb5,ho5⟩;have uY:=ha_ (xi ([]++([Ev.heap.size,A4.heap.size,w.heap.size]++F)) ([]++O) IX bp { s with cip:=some V }) (by
    have ag:=HBL.store (s':={ s with cip:=some V }) hb5 ho5 rfl HBL.vol HBL.nam ⟨cp,rfl,HCP⟩ ⟨HBL.zei.hdr,HBL.zei.vol,HBL.zei.nam,λk e=>by cases e;exact OS.2⟩;exact⟨_,_,_,_,_,_,_,ag.narrow abL (λi hi=>by have ag:=a9X.2 i hi;simp[ag])⟩)
   have EM:=zc (TO.trans (Ext.zd1 ho5 (D:=O) A6.own.1) (λi hi=>.inl hi));have abA:=zc (abA.only ho5 ae);have a57:=jo 0;clear a9R;go_wp2_with (refine abA.zdP rfl rfl rfl (cs:=[.int .i64 0,.int .i64 0,.slice none 0 0]) rfl zn rfl rfl (ye _ _ _ _ _) ?_);refine anx ?_;intro MF aF oE EB I9;go_wp2;refine afW ?_;rw[abJ.1,if_pos trivial];exact yh.of uY (yq.none [] w3.heap.size IX) EM I9 (λi hi=>by cases hi) ab ae ae a9X.1 a9X.2 rfl
  ·refine ajU az ?_;intro SW;have a57:=jo c;go_wp2_with fail;refine(VQ c _ _ az).mono ?_;rintro e MF⟨rfl,rfl⟩;clear az;go_wp2_with (refine abA.zdP rfl rfl rfl (cs:=[.int .i64 c,.int .i64 0,.slice none 0 0]) rfl zn rfl rfl (ye _ _ _ _ _) ?_);refine anx ?_;intro MF aF oE EB I9;go_wp2;refine afW ?_;rw[abJ.1,if_neg SW.1];exact yh.of (N:=[]) (A:=[Ev.heap.size,A4.heap.size,w.heap.size]) ⟨_,_,_,_,_,_,_,uX.below To⟩ (yq.none [] w3.heap.size wx) TO I9 (λi hi=>by cases hi) ab ae ae a9X.1 a9X.2 rfl
def mD{base:Nat}{w w':World}{bo:Nat}{ao:OA}{cap:Nat}{xs:La_}(h:yq [] base w ao cap xs)(ho:Only bo w w')(hb:bo<base):yq [] base w' ao cap xs:=h.ext (Ext.zd1 ho (D:=[bo]) ab) (λi hi=>by simp at hi;right;omega)
def UC(h:xi F O w bp s)(hx:yT F w x)(hk:x.c.kind=13)(hm:x.c.m=0):Ca_ 23 #[pa_ bp,.agg x.vals.toArray] w (yh F O w bp (qe s x.c)):=by
 refine aeG ?_;intro eE ey ox a6h a4F a2v abw hi MM A6 EZ;clear h;refine aeC ?_;intro EW;have PK:=zc hm;clear hm;clear hk hi hx;go_enter func23,ntmps23;go_wp2_with (refine ar0 ?_);refine am7 ?_;intro A4 aF sy EW aB;go_wp2_with (refine aqY ?_);refine amb ?_;intro Ev aF sy EW aB;go_wp2_with (refine aqZ ?_);refine an7 ?_;intro w3 aF sy EW aB aT a9X aX;have iy:=EW.g1.cell 0 (.int .i64 13) vi;have A5:=EW.g1.cell 3 (.int .i64 0) zb;go_wp2_with (refine ar1 ?_);refine aoD ?_;intro w4 aF sy uX MQ Rz ad9;rw[<-Rz] at aF |-;have MJ:=aF.lt;have Tw:w3.heap.size<=MQ:=by rw[Rz];exact zab _
 refine af2 ?_;intro ada abA EB EZ EX;have iy:=EX.g1.cell 0 (.int .i64 13) vi;refine aom ?_;intro IJ Pp TC a7K a7L Np;clear Rz A5;go_wp2_with fail;refine yg (Below w3.heap.size) [] [(0,true),(1,true),(2,true),(3,true),(4,true),(5,true),(6,true),(7,true),(8,true),(9,true),(10,true),(11,false),(12,true),(13,true),(14,true),(15,true),(16,false),(17,true),(18,false)] (Below.refl w3.heap.size) (λ_ _ _ h k=>h.trans k) e0 e0 ?_;rintro IX rfl;iterate 11 refine m1K ?_
 clear iy Pp TC a7K a7L Np;refine aeR ?_;intro K hK;refine ahq ?_;intro ah;refine(sf (EB.below ah) (EZ.below ah) MM AH none 0 0 [] rfl ad9.1 (ad9.2 _ ah)).mono ?_;exact aoQ
def UD(h:xi F O w bp s)(hx:yT F w x)(hk:x.c.kind=13)(hm:x.c.m=1):Ca_ 23 #[pa_ bp,.agg x.vals.toArray] w (yh F O w bp (qe s x.c)):=by
 refine aeG ?_;intro eE ey ox a6h a4F a2v abw hi MM A6 EZ;clear h;refine aeC ?_;intro EW;have PK:=zc hm;clear hm;clear hk hi hx;go_enter func23,ntmps23;go_wp2_with (refine ar0 ?_);refine am7 ?_;intro A4 aF sy EW aB;go_wp2_with (refine aqY ?_);refine amb ?_;intro Ev aF sy EW aB;go_wp2_with (refine aqZ ?_);refine an7 ?_;intro w3 aF sy EW aB aT a9X aX;have iy:=EW.g1.cell 0 (.int .i64 13) vi;refine agR ?_;intro A5 P6 ade adf adg EE;go_wp2_with (refine ar1 ?_);refine ark ?_;intro w4 aF sy a76 abD adh ai;have sy:Below (adf.alloc (.cells #[.slice (some ⟨w3.heap.size,0,none⟩) x.c.name.length ade] 23)).heap.size (adf.alloc (.cells #[.slice (some ⟨w3.heap.size,0,none⟩) x.c.name.length ade] 23)) w4:=by rw[ai];exact sy
 refine aoq ?_;intro aU uX MQ Rz ad9;rw[<-Rz] at aF |-;have MJ:=aF.lt;have Tw:w3.heap.size<=MQ:=by rw[Rz];omega
 refine af2 ?_;intro ada abA EB EZ EX;have iy:=EX.g1.cell 0 (.int .i64 13) vi;refine aom ?_;intro IJ Pp TC a7K a7L Np;clear sy Rz A5 P6 adg ai adh aU;go_wp2_with fail;refine yg (Below w3.heap.size) [] [(0,true),(1,true),(2,true),(3,true),(4,true),(5,true),(6,true),(7,true),(8,true),(9,true),(10,true),(11,false),(12,true),(13,true),(14,true),(15,true),(16,false),(17,true),(18,false)] (Below.refl w3.heap.size) (λ_ _ _ h k=>h.trans k) e0 e0 ?_;rintro IX rfl;iterate 11 refine m1K ?_
 clear iy Pp TC a7K a7L Np;refine aeR ?_;intro K hK;refine ahq ?_;intro ah;refine(sf (EB.below ah) (EZ.below ah) MM AH (some ⟨adf.heap.size,0,none⟩) 1 1 [⟨some ⟨w3.heap.size,0,none⟩,ade,x.c.name⟩] rfl ad9.1 (ad9.2 _ ah)).mono ?_;exact asq
def UE(h:xi F O w bp s)(hx:yT F w x)(hk:x.c.kind=14)(hm:x.c.m=0):Ca_ 23 #[pa_ bp,.agg x.vals.toArray] w (yh F O w bp (qe s x.c)):=by
 refine aeG ?_;intro eE ey ox a6h a4F a2v abw hi MM A6 EZ;clear h;refine aeC ?_;intro EW;have PK:=zc hm;clear hm;clear hk hi hx;go_enter func23,ntmps23;go_wp2_with (refine ar0 ?_);refine am7 ?_;intro A4 aF sy EW aB;go_wp2_with (refine aqY ?_);refine amb ?_;intro Ev aF sy EW aB;go_wp2_with (refine aqZ ?_);refine an7 ?_;intro w3 aF sy EW aB aT a9X aX;have iy:=EW.g1.cell 0 (.int .i64 14) vi;have A5:=EW.g1.cell 3 (.int .i64 0) zb;go_wp2_with (refine ar1 ?_);refine aoD ?_;intro w4 aF sy uX MQ Rz ad9;rw[<-Rz] at aF |-;have MJ:=aF.lt;have Tw:w3.heap.size<=MQ:=by rw[Rz];exact zab _
 refine af2 ?_;intro ada abA EB EZ EX;have iy:=EX.g1.cell 0 (.int .i64 14) vi;refine aom ?_;intro IJ Pp TC a7K a7L Np;clear Rz A5;go_wp2_with fail;refine yg (Below w3.heap.size) [] [(0,true),(1,true),(2,true),(3,true),(4,true),(5,true),(6,true),(7,true),(8,true),(9,true),(10,true),(11,false),(12,true),(13,true),(14,true),(15,true),(16,false),(17,true),(18,false)] (Below.refl w3.heap.size) (λ_ _ _ h k=>h.trans k) e0 e0 ?_;rintro IX rfl;iterate 11 refine m1K ?_
 clear iy Pp TC a7K a7L Np;refine aeR ?_;intro K hK;refine ahq ?_;intro ah;refine(sg (EB.below ah) (EZ.below ah) MM AH none 0 0 [] rfl ad9.1 (ad9.2 _ ah)).mono ?_;exact aoQ
def UF(h:xi F O w bp s)(hx:yT F w x)(hk:x.c.kind=14)(hm:x.c.m=1):Ca_ 23 #[pa_ bp,.agg x.vals.toArray] w (yh F O w bp (qe s x.c)):=by
 refine aeG ?_;intro eE ey ox a6h a4F a2v abw hi MM A6 EZ;clear h;refine aeC ?_;intro EW;have PK:=zc hm;clear hm;clear hk hi hx;go_enter func23,ntmps23;go_wp2_with (refine ar0 ?_);refine am7 ?_;intro A4 aF sy EW aB;go_wp2_with (refine aqY ?_);refine amb ?_;intro Ev aF sy EW aB;go_wp2_with (refine aqZ ?_);refine an7 ?_;intro w3 aF sy EW aB aT a9X aX;have iy:=EW.g1.cell 0 (.int .i64 14) vi;refine agR ?_;intro A5 P6 ade adf adg EE;go_wp2_with (refine ar1 ?_);refine ark ?_;intro w4 aF sy a76 abD adh ai;have sy:Below (adf.alloc (.cells #[.slice (some ⟨w3.heap.size,0,none⟩) x.c.name.length ade] 23)).heap.size (adf.alloc (.cells #[.slice (some ⟨w3.heap.size,0,none⟩) x.c.name.length ade] 23)) w4:=by rw[ai];exact sy
 refine aoq ?_;intro aU uX MQ Rz ad9;rw[<-Rz] at aF |-;have MJ:=aF.lt;have Tw:w3.heap.size<=MQ:=by rw[Rz];omega
 refine af2 ?_;intro ada abA EB EZ EX;have iy:=EX.g1.cell 0 (.int .i64 14) vi;refine aom ?_;intro IJ Pp TC a7K a7L Np;clear sy Rz A5 P6 adg ai adh aU;go_wp2_with fail;refine yg (Below w3.heap.size) [] [(0,true),(1,true),(2,true),(3,true),(4,true),(5,true),(6,true),(7,true),(8,true),(9,true),(10,true),(11,false),(12,true),(13,true),(14,true),(15,true),(16,false),(17,true),(18,false)] (Below.refl w3.heap.size) (λ_ _ _ h k=>h.trans k) e0 e0 ?_;rintro IX rfl;iterate 11 refine m1K ?_
 clear iy Pp TC a7K a7L Np;refine aeR ?_;intro K hK;refine ahq ?_;intro ah;refine(sg (EB.below ah) (EZ.below ah) MM AH (some ⟨adf.heap.size,0,none⟩) 1 1 [⟨some ⟨w3.heap.size,0,none⟩,ade,x.c.name⟩] rfl ad9.1 (ad9.2 _ ah)).mono ?_;exact asq
def Bq(h:xi F O w bp s)(hk:x.c.kind=13\/x.c.kind=14)(hm:x.c.m≠0/\x.c.m≠1):Ca_ 23 #[pa_ bp,.agg x.vals.toArray] w (yh F O w bp (qe s x.c)):=by obtain⟨eE,ey,ox,a6h,a4F,a2v,abw,hi⟩:=h;have A6:=zc hi;refine aeC ?_;intro EW;obtain⟨a2m,MR⟩:=n_ x.c.kind;obtain⟨adj,abC⟩:=n_ x.c.m;have adk:=zc (And.intro MR abC);have uY:=ha_ (qe s x.c=(s,(21,0,[]))/\True) ⟨by unfold qe;rw[if_neg (by omega),if_pos hm],trivial⟩;have aN:(a2m==12)=false:=bq;have aN:(adj==0)=false:=bq;have aN:(adj==1)=false:=bq;have a57:=jo 21;clear hk hi hm MR abC;go_enter func23,ntmps23;go_wp2_with (refine ar0 ?_);refine am7 ?_;intro A4 aF sy EW aB;go_wp2_with (refine aqY ?_);refine amb ?_;intro Ev aF sy EW aB;go_wp2_with (refine aqZ ?_);refine amg ?_;intro IX aF sy EW aB;have EM:=zc (Ext.of_below (D:=O) EW.bel);have uX:=zc (A6.news (A:=[Ev.heap.size,A4.heap.size,w.heap.size]) EW.bel bq);have a9X:=zc (And.intro (A6.low (a:=Ev.heap.size) ae) A6.sub);have iy:=EW.g1.cell 0 (.int .i64 a2m) (by rw[adk.1];rfl);have iy:=EW.g1.cell 3 (.int .i64 adj) (by rw[adk.2];rfl);go_wp2_with (refine EW.g0.zdP rfl rfl rfl (cs:=[.int .i64 21,.int .i64 0,.slice none 0 0]) rfl zn rfl rfl (ye _ _ _ _ _) ?_);exact amm


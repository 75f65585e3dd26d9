/- Lemmas. -/
import Derived.Test.YthomgopipiomhaaGreatDoorBMF11
namespace Go.Proofs.YthomgopipiomhaaGreatDoor
open Go.RowKit
set_option linter.unusedVariables false
set_option linter.unusedSimpArgs false
set_option maxRecDepth 100000
set_option maxHeartbeats 32000000
variable {n n' k k' gw tb B g b:Nat}{A A':Option Addr}{c:Cfg}{w W w' w0:World}{s:Sta}{col cN cN':Col}{css:List (List Value)}{L:Loc}
theorem WldAt.one(h:WldAt w gw tb c A n k)(h':WldAt w gw tb c A' n' k'):A=A'∧n=n':=by
 have e:=h.blk.symm.trans h'.blk;injection e with e;injection e with e;injection e with e;simp only[List.cons.injEq,Value.slice.injEq,true_and,and_true]at e;exact⟨e.1,e.2.1⟩
theorem Sit.beside(h:Sit W B w col g gw tb c s)(hr:Rest w cN w' cN')(hd:∀b,col b≠0→cN b=0)(h1:cN gw=0)(h2:cN tb=0)(h3:∀A n k,WldAt w gw tb c A n k→0<n→∀ad,A=some ad→cN ad.block=0)(h4:∀b,b<W.heap.size→cN b=0):Sit W B w' col g gw tb c s:=by
 obtain⟨L,css,hm⟩:=h.mdl;obtain⟨A,n,k,hw,hA⟩:=h.wld;have hb:=hr.below h4 h.below.size;have h5:=hr.below (B:=3) (fun b hb=>h4 b (by have:=h.base.1;omega)) hm.base.1;have T:Turns (· ==0) w col w' col:=⟨hr.os,hr.tape,hr.output,hr.size,fun b hb hc=>(hr.block b hb (hd b (by simpa using hc))).1,fun _ _=>rfl⟩;refine⟨h.ok,⟨L,css,hm.keep T rfl rfl rfl rfl rfl (fun i hi=>by simp;omega) (hm.fin.mono hr.size)⟩,⟨A,n,k,⟨hr.blk hw.blk h1,Rest.blk hr hw.tab h2,hr.reads hw.seed (h3 A n k hw)⟩,hA⟩,h.gws,h.tbs,h.tabs.below h5.1 (tA4 _),?_,h.low,⟨h.base.1,h.base.2.1,tB1 h.base.2.2 hr.size⟩,h.below.trans hb.1⟩;exact(h5.1.cell (p:=⟨0,0,none⟩) (by show (0:Nat)<3;decide)).trans h.err
structure Twn (W:World)(B:Nat)(w:World)(cM cN:Col)(gM gN gw tb:Nat)(c:Cfg)(s t:Sta):Prop where
 m:Sit W B w cM gM gw tb c s
 n:Sit W B w cN gN gw tb c t
 apart:∀b,cM b=0∨cN b=0
 low:∀b,b<B→cN b=0
section
variable {W w w' : World} {B gM gN gw tb : Nat} {cM cN cM' cN' : Col} {c : Cfg} {s s' t t' : Sta}
theorem Sit.there(h:Sit W B w cM gM gw tb c s):∀b,cM b≠0→b<w.heap.size:=by
 obtain⟨L,css,hm⟩:=h.mdl;exact hm.fin
theorem Twn.call(h:Twn W B w cM cN gM gN gw tb c s t)(hb:Zb w w'):Twn W B w' cM cN gM gN gw tb c s t:=⟨h.m.call hb,h.n.call hb,h.apart,h.low⟩
theorem Twn.stepM(h:Twn W B w cM cN gM gN gw tb c s t)(hm:Sit W B w' cM' gM gw tb c s')(hr:Rest w cM w' cM'):Twn W B w' cM' cN gM gN gw tb c s' t:=by
 refine⟨hm,h.n.beside hr (fun b hb=>(h.apart b).resolve_right hb) h.m.gws.1 h.m.tbs.1 (fun A n k hw h0 ad e=>?_) h.m.low,fun b=>?_,h.low⟩
 · obtain⟨A',n',k',hw',hA'⟩:=h.m.wld
   obtain⟨rfl,rfl⟩:=hw.one hw';exact(hA' h0 ad e).1
 by_cases e:cN b=0
 · exact .inr e
 exact .inl (hr.block b (h.n.there b e) ((h.apart b).resolve_right e)).2
theorem Twn.stepN(h:Twn W B w cM cN gM gN gw tb c s t)(hn:Sit W B w' cN' gN gw tb c t')(hr:Rest w cN w' cN'):Twn W B w' cM cN' gM gN gw tb c s t':=by
 refine⟨h.m.beside hr (fun b hb=>(h.apart b).resolve_left hb) (h.low _ h.m.gws.2) (h.low _ h.m.tbs.2) (fun A n k hw h0 ad e=>?_) (fun b hb=>h.low b (tB0 hb h.m.base.2.1)),hn,fun b=>?_,fun b hb=>?_⟩
 · obtain⟨A',n',k',hw',hA'⟩:=h.m.wld
   obtain⟨rfl,rfl⟩:=hw.one hw';exact h.low _ (hA' h0 ad e).2
 · by_cases e:cM b=0
   · exact .inl e
   exact .inr (hr.block b (h.m.there b e) ((h.apart b).resolve_left e)).2
 exact(hr.block b (tB0 hb h.m.base.2.2) (h.low b hb)).2
theorem Twn.grown(h:Twn W B w cM cN gM gN gw tb c s t)(hg:w.grownBy w' (some b))(h1:cM b=0)(h2:cN b=0)(hb:B≤b):Twn W B w' cM cN gM gN gw tb c s t:=⟨h.m.grown hg h1 hb,h.n.grown hg h2 hb,h.apart,h.low⟩
theorem Twn.start(h:Sit W B w0 cM gM gw tb c s)(hb:Zb w0 w)(hm:Mdl w cN 2 gN c t L css)(ht:t.Ok)(hl:∀b,b<w0.heap.size→cN b=0):Twn W B w cM cN gM gN gw tb c s t:=by
 have hw:=h.call hb;have lo:∀b,b<B→cN b=0:=fun b hb=>hl b (tB0 hb h.base.2.2)
 obtain⟨A,n,k,hW,hA⟩:=hw.wld;refine⟨hw,⟨ht,⟨L,css,hm⟩,⟨A,n,k,hW,fun h0 ad e=>⟨lo _ (hA h0 ad e).2,(hA h0 ad e).2⟩⟩,⟨lo _ hw.gws.2,hw.gws.2⟩,⟨lo _ hw.tbs.2,hw.tbs.2⟩,hw.tabs,hw.err,fun b hb=>lo b (tB0 hb hw.base.2.1),hw.base,hw.below⟩,fun b=>?_,lo⟩;by_cases e:cM b=0
 · exact .inl e
 exact .inr (hl b (h.there b e))
end
section
variable {s : Sta} {L : Loc} {V : List Value}
theorem xdv(h:stav s L=V):V.toArray[4]? =some (.slice (some ⟨L.rg,0,none⟩) 16 L.rc):=by rw[←h];rfl
end
theorem xdw{v:World}(h:Sit W B v col g gw tb c s)(t:Sta)(L:Loc):
 ∃V,stav t L=V∧Hid ((Tryz.prog.info? 49).map (·.size)=some V.length)∧Hid (V.length=6)∧Hid (∀u∈V,u.oneCell'=true)∧Hid (Blk (v.alloc (.cells #[.int .u64 0,.int .u32 0,.int .i64 0,.slice none 0 0,.slice none 0 0,.slice none 0 0] 49)) v.heap.size 49 #[.int .u64 0,.int .u32 0,.int .i64 0,.slice none 0 0,.slice none 0 0,.slice none 0 0])∧
  Hid (Sit W B ((v.alloc (.cells #[.int .u64 0,.int .u32 0,.int .i64 0,.slice none 0 0,.slice none 0 0,.slice none 0 0] 49)).setRow v.heap.size V.toArray) col g gw tb c s∧OwnAt ((v.alloc (.cells #[.int .u64 0,.int .u32 0,.int .i64 0,.slice none 0 0,.slice none 0 0,.slice none 0 0] 49)).setRow v.heap.size V.toArray) col B v.heap.size 49 V∧Zb v ((v.alloc (.cells #[.int .u64 0,.int .u32 0,.int .i64 0,.slice none 0 0,.slice none 0 0,.slice none 0 0] 49)).setRow v.heap.size V.toArray)):=
 ⟨_,rfl,zh1 (by rw[qvo];kernel_rfl),zh1 (qvo t L),zh1 (qvp t L),zh1 (Blk.new _ _ _),zh1 (xc3 h 49 #[.int .u64 0,.int .u32 0,.int .i64 0,.slice none 0 0,.slice none 0 0,.slice none 0 0] (stav t L))⟩
theorem xdx(W:World)(hT:Tabs W)(hE:ErrT W)(cx cy:Int)(st:Nat)(A:Option Addr)(n k:Nat)(bs:List Nat)(hr:Reads W W.heap.size 1 A n (byv bs))(hx: -9223372036854775808≤cx∧cx≤9223372036854775807)(hy: -9223372036854775808≤cy∧cy≤9223372036854775807)(hst:st<4294967296)(hnk:n≤k)(hn:n≤140737488351232)(hbs:∀b∈bs,b<256)
 (l:List Stp)(Al:Option Addr)(nl kl:Nat)(hl:StpsR W Al l)(hll:l.length=nl)(h140:∀S∈l,S.raw.length≤140737488351232)
 (at0:Int)(ha1: -9223372036854775808≤at0)(ha2:at0≤9223372036854775807):
 Zc 10 #[.agg #[.int .i64 cx,.int .i64 cy,.int .u32 (st:Int),.slice A n k],.slice Al nl kl,.int .i64 at0] W fun e w'=>e=.returned (.bool true)∧Below W.heap.size W w':=by
 have hco:=xcy cx cy st bs hbs;obtain⟨c,hc⟩:=xeq (xcx cx cy st bs);rw[hc]at hco;obtain⟨W0,hW0⟩:=eqx (W.alloc (.cells #[.int .i64 cx,.int .i64 cy,.int .u32 (st:Int),.slice A n k] 25));have k0:=zNa hW0;have b0:=zMa hW0;have CC:=xcz cx cy st A n k bs W0 (hr.call b0) hx hy hst hnk hn;rw[hc]at CC;obtain⟨AY,AZ,K0,B0,HT,HE,AB,HL⟩:=zh8 CC hW0 k0 b0 hT hE hco hl;obtain⟨AC,A5⟩:=zh2 hll h140;clear CC hW0 k0 b0 hT hE hco hl hll h140 hr hx hy hst hnk hn hbs hc;go_enter Tryz.func10,Tryz.ntmps10
 go_upto_region 1 with(fail)
 rw[←AZ.o];have RK:=zh1 (qap K0.o 0 [.int .i64 cx,.int .i64 cy,.int .u32 (st:Int),.slice A n k] zjq);go_wp2_with (refine qaq rfl 25 (.tmp 3) rfl W.heap.size 0 rfl [.int .i64 cx,.int .i64 cy,.int .u32 (st:Int),.slice A n k] _ RK.o Tryz.underlying25 rfl zk ?_)
 refine AY.o.mono ?_;rintro e w1 ⟨A1,n1,k1,rfl,r1,a1,b1⟩;obtain⟨K1,R1,AK,B1⟩:=zh4 (K0.below b1 K0.lt) r1 a1 b1;clear r1 a1 b1;go_upto_region 2 with(refine wpList_store_row rfl 25 (.tmp 3) (.tmp 17) rfl W.heap.size #[.int .i64 c.width,.int .i64 c.quantum,.int .u32 (c.store:Int),.slice A1 n1 k1] rfl rfl 25 _ K1.o zk zm (by simp[Value.oneCell']) ?_)
 obtain⟨W2,hW2⟩:=eqx (w1.setRow W.heap.size #[.int .i64 c.width,.int .i64 c.quantum,.int .u32 (c.store:Int),.slice A1 n1 k1]);rw[←hW2];have hg2:w1.grownBy W2 (some W.heap.size):=by rw[hW2];exact qam _ _ _
 have ne2:∀ad,A1=some ad→ad.block≠W.heap.size:=fun ad e h=>by
  have h1:=AK.o ad e;have h2:=K0.lt;omega
 have k2:Blk W2 W.heap.size 25 #[.int .i64 c.width,.int .i64 c.quantum,.int .u32 (c.store:Int),.slice A1 n1 k1]:=by rw[hW2];exact K1.setRow _
 have r2:=xd0 R1.o hg2 ne2;have b2:Below W.heap.size W W2:=(B0.trans (B1.mono B0.size)).grown hg2 (tB1 B0.size B1.size) (by intro g hg;injection hg with hg;omega);have CN:=xap c A1 n1 k1 W2 AB.o r2 (HT.below b2 HT.size);obtain⟨K2,R2,B2,B4,L2,B5⟩:=zh6 k2 r2 b2 CN (show ∀ad,A1=some ad→W.heap.size<ad.block from fun ad e=>by have h1:=AK.o ad e;have h2:=K0.lt;omega) (qap k2 0 [.int .i64 c.width,.int .i64 c.quantum,.int .u32 (c.store:Int),.slice A1 n1 k1] zjq);clear hW2 hg2 ne2 k2 r2 b2 CN RK K1 R1;go_wp2_with (refine qaq rfl 25 (.tmp 3) rfl W.heap.size 0 rfl [.int .i64 c.width,.int .i64 c.quantum,.int .u32 (c.store:Int),.slice A1 n1 k1] _ B5.o Tryz.underlying25 rfl zk ?_)
 refine B4.o.mono ?_;rintro e w3 ⟨g,L,css,col,rfl,m3,z3,b3⟩;have K3c:=zh1 (K2.below b3 K2.lt);have B6:=zh1 (qap K3c.o 0 [.int .i64 c.width,.int .i64 c.quantum,.int .u32 (c.store:Int),.slice A1 n1 k1] zjq);have CW:=xas c A1 n1 k1 w3 (R2.call b3);obtain⟨B7,M3,Z3,B3⟩:=zh4 CW m3 z3 b3;clear m3 z3 b3 CW;go_wp2_with (refine qaq rfl 25 (.tmp 3) rfl W.heap.size 0 rfl [.int .i64 c.width,.int .i64 c.quantum,.int .u32 (c.store:Int),.slice A1 n1 k1] _ B6.o Tryz.underlying25 rfl zk ?_)
 refine B7.o.mono ?_;rintro e w4 ⟨gw,tb,rfl,wa4,lg,lt,b4⟩;have s4:=xd1 HT.o HE.o B2.o R2.o M3.o Z3.o B3.o wa4 lg lt b4;obtain⟨B,hB⟩:=xeq w4.heap.size;obtain⟨S4,b24⟩:=zh2 s4 (B3.trans (b4.mono B3.size));obtain⟨K4,B8,LG,LT⟩:=zh4 (K2.below b24.o K2.lt) (show col W.heap.size=0 from Z3.o _ K2.lt) (show W.heap.size<gw by have:=K2.lt;have:=B3.size;omega) (show W.heap.size<tb by have:=K2.lt;have:=B3.size;omega);rw[hB]at S4;have B9:=zh1 wa4;have BA:=zh1 (show 0<n1→∀ad,A1=some ad→col ad.block=0 from fun h0 ad e=>by
  obtain⟨ad',e',hlt,_⟩:=R2.o.2 h0;rw[e]at e';injection e' with e';subst e';exact Z3.o _ hlt)
 clear s4 wa4 lg lt b4 hB;have AL:=zh1 (fun w=>xc8 at0 0 15 w zo zo zo ha1 ha2);have hwi:=xc7 at0 0 15 zo;obtain⟨AT,hAT⟩:=xeq (xc6 at0 0 15);rw[hAT]at hwi AL;clear ha1 ha2 hAT;go_wp2_with fail
 refine(AL.o w4).mono ?_;rintro e w' ⟨rfl,rfl⟩;obtain⟨w4,rfl⟩:=eqx w4;have hnll:=AC.o;have hnll:=AC.o;go_upto_block 0 with fail
 go_cut [10] (fun s10 wx=>∃(colr:Col) (s:Sta),Hid (Sit W B wx colr g gw tb c s))
 case first=>
  go_wp2_with fail
  go_loopw [10] (fun i wr=>∃(j:Nat) (colr:Col),j≤nl∧j≤20∧i=.int .i64 j∧Hid (Sit W B wr colr g gw tb c (xd2 c (newS c) (l.take j)))∧Hid (Rest w4 col wr colr)) (fun i _=>20 - (intOf i).toNat)
  case atStart=>exact⟨0,col,by omega,by omega,rfl,S4,zh1 ⟨rfl,rfl,rfl,tA4 _,fun _ _ h=>⟨rfl,h⟩⟩⟩
  case round=>
   obtain⟨j,colr,hj,hj20,rfl,hs,hr⟩:=hrel;by_cases h1:j<nl
   ·
    have q1:(j:Int)<nl:=zo;by_cases h2:j<20
    ·
     have q2:(j:Int)<20:=zo;by_cases hat:(j:Int)=AT
     ·
      have CS:=xbc hs.o;obtain⟨s,hs0⟩:=xeq (xd2 c (newS c) (l.take j));have BB:=zh1 hs0;rw[hs0]at CS hs;have AD:=zh1 CS;have wl5:=B9.rest hr.o S4.gws.1 S4.tbs.1 BA.o;obtain⟨K5,AM⟩:=zh2 (hr.blk K4.o B8.o) wl5.seed;clear CS hs0 wl5;subst hat;go_wp2_with fail
      refine AD.o.mono ?_;rintro e w7 ⟨ccA,LA,cssA,rfl,stA,nA,bA,sA⟩;have cpA:CpAt w7 colr ccA LA cssA s:=⟨stA,fun b hb=>⟨(nA b hb).2,hs.new0 (nA b hb).1⟩⟩;have lrg:=nA LA.rg (by rw[stA.tres.1];decide);have hB:=hs.base.2.2;obtain⟨SV,hSV,IS,LS,OS,N7,AG⟩:=xdw sA s LA;rw[hSV];obtain⟨AN,AO,AH,K7,AP⟩:=zh5 hSV cpA (show B≤LA.rg∧LA.rg<w7.heap.size by omega) (K5.below bA K5.lt) (AM.call bA);clear hSV cpA lrg hB stA nA bA sA AD K5 AM;go_upto_region 12 with(refine zst N7.o IS.o (by simp[LS.o]) OS.o ?_)
      obtain⟨W7,hW7⟩:=eqx ((w7.alloc (.cells #[.int .u64 0,.int .u32 0,.int .i64 0,.slice none 0 0,.slice none 0 0,.slice none 0 0] 49)).setRow w7.heap.size SV.toArray);rw[←hW7];rw[←hW7]at AG;obtain⟨GA,hGA⟩:=xeq w7.heap.size;rw[hGA]at AH ⊢;obtain⟨s8,x8,b8⟩:=AG.o;rw[hGA]at x8;have cp8:=AO.call b8;have k8:=K7.below b8 K7.lt;have CF:=xdu c A1 n1 k1 s LA ccA cssA W7 AB.o (AP.call b8) s8.tabs s8.ok cp8.st;rw[AN.o]at CF;obtain⟨AQ,RK,RS,S8,X8,AE⟩:=zh6 CF (qap k8 0 [.int .i64 c.width,.int .i64 c.quantum,.int .u32 (c.store:Int),.slice A1 n1 k1] zjq) x8.rng s8 x8 cp8;clear CF k8 cp8 hW7 hGA s8 x8 b8 AG N7 AO K7 AP;go_wp2_with (first
       |(refine qaq rfl 25 (.tmp 3) rfl W.heap.size 0 rfl [.int .i64 c.width,.int .i64 c.quantum,.int .u32 (c.store:Int),.slice A1 n1 k1] _ RK.o Tryz.underlying25 rfl zk ?_)
       |(refine zld RS.o zu49 IS.o ?_))
      refine AQ.o.mono ?_;rintro e w9 ⟨gN,LN,cssN,colN,rfl,mN,lN,b9⟩;have tw:=Twn.start S8.o b9 mN S8.ok lN;obtain⟨-,sp,hblk,hxl,-⟩:=AE.st.tres;obtain⟨AR,X9,AS,AU,A6⟩:=zh5 tw (X8.call b9) (show ∃X:Array Value,Blk w9 LA.rg 74 X∧1200≤X.size from⟨_,hblk.below b9 hblk.lt,by rw[tB6,tA6,hxl];omega⟩) (show colr LA.rg=0∧colN LA.rg=0 from⟨(AE.own _ (by rw[AE.st.tres.1];decide)).2,lN _ hblk.lt⟩) (xd4 tw.n);clear tw hblk hxl mN lN b9 AQ RK RS S8 X8 AE;go_wp2_with fail
      refine A6.o.mono ?_;rintro e wa ⟨cc2,L2,css2,rfl,cp2,ba,sa⟩;have ta:=AR.call ba;have st2:=cp2.stR sa.ok;obtain⟨SN,hSN⟩:=xeq (stav s L2);rw[hSN]at st2 ⊢;obtain⟨A7,TA,A8,XA⟩:=zh4 (xd4 ta.m) ta st2 (X9.call ba);have AV:=zh1 (show ∃X:Array Value,Blk wa LA.rg 74 X∧1200≤X.size from by
       obtain⟨X,h1,h2⟩:=AS.o;exact⟨X,h1.below ba h1.lt,h2⟩)
      clear cp2 ba sa ta st2 hSN A6 AR X9 AS;go_wp2_with fail
      refine A7.o.mono ?_;rintro e wb ⟨cc3,L3,css3,rfl,cp3,bb,sb⟩;have st3:=cp3.stR sb.ok;obtain⟨SM,hSM⟩:=xeq (stav s L3);rw[hSM]at st3 ⊢;have A4:=xdn SN SM s s wb (A8.call bb) st3;rw[decide_eq_true rfl]at A4;obtain⟨A0,TB,XB⟩:=zh3 A4 (TA.call bb) (XA.call bb);have AW:=zh1 (show ∃X:Array Value,Blk wb LA.rg 74 X∧1200≤X.size from by
       obtain⟨X,h1,h2⟩:=AV.o;exact⟨X,h1.below bb h1.lt,h2⟩)
      clear cp3 bb sb st3 hSM A4 A7 TA XA AV A8;go_wp2_with fail
      refine zcb A0.o fun wc bc=>?_
      have TC:=zh1 (TB.call bc);have xc:=XB.call bc;have C4:=zh1 xc.blk;have BC:=zh1 (show ∃X:Array Value,Blk wc LA.rg 74 X∧1200≤X.size from by
       obtain⟨X,h1,h2⟩:=AW.o;exact⟨X,h1.below bc h1.lt,h2⟩)
      clear xc bc A0 TB XB AW;go_wp2_with fail
      go_loopw [14] (fun i wr=>∃k:Nat,k≤16∧i=.int .i64 k∧Hid (Twn W B wr colr colN g gN gw tb c s s)∧Hid (Blk wr GA 49 SV.toArray)∧Hid (∃X:Array Value,Blk wr LA.rg 74 X∧1200≤X.size)) (fun i _=>16 - (intOf i).toNat)
      case atStart=>exact⟨0,by omega,rfl,TC,C4,BC⟩
      case round=>
       obtain⟨k,hk,rfl,ht,hc4,hbl⟩:=hrel;have c4:=(hc4.cell 4).trans (xdv AN.o);by_cases hk16:k<16
       ·
        have r1:(k:Int)<16:=zo;have r0:(0:Int)≤k:=zo;obtain⟨X,hX,hXs⟩:=hbl.o;obtain⟨v,hv⟩:∃v,X[k*75]? =some v:=⟨_,Array.getElem?_eq_getElem zo⟩;have e0:=(hX.cell (k*75)).trans hv;have f0:=hX.frozen (k*75);obtain⟨BLk,TWk,C4k⟩:=zh3 (show ∃X:Array Value,Blk (wr.setCell ⟨LA.rg,k*75,none⟩ (.int .i64 99)) LA.rg 74 X∧1200≤X.size from⟨_,hX.set_ _ _,by simpa using hXs⟩) (ht.grown (qab (tB9 wr (some LA.rg)) (p:=⟨LA.rg,k*75,none⟩) (.inl rfl) (.int .i64 99)) AU.o.1 AU.o.2 AH.o.1) (hc4.grown (qab (tB9 wr (some LA.rg)) (p:=⟨LA.rg,k*75,none⟩) (.inl rfl) (.int .i64 99)) (by intro e;injection e with e;have:=AH.o;omega));clear hX hXs hv ht hc4 hbl;go_upto_region 17 with(fail)
        obtain⟨Wk,hWk⟩:=eqx (wr.setCell ⟨LA.rg,k*75,none⟩ (.int .i64 99));rw[←hWk]at BLk TWk C4k ⊢;clear hWk e0 f0 c4;go_wp2
        go_roundw
        case rel=>exact⟨k+1,by omega,by go_num,TWk,C4k,BLk⟩
        case measure=>simp[intOf];omega
       have r1:¬(k:Int)<16:=zo;clear hbl;go_wp2_with fail
       clear c4;go_loopw [15] (fun i wr=>∃(m:Nat) (cM cN:Col),j≤m∧m≤nl∧m≤j+5∧i=.int .i64 m∧Hid (Twn W B wr cM cN g gN gw tb c (xd2 c (newS c) (l.take m)) (xd2 c (newS c) (l.take m)))) (fun i _=>j+5 - (intOf i).toNat)
       case atStart=>exact⟨j,colr,colN,by omega,by omega,by omega,rfl,by rw[BB.o];exact ht⟩
       case round=>
        obtain⟨m,cM,cN,hm1,hm2,hm3,rfl,htw⟩:=hrel;have p5:IntKind.i64.wrap ((j:Int)+5)=(j:Int)+5:=tBb _ zo;have p6:wrap64 ((j:Int)+5)=(j:Int)+5:=IntWalk.wrap64_in _ zo;by_cases h3:m<nl
        ·
         have q3:(m:Int)<nl:=zo;by_cases h4:m<j+5
         ·
          have q4:(m:Int)<(j:Int)+5:=zo;obtain⟨T0,hT0⟩:∃S,l[m]? =some S:=⟨_,tA7 (by rw[AC.o];exact h3)⟩;have hst:=xd3 (c:=c) (s:=newS c) hT0;obtain⟨sm,hsm⟩:=xeq (xd2 c (newS c) (l.take m));rw[hsm]at htw hst;obtain⟨gb,go,cs,hA,h53,hstp,hrg⟩:=HL.at_ hT0;subst hA;obtain⟨BD,AI,HI,BE⟩:=zh4 (fun(w':World)(h:Below W.heap.size W w')=>hstp.stay h.size (fun b hb=>h.block b hb)) hrg (zI 44 h53) (A5.o T0 (tB2 hT0));obtain⟨⟨s',ab⟩,hx⟩:∃x,xbm c sm T0=x:=⟨_,rfl⟩;have AF:=zh1 (fun(w:World)(col:Col)(gx:Nat)(h:Sit W B w col gx gw tb c sm)=>xcw h AB.o T0 cs (BD.o w h.below) BE.o);rw[hx]at AF hst;dsimp only at hst;have BG:=zh1 hst;obtain⟨ES,hES⟩:=xeq (bstr ab);have AJ:=zh1 hES;clear hT0 hst hsm hstp hrg h53 hx hES;go_upto_region 22 with(fail)
          clear p5 p6;obtain⟨S,HS9⟩:=zS fun w'=>Below W.heap.size W w'
          refine qjn S 25 [100,107,108,109,110,111,113] [(0,false),(1,false),(2,false),(3,false),(4,false),(5,false),(8,false),(9,false),(10,false),(11,false),(12,false),(13,false),(6,true)] 7 (.two 7 (.one 14 (.one 15 (.read 16 (.read 17 (.read 18 (.read 20 .done)))))) 14 (.two 7 (.one 15 (.read 16 (.read 17 (.read 18 (.read 20 .done))))) 15 (.one 7 (.read 16 (.read 17 (.read 18 (.read 20 .done))))))) [(19,true),(21,true),(22,true),(23,false),(24,false)] #[true,true,true,true,true,true,true,false,true,true,true,true,true,true,false,false,false,false,false,false,false,false,false,false,false] #[true,true,true,true,true,true,true,true,true,true,true,true,true,true,true,true,true,true,true,false,true,false,false,false,false] zk rfl zk zk zk zk zk (fun _ _ d _ _ h=>by cases d<;>exact h) ((HS9.o _).mpr (htw.m.below.drew)) ?_;have FR:=zh1 (fun(w':World)(h:S w')=>(fun i v hv=>qai (AI.o i v hv) ((HS9.o w').mp h):w'.rangeAt gb (go+m*53) cs));iterate 5 (refine qju rfl rfl ⟨?_,fun w1 hS=>?_,?_⟩;rotate_left;(focus(go_simp;try rfl));simp only[Act.put,tA0,tA1,tA2])
          refine qp2 rfl rfl 44 (.tmp 97) rfl gb (go+m*53) rfl cs _ FR.o Tryz.underlying44 rfl HI.o ?_;refine zP ?_;iterate 5 (refine qju rfl rfl ⟨?_,fun w1 hS=>?_,?_⟩;rotate_left;(focus(go_simp;try rfl));simp only[Act.put,tA0,tA1,tA2])
          refine qp2 rfl rfl 44 (.tmp 105) rfl gb (go+m*53) rfl cs _ FR.o Tryz.underlying44 rfl HI.o ?_;refine zP ?_;obtain⟨Wd,hWd⟩:=eqx wr.drew;have TD:=zh1 (show Twn W B Wd cM cN g gN gw tb c sm sm by rw[hWd];exact htw.call (tA5 _ _).drew);rw[←hWd];clear hWd;have HM:=zh1 (AF.o Wd cM g TD.m);refine qjv rfl rfl ?_;go_simp;refine HM.o.mono ?_;rintro e w2 ⟨v1,cM2,rfl,o1,-,s1,r1⟩;dsimp only at o1 s1;have T2:=zh1 (TD.stepM s1 r1);obtain⟨A2,n2,c2,rfl,-,-,rd1⟩:=OwnB.sl o1;have low1:∀ad,A2=some ad→cN ad.block=0:=fun ad e=>by
           have h1:Wd.heap.size≤ad.block:=by
            subst e;rcases o1.2 with⟨e,_⟩|⟨g',cap,cur,e,hg',_⟩
            · injection e with e;cases e
            injection e with e;injection e with e;subst e;exact hg'
           by_cases e2:cN ad.block=0
           · exact e2
           have:=TD.n.there _ e2;omega
          obtain⟨A9,AX,HN⟩:=zh3 low1 rd1 (AF.o w2 cN gN T2.n);have q1:=qe9 (c:=c2) rd1;rw[AJ.o]at q1;have Q1:=zh1 q1;clear o1 s1 r1 low1 rd1 HM q1;refine⟨(HS9.o _).mpr T2.m.below,?_⟩;refine zP ?_;refine qjt ?_;refine⟨fun vs w'=>∃v7 cM' cN',vs=[.string ES,v7,.string ES,.bool false,.bool false,.pointer (some ⟨gN,0,none⟩),.pointer (some ⟨g,0,none⟩)]∧Twn W B w' cM' cN' g gN gw tb c s' s',?_,?_⟩
          ·
           refine qjs rfl rfl rfl rfl ?_ ?_
           ·
            have q1:=Q1.o;go_simp;clear q1;refine⟨(HS9.o _).mpr T2.m.below,?_⟩;refine zP ?_;refine qjr rfl rfl ?_;go_simp;refine HN.o.mono ?_;rintro e w3 ⟨v2,cN3,rfl,o2,-,s2,r2⟩;dsimp only at o2 s2;have T3:=zh1 (T2.stepN s2 r2);obtain⟨A3,n3,c3,rfl,-,-,rd2⟩:=OwnB.sl o2;have q2:=qe9 (c:=c3) rd2;rw[AJ.o]at q2;clear o2 s2 r2 rd2 HN;refine⟨(HS9.o _).mpr T3.m.below,?_⟩;refine zP ?_;refine qjr rfl rfl ?_;go_simp;clear q2;refine⟨(HS9.o _).mpr T3.m.below,?_⟩;refine zP ?_;refine qjp rfl rfl ⟨.bool false,fun w1 hS=>by go_simp,?_⟩;refine zP ?_;iterate 3 (refine qjp rfl rfl ⟨?_,fun w1 hS=>?_,?_⟩;rotate_left;(focus(go_simp;try rfl));simp only[Act.put,tA0,tA1,tA2])
            refine qjo ?_;refine⟨[.string ES,.slice A3 n3 c3,.string ES,.bool false,.bool false,.pointer (some ⟨gN,0,none⟩),.pointer (some ⟨g,0,none⟩)],?_,?_⟩
            · simp only[puts,Act.put,tA0,tA1,tA2]
            exact⟨⟨_,rfl⟩,cM2,cN3,T3.o⟩
           go_simp;refine HN.o.mono ?_;rintro e w3 ⟨v2,cN3,rfl,o2,-,s2,r2⟩;dsimp only at o2 s2;have T3:=zh1 (T2.stepN s2 r2);obtain⟨A3,n3,c3,rfl,-,-,rd2⟩:=OwnB.sl o2;have q1:=qe9 (c:=c2) (r2.reads AX.o (fun _=>A9.o));have q2:=qe9 (c:=c3) rd2;rw[AJ.o]at q1 q2;clear o2 s2 r2 rd2 HN;refine⟨(HS9.o _).mpr T3.m.below,?_⟩;refine zP ?_;refine qjs rfl rfl rfl rfl ?_ ?_
           · go_simp
             refine⟨(HS9.o _).mpr T3.m.below,?_⟩;refine zP ?_;refine qjr rfl rfl ?_;go_simp;clear q1 q2;refine⟨(HS9.o _).mpr T3.m.below,?_⟩;refine zP ?_;refine qjp rfl rfl ⟨.bool false,fun w1 hS=>by go_simp,?_⟩;refine zP ?_;iterate 3 (refine qjp rfl rfl ⟨?_,fun w1 hS=>?_,?_⟩;rotate_left;(focus(go_simp;try rfl));simp only[Act.put,tA0,tA1,tA2])
             refine qjo ?_;refine⟨[.string ES,.slice A3 n3 c3,.string ES,.bool false,.bool false,.pointer (some ⟨gN,0,none⟩),.pointer (some ⟨g,0,none⟩)],?_,?_⟩
             · simp only[puts,Act.put,tA0,tA1,tA2]
             exact⟨⟨_,rfl⟩,cM2,cN3,T3.o⟩
           go_simp;refine⟨(HS9.o _).mpr T3.m.below,?_⟩;refine zP ?_;refine qjr rfl rfl ?_;go_simp;clear q1 q2;refine⟨(HS9.o _).mpr T3.m.below,?_⟩;refine zP ?_;refine qjp rfl rfl ⟨.bool false,fun w1 hS=>by go_simp,?_⟩;refine zP ?_;iterate 3 (refine qjp rfl rfl ⟨?_,fun w1 hS=>?_,?_⟩;rotate_left;(focus(go_simp;try rfl));simp only[Act.put,tA0,tA1,tA2])
           refine qjo ?_;refine⟨[.string ES,.slice A3 n3 c3,.string ES,.bool false,.bool false,.pointer (some ⟨gN,0,none⟩),.pointer (some ⟨g,0,none⟩)],?_,?_⟩
           · simp only[puts,Act.put,tA0,tA1,tA2]
           exact⟨⟨_,rfl⟩,cM2,cN3,T3.o⟩
          rintro vs w4 - ⟨v7,cM',cN',rfl,tw4⟩;simp only[puts,Act.put,tA0,tA1,tA2];obtain⟨T4,A6⟩:=zh2 tw4 (xd4 tw4.n);clear tw4 T2 TD A9 AX Q1 HN AF;refine qbi rfl rfl ?_;go_simp;refine A6.o.mono ?_;rintro e wa ⟨cc5,L5,css5,rfl,cp5,ba,sa⟩;have st2:=cp5.stR sa.ok;obtain⟨BH,hSN⟩:=xeq (stav s' L5);rw[hSN]at st2 ⊢;obtain⟨TA,A8⟩:=zh2 (T4.call ba) st2;have A7:=zh1 (xd4 TA.m);clear cp5 ba sa st2 hSN A6 T4;refine⟨(HS9.o _).mpr TA.m.below,?_⟩;refine zP ?_;refine qbi rfl rfl ?_;go_simp;refine A7.o.mono ?_;rintro e wb ⟨cc6,L6,css6,rfl,cp6,bb,sb⟩;have st3:=cp6.stR sb.ok;obtain⟨BI,hSM⟩:=xeq (stav s' L6);rw[hSM]at st3 ⊢;have A4:=xdn BH BI s' s' wb (A8.call bb) st3;rw[decide_eq_true rfl]at A4;obtain⟨A0,TB⟩:=zh2 A4 (TA.call bb);clear cp6 bb sb st3 hSM A4 A7 TA A8;refine⟨(HS9.o _).mpr TB.m.below,?_⟩;refine zP ?_;refine qbi rfl rfl ?_;go_simp;refine zcb A0.o fun wc bc=>?_
          have TC':=zh1 (TB.call bc);clear bc A0 TB;refine⟨(HS9.o _).mpr TC'.m.below,?_⟩;refine zP ?_;iterate 2 (refine qbg rfl rfl ⟨?_,fun w1 hS=>?_,?_⟩;rotate_left;(focus(go_simp;try rfl));simp only[Act.put,tA0,tA1,tA2])
          refine qbf ?_;clear HS9 FR;go_wp2
          go_roundw
          case rel=>exact⟨m+1,cM',cN',by omega,by omega,by omega,by go_num,by rw[BG.o];exact TC'⟩
          case measure=>simp[intOf];omega
         have q4:¬(m:Int)<(j:Int)+5:=zo;have AA:=zh1 (xbe wr (htw.o).m.tabs (htw.o).m.err);go_wp2_with fail
         refine zcb AA.o fun wf bf=>?_
         have BF:=zh1 ((htw.o).m.below.trans (bf.mono (htw.o).m.below.size));clear bf;go_wp2
         go_ret
         exact⟨rfl,BF.o⟩
        have q3:¬(m:Int)<nl:=zo;have AA:=zh1 (xbe wr (htw.o).m.tabs (htw.o).m.err);go_wp2_with fail
        refine zcb AA.o fun wf bf=>?_
        have BF:=zh1 ((htw.o).m.below.trans (bf.mono (htw.o).m.below.size));clear bf;go_wp2
        go_ret
        exact⟨rfl,BF.o⟩
     have hS0:=HL.stay hs.below.size (fun b hb=>hs.below.block b hb);obtain⟨S,hS⟩:∃S,l[j]? =some S:=⟨_,tA7 (by rw[AC.o];exact h1)⟩;obtain⟨gb,go,cs,hA,h53,hst,hrg⟩:=hS0.at_ hS;subst hA;obtain⟨AD,BJ,AI,HI⟩:=zh4 (xcw hs.o AB.o S cs hst (A5.o S (tB2 hS))) hS hrg (zI 44 h53);clear hS hS0 hst hrg h53;go_wp2_with (refine zld AI.o zu44 HI.o ?_)
     refine AD.o.mono ?_;rintro e w5 ⟨v5,col5,rfl,-,-,s5,r5⟩;obtain⟨S5,R5⟩:=zh2 s5 (hr.trans r5);clear s5 r5;go_wp2
     go_roundw
     case rel=>
      refine⟨j+1,col5,by omega,by omega,by go_num,?_,R5⟩;rw[xd3 BJ.o];exact S5
     case measure=>simp[intOf];omega
    have q2:¬(j:Int)<20:=zo;go_wp2
    go_meet
    case rel=>exact⟨colr,_,hs⟩
   have q1:¬(j:Int)<nl:=zo;go_wp2
   go_meet
   case rel=>exact⟨colr,_,hs⟩
 case rest=>
  obtain⟨colr,s,hs⟩:=hcut;have AA:=zh1 (xbe wc hs.tabs hs.err);go_wp2_with fail
  refine zcb AA.o fun wf bf=>?_
  have BF:=zh1 (hs.below.trans (bf.mono hs.below.size));clear bf;go_wp2
  go_ret
  exact⟨rfl,BF.o⟩
end Go.Proofs.YthomgopipiomhaaGreatDoor

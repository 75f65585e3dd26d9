/- Lemmas. -/
import Derived.Test.YthomgopipiomhaaGreatDoorBML15
namespace Go.Proofs.YthomgopipiomhaaGreatDoor
open Go.RowKit
set_option linter.unusedVariables false
set_option linter.unusedSimpArgs false
set_option maxRecDepth 100000
set_option maxHeartbeats 32000000
variable {bs:List Nat}{s:Sta}{c:Cfg}{B g gw tb size n b k nq cq m c3 i G:Nat}{col col' cc c1 c2 d1 d2:Col}{W w w' w1 w2 w4:World}{xs V:List Value}{A Ac Aq A1 A2 A3:Option Addr}{css:List (List Value)}{L M:Loc}{R:Req}{t:Tre}{x:Ten}{Q:Exit→Act→World→Prop}{a:Act}{o:Oper}
theorem xcu(R:Req)(ht:R.tag.length=32):(qit R).2.length≤4294967400:=by
 have h1:=qiw R;have h2:=qe7 R.tid R.cavs R.tag ht;unfold qit;split
 · split
   · simp only[tA6,txt,tBi,List.length_nil,qaw,tBd]
     omega
   simp
 simp
theorem xcv(c:Cfg){S:Stp}(hr:S.r.Good)(h1:∀x∈S.cavs,x.2<4294967296)(h2:∀x∈S.cavs,(Lit.int .i64 x.1).wf=true)(h:bytesOf c S=some bs):bs.length≤140737488355328:=by
 have hg:=xby c hr h1 h2;unfold bytesOf at h;split at h
 · injection h with h
   rw[←h,tBd];omega
 split at h
 · injection h with h
   rw[←h];have:=xcu (xbl c S) hg.tag;omega
 cases h
theorem xcw(h:Sit W B w col g gw tb c s)(hc:c.Ok)(S:Stp)(cs:List Value)(hs:StpR w cs S)(h140:S.raw.length≤140737488351232):
 Zc 15 #[.pointer (some ⟨g,0,none⟩),.pointer (some ⟨gw,0,none⟩),.agg cs.toArray] w fun e w'=>∃v col',e=.returned v∧OwnB w' w.heap.size v (xbm c s S).2∧(∀g,v.ownBlock=some g→col' g=0)∧Sit W B w' col' g gw tb c (xbm c s S).1∧Rest w col w' col':=by
 obtain⟨AV,hAV⟩:=xeq (xbm c s S);rw[hAV];have c0:cs[0]? =some (.int .i64 S.kind)∧cs[52 - 1]? =some (.int .u32 (S.n:Int))∧cs.length=53∧(Lit.int .i64 S.kind).wf=true∧S.n<4294967296∧S.r.Good∧(∀x∈S.cavs,x.2<4294967296)∧(∀x∈S.cavs,(Lit.int .i64 x.1).wf=true)∧∀b∈S.raw,b<256:=by
  obtain⟨Ac,cc,Al,cl,Ak,ck,Ar,cr,rfl,hg,h1,h2,⟨k1,k2,k3,k4,k5⟩,⟨hr1,hr2,hr3,hr4⟩,h5,h6,h7⟩:=hs;exact⟨rfl,qns S _ _ _ _ hg.tag 2,qnq S _ _ _ _ hg.tag,h6,h5,hg,k4,k5,hr4⟩
 obtain⟨c0,c51,lC,hwf,hn32,good,k4,k5,hr4⟩:=c0;obtain⟨W0,hW0⟩:=eqx (w.alloc (.cells cs.toArray 44));have t0:=zNa hW0;have b0:=zMa hW0;obtain⟨kd,hkd⟩:=xeq S.kind;rw[hkd]at c0;have e0:=(t0.cell 0).trans (show cs.toArray[0]? =some (.int .i64 kd) by simpa using c0);have e51:=(t0.cell 51).trans (show cs.toArray[51]? =some (.int .u32 (S.n:Int)) by simpa using c51);obtain⟨A0,n0,k0,hw0,-⟩:=h.wld;have CB:=xct gw tb c A0 n0 k0 S cs W0 (hw0.call b0) hc (hs.stay b0.size (fun b hb=>b0.block b hb)) h140;obtain⟨HI,A7,A8,A4,A5,AC,A2,A1⟩:=zh8 (zI 44 lC) (qap t0 0 cs zjq) CB (h.call b0) b0 hW0 hAV hkd;obtain⟨HC,HN,AA,AB,LW⟩:=zh5 hc hn32 (fun(b:List Nat)(hb:bytesOf c S=some b)=>xbz c good k4 k5 hr4 hb) (fun(b:List Nat)(hb:bytesOf c S=some b)=>xcv c good k4 k5 hb) b0.size;clear CB hw0 h hs hAV hkd hc b0 hW0 t0 c0 c51 lC hwf hn32 good k4 k5 hr4;go_enter Tryz.func15,Tryz.ntmps15
 go_upto_region 1 with(fail)
 rw[←AC.o];by_cases h2:kd=2
 ·
  subst h2;go_wp2_with fail
  refine(qzv A4.o HC.o).mono ?_;rintro e w1 ⟨rfl,col1,s1,r1⟩;obtain⟨S1,R1⟩:=zh2 s1 ((Rest.of_below A5.o).trans r1);clear s1 r1;go_wp2
  go_ret
  have hav:=A2.o;unfold xbm at hav;rw[if_pos A1.o]at hav;refine⟨_,col1,rfl,?_,?_,?_,R1.o⟩
  · rw[←hav];exact OwnB.nil _ _
  · intro g hg;cases hg
  rw[←hav];exact S1.o
 by_cases h3:kd=3
 ·
  subst h3;go_wp2_with fail
  refine(qzw A4.o).mono ?_;rintro e w1 ⟨rfl,s1,r1⟩;obtain⟨S1,R1⟩:=zh2 s1 ((Rest.of_below A5.o).trans r1);clear s1 r1;go_wp2
  go_ret
  have hav:=A2.o;unfold xbm at hav;rw[if_neg (by rw[A1.o];decide),if_pos A1.o]at hav;refine⟨_,col,rfl,?_,?_,?_,R1.o⟩
  · rw[←hav];exact OwnB.nil _ _
  · intro g hg;cases hg
  rw[←hav];exact S1.o
 by_cases h4:kd=4
 ·
  subst h4;go_wp2_with fail
  refine(qzx A4.o S.n HN.o).mono ?_;rintro e w1 ⟨rfl,s1,r1⟩;obtain⟨S1,R1⟩:=zh2 s1 ((Rest.of_below A5.o).trans r1);clear s1 r1;go_wp2
  go_ret
  have hav:=A2.o;unfold xbm at hav;rw[if_neg (by rw[A1.o];decide),if_neg (by rw[A1.o];decide),if_pos A1.o]at hav;refine⟨_,col,rfl,?_,?_,?_,R1.o⟩
  · rw[←hav];exact OwnB.nil _ _
  · intro g hg;cases hg
  rw[←hav];exact S1.o
 by_cases h1:kd=1
 ·
  subst h1;go_wp2_with (refine zld A7.o zu44 HI.o ?_)
  refine A8.o.mono ?_;rintro e w1 ⟨v,bs,ok,rfl,ob,hy,hn,b1⟩;obtain⟨OB,S1,B1⟩:=zh3 ob (A4.call b1) (A5.trans (b1.mono LW.o));clear ob b1;cases hby:bytesOf c S with
  |none=>
   have hok:=hn hby;subst hok;have A3:=zh1 hby;clear hy hn hby;go_wp2
   go_ret
   have hav:=A2.o;unfold xbm at hav;rw[if_neg (by rw[A1.o];decide),if_neg (by rw[A1.o];decide),if_neg (by rw[A1.o];decide),if_pos (by rw[A1.o];decide),A3.o]at hav;refine⟨_,col,rfl,?_,?_,?_,Rest.of_below B1.o⟩
   · rw[←hav];exact OwnB.nil _ _
   · intro g hg;cases hg
   rw[←hav];exact S1.o
  |some b=>
   obtain⟨hok,hb⟩:=hy b hby;subst hok hb;obtain⟨A3,LB,BT⟩:=zh3 hby (AB.o bs hby) (AA.o bs hby);clear hy hn hby;obtain⟨A9,n9,c9,rfl,-,-,r9⟩:=OB.sl;have hn9:=qb4 r9;obtain⟨R9,N9⟩:=zh2 r9 (show n9≤140737488355328 by rw[←hn9];exact LB.o);clear r9 hn9;go_wp2_with fail
   refine(xc2 S1.o HC.o bs A9 n9 c9 R9.o N9.o BT.o).mono ?_;rintro e w2 ⟨v,col2,rfl,ov,hcol,s2,r2⟩;obtain⟨OV,A6,S2,R2,L2⟩:=zh5 ov hcol s2 ((Rest.of_below B1.o).trans r2) B1.size;clear ov hcol s2 r2;go_wp2
   go_ret
   have hav:=A2.o;unfold xbm at hav;rw[if_neg (by rw[A1.o];decide),if_neg (by rw[A1.o];decide),if_neg (by rw[A1.o];decide),if_pos (by rw[A1.o];decide),A3.o]at hav;refine⟨v,col2,rfl,?_,A6.o,?_,R2.o⟩
   · rw[←hav];exact OwnB.mono OV.o L2.o
   rw[←hav];exact S2.o
 by_cases h5:kd=5
 ·
  subst h5;go_wp2_with (refine zld A7.o zu44 HI.o ?_)
  refine A8.o.mono ?_;rintro e w1 ⟨v,bs,ok,rfl,ob,hy,hn,b1⟩;obtain⟨OB,S1,B1⟩:=zh3 ob (A4.call b1) (A5.trans (b1.mono LW.o));clear ob b1;cases hby:bytesOf c S with
  |none=>
   have hok:=hn hby;subst hok;have A3:=zh1 hby;clear hy hn hby;go_wp2
   go_ret
   have hav:=A2.o;unfold xbm at hav;rw[if_neg (by rw[A1.o];decide),if_neg (by rw[A1.o];decide),if_neg (by rw[A1.o];decide),if_pos (by rw[A1.o];decide),A3.o]at hav;refine⟨_,col,rfl,?_,?_,?_,Rest.of_below B1.o⟩
   · rw[←hav];exact OwnB.nil _ _
   · intro g hg;cases hg
   rw[←hav];exact S1.o
  |some b=>
   obtain⟨hok,hb⟩:=hy b hby;subst hok hb;obtain⟨A3,LB,BT⟩:=zh3 hby (AB.o bs hby) (AA.o bs hby);clear hy hn hby;obtain⟨A9,n9,c9,rfl,-,-,r9⟩:=OB.sl;have hn9:=qb4 r9;obtain⟨R9,N9⟩:=zh2 r9 (show n9≤140737488355328 by rw[←hn9];exact LB.o);clear r9 hn9;go_wp2_with fail
   refine(xc2 S1.o HC.o bs A9 n9 c9 R9.o N9.o BT.o).mono ?_;rintro e w2 ⟨v,col2,rfl,ov,hcol,s2,r2⟩;obtain⟨OV,A6,S2,R2,L2⟩:=zh5 ov hcol s2 ((Rest.of_below B1.o).trans r2) B1.size;clear ov hcol s2 r2;go_wp2
   go_ret
   have hav:=A2.o;unfold xbm at hav;rw[if_neg (by rw[A1.o];decide),if_neg (by rw[A1.o];decide),if_neg (by rw[A1.o];decide),if_pos (by rw[A1.o];decide),A3.o]at hav;refine⟨v,col2,rfl,?_,A6.o,?_,R2.o⟩
   · rw[←hav];exact OwnB.mono OV.o L2.o
   rw[←hav];exact S2.o
 go_wp2
 go_ret
 have hav:=A2.o;unfold xbm at hav;rw[if_neg (by rw[A1.o];exact h2),if_neg (by rw[A1.o];exact h3),if_neg (by rw[A1.o];exact h4),if_neg (by rw[A1.o];omega)]at hav;refine⟨_,col,rfl,?_,?_,?_,Rest.of_below A5.o⟩
 · rw[←hav];exact OwnB.nil _ _
 · intro g hg;cases hg
 rw[←hav];exact A4.o
def xcx (x y:Int)(st:Nat)(bs:List Nat):Cfg:={width:=1+within (wrap64 (x - 1)) 0 31,quantum:=1+within (wrap64 (y - 1)) 0 1,store:=st % 32769,seed:=bs.take 64}
theorem xcy(x y:Int)(st:Nat)(bs:List Nat)(hb:∀b∈bs,b<256):(xcx x y st bs).Ok:=by
 have h1:=qky (wrap64 (x - 1)) 0 31 zo;have h2:=qky (wrap64 (y - 1)) 0 1 zo;refine⟨?_,?_,?_,?_,?_,?_,?_⟩
 · show 1≤1+within (wrap64 (x - 1)) 0 31;omega
 · show 1+within (wrap64 (x - 1)) 0 31≤32;omega
 · show 1≤1+within (wrap64 (y - 1)) 0 1;omega
 · show 1+within (wrap64 (y - 1)) 0 1≤2;omega
 · show st % 32769≤32768;omega
 · show (bs.take 64).length≤64;rw[tBd];omega
 intro b h;exact hb b (tB7 h)
theorem xcz(x y:Int)(st:Nat)(A:Option Addr)(n k:Nat)(bs:List Nat)(w:World)(hr:Reads w w.heap.size 1 A n (byv bs))(hx: -9223372036854775808≤x∧x≤9223372036854775807)(hy: -9223372036854775808≤y∧y≤9223372036854775807)(hst:st<4294967296)(hnk:n≤k)(hn:n≤140737488351232):
 Zc 12 #[.agg #[.int .i64 x,.int .i64 y,.int .u32 (st:Int),.slice A n k]] w fun e w'=>∃A' n' k',e=.returned (.agg #[.int .i64 (xcx x y st bs).width,.int .i64 (xcx x y st bs).quantum,.int .u32 ((xcx x y st bs).store:Int),.slice A' n' k'])∧Reads w' w'.heap.size 1 A' n' (byv (xcx x y st bs).seed)∧(∀ad,A'=some ad→w.heap.size≤ad.block)∧Zb w w':=by
 refine(xbg x y st A n k bs w hr hx hy hst hnk hn).mono ?_;rintro e w' ⟨v,rfl,ho,hb⟩;obtain⟨A',n',k',rfl,-,-,r⟩:=ho.sl;refine⟨A',n',k',rfl,r,fun ad e=>?_,hb⟩;rcases ho.2 with⟨e',_⟩|⟨g,cap,cur,e',hb',_⟩
 · injection e' with e1 e2 e3
   rw[e1]at e;cases e
 injection e' with e1 e2 e3;rw[e1]at e;injection e with e;rw[←e];exact hb'
theorem xd0(h:Reads w w.heap.size size A n xs)(hg:w.grownBy w' (some b))(hA:∀ad,A=some ad→ad.block≠b):Reads w' w'.heap.size size A n xs:=
 ⟨h.1,fun hn=>by
  obtain⟨ad,e,hl,hc⟩:=h.2 hn;refine⟨ad,e,tB0 hl hg.size,fun j u hu=>?_⟩;refine(World.cell?_of_block ?_).trans (hc j u hu);rw[qa1];exact hg.block _ hl (fun e'=>by injection e' with e';exact hA ad e e')⟩
theorem xd1(hT:Tabs W)(hE:ErrT W)(b1:Zb W w1)(r1:Reads w1 w1.heap.size 1 A n (byv c.seed))
 (m2:Mdl w2 col 2 g c (newS c) L css)(z2:∀b,b<w1.heap.size→col b=0)(b2:Zb w1 w2)(wa4:WldAt w4 gw tb c A n k)(lg:w2.heap.size≤gw)(lt:w2.heap.size≤tb)(b4:Zb w2 w4):Sit W w4.heap.size w4 col g gw tb c (newS c):=by
 refine Sit.make qu2 m2 b4 wa4 lg lt (fun h0 ad e=>?_) hT hE (fun b hb=>z2 b (tB0 hb b1.size)) (b1.trans (b2.mono b1.size));obtain⟨ad',e',hlt,_⟩:=r1.2 h0;rw[e]at e';injection e' with e';subst e';exact z2 _ hlt
theorem WldAt.rest(h:WldAt w gw tb c A n k)(hr:Rest w col w' col')(g0:col gw=0)(t0:col tb=0)(hA:0<n→∀ad,A=some ad→col ad.block=0):WldAt w' gw tb c A n k:=
 ⟨hr.blk h.blk g0,Rest.blk hr h.tab t0,hr.reads h.seed hA⟩
def Req.cutAt (R:Req)(n:Nat):Req:={R with leaf:=R.leaf.take n}
theorem Req.Good.cutAt(h:R.Good)(n:Nat):(R.cutAt n).Good:={h with leafb:=fun b hb=>h.leafb b (tB7 hb)}
theorem Sit.boxed(h:Sit W B w col g gw tb c s)(hw:WldAt w gw tb c A n k)(hA:0<n→∀ad,A=some ad→(col ad.block=0∧ad.block<B)∧ad.block≠b)
 (hg:w.grownBy w' (some b))(h0:col b=0)(hb:W.heap.size≤b)(h1:gw≠b)(h2:tb≠b):Sit W B w' col g gw tb c s:=by
 obtain⟨L,css,h3⟩:=h.mdl;obtain⟨h4,h5,h6⟩:=h.base;have hT:Turns (· ==0) w col w' col:=Turns.of_grown hg (fun k e=>by injection e with e;rw[←e,h0];rfl) (fun _ _=>rfl);have hB:Below W.heap.size w w':=⟨hg.os,hg.tape,hg.output,hg.size,fun k hk=>hg.block k zo (fun e=>by injection e with e;omega)⟩;have hbl:∀k,k<w.heap.size→k≠b→w'.heap[k]? =w.heap[k]? :=fun k hk hne=>hg.block k hk (fun e=>by injection e with e;exact hne e)
 refine⟨h.ok,⟨L,css,h3.keep hT rfl rfl rfl rfl rfl (fun i hi=>by simp;omega) (h3.fin.mono hg.size)⟩,⟨A,n,k,⟨(hbl gw hw.blk.lt h1).trans hw.blk,(hbl tb (Blk.lt hw.tab) h2).trans hw.tab,⟨hw.seed.1,fun hn=>?_⟩⟩,fun hn ad e=>(hA hn ad e).1⟩,h.gws,h.tbs,h.tabs.below hB h4,?_,h.low,⟨h4,h5,tB1 h6 hg.size⟩,h.below.trans hB⟩
 · obtain⟨ad,e,hlt,hc⟩:=hw.seed.2 hn
   refine⟨ad,e,tB0 hlt hg.size,fun j u hu=>?_⟩;refine(World.cell?_of_block ?_).trans (hc j u hu);rw[qa1];exact hbl _ hlt (hA hn ad e).2
 exact(hB.cell (p:=⟨0,0,none⟩) (by show (0:Nat)<W.heap.size;exact tB0 (show (0:Nat)<3 from by decide) h4)).trans h.err
def xd2 (c:Cfg)(s:Sta)(l:List Stp):Sta:=l.foldl (fun s S=>(xbm c s S).1) s
theorem xd3{l:List Stp}{S:Stp}(h:l[k]? =some S):xd2 c s (l.take (k+1))=(xbm c (xd2 c s (l.take k)) S).1:=by
 obtain⟨hk,e⟩:=tA8 h;unfold xd2;rw[List.take_succ_eq_append_getElem hk,List.foldl_append,e];rfl
theorem xd4{cc:Nat}(hg:R.Good)(hrl:R.leaf.length=nq)(hnq:nq≤cq)(hcq:cq≤maxLen)(hl:Reads W W.heap.size 1 Aq nq (byv R.leaf))(hcv:Reads W W.heap.size 2 Ac R.cavs.length (cavv R.cavs))(hcc:R.cavs.length≤cc)(hcm:cc≤maxLen)
 (hb:Zb W w)(low:∀b,b<W.heap.size→col b=0):Asked w col (R.cutAt m) Ac cc Aq cq:=by
 have hk:(R.leaf.take m).length≤nq:=by rw[tBd,hrl];omega
 refine⟨hg.cutAt m,?_,tB1 hk hnq,hcq,hcv.call hb,hcc,hcm,fun h0 ad e=>?_,fun h0 ad e=>?_⟩
 ·
  show Reads w w.heap.size 1 Aq (R.leaf.take m).length (byv (R.leaf.take m));have h:=(hl.call hb).take hk;have e:(byv R.leaf).take ((R.leaf.take m).length*1)=byv (R.leaf.take m):=by
   have e2:R.leaf.take (min m R.leaf.length)=R.leaf.take m:=by
    rcases Nat.le_total m R.leaf.length with h|h
    · rw[Nat.min_eq_left h]
    rw[Nat.min_eq_right h,tB5 (tA4 _),tB5 h]
   rw[Nat.mul_one,tBd,←e2];simp[byv,List.map_take]
  rw[e]at h;exact h
 · obtain⟨ad',e',hlt,_⟩:=hl.2 (tB0 h0 hk)
   rw[e]at e';injection e' with e';subst e';exact low _ hlt
 obtain⟨ad',e',hlt,_⟩:=hcv.2 h0;rw[e]at e';injection e' with e';subst e';exact low _ hlt
structure CpAt (w:World)(col cc:Col)(L:Loc)(css:List (List Value))(s:Sta):Prop where
 st:StAt 92 74 66 w cc 2 L css s
 own:∀b,cc b≠0→b<w.heap.size∧col b=0
theorem CpAt.rest(h:CpAt w col cc L css s)(hr:Rest w col w' col'):CpAt w' col' cc L css s:=by
 have K:∀i,i≠0→KeepsCol i w cc w' cc:=fun i hi=>⟨hr.size,fun b hb e=>⟨(hr.block b hb (h.own b zo).2).1,e⟩⟩
 refine⟨⟨h.st.tens.keep (K _ zdc),h.st.tres.keep (K _ zdc),h.st.gras.keep (K _ zdc),h.st.trs.keep fun i hi=>K i zo⟩,fun b hb=>?_⟩;have h1:=h.own b hb;exact⟨tB0 h1.1 hr.size,(hr.block b h1.1 h1.2).2⟩
theorem CpAt.call(h:CpAt w col cc L css s)(hb:Zb w w'):CpAt w' col cc L css s:=h.rest (Rest.of_below hb)
theorem xd5(h:Sit W B w col g gw tb c s):
 Zc 16 #[.pointer (some ⟨g,0,none⟩)] w fun e w'=>∃cc L css,e=.returned (.agg (stav s L).toArray)∧CpAt w' col cc L css s∧Zb w w'∧Sit W B w' col g gw tb c s:=by
 refine(xbc h).mono ?_;rintro e w' ⟨cc,L,css,rfl,h1,h2,h3,h4⟩;exact⟨cc,L,css,rfl,⟨h1,fun b hb=>⟨(h2 b hb).2,h.new0 (h2 b hb).1⟩⟩,h3,h4⟩
theorem xdf(A1 A2:Option Addr)(n c m d:Nat)(xs ys:List Nat)(w:World)(h1:Reads w w.heap.size 1 A1 n (drwv xs))(h2:Reads w w.heap.size 1 A2 m (drwv ys))(hn:n≤1000)(hm:m≤1000):
 Zc 83 #[.slice A1 n c,.slice A2 m d] w fun e w'=>e=.returned (.bool (decide (xs=ys)))∧Zb w w':=by
 have l1:xs.length=n:=by have:=h1.1;simpa [drwv] using this
 have l2:ys.length=m:=by have:=h2.1;simpa [drwv] using this
 obtain⟨B0,L1,L2,H1,H2⟩:=zh5 (tA5 w.heap.size w) l1 l2 h1 h2;go_enter Tryz.func83,Tryz.ntmps83
 by_cases hnm:n=m
 ·
  subst hnm;clear l1 l2 h1 h2;go_wp2_with fail
  go_loopw [13] (fun i wr=>∃k:Nat,k≤n∧i=.int .i64 k∧Hid (xs.take k=ys.take k)∧Hid (Zb w wr)) (fun i _=>n - (intOf i).toNat)
  case atStart=>exact⟨0,by omega,rfl,zh1 rfl,B0⟩
  case round=>
   obtain⟨k,hk,rfl,ht,hb⟩:=hrel;by_cases hlt:k<n
   ·
    have p1:(k:Int)<n:=zo;obtain⟨x,hx⟩:∃x,xs[k]? =some x:=⟨_,tA7 (by rw[L1.o];exact hlt)⟩;obtain⟨y,hy⟩:∃y,ys[k]? =some y:=⟨_,tA7 (by rw[L2.o];exact hlt)⟩;obtain⟨b1,o1,e1,-,c1⟩:=H1.mid zo zdc;obtain⟨b2,o2,e2,-,c2⟩:=H2.mid zo zdc;subst e1 e2;obtain⟨C1,C2⟩:=zh2 (c1 k (.int .u32 (x:Int)) (by unfold drwv;rw[tBj,hx];rfl)) (c2 k (.int .u32 (y:Int)) (by unfold drwv;rw[tBj,hy];rfl));have HE:=zh1 (show x=y→xs.take (k+1)=ys.take (k+1) from fun h=>by
     rw[List.take_add_one,List.take_add_one,hx,hy,ht.o,h])
    have HF:=zh1 (show x≠y→decide (xs=ys)=false from fun h=>by
     refine decide_eq_false fun e=>h ?_
     rw[e,hy]at hx;injection hx with hx;exact hx.symm)
    clear hx hy c1 c2;go_upto_region 6 with(fail)
    obtain⟨S,HS⟩:=zS fun w'=>Zb w w'
    refine zrs S 9 (zq 0 9 []) ((HS.o _).mpr hb.drew) ?_;obtain⟨F0,F1,HB⟩:=zh3 (zF HS C1.o) (zF HS C2.o) hb.drew;by_cases hxy:x=y
    ·
     subst hxy;iterate 9 (refine zr2 ?_)
     refine qbf ?_;clear HS F0 F1;have A0:=zh1 (HE.o rfl);clear HE;go_wp2
     go_roundw
     case rel=>exact⟨k+1,by omega,by go_num,A0,HB⟩
     case measure=>simp[intOf];omega
    have hxy2:¬(x:Int)=y:=zo;have hxy3:((x:Int)==y)=false:=by simp;omega
    have A3:=zh1 (HF.o hxy);clear HF HE;iterate 9 (refine zr2 ?_)
    refine qbf ?_;clear HS F0 F1 hxy;go_wp2
    go_ret
    exact⟨by rw[A3.o];rfl,HB.o⟩
   obtain rfl:k=n:=zo;have HF:=zh1 (show decide (xs=ys)=true from decide_eq_true (by
    have h:=ht.o;rwa[tB5 (by rw[L1.o];exact tA4 _),tB5 (by rw[L2.o];exact tA4 _)]at h))
   have p1:¬(k:Int)<k:=zo;go_wp2
   go_ret
   exact⟨by rw[HF.o];rfl,hb.o⟩
 have HF:=zh1 (show decide (xs=ys)=false from decide_eq_false fun e=>hnm (by rw[←l1,←l2,e]));have p1:¬(n:Int)=m:=zo;have p2:((n:Int)==m)=false:=by simp;omega
 clear l1 l2 h1 h2;go_wp2
 go_ret
 exact⟨by rw[HF.o];rfl,B0.o⟩
theorem xdg(A1 A2:Option Addr)(n c m d:Nat)(xs ys:List (List Nat))(w:World)(h1:TextsR w A1 n xs)(h2:TextsR w A2 m ys)(b1:∀b∈xs,∀x∈b,x<256)(b2:∀b∈ys,∀x∈b,x<256)(hn:n≤2000)(hm:m≤2000):
 Zc 80 #[.slice A1 n c,.slice A2 m d,.func (.func 81) #[] #[]] w fun e w'=>e=.returned (.bool (decide (xs=ys)))∧w=w':=by
 have l1:=h1.1;have l2:=h2.1;obtain⟨L1,L2,H1,H2,BB⟩:=zh5 l1 l2 h1 h2 (And.intro b1 b2);go_enter Tryz.func80,Tryz.ntmps80
 by_cases hnm:n=m
 ·
  subst hnm;clear l1 l2 h1 h2 b1 b2;go_wp2_with fail
  go_loop [17] (fun i=>∃k:Nat,k≤n∧i=.int .i64 k∧Hid (xs.take k=ys.take k)) (fun i=>n - (intOf i).toNat)
  case atStart=>exact⟨0,by omega,rfl,zh1 rfl⟩
  case round=>
   obtain⟨k,hk,rfl,ht⟩:=hrel;by_cases hlt:k<n
   ·
    have p1:(k:Int)<n:=zo;obtain⟨g1,o1,x,A3,n3,c3,e1,-,hx,c1,-,-,r1⟩:=H1.at_ hlt;obtain⟨g2,o2,y,A4,n4,c4,e2,-,hy,c2,-,-,r2⟩:=H2.at_ hlt;subst e1 e2;have CE:=qqu x y A3 A4 n3 c3 n4 c4 w (BB.o.1 x (tB2 hx)) (BB.o.2 y (tB2 hy)) r1 r2;have HE:=zh1 (show (x==y)=true→xs.take (k+1)=ys.take (k+1) from fun h=>by
     rw[List.take_add_one,List.take_add_one,hx,hy,ht.o,eq_of_beq h])
    have HF:=zh1 (show (x==y)=false→decide (xs=ys)=false from fun h=>by
     refine decide_eq_false fun e=>?_
     rw[e,hy]at hx;injection hx with hx;rw[hx]at h;simp at h)
    obtain⟨bq,hbq⟩:=xeq (x==y);rw[hbq]at CE HE HF;have A0:=zh1 CE;clear hx hy r1 r2 CE hbq;go_wp2_with fail
    refine A0.o.mono ?_;rintro e w' ⟨rfl,rfl⟩;cases bq with
    |true=>
     have A5:=zh1 (show xs.take (k+1)=ys.take (k+1) by have:=HE.o;simpa using this);clear HE HF;go_wp2
     go_round
     case rel=>exact⟨k+1,by omega,by go_num,A5⟩
     case measure=>simp[intOf];omega
    |false=>
     have A6:=zh1 (show decide (xs=ys)=false by have:=HF.o;simpa using this);clear HE HF;go_wp2
     go_ret
     exact⟨by rw[A6.o];rfl,rfl⟩
   obtain rfl:k=n:=zo;have HF:=zh1 (show decide (xs=ys)=true from decide_eq_true (by
    have h:=ht.o;rwa[tB5 (by rw[L1.o];exact tA4 _),tB5 (by rw[L2.o];exact tA4 _)]at h))
   have p1:¬(k:Int)<k:=zo;go_wp2
   go_ret
   exact⟨by rw[HF.o];rfl,rfl⟩
 have HF:=zh1 (show decide (xs=ys)=false from decide_eq_false fun e=>hnm (by rw[←l1,←l2,e]));have p1:¬(n:Int)=m:=zo;have p2:((n:Int)==m)=false:=by simp;omega
 clear l1 l2 h1 h2 b1 b2;go_wp2
 go_ret
 exact⟨by rw[HF.o];rfl,rfl⟩
theorem xdh(A1 A2:Option Addr)(n c m d:Nat)(xs ys:List (List Nat))(w:World)(h1:TextsR w A1 n xs)(h2:TextsR w A2 m ys)(b1:∀b∈xs,∀x∈b,x<256)(b2:∀b∈ys,∀x∈b,x<256)(hn:n≤2000)(hm:m≤2000):
 Zc 79 #[.slice A1 n c,.slice A2 m d] w fun e w'=>e=.returned (.bool (decide (xs=ys)))∧w=w':=by
 have H:=zh1 (xdg A1 A2 n c m d xs ys w h1 h2 b1 b2 hn hm);clear h1 h2 b1 b2;go_enter Tryz.func79,Tryz.ntmps79
 go_wp2_with fail
 refine H.o.mono ?_;rintro e w' ⟨rfl,rfl⟩;go_wp2
 go_ret
 exact⟨rfl,rfl⟩
theorem xdi(t u:Tre):(t.state=u.state∧t.tenant=u.tenant∧t.weight=u.weight∧t.deficit=u.deficit∧t.hd=u.hd∧t.draws=u.draws∧t.leaves=u.leaves∧t.queue=u.queue) ↔ t=u:=by
 cases t
 cases u
 simp only[Tre.mk.injEq];constructor
 · rintro ⟨a,b,c,d,e,f,g,h⟩
   simp_all
 intro h;simp_all
instance decTre:DecidableEq Tre:=fun t u=>decidable_of_iff _ (xdi t u)
theorem xdj{u:Tre}(h:¬(t.state=u.state∧t.tenant=u.tenant∧t.weight=u.weight∧t.deficit=u.deficit∧t.hd=u.hd∧t.draws=u.draws∧t.leaves=u.leaves∧t.queue=u.queue)):decide (t=u)=false:=decide_eq_false fun e=>h ((xdi t u).2 e)
theorem xdk(t u:Tre)(tk1:t.Ok)(uk1:u.Ok)(A1 A2 A3 B1 B2 B3:Option Addr)(c1 c2 c3 d1 d2 d3 p:Nat)(w:World)(hp:w.cell? ⟨p,0,none⟩=some (.func (.func 79) #[] #[]))(r1:Reads w w.heap.size 1 A1 t.draws.length (drwv t.draws))(s1:Reads w w.heap.size 1 B1 u.draws.length (drwv u.draws))
 (r2:TextsR w A2 t.leaves.length t.leaves)(s2:TextsR w B2 u.leaves.length u.leaves)(r3:TextsR w A3 t.queue.length t.queue)(s3:TextsR w B3 u.queue.length u.queue):
 Zc 82 #[.agg (trev t (.slice A1 t.draws.length c1) (.slice A2 t.leaves.length c2) (.slice A3 t.queue.length c3)).toArray,.agg (trev u (.slice B1 u.draws.length d1) (.slice B2 u.leaves.length d2) (.slice B3 u.queue.length d3)).toArray,.pointer (some ⟨p,0,none⟩)] w fun e w'=>e=.returned (.bool (decide (t=u)))∧Zb w w':=by
 obtain⟨C0,C1,C2,no,yes⟩:=zh5 (fun(W:World)(hb:Zb w W)=>xdf A1 B1 t.draws.length c1 u.draws.length d1 t.draws u.draws W (r1.call hb) (s1.call hb) (by have:=tk1.draws;omega) (by have:=uk1.draws;omega)) (fun(W:World)(hb:Zb w W)=>xdh A2 B2 t.leaves.length c2 u.leaves.length d2 t.leaves u.leaves W (r2.call hb) (s2.call hb) (fun b hb=>(tk1.leafb b hb).2) (fun b hb=>(uk1.leafb b hb).2) (by have:=tk1.leaves;omega) (by have:=uk1.leaves;omega)) (fun(W:World)(hb:Zb w W)=>xdh A3 B3 t.queue.length c3 u.queue.length d3 t.queue u.queue W (r3.call hb) (s3.call hb) (fun b hb=>(tk1.queueb b hb).2) (fun b hb=>(uk1.queueb b hb).2) (by have:=tk1.queue;omega) (by have:=uk1.queue;omega)) (fun h=>xdj (t:=t) (u:=u) h) ((xdi t u).1);have lD:=qnj (t:=t) (.slice A1 t.draws.length c1) (.slice A2 t.leaves.length c2) (.slice A3 t.queue.length c3) tk1.hd;have lE:=qnj (t:=u) (.slice B1 u.draws.length d1) (.slice B2 u.leaves.length d2) (.slice B3 u.queue.length d3) uk1.hd;have hD:=fun j=>quh t (.slice A1 t.draws.length c1) (.slice A2 t.leaves.length c2) (.slice A3 t.queue.length c3) j
 have hE:=fun j=>quh u (.slice B1 u.draws.length d1) (.slice B2 u.leaves.length d2) (.slice B3 u.queue.length d3) j
 have keq:=fun w'=>qlt w' t.hd u.hd tk1.hd uk1.hd
 have l7:(hdv t.hd).length=68:=qni tk1.hd;have l8:(hdv u.hd).length=68:=qni uk1.hd;have D0:(trev t (.slice A1 t.draws.length c1) (.slice A2 t.leaves.length c2) (.slice A3 t.queue.length c3)).toArray[0]? =some (.int .i64 t.state):=by rw[tA3];rfl
 have D1:(trev t (.slice A1 t.draws.length c1) (.slice A2 t.leaves.length c2) (.slice A3 t.queue.length c3)).toArray[1]? =some (.int .i64 t.tenant):=by rw[tA3];rfl
 have D2:(trev t (.slice A1 t.draws.length c1) (.slice A2 t.leaves.length c2) (.slice A3 t.queue.length c3)).toArray[2]? =some (.int .i64 t.weight):=by rw[tA3];rfl
 have D3:(trev t (.slice A1 t.draws.length c1) (.slice A2 t.leaves.length c2) (.slice A3 t.queue.length c3)).toArray[3]? =some (.int .i64 t.deficit):=by rw[tA3];rfl
 have D4:(trev t (.slice A1 t.draws.length c1) (.slice A2 t.leaves.length c2) (.slice A3 t.queue.length c3)).toArray[4]? =some (.slice A1 t.draws.length c1):=by rw[tA3];rfl
 have D5:(trev t (.slice A1 t.draws.length c1) (.slice A2 t.leaves.length c2) (.slice A3 t.queue.length c3)).toArray[5]? =some (.slice A2 t.leaves.length c2):=by rw[tA3];rfl
 have D6:(trev t (.slice A1 t.draws.length c1) (.slice A2 t.leaves.length c2) (.slice A3 t.queue.length c3)).toArray[6]? =some (.slice A3 t.queue.length c3):=by rw[tA3];rfl
 have E0:(trev u (.slice B1 u.draws.length d1) (.slice B2 u.leaves.length d2) (.slice B3 u.queue.length d3)).toArray[0]? =some (.int .i64 u.state):=by rw[tA3];rfl
 have E1:(trev u (.slice B1 u.draws.length d1) (.slice B2 u.leaves.length d2) (.slice B3 u.queue.length d3)).toArray[1]? =some (.int .i64 u.tenant):=by rw[tA3];rfl
 have E2:(trev u (.slice B1 u.draws.length d1) (.slice B2 u.leaves.length d2) (.slice B3 u.queue.length d3)).toArray[2]? =some (.int .i64 u.weight):=by rw[tA3];rfl
 have E3:(trev u (.slice B1 u.draws.length d1) (.slice B2 u.leaves.length d2) (.slice B3 u.queue.length d3)).toArray[3]? =some (.int .i64 u.deficit):=by rw[tA3];rfl
 have E4:(trev u (.slice B1 u.draws.length d1) (.slice B2 u.leaves.length d2) (.slice B3 u.queue.length d3)).toArray[4]? =some (.slice B1 u.draws.length d1):=by rw[tA3];rfl
 have E5:(trev u (.slice B1 u.draws.length d1) (.slice B2 u.leaves.length d2) (.slice B3 u.queue.length d3)).toArray[5]? =some (.slice B2 u.leaves.length d2):=by rw[tA3];rfl
 have E6:(trev u (.slice B1 u.draws.length d1) (.slice B2 u.leaves.length d2) (.slice B3 u.queue.length d3)).toArray[6]? =some (.slice B3 u.queue.length d3):=by rw[tA3];rfl
 obtain⟨D,hDD⟩:=xeq (trev t (.slice A1 t.draws.length c1) (.slice A2 t.leaves.length c2) (.slice A3 t.queue.length c3));obtain⟨E,hEE⟩:=xeq (trev u (.slice B1 u.draws.length d1) (.slice B2 u.leaves.length d2) (.slice B3 u.queue.length d3));simp only[hDD]at lD hD D0 D1 D2 D3 D4 D5 D6;simp only[hEE]at lE hE E0 E1 E2 E3 E4 E5 E6;rw[hDD,hEE];obtain⟨H,hH⟩:=xeq (hdv t.hd);obtain⟨K,hK⟩:=xeq (hdv u.hd);simp only[hH]at hD keq l7;simp only[hK]at hE keq l8;obtain⟨W0,hW0⟩:=eqx ((w.alloc (.cells D.toArray 74)).alloc (.cells E.toArray 74));have b1:=zNb hW0;have b2:=zNc hW0;have bb:=zMb hW0;have hr1:W0.rangeAt w.heap.size 7 H:=qap b1 7 H (fun j v hv=>by simpa using (hD j).trans hv);have hr2:W0.rangeAt (w.heap.size+1) 7 K:=qap b2 7 K (fun j v hv=>by simpa using (hE j).trans hv);have x0:=(b1.cell 0).trans D0;have y0:=(b2.cell 0).trans E0;have x1:=(b1.cell 1).trans D1;have y1:=(b2.cell 1).trans E1;have x2:=(b1.cell 2).trans D2;have y2:=(b2.cell 2).trans E2;have x3:=(b1.cell 3).trans D3;have y3:=(b2.cell 3).trans E3;have x4:=(b1.cell 4).trans D4;have y4:=(b2.cell 4).trans E4;have x5:=(b1.cell 5).trans D5;have y5:=(b2.cell 5).trans E5;have x6:=(b1.cell 6).trans D6;have y6:=(b2.cell 6).trans E6;have xp:=qai hp bb;obtain⟨A5,BB,R7,R8,I7,I8⟩:=zh6 hW0 bb hr1 hr2 (zI 55 l7) (zI 55 l8);obtain⟨bh,hbh⟩:=xeq (decide (t.hd=u.hd));rw[hbh]at keq;obtain⟨A0,SC⟩:=zh2 hbh (show ∀(b:Bool),decide (t=u)=b→∃c,decide (t=u)=c from fun b h=>⟨b,h⟩);obtain⟨a1,ha1⟩:=xeq t.state;obtain⟨a2,ha2⟩:=xeq t.tenant;obtain⟨a3,ha3⟩:=xeq t.weight;obtain⟨a4,ha4⟩:=xeq t.deficit;obtain⟨e1,he1⟩:=xeq u.state;obtain⟨e2,he2⟩:=xeq u.tenant;obtain⟨e3,he3⟩:=xeq u.weight;obtain⟨e4,he4⟩:=xeq u.deficit;rw[ha1]at x0;rw[ha2]at x1;rw[ha3]at x2;rw[ha4]at x3;rw[he1]at y0;rw[he2]at y1;rw[he3]at y2;rw[he4]at y3;have NO:=no;rw[ha1,ha2,ha3,ha4,he1,he2,he3,he4]at NO;have A4:=yes;rw[ha1,ha2,ha3,ha4,he1,he2,he3,he4]at A4;clear no yes hp r1 s1 r2 s2 r3 s3 tk1 uk1 lD lE hD hE l7 l8 D0 D1 D2 D3 D4 D5 D6 E0 E1 E2 E3 E4 E5 E6 hDD hEE hH hK hW0 b1 b2 bb hr1 hr2 hbh ha1 ha2 ha3 ha4 he1 he2 he3 he4 SC;go_enter Tryz.func82,Tryz.ntmps82
 go_upto_region 1 with(fail)
 rw[←A5.o];by_cases q0:a1=e1
 rotate_left
 · have HF:=zh1 (NO.o (fun h=>q0 h.1))
   have qq:(a1==e1)=false:=by simpa using q0
   go_wp2
   go_ret
   exact⟨by rw[HF.o];rfl,BB.o⟩
 subst q0;by_cases q1:a2=e2
 rotate_left
 · have HF:=zh1 (NO.o (fun h=>q1 h.2.1))
   have qq:(a2==e2)=false:=by simpa using q1
   go_wp2
   go_ret
   exact⟨by rw[HF.o];rfl,BB.o⟩
 subst q1;by_cases q2:a3=e3
 rotate_left
 · have HF:=zh1 (NO.o (fun h=>q2 h.2.2.1))
   have qq:(a3==e3)=false:=by simpa using q2
   go_wp2
   go_ret
   exact⟨by rw[HF.o];rfl,BB.o⟩
 subst q2;by_cases q3:a4=e4
 rotate_left
 · have HF:=zh1 (NO.o (fun h=>q3 h.2.2.2.1))
   have qq:(a4==e4)=false:=by simpa using q3
   go_wp2
   go_ret
   exact⟨by rw[HF.o];rfl,BB.o⟩
 subst q3;cases bh with
 |false=>
  have HF:=zh1 (NO.o (fun h=>of_decide_eq_false A0.o h.2.2.2.2.1));go_wp2_with (first
   |(refine zld R7.o zu55 I7.o ?_)
   |(refine zld R8.o zu55 I8.o ?_))
  go_ret
  exact⟨by rw[HF.o];rfl,BB.o⟩
 |true=>
  go_wp2_with (first
   |(refine zld R7.o zu55 I7.o ?_)
   |(refine zld R8.o zu55 I8.o ?_))
  refine zcb (C0.o W0 BB.o) fun w1 bw1=>?_
  have xp1:=qai xp bw1;have x51:=qai x5 bw1;have y51:=qai y5 bw1;have x61:=qai x6 bw1;have y61:=qai y6 bw1;have B1':=zh1 (BB.trans (bw1.mono BB.size));clear bw1;cases hbd:decide (t.draws=u.draws) with
  |false=>
   have HF:=zh1 (NO.o (fun h=>of_decide_eq_false hbd h.2.2.2.2.2.1));clear hbd;go_wp2
   go_ret
   exact⟨by rw[HF.o];rfl,B1'.o⟩
  |true=>
   have A6:=zh1 (of_decide_eq_true hbd);clear hbd;go_wp2_with fail
   refine(C1.o w1 B1'.o).mono ?_;rintro e w' ⟨rfl,rfl⟩;cases hbl:decide (t.leaves=u.leaves) with
   |false=>
    have HF:=zh1 (NO.o (fun h=>of_decide_eq_false hbl h.2.2.2.2.2.2.1));clear hbl;go_wp2
    go_ret
    exact⟨by rw[HF.o];rfl,B1'.o⟩
   |true=>
    have A7:=zh1 (of_decide_eq_true hbl);clear hbl;go_wp2_with fail
    refine(C2.o w1 B1'.o).mono ?_;rintro e w' ⟨rfl,rfl⟩;cases hbq:decide (t.queue=u.queue) with
    |false=>
     have HF:=zh1 (NO.o (fun h=>of_decide_eq_false hbq h.2.2.2.2.2.2.2));clear hbq;go_wp2
     go_ret
     exact⟨by rw[HF.o];rfl,B1'.o⟩
    |true=>
     have HT:=zh1 (show decide (t=u)=true from decide_eq_true (A4.o ⟨by first|rfl|trivial,by first|rfl|trivial,by first|rfl|trivial,by first|rfl|trivial,of_decide_eq_true A0.o,A6.o,A7.o,of_decide_eq_true hbq⟩));clear hbq;go_wp2
     go_ret
     exact⟨by rw[HT.o];rfl,B1'.o⟩
def TreesR (w:World)(A:Option Addr)(n:Nat)(ts:List Tre):Prop:=
 ts.length=n∧∀(i:Nat) (t:Tre),ts[i]? =some t→t.Ok∧∃g o A1 c1 A2 c2 A3 c3,A=some ⟨g,o,none⟩∧w.rangeAt g (o+i*75) (trev t (.slice A1 t.draws.length c1) (.slice A2 t.leaves.length c2) (.slice A3 t.queue.length c3))∧
  Reads w w.heap.size 1 A1 t.draws.length (drwv t.draws)∧TextsR w A2 t.leaves.length t.leaves∧TextsR w A3 t.queue.length t.queue
theorem TreesR.call{ts:List Tre}(h:TreesR w A n ts)(hb:Zb w w'):TreesR w' A n ts:=
 ⟨h.1,fun i t ht=>by
  obtain⟨o,g,of,A1,c1,A2,c2,A3,c3,e,r,r1,r2,r3⟩:=h.2 i t ht;exact⟨o,g,of,A1,c1,A2,c2,A3,c3,e,fun j u hu=>qai (r j u hu) hb,r1.call hb,r2.call hb,r3.call hb⟩⟩
theorem xdl(A B:Option Addr)(n c m d p:Nat)(xs ys:List Tre)(w:World)(h1:TreesR w A n xs)(h2:TreesR w B m ys)(hn:n≤100)(hm:m≤100)(hp:w.cell? ⟨p,0,none⟩=some (.func (.func 79) #[] #[])):
 Zc 86 #[.slice A n c,.slice B m d,.func (.func 82) #[] #[.pointer (some ⟨p,0,none⟩)]] w fun e w'=>e=.returned (.bool (decide (xs=ys)))∧Zb w w':=by
 have l1:=h1.1;have l2:=h2.1;obtain⟨B0,L1,L2,H1,H2,HP,A4⟩:=zh7 (tA5 w.heap.size w) l1 l2 h1 h2 hp (show Tryz.zeroCells74.size=75 by kernel_rfl);clear hp;go_enter Tryz.func86,Tryz.ntmps86
 by_cases hnm:n=m
 ·
  subst hnm;clear l1 l2 h1 h2;go_wp2_with fail
  go_loopw [17] (fun i wr=>∃k:Nat,k≤n∧i=.int .i64 k∧Hid (xs.take k=ys.take k)∧Hid (Zb w wr)) (fun i _=>n - (intOf i).toNat)
  case atStart=>exact⟨0,by omega,rfl,zh1 rfl,B0⟩
  case round=>
   obtain⟨k,hk,rfl,ht,hb⟩:=hrel;by_cases hlt:k<n
   ·
    have q1:(k:Int)<n:=zo;obtain⟨x,hx⟩:∃x,xs[k]? =some x:=⟨_,tA7 (by rw[L1.o];exact hlt)⟩;obtain⟨y,hy⟩:∃y,ys[k]? =some y:=⟨_,tA7 (by rw[L2.o];exact hlt)⟩;obtain⟨xo,g1,o1,A1,c1,A2,c2,A3,c3,e1,r1,x1,x2,x3⟩:=(H1.call hb.o).2 k x hx;obtain⟨yo,g2,o2,B1,d1,B2,d2,B3,d3,e2,r2,y1,y2,y3⟩:=(H2.call hb.o).2 k y hy;subst e1 e2;have CT:=fun(W:World)(hB:Zb wr W)=>xdk x y xo yo A1 A2 A3 B1 B2 B3 c1 c2 c3 d1 d2 d3 p W (qai (qai HP.o hb.o) hB) (x1.call hB) (y1.call hB) (x2.call hB) (y2.call hB) (x3.call hB) (y3.call hB)
    have lX:=qnj (t:=x) (.slice A1 x.draws.length c1) (.slice A2 x.leaves.length c2) (.slice A3 x.queue.length c3) xo.hd;have lY:=qnj (t:=y) (.slice B1 y.draws.length d1) (.slice B2 y.leaves.length d2) (.slice B3 y.queue.length d3) yo.hd;have oX:=qqk x (.slice A1 x.draws.length c1) (.slice A2 x.leaves.length c2) (.slice A3 x.queue.length c3) rfl rfl rfl;have oY:=qqk y (.slice B1 y.draws.length d1) (.slice B2 y.leaves.length d2) (.slice B3 y.queue.length d3) rfl rfl rfl;obtain⟨X,hX⟩:=xeq (trev x (.slice A1 x.draws.length c1) (.slice A2 x.leaves.length c2) (.slice A3 x.queue.length c3));obtain⟨Y,hY⟩:=xeq (trev y (.slice B1 y.draws.length d1) (.slice B2 y.leaves.length d2) (.slice B3 y.queue.length d3));simp only[hX,hY]at CT;rw[hX]at lX oX r1;rw[hY]at lY oY r2;have HE:=zh1 (show decide (x=y)=true→xs.take (k+1)=ys.take (k+1) from fun h=>by
     rw[List.take_add_one,List.take_add_one,hx,hy,ht.o,of_decide_eq_true h])
    have HF:=zh1 (show decide (x=y)=false→decide (xs=ys)=false from fun h=>by
     refine decide_eq_false fun e=>of_decide_eq_false h ?_
     rw[e,hy]at hx;injection hx with hx;exact hx.symm)
    obtain⟨IX,IY,LX,LY,OX,OY,RX,RY⟩:=zh8 (zI 74 lX) (zI 74 lY) lX lY oX oY r1 r2;obtain⟨A6,N1⟩:=zh2 CT (Blk.new wr 74 Tryz.zeroCells74);clear hx hy r1 r2 x1 x2 x3 y1 y2 y3 xo yo CT lX lY oX oY hX hY;go_upto_region 6 with(first
     |(refine zld RX.o zu74 IX.o ?_)
     |(refine zst N1.o IX.o (A4.trans (by simp[LX.o])) OX.o ?_))
    obtain⟨W1,hW1⟩:=eqx ((wr.alloc (.cells Tryz.zeroCells74 74)).setRow wr.heap.size X.toArray);rw[←hW1];have z1:Blk W1 wr.heap.size 74 X.toArray:=by rw[hW1];exact(Blk.new _ _ _).setRow _
    have b1:Zb wr W1:=by rw[hW1];exact below_setRow ((tA5 _ _).alloc (tA4 _) _) (tA4 _) _
    obtain⟨G1,hG1⟩:=xeq wr.heap.size;obtain⟨Z1,A5,A7,N2⟩:=zh4 z1 b1 (show W1.rangeAt g2 (o2+k*75) Y from fun j u hu=>qai (RY.o j u hu) b1) (Blk.new W1 74 Tryz.zeroCells74);clear hW1 z1 b1 hG1 N1;go_upto_region 7 with(first
     |(refine zld A7.o zu74 IY.o ?_)
     |(refine zst N2.o IY.o (A4.trans (by simp[LY.o])) OY.o ?_))
    obtain⟨W2,hW2⟩:=eqx ((W1.alloc (.cells Tryz.zeroCells74 74)).setRow W1.heap.size Y.toArray);rw[←hW2];have z2:Blk W2 W1.heap.size 74 Y.toArray:=by rw[hW2];exact(Blk.new _ _ _).setRow _
    have b2:Zb W1 W2:=by rw[hW2];exact below_setRow ((tA5 _ _).alloc (tA4 _) _) (tA4 _) _
    have z1:=Z1.below b2 Z1.lt;obtain⟨R1,R2,A0⟩:=zh3 (qap z1 0 X zjq) (qap z2 0 Y zjq) (A5.trans (b2.mono A5.size));clear hW2 z2 b2 z1 N2;go_wp2_with (first
     |(refine zld R1.o zu74 IX.o ?_)
     |(refine zld R2.o zu74 IY.o ?_))
    refine zcb (A6.o W2 A0.o) fun w3 b3=>?_
    have HB:=zh1 (hb.trans ((A0.trans (b3.mono A0.size)).mono hb.size));clear b3;cases hbq:decide (x=y) with
    |true=>
     have A8:=zh1 (HE.o hbq);clear hbq HE HF;go_wp2
     go_roundw
     case rel=>exact⟨k+1,by omega,by go_num,A8,HB⟩
     case measure=>simp[intOf];omega
    |false=>
     have A9:=zh1 (HF.o hbq);clear hbq HE HF;go_wp2
     go_ret
     exact⟨by rw[A9.o];rfl,HB.o⟩
   obtain rfl:k=n:=zo;have HF:=zh1 (show decide (xs=ys)=true from decide_eq_true (by
    have h:=ht.o;rwa[tB5 (by rw[L1.o];exact tA4 _),tB5 (by rw[L2.o];exact tA4 _)]at h))
   have q1:¬(k:Int)<k:=zo;go_wp2
   go_ret
   exact⟨by rw[HF.o];rfl,hb.o⟩
 have HF:=zh1 (show decide (xs=ys)=false from decide_eq_false fun e=>hnm (by rw[←l1,←l2,e]));have p1:¬(n:Int)=m:=zo;have p2:((n:Int)==m)=false:=by simp;omega
 clear l1 l2 h1 h2;go_wp2
 go_ret
 exact⟨by rw[HF.o];rfl,B0.o⟩
theorem xdm(s t:Sta):(s.clock=t.clock∧s.draw=t.draw∧s.lane=t.lane∧s.tens=t.tens∧s.gras=t.gras∧s.tres=t.tres) ↔ s=t:=by
 cases s
 cases t
 simp only[Sta.mk.injEq];constructor
 · rintro ⟨a,b,c,d,e,f⟩
   simp_all
 intro h;simp_all
instance decSta:DecidableEq Sta:=fun s t=>decidable_of_iff _ (xdm s t)
theorem xdn{t:Sta}(h:¬(s.clock=t.clock∧s.draw=t.draw∧s.lane=t.lane∧s.tens=t.tens∧s.gras=t.gras∧s.tres=t.tres)):decide (s=t)=false:=decide_eq_false fun e=>h ((xdm s t).2 e)
def StR (w:World)(V:List Value)(s:Sta):Prop:=
 ∃At nt ct Ar nr cr Ag ng cg,V=[.int .u64 (s.clock:Int),.int .u32 (s.draw:Int),.int .i64 s.lane,.slice At nt ct,.slice Ar nr cr,.slice Ag ng cg]∧
  Reads w w.heap.size 6 At nt (s.tens.flatMap tenv)∧nt≤1000∧TreesR w Ar nr s.tres∧nr≤100∧Reads w w.heap.size 4 Ag ng (s.gras.flatMap grav)∧ng≤1000
theorem StR.call(h:StR w V s)(hb:Zb w w'):StR w' V s:=by
 obtain⟨At,nt,ct,Ar,nr,cr,Ag,ng,cg,e,h1,h2,h3,h4,h5,h6⟩:=h;exact⟨At,nt,ct,Ar,nr,cr,Ag,ng,cg,e,h1.call hb,h2,h3.call hb,h4,h5.call hb,h6⟩
theorem xdo(V U:List Value)(s t:Sta)(w:World)(h1:StR w V s)(h2:StR w U t):
 Zc 31 #[.agg V.toArray,.agg U.toArray] w fun e w'=>e=.returned (.bool (decide (s=t)))∧Below w.heap.size w w':=by
 have hmf:=zmf;obtain⟨At,nt,ct,Ar,nr,cr,Ag,ng,cg,e,v1,v2,v3,v4,v5,v6⟩:=h1;obtain⟨Bt,mt,dt,Br,mr,dr,Bg,mg,dg,e',u1,u2,u3,u4,u5,u6⟩:=h2;obtain⟨C0,C1,C2,NO,A0⟩:=zh5 (fun(W:World)(hb:Below w.heap.size w W)=>xdd At Bt nt ct mt dt s.tens t.tens W (v1.call hb) (u1.call hb) v2 u2) (fun(W:World)(hb:Below w.heap.size w W)=>xde Ag Bg ng cg mg dg s.gras t.gras W (v5.call hb) (u5.call hb) v6 u6) (fun (W:World) (p:Nat) (hb:Below w.heap.size w W) hp=>xdl Ar Br nr cr mr dr p s.tres t.tres W (v3.call hb) (u3.call hb) v4 u4 hp) (fun h=>xdn (s:=s) (t:=t) h) ((xdm s t).1);subst e e';obtain⟨a1,ha1⟩:∃x:Int,(s.clock:Int)=x:=⟨_,rfl⟩;obtain⟨a2,ha2⟩:∃x:Int,(s.draw:Int)=x:=⟨_,rfl⟩;obtain⟨a3,ha3⟩:=xeq s.lane;obtain⟨e1,he1⟩:∃x:Int,(t.clock:Int)=x:=⟨_,rfl⟩;obtain⟨e2,he2⟩:∃x:Int,(t.draw:Int)=x:=⟨_,rfl⟩;obtain⟨e3,he3⟩:=xeq t.lane;rw[ha1,ha2,ha3,he1,he2,he3];obtain⟨K1,K2,K3,BR⟩:=zh4 (show a1=e1 ↔ s.clock=t.clock by omega) (show a2=e2 ↔ s.draw=t.draw by omega) (show a3=e3 ↔ s.lane=t.lane by rw[ha3,he3]) (tA5 w.heap.size w);clear v1 v2 v3 v4 v5 v6 u1 u2 u3 u4 u5 u6 ha1 ha2 ha3 he1 he2 he3;obtain⟨W0,hW0⟩:=eqx ((w.alloc (.cells #[.int .u64 a1,.int .u32 a2,.int .i64 a3,.slice At nt ct,.slice Ar nr cr,.slice Ag ng cg] 49)).alloc (.cells #[.int .u64 e1,.int .u32 e2,.int .i64 e3,.slice Bt mt dt,.slice Br mr dr,.slice Bg mg dg] 49));have s0:W0.heap.size=w.heap.size+1+1:=by rw[hW0,qar,qar]
 have b1:=zNb hW0;have b2:=zNc hW0;have bb:=zMb hW0;have f0:Blk (W0.alloc (.cells #[.nilFunc] 161)) (w.heap.size+1+1) 161 #[.nilFunc]:=by
  have h:=Blk.new W0 161 #[.nilFunc];rw[s0]at h;exact h
 obtain⟨W1,hW1⟩:=eqx ((W0.alloc (.cells #[.nilFunc] 161)).setCell ⟨w.heap.size+1+1,0,none⟩ (.func (.func 79) #[] #[]));have hst:(store ⟨w.heap.size+1+1,0,none⟩ (.func (.func 79) #[] #[])).run Tryz.prog (W0.alloc (.cells #[.nilFunc] 161))=.ok () W1:=by
  rw[run_store Tryz.prog _ _ _ _ (by rfl),f0.cell 0,f0.frozen 0,hW1];rfl
 have cf:Blk W1 (w.heap.size+1+1) 161 #[.func (.func 79) #[] #[]]:=by
  rw[hW1];exact f0.set_ 0 _
 have b01:Below W0.heap.size W0 W1:=by
  rw[hW1];exact(qah (tA5 _ _) _).setCell (by rw[s0];exact tA4 _) _
 have z1:=b1.below b01 b1.lt;have z2:=b2.below b01 b2.lt;have x0:W1.cell? ⟨w.heap.size,0,none⟩=some (.int .u64 a1):=z1.cell 0;have x1:W1.cell? ⟨w.heap.size,1,none⟩=some (.int .u32 a2):=z1.cell 1;have x2:W1.cell? ⟨w.heap.size,2,none⟩=some (.int .i64 a3):=z1.cell 2;have x3:W1.cell? ⟨w.heap.size,3,none⟩=some (.slice At nt ct):=z1.cell 3;have x4:W1.cell? ⟨w.heap.size,4,none⟩=some (.slice Ar nr cr):=z1.cell 4;have x5:W1.cell? ⟨w.heap.size,5,none⟩=some (.slice Ag ng cg):=z1.cell 5;have y0:W1.cell? ⟨w.heap.size+1,0,none⟩=some (.int .u64 e1):=z2.cell 0;have y1:W1.cell? ⟨w.heap.size+1,1,none⟩=some (.int .u32 e2):=z2.cell 1;have y2:W1.cell? ⟨w.heap.size+1,2,none⟩=some (.int .i64 e3):=z2.cell 2;have y3:W1.cell? ⟨w.heap.size+1,3,none⟩=some (.slice Bt mt dt):=z2.cell 3;have y4:W1.cell? ⟨w.heap.size+1,4,none⟩=some (.slice Br mr dr):=z2.cell 4;have y5:W1.cell? ⟨w.heap.size+1,5,none⟩=some (.slice Bg mg dg):=z2.cell 5;have hpf:=(cf.cell 0).trans (show (#[.func (.func 79) #[] #[]]:Array Value)[0]? =some (.func (.func 79) #[] #[]) from rfl);obtain⟨BW,A1⟩:=zh2 (bb.trans (b01.mono bb.size)) hpf;rw[hW0]at hst;clear hW0 s0 b1 b2 bb f0 hW1 cf b01 z1 z2 hpf BR;go_enter Tryz.func31,Tryz.ntmps31
 by_cases q0:a1=e1
 rotate_left
 · have HF:=zh1 (NO.o (fun h=>q0 (K1.o.2 h.1)))
   have qq:(a1==e1)=false:=by simpa using q0
   go_wp2
   go_ret
   exact⟨by rw[HF.o];rfl,BW.o⟩
 have Q0:=zh1 (K1.o.1 q0);subst q0;by_cases q1:a2=e2
 rotate_left
 · have HF:=zh1 (NO.o (fun h=>q1 (K2.o.2 h.2.1)))
   have qq:(a2==e2)=false:=by simpa using q1
   go_wp2
   go_ret
   exact⟨by rw[HF.o];rfl,BW.o⟩
 have Q1:=zh1 (K2.o.1 q1);subst q1;by_cases q2:a3=e3
 rotate_left
 · have HF:=zh1 (NO.o (fun h=>q2 (K3.o.2 h.2.2.1)))
   have qq:(a3==e3)=false:=by simpa using q2
   go_wp2
   go_ret
   exact⟨by rw[HF.o];rfl,BW.o⟩
 have Q2:=zh1 (K3.o.1 q2);subst q2;go_wp2_with fail
 refine zcb (C0.o W1 BW.o) fun w2 bw2=>?_
 have x52:=qai x5 bw2;have y52:=qai y5 bw2;have x42:=qai x4 bw2;have y42:=qai y4 bw2;obtain⟨hp2,B2⟩:=zh2 (qai A1.o bw2) (BW.trans (bw2.mono BW.size));clear bw2;cases h1:decide (s.tens=t.tens) with
 |false=>
  have HF:=zh1 (NO.o (fun h=>of_decide_eq_false h1 h.2.2.2.1));clear h1;go_wp2
  go_ret
  exact⟨by rw[HF.o];rfl,B2.o⟩
 |true=>
  have H1:=zh1 (of_decide_eq_true h1);clear h1;go_wp2_with fail
  refine zcb (C1.o w2 B2.o) fun w3 bw3=>?_
  have x43:=qai x42 bw3;have y43:=qai y42 bw3;obtain⟨hp3,B3⟩:=zh2 (qai hp2.o bw3) (B2.trans (bw3.mono B2.size));clear bw3;cases h2:decide (s.gras=t.gras) with
  |false=>
   have HF:=zh1 (NO.o (fun h=>of_decide_eq_false h2 h.2.2.2.2.1));clear h2;go_wp2
   go_ret
   exact⟨by rw[HF.o];rfl,B3.o⟩
  |true=>
   have H2:=zh1 (of_decide_eq_true h2);clear h2;go_wp2_with fail
   refine zcb (C2.o w3 _ B3.o hp3.o) fun w4 bw4=>?_
   have B4:=zh1 (B3.trans (bw4.mono B3.size));clear bw4;cases h3:decide (s.tres=t.tres) with
   |false=>
    have HF:=zh1 (NO.o (fun h=>of_decide_eq_false h3 h.2.2.2.2.2));clear h3;go_wp2
    go_ret
    exact⟨by rw[HF.o];rfl,B4.o⟩
   |true=>
    have HT:=zh1 (show decide (s=t)=true from decide_eq_true (A0.o ⟨Q0.o,Q1.o,Q2.o,H1.o,H2.o,of_decide_eq_true h3⟩));clear h3;go_wp2
    go_ret
    exact⟨by rw[HT.o];rfl,B4.o⟩
theorem CpAt.stR(h:CpAt w col cc L css s)(hs:s.Ok):StR w (stav s L) s:=by
 refine⟨some ⟨L.tg,0,none⟩,16,L.tc,some ⟨L.rg,0,none⟩,16,L.rc,some ⟨L.gg,0,none⟩,s.gras.length,L.gc,rfl,h.st.tens.reads,by decide,⟨hs.tresn,fun i t ht=>?_⟩,by decide,h.st.gras.reads,by have:=hs.grasn;omega⟩;obtain⟨hn,Ad,cd,Al,cl,Aq,cq,h1,h2,h3,h4,h5⟩:=h.st.tree hs ht;obtain⟨A0,c0,e0,-,-,r0,-⟩:=h3.sl;obtain⟨A1,c1,e1,-,-,r1⟩:=h4.reads;obtain⟨A2,c2,e2,-,-,r2⟩:=h5.reads;injection e0 with e01 e02 e03;injection e1 with e11 e12 e13;injection e2 with e21 e22 e23;subst e01 e03 e11 e13 e21 e23;refine⟨hs.tre ht,L.rg,0,Ad,cd,Al,cl,Aq,cq,rfl,fun j u hu=>?_,r0,r1,r2⟩;have:=h2 j u hu;rwa[Nat.zero_add]
theorem CpAt.tenSet(h:CpAt w col cc L css s)(hs:s.Ok)(hx:s.tens[0]? =some x)(v:Nat):
 CpAt (w.setCell ⟨L.tg,3,none⟩ (.int .u32 (v:Int))) col cc L css (s.setX 0 fun x=>{x with tok:=v}):=by
 obtain⟨hn,_⟩:=tA8 hx;have hT:Turns (· ==2) w cc (w.setCell ⟨L.tg,3,none⟩ (.int .u32 (v:Int))) cc:=Turns.setCell _ (by simp[h.st.tens.1]);have k1:∀i,i≠2→KeepsCol i w cc (w.setCell ⟨L.tg,3,none⟩ (.int .u32 (v:Int))) cc:=fun i hi=>hT.keeps (by simpa using hi)
 refine⟨⟨?_,h.st.tres.keep (k1 _ zdc),h.st.gras.keep (k1 _ zdc),h.st.trs.keep fun i hi=>k1 i zo⟩,fun b hb=>?_⟩
 · have h1:=h.st.tens.over (o:=0*6+3) (cs:=[.int .u32 (v:Int)]) (by rw[qnm,hs.tensn];simp)
   rw[qno (f:=fun x=>{x with tok:=v}) hn zm (fun y hy=>by rw[hx]at hy;injection hy with hy;subst hy;rfl)]at h1;exact h1
 have h2:=h.own b hb;exact⟨tB0 h2.1 hT.size,h2.2⟩
theorem xdp(h:Sit W B w col g gw tb c s):
 Zc 16 #[.pointer (some ⟨g,0,none⟩)] w fun e w'=>∃cc L css,e=.returned (.agg (stav s L).toArray)∧CpAt w' col cc L css s∧w.heap.size≤L.tg∧Zb w w'∧Sit W B w' col g gw tb c s:=by
 refine(xbc h).mono ?_;rintro e w' ⟨cc,L,css,rfl,h1,h2,h3,h4⟩;exact⟨cc,L,css,rfl,⟨h1,fun b hb=>⟨(h2 b hb).2,h.new0 (h2 b hb).1⟩⟩,(h2 L.tg (by rw[h1.tens.1];decide)).1,h3,h4⟩
theorem CpAt.beside(h:CpAt w col cc L css s)(hb:cc b=0)(i:Nat)(v:Value):CpAt (w.setCell ⟨b,i,none⟩ v) col cc L css s:=by
 have hT:Turns (· ==0) w cc (w.setCell ⟨b,i,none⟩ v) cc:=Turns.setCell _ (by simp[hb]);have K:∀i',i'≠0→KeepsCol i' w cc (w.setCell ⟨b,i,none⟩ v) cc:=fun i' hi=>hT.keeps (by simpa using hi)
 refine⟨⟨h.st.tens.keep (K _ zdc),h.st.tres.keep (K _ zdc),h.st.gras.keep (K _ zdc),h.st.trs.keep fun i hi=>K i zo⟩,fun b hb=>?_⟩;have h1:=h.own b hb;exact⟨tB0 h1.1 hT.size,h1.2⟩
theorem xdq(hx:s.tens[0]? =some x):((s.setX 0 fun y=>{y with tok:=y.tok - 1}).setX 0 fun y=>{y with tok:=x.tok})=s:=by
 obtain⟨clock,draw,lane,tens,tres,gras⟩:=s;cases tens with
 |nil=>simp at hx
 |cons y l=>
  simp at hx;subst hx;rfl
theorem xdr(hx:s.tens[0]? =some x):(s.setX 0 fun y=>{y with tok:=y.tok - 1}).tens[0]? =some {x with tok:=x.tok - 1}:=by
 obtain⟨clock,draw,lane,tens,tres,gras⟩:=s;cases tens with
 |nil=>simp at hx
 |cons y l=>
  simp at hx;subst hx;rfl
theorem xds{a:Nat}{t u:TypeId}{x y:Array Value}(h1:Blk w a t x)(h2:Blk w b u y)(h:t≠u):a≠b:=fun e=>by
 subst e;have h3:some (Obj.cells x t (0,0))=some (Obj.cells y u (0,0)):=h1.symm.trans h2;injection h3 with h3;injection h3 with h4 h5;exact h h5
theorem Tryz.tree_info75:(Tryz.prog.info? 74).map (fun i=>(i.zero.map fun z=>z.cells.size,i.size))=some (some 75,75):=by kernel_rfl
theorem xdz{ops:Array Oper}{rest:List Oper}(x:Operand)(D:List Value)(hD:D.length=75)(h:wpList Tryz.prog ops Q rest (a.put o.dst (.slice (some ⟨w.heap.size,0,none⟩) 1 1)) (w.alloc (.cells D.toArray 74)))
 (hw:Region.wanted o (yielded ops a.tmps)=true:=by rfl)(ho:o.op=.buildSlice 46 1 #[(0,x)]:=by rfl)(hx:a.eval x=.agg D.toArray:=by rfl):wpList Tryz.prog ops Q (o::rest) a w:=by
 have hi:=Tryz.tree_info75;rcases hinf:Tryz.prog.info? 74 with _|i
 · rw[hinf]at hi;cases hi
 rw[hinf]at hi;simp only[Option.map_some,Option.some.injEq,Prod.mk.injEq]at hi;obtain⟨h1,h2⟩:=hi;rcases hz:i.zero with _|z
 · rw[hz]at h1;cases h1
 rw[hz]at h1;simp only[Option.map_some,Option.some.injEq]at h1;unfold wpList;rw[if_pos hw];exact .inl (qro 46 74 x ho D hx i z 75 Tryz.underlying46 hinf hz h2 h1 hD zdc zdc h)
def oneS (t:Tre):Sta:={clock:=0,draw:=0,lane:=0,tens:=[],tres:=[t],gras:=[]}
theorem xe0(ht:t.Ok){c1 c2:Nat}(hb:w.rangeAt g 0 (trev t (.slice A1 t.draws.length c1) (.slice A2 t.leaves.length c2) (.slice A3 t.queue.length c3)))
 (r1:Reads w w.heap.size 1 A1 t.draws.length (drwv t.draws))(r2:TextsR w A2 t.leaves.length t.leaves)(r3:TextsR w A3 t.queue.length t.queue):
 StR w [.int .u64 0,.int .u32 0,.int .i64 0,.slice none 0 0,.slice (some ⟨g,0,none⟩) 1 1,.slice none 0 0] (oneS t):=by
 refine⟨none,0,0,some ⟨g,0,none⟩,1,1,none,0,0,rfl,Reads.none_,by decide,⟨rfl,fun i t' h=>?_⟩,by decide,Reads.none_,by decide⟩;obtain⟨rfl,rfl⟩:i=0∧t=t':=by
  cases i with
  |zero=>exact⟨rfl,by simpa [oneS] using h⟩
  |succ i=>simp[oneS]at h
 exact⟨ht,g,0,A1,c1,A2,c2,A3,c3,rfl,by simpa using hb,r1,r2,r3⟩
theorem xe1{u:Tre}:decide (oneS t=oneS u)=decide (t=u):=by
 by_cases h:t=u
 · rw[decide_eq_true h,decide_eq_true (by rw[h])]
 rw[decide_eq_false h,decide_eq_false (fun e=>h (by unfold oneS at e;simpa using e))]
theorem CpAt.trees(h:CpAt w col cc L css s)(hs:s.Ok):TreesR w (some ⟨L.rg,0,none⟩) 16 s.tres:=by
 refine⟨hs.tresn,fun i t ht=>?_⟩;obtain⟨hn,Ad,cd,Al,cl,Aq,cq,h1,h2,h3,h4,h5⟩:=h.st.tree hs ht;obtain⟨A0,c0,e0,-,-,r0,-⟩:=h3.sl;obtain⟨A1,c1,e1,-,-,r1⟩:=h4.reads;obtain⟨A2,c2,e2,-,-,r2⟩:=h5.reads;injection e0 with e01 e02 e03;injection e1 with e11 e12 e13;injection e2 with e21 e22 e23;subst e01 e03 e11 e13 e21 e23;refine⟨hs.tre ht,L.rg,0,Ad,cd,Al,cl,Aq,cq,rfl,fun j u hu=>?_,r0,r1,r2⟩;have:=h2 j u hu;rwa[Nat.zero_add]
theorem TreesR.at_{ts:List Tre}(h:TreesR w (some ⟨g,0,none⟩) n ts)(ht:ts[i]? =some t):
 t.Ok∧∃A1 c1 A2 c2 A3 c3,w.rangeAt g (i*75) (trev t (.slice A1 t.draws.length c1) (.slice A2 t.leaves.length c2) (.slice A3 t.queue.length c3))∧Reads w w.heap.size 1 A1 t.draws.length (drwv t.draws)∧TextsR w A2 t.leaves.length t.leaves∧TextsR w A3 t.queue.length t.queue:=by
 obtain⟨o,g',o',A1,c1,A2,c2,A3,c3,e,r,r1,r2,r3⟩:=h.2 i t ht;injection e with e;injection e with e1 e2 e3;subst e1 e2;rw[Nat.zero_add]at r;exact⟨o,A1,c1,A2,c2,A3,c3,r,r1,r2,r3⟩
def oneV (g:Nat):List Value:=[.int .u64 0,.int .u32 0,.int .i64 0,.slice none 0 0,.slice (some ⟨g,0,none⟩) 1 1,.slice none 0 0]
theorem xe2(w:World)(X:List Value):∃W',(w.alloc (.cells X.toArray 74)).alloc (.cells #[.int .u64 0,.int .u32 0,.int .i64 0,.slice none 0 0,.slice (some ⟨w.heap.size,0,none⟩) 1 1,.slice none 0 0] 49)=W'∧Blk W' w.heap.size 74 X.toArray∧W'.rangeAt (w.heap.size+1) 0 (oneV w.heap.size)∧w.heap.size+1<W'.heap.size∧Zb w W':=by
 have nA:=Blk.new (w.alloc (.cells X.toArray 74)) 49 (oneV w.heap.size).toArray;rw[qar]at nA;exact⟨_,rfl,(Blk.new w 74 X.toArray).alloc _,qap nA 0 (oneV w.heap.size) zjq,nA.lt,((tA5 w.heap.size w).alloc (tA4 _) _).alloc zm _⟩
theorem CpAt.col0(h:CpAt w col cc L css s)(hb:w.heap.size≤b):cc b=0:=by
 by_cases e:cc b=0
 · exact e
 have h1:=(h.own _ e).1;omega
section
variable {s : Sta} {L : Loc} {V : List Value}
theorem xe3(h:stav s L=V):V.toArray[0]? =some (.int .u64 (s.clock:Int)):=by rw[←h];rfl
theorem xe4(h:stav s L=V):V.toArray[2]? =some (.int .i64 s.lane):=by rw[←h];rfl
theorem xe5(h:stav s L=V):V.toArray[3]? =some (.slice (some ⟨L.tg,0,none⟩) 16 L.tc):=by rw[←h];rfl
theorem xe6(h:stav s L=V):V.toArray[4]? =some (.slice (some ⟨L.rg,0,none⟩) 16 L.rc):=by rw[←h];rfl
end
theorem xe7{X:Array Value}(i j:Nat)(u:Value)(h:i≠j):(X.setIfInBounds i u)[j]? =X[j]? :=by rw[Array.getElem?_setIfInBounds,if_neg h]
theorem xe8{v:World}(h:Sit W B v col g gw tb c s)(t:Sta)(L:Loc):
 ∃V,stav t L=V∧Hid ((Tryz.prog.info? 49).map (·.size)=some V.length)∧Hid (V.length=6)∧Hid (∀u∈V,u.oneCell'=true)∧Hid (Blk (v.alloc (.cells #[.int .u64 0,.int .u32 0,.int .i64 0,.slice none 0 0,.slice none 0 0,.slice none 0 0] 49)) v.heap.size 49 #[.int .u64 0,.int .u32 0,.int .i64 0,.slice none 0 0,.slice none 0 0,.slice none 0 0])∧
  Hid (Sit W B ((v.alloc (.cells #[.int .u64 0,.int .u32 0,.int .i64 0,.slice none 0 0,.slice none 0 0,.slice none 0 0] 49)).setRow v.heap.size V.toArray) col g gw tb c s∧OwnAt ((v.alloc (.cells #[.int .u64 0,.int .u32 0,.int .i64 0,.slice none 0 0,.slice none 0 0,.slice none 0 0] 49)).setRow v.heap.size V.toArray) col B v.heap.size 49 V∧Zb v ((v.alloc (.cells #[.int .u64 0,.int .u32 0,.int .i64 0,.slice none 0 0,.slice none 0 0,.slice none 0 0] 49)).setRow v.heap.size V.toArray)):=
 ⟨_,rfl,zh1 (by rw[qvo];kernel_rfl),zh1 (qvo t L),zh1 (qvp t L),zh1 (Blk.new _ _ _),zh1 (xc3 h 49 #[.int .u64 0,.int .u32 0,.int .i64 0,.slice none 0 0,.slice none 0 0,.slice none 0 0] (stav t L))⟩
theorem CpAt.mixT{l m:List (List Value)}{t:Sta}(h:CpAt w c1 d1 L l s)(k:CpAt w c2 d2 M m t)(hs:s.Ok)(ht:t.Ok)(e1:s.clock=t.clock)(e2:s.draw=t.draw)(e3:s.tens=t.tens)(e4:s.gras=t.gras):
 StR w [.int .u64 (s.clock:Int),.int .u32 (s.draw:Int),.int .i64 t.lane,.slice (some ⟨L.tg,0,none⟩) 16 L.tc,.slice (some ⟨M.rg,0,none⟩) 16 M.rc,.slice (some ⟨L.gg,0,none⟩) s.gras.length L.gc] t:=
 ⟨_,_,_,_,_,_,_,_,_,by rw[e1,e2],by rw[←e3];exact h.st.tens.reads,by decide,k.trees ht,by decide,by rw[←e4];exact h.st.gras.reads,by have:=hs.grasn;omega⟩
theorem CpAt.mixZ{l m:List (List Value)}{t:Sta}(h:CpAt w c1 d1 L l (qmx t))(k:CpAt w c2 d2 M m t)(ht:t.Ok):
 StR w [.int .u64 (t.clock:Int),.int .u32 (t.draw:Int),.int .i64 t.lane,.slice (some ⟨M.tg,0,none⟩) 16 M.tc,.slice (some ⟨L.rg,0,none⟩) 16 L.rc,.slice (some ⟨L.gg,0,none⟩) t.gras.length L.gc] t:=
 ⟨_,_,_,_,_,_,_,_,_,rfl,k.st.tens.reads,by decide,h.trees (qtt ht),by decide,h.st.gras.reads,by have:=ht.grasn;omega⟩
theorem CpAt.boxT{l m:List (List Value)}{t:Sta}(hb:Blk w G 49 ((V.toArray.setIfInBounds 4 (.slice (some ⟨M.rg,0,none⟩) 16 M.rc)).setIfInBounds 2 (.int .i64 t.lane)))(hV:stav s L=V)
 (h:CpAt w c1 d1 L l s)(k:CpAt w c2 d2 M m t)(hs:s.Ok)(ht:t.Ok)(e1:s.clock=t.clock)(e2:s.draw=t.draw)(e3:s.tens=t.tens)(e4:s.gras=t.gras):∃X:List Value,Blk w G 49 X.toArray∧StR w X t∧(Tryz.prog.info? 49).map (·.size)=some X.length:=by
 subst hV;exact⟨_,hb,h.mixT k hs ht e1 e2 e3 e4,by kernel_rfl⟩
theorem CpAt.boxZ{l m:List (List Value)}{t:Sta}(hb:Blk w G 49 ((V.toArray.setIfInBounds 0 (.int .u64 (t.clock:Int))).setIfInBounds 3 (.slice (some ⟨M.tg,0,none⟩) 16 M.tc)))(hV:stav (qmx t) L=V)
 (h:CpAt w c1 d1 L l (qmx t))(k:CpAt w c2 d2 M m t)(ht:t.Ok):∃X:List Value,Blk w G 49 X.toArray∧StR w X t∧(Tryz.prog.info? 49).map (·.size)=some X.length:=by
 subst hV;exact⟨_,hb,h.mixZ k ht,by kernel_rfl⟩
theorem xe9{a:Nat}(h:n≤1024)(e:a+b=n):IntKind.i64.wrap ((a:Int)+(b:Int))=(n:Int)∧wrap64 ((a:Int)+(b:Int))=(n:Int):=by
 constructor
 · rw[tBb _ zo];omega
 rw[IntWalk.wrap64_in _ zo];omega
theorem xea(W:World)(hT:Tabs W)(hE:ErrT W)(cx cy:Int)(st:Nat)(A:Option Addr)(n k:Nat)(bs:List Nat)(hr:Reads W W.heap.size 1 A n (byv bs))(hx: -9223372036854775808≤cx∧cx≤9223372036854775807)(hy: -9223372036854775808≤cy∧cy≤9223372036854775807)(hst:st<4294967296)(hnk:n≤k)(hn:n≤140737488351232)(hbs:∀b∈bs,b<256)
 (l:List Stp)(Al:Option Addr)(nl kl:Nat)(hl:StpsR W Al l)(hll:l.length=nl)(h140:∀S∈l,S.raw.length≤140737488351232):
 Zc 6 #[.agg #[.int .i64 cx,.int .i64 cy,.int .u32 (st:Int),.slice A n k],.slice Al nl kl] W fun e w'=>e=.returned (.bool true)∧Below W.heap.size W w':=by
 have hco:=xcy cx cy st bs hbs;obtain⟨c,hc⟩:=xeq (xcx cx cy st bs);rw[hc]at hco;obtain⟨W0,hW0⟩:=eqx (W.alloc (.cells #[.int .i64 cx,.int .i64 cy,.int .u32 (st:Int),.slice A n k] 25));have k0:=zNa hW0;have b0:=zMa hW0;have CC:=xcz cx cy st A n k bs W0 (hr.call b0) hx hy hst hnk hn;rw[hc]at CC;obtain⟨AM,D2,K0,B0,HT,HE,BK,HL⟩:=zh8 CC hW0 k0 b0 hT hE hco hl;obtain⟨C3,BL⟩:=zh2 hll h140;clear CC hW0 k0 b0 hT hE hco hl hll h140 hr hx hy hst hnk hn hbs hc;go_enter Tryz.func6,Tryz.ntmps6
 go_upto_region 1 with(fail)
 rw[←D2.o];have RK:=zh1 (qap K0.o 0 [.int .i64 cx,.int .i64 cy,.int .u32 (st:Int),.slice A n k] zjq);go_wp2_with (refine qaq rfl 25 (.tmp 2) rfl W.heap.size 0 rfl [.int .i64 cx,.int .i64 cy,.int .u32 (st:Int),.slice A n k] _ RK.o Tryz.underlying25 rfl zk ?_)
 refine AM.o.mono ?_;rintro e w1 ⟨A1,n1,k1,rfl,r1,a1,b1⟩;obtain⟨K1,R1,C5,B1⟩:=zh4 (K0.below b1 K0.lt) r1 a1 b1;clear r1 a1 b1;go_upto_region 2 with(refine wpList_store_row rfl 25 (.tmp 2) (.tmp 19) rfl W.heap.size #[.int .i64 c.width,.int .i64 c.quantum,.int .u32 (c.store:Int),.slice A1 n1 k1] rfl rfl 25 _ K1.o zk zm (by simp[Value.oneCell']) ?_)
 obtain⟨W2,hW2⟩:=eqx (w1.setRow W.heap.size #[.int .i64 c.width,.int .i64 c.quantum,.int .u32 (c.store:Int),.slice A1 n1 k1]);rw[←hW2];have hg2:w1.grownBy W2 (some W.heap.size):=by rw[hW2];exact qam _ _ _
 have ne2:∀ad,A1=some ad→ad.block≠W.heap.size:=fun ad e h=>by
  have h1:=C5.o ad e;have h2:=K0.lt;omega
 have k2:Blk W2 W.heap.size 25 #[.int .i64 c.width,.int .i64 c.quantum,.int .u32 (c.store:Int),.slice A1 n1 k1]:=by rw[hW2];exact K1.setRow _
 have r2:=xd0 R1.o hg2 ne2;have b2:Below W.heap.size W W2:=(B0.trans (B1.mono B0.size)).grown hg2 (tB1 B0.size B1.size) (by intro g hg;injection hg with hg;omega);have CN:=xap c A1 n1 k1 W2 BK.o r2 (HT.below b2 HT.size);obtain⟨K2,R2,B2,D3,L2,D5⟩:=zh6 k2 r2 b2 CN (show ∀ad,A1=some ad→W.heap.size<ad.block from fun ad e=>by have h1:=C5.o ad e;have h2:=K0.lt;omega) (qap k2 0 [.int .i64 c.width,.int .i64 c.quantum,.int .u32 (c.store:Int),.slice A1 n1 k1] zjq);clear hW2 hg2 ne2 k2 r2 b2 CN RK K1 R1;go_wp2_with (refine qaq rfl 25 (.tmp 2) rfl W.heap.size 0 rfl [.int .i64 c.width,.int .i64 c.quantum,.int .u32 (c.store:Int),.slice A1 n1 k1] _ D5.o Tryz.underlying25 rfl zk ?_)
 refine D3.o.mono ?_;rintro e w3 ⟨g,L,css,col,rfl,m3,z3,b3⟩;have K3c:=zh1 (K2.below b3 K2.lt);have D6:=zh1 (qap K3c.o 0 [.int .i64 c.width,.int .i64 c.quantum,.int .u32 (c.store:Int),.slice A1 n1 k1] zjq);have CW:=xas c A1 n1 k1 w3 (R2.call b3);obtain⟨D7,M3,Z3,B3⟩:=zh4 CW m3 z3 b3;clear m3 z3 b3 CW;go_wp2_with (refine qaq rfl 25 (.tmp 2) rfl W.heap.size 0 rfl [.int .i64 c.width,.int .i64 c.quantum,.int .u32 (c.store:Int),.slice A1 n1 k1] _ D6.o Tryz.underlying25 rfl zk ?_)
 refine D7.o.mono ?_;rintro e w4 ⟨gw,tb,rfl,wa4,lg,lt,b4⟩;have s4:=xd1 HT.o HE.o B2.o R2.o M3.o Z3.o B3.o wa4 lg lt b4;obtain⟨B,hB⟩:=xeq w4.heap.size;obtain⟨S4,b24⟩:=zh2 s4 (B3.trans (b4.mono B3.size));obtain⟨K4,DS,LG,LT⟩:=zh4 (K2.below b24.o K2.lt) (show col W.heap.size=0 from Z3.o _ K2.lt) (show W.heap.size<gw by have:=K2.lt;have:=B3.size;omega) (show W.heap.size<tb by have:=K2.lt;have:=B3.size;omega);rw[hB]at S4;clear s4 wa4 lg lt b4 hB;have hnll:=C3.o;go_upto_block 0 with fail
 go_cut [8] (fun s8 wx=>∃(colr:Col) (s:Sta),Hid (Sit W B wx colr g gw tb c s)∧Hid (Rest w4 col wx colr))
 case first=>
  go_wp2_with fail
  go_loopw [8] (fun i wr=>∃(j:Nat) (colr:Col),j≤nl∧j≤20∧i=.int .i64 j∧Hid (Sit W B wr colr g gw tb c (xd2 c (newS c) (l.take j)))∧Hid (Rest w4 col wr colr)) (fun i _=>20 - (intOf i).toNat)
  case atStart=>exact⟨0,col,by omega,by omega,rfl,S4,zh1 ⟨rfl,rfl,rfl,tA4 _,fun _ _ h=>⟨rfl,h⟩⟩⟩
  case round=>
   obtain⟨j,colr,hj,hj20,rfl,hs,hr⟩:=hrel;by_cases h1:j<nl
   ·
    have q1:(j:Int)<nl:=zo;by_cases h2:j<20
    ·
     have q2:(j:Int)<20:=zo;obtain⟨S,hS⟩:∃S,l[j]? =some S:=⟨_,tA7 (by rw[C3.o];exact h1)⟩;have hlr:=HL.stay hs.below.size (fun b hb=>hs.below.block b hb);obtain⟨gb,go,cs,hA,h53,hst,hrg⟩:=hlr.at_ hS;subst hA;have CS:=xcw hs.o BK.o S cs hst (BL.o S (tB2 hS));obtain⟨AN,D8,D9,HI⟩:=zh4 CS hS hrg (zI 44 h53);clear CS hS hlr hst hrg h53;go_wp2_with (refine zld D9.o zu44 HI.o ?_)
     refine AN.o.mono ?_;rintro e w5 ⟨v5,col5,rfl,-,-,s5,r5⟩;obtain⟨S5,R5⟩:=zh2 s5 (hr.trans r5);clear s5 r5;go_wp2
     go_roundw
     case rel=>
      refine⟨j+1,col5,by omega,by omega,by go_num,?_,R5⟩;rw[xd3 D8.o];exact S5
     case measure=>simp[intOf];omega
    have q2:¬(j:Int)<20:=zo;go_wp2
    go_meet
    case rel=>exact⟨colr,_,hs,hr⟩
   have q1:¬(j:Int)<nl:=zo;go_wp2
   go_meet
   case rel=>exact⟨colr,_,hs,hr⟩
 case rest=>
  obtain⟨colr,s,hs,hr⟩:=hcut;obtain⟨W5,rfl⟩:=eqx wc;have CS:=xd5 hs.o;have AN:=zh1 CS;clear CS;go_wp2_with fail
  refine AN.o.mono ?_;rintro e w7 ⟨ccA,LA,cssA,rfl,cpA,bA,sA⟩;obtain⟨SV,hSV,IS,LS,OS,N7,C6⟩:=xe8 sA s LA;rw[hSV];obtain⟨AO,DA⟩:=zh2 hSV cpA;clear hSV cpA bA sA;go_upto_region 11 with(refine zst N7.o IS.o (by simp[LS.o]) OS.o ?_)
  obtain⟨W7,hW7⟩:=eqx ((w7.alloc (.cells #[.int .u64 0,.int .u32 0,.int .i64 0,.slice none 0 0,.slice none 0 0,.slice none 0 0] 49)).setRow w7.heap.size SV.toArray);rw[←hW7];rw[←hW7]at C6;obtain⟨GA,hGA⟩:=xeq w7.heap.size;rw[hGA];obtain⟨s8,x8,b8⟩:=C6.o;rw[hGA]at x8;obtain⟨DB,X8⟩:=zh2 (DA.call b8) x8;have CQ:=qzv s8 BK.o;have DC:=zh1 CQ;clear hW7 hGA x8 b8 CQ s8;go_wp2_with fail
  refine DC.o.mono ?_;rintro e w9 ⟨rfl,col9,s9,r9⟩;obtain⟨S9,R9⟩:=zh2 s9 r9;clear s9 r9;have C7:=xdp S9.o;have BM:=zh1 C7;clear C7;go_wp2_with fail
  refine BM.o.mono ?_;rintro e w10 ⟨ccB,LB,cssB,rfl,cpB,lowB,bB,sB⟩;obtain⟨s',hs'⟩:=xeq (seqS c s);rw[hs']at cpB sB ⊢;obtain⟨SU,hSU,BC,DD,DE,DF,AP⟩:=xe8 sB s' LB;rw[hSU];obtain⟨AL,HS',DG,BN⟩:=zh4 hSU hs' cpB bB;clear hSU cpB bB sB lowB hs';go_upto_region 13 with(refine zst DF.o BC.o (by simp[DD.o]) DE.o ?_)
  obtain⟨A8,hW10⟩:=eqx ((w10.alloc (.cells #[.int .u64 0,.int .u32 0,.int .i64 0,.slice none 0 0,.slice none 0 0,.slice none 0 0] 49)).setRow w10.heap.size SU.toArray);rw[←hW10];rw[←hW10]at AP;obtain⟨GB,hGB⟩:=xeq w10.heap.size;rw[hGB];obtain⟨s11,x11,b11⟩:=AP.o;rw[hGB]at x11;have r11:=(R9.trans (Rest.of_below BN.o)).trans (Rest.of_below b11);have xa:=X8.rest r11;obtain⟨XA,XB,A9,A0,AQ⟩:=zh5 xa x11 (DB.rest r11) (DG.call b11) s11;obtain⟨TA,TB⟩:=zh2 (A9.trees hs.ok) (A0.trees AQ.ok);have c4:=(xa.blk.cell 4).trans (xe6 AO.o);have d4:=(x11.blk.cell 4).trans (xe6 AL.o);obtain⟨C4,D4⟩:=zh2 c4 d4;have hst:=xdy (c:=c) hs.ok;rw[HS'.o]at hst;obtain⟨z1,z2,z3,z4,z5,kk,hk0,hsame,hsum⟩:=hst;obtain⟨Z1,Z2,Z3,Z4,Z5,C8,C9,CA⟩:=zh8 z1 z2 z3 z4 z5 hk0 hsame hsum;have BR:=zh1 (tA5 A8.heap.size A8);clear hW10 hGB s11 x11 b11 r11 xa z1 z2 z3 z4 z5 hk0 hsame hsum;go_upto_block 2 with fail
  clear c4 d4;go_cut [11] (fun s11 wx=>∃m:Nat,s11=.int .i64 m∧m≤1∧Hid (Below A8.heap.size A8 wx))
  case first=>
   go_wp2_with fail
   go_loopw [11,12] (fun u i wr=>∃j m:Nat,j≤16∧i=.int .i64 j∧u=.int .i64 m∧m≤1∧(j≤kk→m=0)∧Hid (Below A8.heap.size A8 wr)) (fun u i _=>16 - (intOf i).toNat)
   case atStart=>exact⟨0,0,by omega,rfl,rfl,by omega,fun _=>rfl,BR⟩
   case round=>
    obtain⟨j,m,hj,rfl,rfl,hm1,hm2,hb⟩:=hrel;have HM:=zh1 hm2;clear hm2;have c4:=qai C4.o hb.o;have d4:=qai D4.o hb.o;by_cases hlt:j<16
    ·
     have p1:(j:Int)<16:=zo;obtain⟨t,ht⟩:∃t,s.tres[j]? =some t:=⟨_,tA7 (by rw[hs.ok.tresn];exact hlt)⟩;obtain⟨u,hu⟩:∃t,s'.tres[j]? =some t:=⟨_,tA7 (by rw[AQ.ok.tresn];exact hlt)⟩;obtain⟨tk1,A1,c1,A2,c2,A3,c3,ra,x1,x2,x3⟩:=(TA.call hb.o).at_ ht;obtain⟨uk1,B1,d1,B2,d2,B3,d3,rb,y1,y2,y3⟩:=(TB.call hb.o).at_ hu;have lX:=qnj (t:=t) (.slice A1 t.draws.length c1) (.slice A2 t.leaves.length c2) (.slice A3 t.queue.length c3) tk1.hd;have lY:=qnj (t:=u) (.slice B1 u.draws.length d1) (.slice B2 u.leaves.length d2) (.slice B3 u.queue.length d3) uk1.hd;obtain⟨X,hX⟩:=xeq (trev t (.slice A1 t.draws.length c1) (.slice A2 t.leaves.length c2) (.slice A3 t.queue.length c3));obtain⟨Y,hY⟩:=xeq (trev u (.slice B1 u.draws.length d1) (.slice B2 u.leaves.length d2) (.slice B3 u.queue.length d3));rw[hX]at ra lX;rw[hY]at rb lY;obtain⟨IX,IY,LX,LY,RX,RY,HX,HY⟩:=zh8 (zI 74 lX) (zI 74 lY) lX lY ra rb hX hY;obtain⟨HT,HU,XX,YY⟩:=zh4 ht hu (And.intro tk1 (And.intro x1 (And.intro x2 x3))) (And.intro uk1 (And.intro y1 (And.intro y2 y3)));clear ht hu ra rb x1 x2 x3 y1 y2 y3 lX lY hX hY tk1 uk1;go_upto_region 20 with(first
      |(refine zld RX.o zu74 IX.o ?_)
      |(refine xdz (.tmp 74) X LX.o ?_))
     obtain⟨W1,hW1,nX,nA,lA,bw⟩:=xe2 wr X;rw[hW1];obtain⟨G,hG⟩:=xeq wr.heap.size;have bW1:=hb.trans (bw.mono hb.size);obtain⟨DH,AR,BE⟩:=zh3 (show W1.rangeAt LB.rg (j*75) Y from fun i v hv=>qai (RY.o i v hv) bw) (And.intro XX.o.1 (And.intro (XX.o.2.1.call bw) (And.intro (XX.o.2.2.1.call bw) (XX.o.2.2.2.call bw)))) (And.intro YY.o.1 (And.intro (YY.o.2.1.call bw) (And.intro (YY.o.2.2.1.call bw) (YY.o.2.2.2.call bw))));have d41:=qai D4.o bW1;rw[hG]at nX nA lA ⊢;obtain⟨NX,NA,LA',CB⟩:=zh4 nX nA lA bW1;clear hW1 nX nA lA bw bW1 hG c4 d4 RX RY XX YY hb;go_upto_region 21 with(first
      |(refine zld DH.o zu74 IY.o ?_)
      |(refine xdz (.tmp 81) Y LY.o ?_))
     obtain⟨W2,hW2,nY,qb,-,bw⟩:=xe2 W1 Y;rw[hW2];have nX2:=NX.below bw NX.lt;have qa:W2.rangeAt (G+1) 0 (oneV G):=fun i v hv=>(bw.cell (p:=⟨G+1,0+i,none⟩) LA'.o).trans (NA.o i v hv)
     have rx:=qap nX2 0 X zjq;have ry:=qap nY 0 Y zjq;rw[←HX.o]at rx;rw[←HY.o]at ry;have sa:=xe0 AR.o.1 rx (AR.o.2.1.call bw) (AR.o.2.2.1.call bw) (AR.o.2.2.2.call bw);have sb:=xe0 BE.o.1 ry (BE.o.2.1.call bw) (BE.o.2.2.1.call bw) (BE.o.2.2.2.call bw);have CE:=xdo (oneV G) (oneV W1.heap.size) _ _ W2 sa sb;rw[xe1]at CE;obtain⟨CD,QA,QB,CF⟩:=zh4 CE qa qb (CB.trans (bw.mono CB.size));obtain⟨G1,hG1⟩:=xeq W1.heap.size;rw[hG1]at QB CD ⊢;clear hW2 nY bw nX2 qa qb rx ry sa sb CE hG1 d41;go_wp2_with (first
      |(refine zld QA.o zu49 zk ?_)
      |(refine zld QB.o zu49 zk ?_))
     refine zcb CD.o fun w3 b3=>?_
     have B3':=zh1 (CF.trans (b3.mono CF.size));clear b3;by_cases htu:t=u
     · rw[decide_eq_true htu]
       go_wp2
       go_roundw
       case rel=>exact⟨j+1,m,by omega,by go_num,rfl,hm1,fun h=>HM.o zo,B3'⟩
       case measure=>simp[intOf];omega
     have hjk:j=kk:=by
      by_cases h:j=kk
      · exact h
      have:=C9.o j h;rw[HT.o,HU.o]at this;injection this with this;exact absurd this.symm htu
     have hm0:=HM.o (Nat.le_of_eq hjk);have hj0:¬(j:Int)=0:=by have:=C8.o;omega
     subst hm0;have hlen:=CA.o t u (hjk▸HT.o) (hjk▸HU.o);rw[decide_eq_false htu];obtain⟨-,E1,e1,E2,e2,E3,e3,rx,-,-,-⟩:=(TA.call B3'.o).at_ HT.o;obtain⟨-,F1,f1,F2,f2,F3,f3,ry,-,-,-⟩:=(TB.call B3'.o).at_ HU.o;have c4:=qai C4.o B3'.o;have d4:=qai D4.o B3'.o;have x5:w3.cell? ⟨LA.rg,j*75+5,none⟩=some (.slice E2 t.leaves.length e2):=rx 5 _ rfl;have x6:w3.cell? ⟨LA.rg,j*75+6,none⟩=some (.slice E3 t.queue.length e3):=rx 6 _ rfl;have y5:w3.cell? ⟨LB.rg,j*75+5,none⟩=some (.slice F2 u.leaves.length f2):=ry 5 _ rfl;have y6:w3.cell? ⟨LB.rg,j*75+6,none⟩=some (.slice F3 u.queue.length f3):=ry 6 _ rfl;have o1:=AR.o.1.leaves;obtain⟨sm,hsm⟩:=xeq (t.leaves.length+t.queue.length);rw[hsm]at o1 hlen;obtain⟨w1,w1'⟩:=xe9 o1 hsm;obtain⟨w2,w2'⟩:=xe9 o1 hlen;have DI:=zh1 hjk;have hjn:¬j=0:=zo;clear rx ry hlen o1 hsm hjk;go_upto_region 23 with(fail)
     obtain⟨S,HS9⟩:=zS fun w'=>Below w3.heap.size w3 w'
     refine zrs S 35 (zq 0 35 []) ((HS9.o _).mpr ((tA5 _ _).drew)) ?_;obtain⟨F0,F1,F2,F3,F4,F5⟩:=zh6 (zF HS9 c4) (zF HS9 d4) (zF HS9 x5) (zF HS9 x6) (zF HS9 y5) (zF HS9 y6);clear c4 d4 x5 x6 y5 y6;iterate 1 (refine zr6 ?_)
     refine qbg rfl rfl ⟨.bool false,fun w1 hS=>by(go_simp;try exact hjn),?_⟩;refine zP ?_;iterate 33 (refine zr6 ?_)
     refine qbf ?_;clear HS9 F0 F1 F2 F3 F4 F5 w1 w1' w2 w2';obtain⟨Wd,hWd⟩:=eqx w3.drew;have BD:=zh1 (show Below A8.heap.size A8 Wd by rw[hWd];exact B3'.drew);rw[←hWd];clear hWd;go_wp2
     go_roundw
     case rel=>exact⟨j+1,1,by omega,by go_num,by go_num,by omega,fun h=>absurd h (by have:=DI.o;omega),BD⟩
     case measure=>simp[intOf];omega
    have p1:¬(j:Int)<16:=zo;go_wp2
    go_meet
    case rel=>exact⟨m,rfl,hm1,hb⟩
  case rest=>
   obtain⟨m,rfl,hm1,hb⟩:=hcut;have pm:¬(m:Int)>1:=zo;have CC:=xb9 s' LB ccB 2 cssB wc AQ.ok (A0.call hb.o).st;rw[AL.o]at CC;obtain⟨AM,BO,AA,AB,AC,A4⟩:=zh6 CC (AQ.call hb.o) (A9.call hb.o) (A0.call hb.o) (XA.call hb.o) (XB.call hb.o);have RB:=zh1 (A4.rng);clear CC hb hm1 BR TA TB A9 A0 XA XB AQ C4 D4 C9 CA C8;go_wp2_with (refine zld RB.o zu49 BC.o ?_)
   refine AM.o.mono ?_;rintro e w21 ⟨ccX,LX,cssX,rfl,stX,frX,bX⟩;have cpX:CpAt w21 col9 ccX LX cssX s':=⟨stX,fun b hb=>⟨(frX b hb).2,BO.new0 (frX b hb).1⟩⟩;have sX:=BO.call bX;have eA:GA<w21.heap.size:=tB0 AC.blk.lt bX.size;have eB:GB<w21.heap.size:=tB0 A4.blk.lt bX.size;have oA:=AA.col0 bX.size;have oB:=AB.col0 bX.size;have oX:=cpX.col0 (tA4 _);obtain⟨SX,hSX,IX,LX',OX,CG,BX⟩:=xe8 sX s' LX;rw[hSX];obtain⟨BP,CH,BX',EA,EB,OA,OB,BQ⟩:=zh8 hSX cpX bX eA eB oA oB oX;clear hSX cpX sX bX stX frX eA eB oA oB oX RB;go_upto_region 26 with(refine zst CG.o IX.o (by simp[LX'.o]) OX.o ?_)
   obtain⟨CI,hW21⟩:=eqx ((w21.alloc (.cells #[.int .u64 0,.int .u32 0,.int .i64 0,.slice none 0 0,.slice none 0 0,.slice none 0 0] 49)).setRow w21.heap.size SX.toArray);rw[←hW21];rw[←hW21]at BX;obtain⟨GX,hGX⟩:=xeq w21.heap.size;(try simp only[Zb]at BQ);rw[hGX]at OA OB BQ EA EB ⊢
   obtain⟨s22,x22,b22⟩:=BX.o;rw[hGX]at x22;have ca:=(AA.call BX'.o).call b22;have cb:=(AB.call BX'.o).call b22;have cx:=CH.call b22;have xa:=(AC.call BX'.o).call b22;have xb:=(A4.call BX'.o).call b22;have c4:=(xa.blk.cell 4).trans (xe6 AO.o);have q4:=(x22.blk.cell 4).trans (xe6 BP.o);have f4:=x22.blk.frozen 4;obtain⟨BS,BT,AS,AT,AU,AD,A5⟩:=zh7 s22 x22 ca cb cx xa xb;clear hW21 hGX s22 x22 b22 ca cb cx xa xb BX CG AA AB AC A4 BO CH BX';go_upto_region 27 with(fail)
   have g22:=qab (tB9 CI (some GX)) (p:=⟨GX,4,none⟩) (.inl rfl) (.slice (some ⟨LA.rg,0,none⟩) 16 LA.rc);have x23:=BT.blk.set_ 4 (.slice (some ⟨LA.rg,0,none⟩) 16 LA.rc);have ca:=AS.beside OA.o 4 (.slice (some ⟨LA.rg,0,none⟩) 16 LA.rc);have cb:=AT.beside OB.o 4 (.slice (some ⟨LA.rg,0,none⟩) 16 LA.rc);have cx:=AU.beside BQ.o 4 (.slice (some ⟨LA.rg,0,none⟩) 16 LA.rc);obtain⟨DJ,hW22⟩:=eqx (CI.setCell ⟨GX,4,none⟩ (.slice (some ⟨LA.rg,0,none⟩) 16 LA.rc));rw[←hW22]at g22 x23 ca cb cx ⊢;have nA:GA≠GX:=by have:=EA.o;omega
   have nB:GB≠GX:=by have:=EB.o;omega
   have xa:=AD.blk.grown g22 (by intro e;injection e with e;exact nA e);have c2:=(xa.cell 2).trans (xe4 AO.o);have q2:=(x23.cell 2).trans ((xe7 4 2 _ zdc).trans (xe4 BP.o));have f2:=x23.frozen 2;obtain⟨CJ,CL,AV,AW,AX,NA,NB⟩:=zh7 g22 x23 ca cb cx nA nB;clear hW22 g22 x23 ca cb cx xa nA nB c4 q4 f4 AS AT AU;go_upto_region 28 with(fail)
   have g23:=qab CJ.o (p:=⟨GX,2,none⟩) (.inl rfl) (.int .i64 s.lane);have x24:=CL.set_ 2 (.int .i64 s.lane);have ca:=AV.beside OA.o 2 (.int .i64 s.lane);have cb:=AW.beside OB.o 2 (.int .i64 s.lane);have cx:=AX.beside BQ.o 2 (.int .i64 s.lane);obtain⟨BF,hW23⟩:=eqx (DJ.setCell ⟨GX,2,none⟩ (.int .i64 s.lane));rw[←hW23]at g23 x24 ca cb cx ⊢;obtain⟨MX,x24,st1,iM⟩:=CpAt.boxT x24 BP.o cx ca BS.ok hs.ok Z1.o Z2.o Z3.o Z4.o;obtain⟨IM,BG,CM,AE,AF,AG⟩:=zh6 iM (BS.grown g23 BT.col BT.low) st1 ca cb (AD.blk.grown g23 (by intro e;injection e with e;exact NA.o e));have xb:=A5.blk.grown g23 (by intro e;injection e with e;exact NB.o e);obtain⟨A6,BU⟩:=zh2 (show OwnAt BF col9 B GB 49 SU from⟨xb,A5.col,A5.low⟩) x24;clear hW23 g23 x24 ca cb cx xb st1 iM c2 q2 f2 CJ CL AV AW AX BS AD A5;obtain⟨S,HS9⟩:=zS fun w'=>Below BF.heap.size BF w'
   refine zrs S 15 (zq 0 5 ((5,true)::zq 6 4 [(11,false),(10,true),(12,true),(13,false),(14,false)])) ((HS9.o _).mpr ((tA5 _ _).drew)) ?_;obtain⟨FX,FA,FB⟩:=zh3 (fun(w':World)(h:S w')=>qap (BU.below ((HS9.o w').mp h) BU.lt) 0 MX zjq) (fun(w':World)(h:S w')=>qap (AG.below ((HS9.o w').mp h) AG.lt) 0 SV zjq) (fun(w':World)(h:S w')=>qap (A6.blk.below ((HS9.o w').mp h) A6.blk.lt) 0 SU zjq);iterate 1 (refine qbg rfl rfl ⟨?_,fun w1 hS=>?_,?_⟩;rotate_left;(focus(go_simp;try rfl));simp only[Act.put,tA0,tA1,tA2])
   refine qbg rfl rfl ⟨.bool false,fun w1 hS=>by go_simp,?_⟩;refine zP ?_;iterate 1 (refine qbg rfl rfl ⟨?_,fun w1 hS=>?_,?_⟩;rotate_left;(focus(go_simp;try rfl));simp only[Act.put,tA0,tA1,tA2])
   refine qo8 rfl rfl 49 (.tmp 15) rfl GX 0 rfl MX _ FX.o Tryz.underlying49 rfl IM.o ?_;refine zP ?_;refine qo8 rfl rfl 49 (.tmp 9) rfl GA 0 rfl SV _ FA.o Tryz.underlying49 rfl IS.o ?_;refine zP ?_;obtain⟨Wd,hWd,BD⟩:=zdr BF;rw[←hWd];clear hWd;have sa:=AE.stR hs.ok;rw[AO.o]at sa;have AH:=xdo MX SV s s Wd (CM.call BD.o) (sa.call BD.o);rw[decide_eq_true rfl]at AH;have A7:=zh1 AH;clear sa AH;refine zw ?_;go_simp;refine zcb A7.o fun w24 b24=>?_
   have BH:=zh1 (BD.trans (b24.mono BD.size));clear b24;refine⟨(HS9.o _).mpr BH.o,zput ?_⟩;iterate 3 (refine qbg rfl rfl ⟨?_,fun w1 hS=>?_,?_⟩;rotate_left;(focus(go_simp;try rfl));simp only[Act.put,tA0,tA1,tA2])
   refine qo8 rfl rfl 49 (.tmp 10) rfl GB 0 rfl SU _ FB.o Tryz.underlying49 rfl BC.o ?_;refine zP ?_;refine qo8 rfl rfl 49 (.tmp 9) rfl GA 0 rfl SV _ FA.o Tryz.underlying49 rfl IS.o ?_;refine zP ?_;have CT:=qqs s' LB ccB 2 cssB w24 BG.ok (AF.call BH.o).st;rw[AL.o,Z5.o]at CT;have CO:=zh1 CT;clear CT;refine zw ?_;go_simp;refine zcb CO.o fun w25 b25=>?_
   have BI:=zh1 (BH.trans (b25.mono BH.size));clear b25;refine⟨(HS9.o _).mpr BI.o,zput ?_⟩;have CT:=qqs s LA ccA 2 cssA w25 hs.ok (AE.call BI.o).st;rw[AO.o]at CT;have AY:=zh1 CT;clear CT;refine zw ?_;go_simp;refine zcb AY.o fun w26 b26=>?_
   have BJ:=zh1 (BI.trans (b26.mono BI.size));clear b26;refine⟨(HS9.o _).mpr BJ.o,zput ?_⟩;iterate 2 (refine qbg rfl rfl ⟨?_,fun w1 hS=>?_,?_⟩;rotate_left;(focus(go_simp;try rfl));simp only[Act.put,tA0,tA1,tA2])
   refine qbf ?_;have CP:=qzw (BG.call BJ.o);obtain⟨AZ,BV,BW⟩:=zh3 CP (A6.call BJ.o) (AF.call BJ.o);clear CP HS9 FX FA FB A7 CO AY BU AG A6 AE AF CM pm;go_wp2_with fail
   refine AZ.o.mono ?_;rintro e w27 ⟨rfl,s27,r27⟩;obtain⟨B4,B5⟩:=zh2 (BW.rest r27) (BV.rest r27);have CS:=xd5 s27;have AN:=zh1 CS;clear CS s27 r27 AZ;go_wp2_with fail
   refine AN.o.mono ?_;rintro e w28 ⟨ccY,LY,cssY,rfl,cpY,bY,sY⟩;obtain⟨SY,hSY,IY,LY',OY,CR,BX⟩:=xe8 sY (qmx s') LY;rw[hSY];obtain⟨DK,DL,B6,B7⟩:=zh4 hSY cpY (B4.call bY) (B5.call bY);clear hSY cpY bY sY B4 B5;go_upto_region 32 with(refine zst CR.o IY.o (by simp[LY'.o]) OY.o ?_)
   obtain⟨DM,hW28⟩:=eqx ((w28.alloc (.cells #[.int .u64 0,.int .u32 0,.int .i64 0,.slice none 0 0,.slice none 0 0,.slice none 0 0] 49)).setRow w28.heap.size SY.toArray);rw[←hW28];rw[←hW28]at BX;obtain⟨GY,hGY⟩:=xeq w28.heap.size;rw[hGY];obtain⟨s29,x29,b29⟩:=BX.o;rw[hGY]at x29;have CC:=xb9 (qmx s') LY ccY 2 cssY DM s29.ok (DL.call b29).st;rw[DK.o]at CC;obtain⟨AM,RY,BY,AI,AJ⟩:=zh5 CC x29.rng s29 (B6.call b29) (B7.call b29);clear hW28 hGY s29 x29 b29 CC BX CR B6 B7;go_wp2_with (refine zld RY.o zu49 IY.o ?_)
   refine AM.o.mono ?_;rintro e w30 ⟨ccZ,LZ,cssZ,rfl,stZ,frZ,bZ⟩;have cpZ:CpAt w30 col9 ccZ LZ cssZ (qmx s'):=⟨stZ,fun b hb=>⟨(frZ b hb).2,BY.new0 (frZ b hb).1⟩⟩;have sZ:=BY.call bZ;have eB:GB<w30.heap.size:=tB0 AJ.blk.lt bZ.size;have oB:=AI.col0 bZ.size;have oZ:=cpZ.col0 (tA4 _);obtain⟨SZ,hSZ,IZ,LZ',OZ,CU,BX⟩:=xe8 sZ (qmx s') LZ;rw[hSZ];obtain⟨C0,CV,BZ,EB,OB,C1⟩:=zh6 hSZ cpZ bZ eB oB oZ;clear hSZ cpZ sZ bZ stZ frZ eB oB oZ RY;go_upto_region 33 with(refine zst CU.o IZ.o (by simp[LZ'.o]) OZ.o ?_)
   obtain⟨CX,hW30⟩:=eqx ((w30.alloc (.cells #[.int .u64 0,.int .u32 0,.int .i64 0,.slice none 0 0,.slice none 0 0,.slice none 0 0] 49)).setRow w30.heap.size SZ.toArray);rw[←hW30];rw[←hW30]at BX;obtain⟨GZ,hGZ⟩:=xeq w30.heap.size;rw[hGZ]at OB C1 EB ⊢;obtain⟨s31,x31,b31⟩:=BX.o;rw[hGZ]at x31;have cb:=(AI.call BZ.o).call b31;have cz:=CV.call b31;have xb:=(AJ.call BZ.o).call b31;have c0:=(xb.blk.cell 0).trans (xe3 AL.o);have q0:=(x31.blk.cell 0).trans (xe3 C0.o);have f0:=x31.blk.frozen 0;obtain⟨CY,C2,B8,B9,AK⟩:=zh5 s31 x31 cb cz xb;clear hW30 hGZ s31 x31 b31 cb cz xb BX CU AI AJ CV BZ BY;go_upto_region 34 with(fail)
   have g32:=qab (tB9 CX (some GZ)) (p:=⟨GZ,0,none⟩) (.inl rfl) (.int .u64 (s'.clock:Int));have x32:=C2.blk.set_ 0 (.int .u64 (s'.clock:Int));have cb:=B8.beside OB.o 0 (.int .u64 (s'.clock:Int));have cz:=B9.beside C1.o 0 (.int .u64 (s'.clock:Int));obtain⟨DN,hW31⟩:=eqx (CX.setCell ⟨GZ,0,none⟩ (.int .u64 (s'.clock:Int)));rw[←hW31]at g32 x32 cb cz ⊢;have nB:GB≠GZ:=by have:=EB.o;omega
   have xb:=AK.blk.grown g32 (by intro e;injection e with e;exact nB e);have c3:=(xb.cell 3).trans (xe5 AL.o);have q3:=(x32.cell 3).trans ((xe7 0 3 _ zdc).trans (xe5 C0.o));have f3:=x32.frozen 3;obtain⟨CZ,D0,BA,BB,NB⟩:=zh5 g32 x32 cb cz nB;clear hW31 g32 x32 cb cz xb nB c0 q0 f0 B8 B9;go_upto_region 35 with(fail)
   have g33:=qab CZ.o (p:=⟨GZ,3,none⟩) (.inl rfl) (.slice (some ⟨LB.tg,0,none⟩) 16 LB.tc);have x33:=D0.set_ 3 (.slice (some ⟨LB.tg,0,none⟩) 16 LB.tc);have cb:=BA.beside OB.o 3 (.slice (some ⟨LB.tg,0,none⟩) 16 LB.tc);have cz:=BB.beside C1.o 3 (.slice (some ⟨LB.tg,0,none⟩) 16 LB.tc);obtain⟨DO,hW32⟩:=eqx (DN.setCell ⟨GZ,3,none⟩ (.slice (some ⟨LB.tg,0,none⟩) 16 LB.tc));rw[←hW32]at g33 x33 cb cz ⊢;have st2:=cb.stR BG.ok;rw[AL.o]at st2;obtain⟨MZ,x33,st1,iM⟩:=CpAt.boxZ x33 C0.o cz cb BG.ok;have IM:=zh1 iM;have AH:=xdo MZ SU s' s' DO st1 st2;rw[decide_eq_true rfl]at AH;obtain⟨A7,RA,RB,DP⟩:=zh4 AH (qap x33 0 MZ zjq) (qap (AK.blk.grown g33 (by intro e;injection e with e;exact NB.o e)) 0 SU zjq) (CY.grown g33 C2.col C2.low);clear hW32 g33 x33 cb cz st1 st2 iM AH c3 q3 f3 CZ D0 BA BB CY AK;go_wp2_with (first
    |(refine zld RA.o zu49 IM.o ?_)
    |(refine zld RB.o zu49 BC.o ?_))
   refine zcb A7.o fun w33 b33=>?_
   have s33:=DP.call b33;have CK:=xbe w33 s33.tabs s33.err;obtain⟨DQ,D1⟩:=zh2 CK s33;clear CK s33 b33;go_wp2_with fail
   refine zcb DQ.o fun w34 b34=>?_
   have DR:=zh1 (D1.below.trans (b34.mono D1.below.size));clear b34;go_wp2
   go_ret
   exact⟨rfl,DR.o⟩
end Go.Proofs.YthomgopipiomhaaGreatDoor

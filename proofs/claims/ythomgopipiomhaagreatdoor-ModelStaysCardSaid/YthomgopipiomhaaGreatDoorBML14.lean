/- Lemmas. -/
import Derived.Test.YthomgopipiomhaaGreatDoorBML07
import Derived.Test.YthomgopipiomhaaGreatDoorBML13
import Derived.Lib.SmallJoins
namespace Go.Proofs.YthomgopipiomhaaGreatDoor
open Go.RowKit
set_option linter.unusedVariables false
set_option linter.unusedSimpArgs false
set_option maxRecDepth 100000
set_option maxHeartbeats 32000000
variable {Q:Exit→Act→World→Prop}{a:Act}{o:Oper}{w w' W w0 w2 w1:World}{t:Tre}{n k gw tb b B g base sz j by_ size tg rg gg dg:Nat}{s s':Sta}{vs X xs vsj:List Value}{col col':Col}{A:Option Addr}{c:Cfg}{R:Req}{v vd vl vq va vr vg u:Value}{e:TypeId}{bs:List Nat}{css:List (List Value)}{L:Loc}
theorem Tryz.lane_info:(Tryz.prog.info? 136).map (fun i=>(i.zero,i.size,i.bytes))=some (some (.agg #[.int .i64 0,.int .i64 0,.int .i64 0]),3,24):=by kernel_rfl
theorem qws(l:List LaneI)(x:LaneI):qw3 (l++[x])=qw3 l++qw2 x:=by simp[qw3]
theorem qwt{ops:Array Oper}{rest:List Oper}(hgd:o.guard=none)(s x:Operand)
 (ho:o.op=.call {callee:=.builtin .append,args:=#[s,x],argTypes:=#[134,134]})
 (base:Nat)(v:Value)(n:Nat)(l:List LaneI)(hs:a.eval s=v)(hown:w.ownsRow base 136 3 v n (qw3 l))(A:Option Addr)(c:Nat)(y:LaneI)(hx:a.eval x=.slice A 1 c)(hr:Reads w w.heap.size 3 A 1 (qw2 y))
 (hlen:n≤65536)(hbase:base≤w.heap.size)
 (h:∀v' w',w'.ownsRow base 136 3 v' (n+1) (qw3 (l++[y]))→Below base w w'→wpList Tryz.prog ops Q rest (a.put o.dst v') w'):wpList Tryz.prog ops Q (o::rest) a w:=by
 obtain⟨i0,hi0,hz0,hz1,hz2⟩:=info_parts Tryz.lane_info;refine qa7 (P:=Tryz.prog) w hgd s x _ ho base 136 i0 _ 3 24 Tryz.underlying134 hi0 hz0 hz1 hz2 rfl zo v n (qw3 l) hs hown w.heap.size A 1 c (qw2 y) hx hr (by unfold qw2;simp[Value.oneCell']) (by simp only[maxLen];omega) zo hbase ?_;intro v' w' h1 h2 h3;refine h v' w' ?_ ?_
 · rw[qws]
   exact h1
 exact qae (tA5 _ _) hown h2 (tA4 _) hbase
theorem qwu(h:s.tres[n]? =some t):(qwc s).take (n+1)=(qwc s).take n++[(qn1 n t,(t.queue.length:Int),t.deficit)]:=by
 have:=qwe h;obtain⟨h1,h2⟩:=tA8 this;rw[List.take_succ_eq_append_getElem h1,h2]
theorem qwv{ls:List (List Nat)}(hl:vs.length=ls.length)(h:∀(i:Nat) (bs:List Nat),ls[i]? =some bs→∃u,vs[i]? =some u∧TextC w col u bs):∀u∈vs,u.oneCell'=true:=by
 intro u hu;obtain⟨i,hi,rfl⟩:=List.getElem_of_mem hu;obtain⟨u',hu',ht⟩:=h i (ls[i]'zo) (tA7 _);rw[tA7 hi]at hu';injection hu' with hu';rw[hu'];exact ht.one
theorem qww(ht:s.tres[k]? =some t){f:Tre→Tre}(hf:f t=t):s.setT k f=s:=by
 unfold Sta.setT;have:s.tres.modify k f=s.tres:=by
  apply List.ext_getElem?;intro i;rw[List.getElem?_modify];by_cases e:k=i
  · subst e
    simp[ht,hf]
  simp[e]
 rw[this]
theorem qwx(c:Cfg)(s:Sta)(L:Loc)(col:Col)(g:Nat)(css:List (List Value))(w:World)(hc:c.Ok)(hs:s.Ok)(h:Mdl w col 2 g c s L css)(hT:Tabs w):
 Zc 26 #[.pointer (some ⟨g,0,none⟩)] w fun e w'=>e=.returned (.tuple #[])∧∃col' css',Mdl w' col' 2 g c (seqS c s) L css'∧Rest w col w' col':=by
 obtain⟨S1,hS1⟩:=xeq (seqS c s);rw[hS1];obtain⟨AR,BG,HS,HC,H,BH⟩:=zh6 hS1 h.st hs hc h hT;have c8:=h.c8;clear hS1 hs hc h hT;go_enter Tryz.func26,Tryz.ntmps26
 go_wp2_with fail
 clear c8;go_loopw [2,14] (fun v i wr=>∃n:Nat,n≤16∧i=.int .i64 n∧Hid (wr.ownsRow w.heap.size 136 3 v n (qw3 ((qwc s).take n))∧Below w.heap.size w wr)) (fun v i _=>16 - (intOf i).toNat)
 case atStart=>exact⟨0,by omega,rfl,zh1 ⟨by simpa [qw3] using World.ownsRow_nil ..,tA5 _ _⟩⟩
 case round=>
  obtain⟨n,hn,rfl,hl⟩:=hrel;by_cases hn16:n<16
  ·
   have qn:(n:Int)<16:=zo;have qn0:(0:Int)≤n:=zo;obtain⟨t,ht⟩:∃t,s.tres[n]? =some t:=⟨_,tA7 (by rw[HS.tresn];exact hn16)⟩;obtain⟨D,Ad,cd,Al,cl,Aq,cq,hD,lD,oD,hrg,l1,l2,l3,q1,q2,q3⟩:=BG.treeD HS.o ht;obtain⟨AS,AT,BI,BJ⟩:=zh4 (show D[0]? =some (.int .i64 t.state) by rw[hD];rfl) (show D[2]? =some (.int .i64 t.weight) by rw[hD];rfl) (show D[3]? =some (.int .i64 t.deficit) by rw[hD];rfl) (show D[6]? =some (.slice Aq t.queue.length cq) by rw[hD];rfl);have hb:=hl.o.2;obtain⟨BK,Y0,HI,OD,LD,HZ,HT⟩:=zh7 (hrg wr hb) (Blk.new wr 74 Tryz.zeroCells74) (zI 74 lD) oD lD (show Tryz.zeroCells74.size=75 by kernel_rfl) ht;clear hD lD oD hrg l1 l2 l3 q1 q2 q3 ht;go_upto_region 4 with(first
    |(refine zld BK.o zu74 HI.o ?_)
    |(refine zst Y0.o HI.o (by simp[LD.o,HZ.o]) OD.o ?_))
   obtain⟨W1,hW1⟩:=eqx ((wr.alloc (.cells Tryz.zeroCells74 74)).setRow wr.heap.size D.toArray);rw[←hW1];obtain⟨G,hG⟩:=eqx wr.heap.size;rw[←hG];have y1:Blk W1 G 74 D.toArray:=by rw[hW1,hG];exact Y0.setRow _
   have b1:Below wr.heap.size wr W1:=by rw[hW1];exact below_setRow ((tA5 _ _).alloc (tA4 _) _) (tA4 _) _
   obtain⟨Y1,B1,HB,GE⟩:=zh4 y1 b1 hb (show wr.heap.size≤G by omega);have e0:=(y1.cell 0).trans (show D.toArray[0]? =some (.int .i64 t.state) by rw[tA3];exact AS.o);have e2:=(y1.cell 2).trans (show D.toArray[2]? =some (.int .i64 t.weight) by rw[tA3];exact AT.o);have e3:=(y1.cell 3).trans (show D.toArray[3]? =some (.int .i64 t.deficit) by rw[tA3];exact BI.o);have e6:=(y1.cell 6).trans (show D.toArray[6]? =some (.slice Aq t.queue.length cq) by rw[tA3];exact BJ.o);clear hW1 hG y1 b1 hb;go_upto_region 5 with(fail)
   obtain⟨P,hP⟩:=eqx W1.heap.size;obtain⟨W2,hW2⟩:=eqx (W1.alloc (.cells #[.int .i64 0,.int .i64 (t.queue.length:Int),.int .i64 t.deficit] 136));rw[←hW2,←hP];have z2:Blk W2 P 136 #[.int .i64 0,.int .i64 (t.queue.length:Int),.int .i64 t.deficit]:=by rw[hW2,hP];exact Blk.new _ _ _
   have b2:=zMa hW2;have b3:Below wr.heap.size wr W2:=B1.trans (b2.mono B1.size);obtain⟨Z2,PG,B2,O2⟩:=zh4 z2 (show wr.heap.size≤P by have:=B1.size;omega) b3 (qr3 hl.o.1 b3);have e0:=(Y1.below b2 Y1.lt).cell 0 |>.trans (show D.toArray[0]? =some (.int .i64 t.state) by rw[tA3];exact AS.o);have e2:=(Y1.below b2 Y1.lt).cell 2 |>.trans (show D.toArray[2]? =some (.int .i64 t.weight) by rw[tA3];exact AT.o);clear hP hW2 z2 b2 b3 e3 e6;obtain⟨AG,BM⟩:=zh2 (HB.trans (B2.mono HB.size)) HB.size;obtain⟨rb,hrb⟩:=xeq (qkm t.state);have AU:=zh1 hrb;by_cases h0:n=0
   ·
    have qz:¬(0:Int)<n:=zo;have A7:=zh1 (show qn1 n t=0 by unfold qn1;rw[if_pos (.inl h0)]);clear h0 hrb hl;go_upto_region 7 with(fail)
    clear e0 e2;have own7:=zh1 ((O2.o).alloc (.cells #[.int .i64 (0),.int .i64 (t.queue.length:Int),.int .i64 t.deficit] 136));have rd7:Reads ((W2).alloc (.cells #[.int .i64 (0),.int .i64 (t.queue.length:Int),.int .i64 t.deficit] 136)) ((W2).alloc (.cells #[.int .i64 (0),.int .i64 (t.queue.length:Int),.int .i64 t.deficit] 136)).heap.size 3 (some ⟨(W2).heap.size,0,none⟩) 1 (qw2 (0,(t.queue.length:Int),t.deficit)):=by
     have:=Reads.new (W2) 136 (qw2 (0,(t.queue.length:Int),t.deficit)) 3 1 rfl;rwa[qar]
    obtain⟨AA,B7,A1⟩:=zh3 rd7 (qah (AG.o) (.cells #[.int .i64 (0),.int .i64 (t.queue.length:Int),.int .i64 t.deficit] 136)) (show (qwc s).take (n+1)=(qwc s).take n++[(0,(t.queue.length:Int),t.deficit)] by rw[qwu HT.o,A7.o]);have p0:=(Z2.o).cell 0;have p1:=(Z2.o).cell 1;have p2:=(Z2.o).cell 2;simp only[tA3,List.getElem?_cons_zero,tBc]at p0 p1 p2;clear rd7;go_wp2_with (at_builtin;refine qwt rfl (.tmp 35) (.tmp 37) rfl w.heap.size u2 n ((qwc s).take n) rfl own7.o (some ⟨(W2).heap.size,0,none⟩) 1 (0,(t.queue.length:Int),t.deficit) rfl AA.o zo B7.size ?_)
    intro v' w7 own8 b8;go_wp2
    go_roundw
    case rel=>exact⟨n+1,by omega,by go_num,zh1 ⟨by rw[A1.o];exact own8,B7.trans b8⟩⟩
    case measure=>simp[intOf];omega
   have qz:(0:Int)<n:=zo;have BN:=zh1 h0;have hl0:=hl;clear h0 hl;cases rb with
   |false=>
    have A7:=zh1 (show qn1 n t=0 by unfold qn1;rw[if_pos (.inr (by rw[hrb];rfl))]);clear hrb;go_upto_region 7 with((with_reducible refine(qku t.state _).mono ?_);rintro e w5 ⟨rfl,rfl⟩;rw[AU.o])
    clear e0 e2;have own7:=zh1 ((O2.o).alloc (.cells #[.int .i64 (0),.int .i64 (t.queue.length:Int),.int .i64 t.deficit] 136));have rd7:Reads ((W2).alloc (.cells #[.int .i64 (0),.int .i64 (t.queue.length:Int),.int .i64 t.deficit] 136)) ((W2).alloc (.cells #[.int .i64 (0),.int .i64 (t.queue.length:Int),.int .i64 t.deficit] 136)).heap.size 3 (some ⟨(W2).heap.size,0,none⟩) 1 (qw2 (0,(t.queue.length:Int),t.deficit)):=by
     have:=Reads.new (W2) 136 (qw2 (0,(t.queue.length:Int),t.deficit)) 3 1 rfl;rwa[qar]
    obtain⟨AA,B7,A1⟩:=zh3 rd7 (qah (AG.o) (.cells #[.int .i64 (0),.int .i64 (t.queue.length:Int),.int .i64 t.deficit] 136)) (show (qwc s).take (n+1)=(qwc s).take n++[(0,(t.queue.length:Int),t.deficit)] by rw[qwu HT.o,A7.o]);have p0:=(Z2.o).cell 0;have p1:=(Z2.o).cell 1;have p2:=(Z2.o).cell 2;simp only[tA3,List.getElem?_cons_zero,tBc]at p0 p1 p2;clear rd7;go_wp2_with (at_builtin;refine qwt rfl (.tmp 35) (.tmp 37) rfl w.heap.size u2 n ((qwc s).take n) rfl own7.o (some ⟨(W2).heap.size,0,none⟩) 1 (0,(t.queue.length:Int),t.deficit) rfl AA.o zo B7.size ?_)
    intro v' w7 own8 b8;go_wp2
    go_roundw
    case rel=>exact⟨n+1,by omega,by go_num,zh1 ⟨by rw[A1.o];exact own8,B7.trans b8⟩⟩
    case measure=>simp[intOf];omega
   |true=>
    have A7:=zh1 (show qn1 n t=t.weight by unfold qn1;rw[if_neg (by rw[hrb];simp;exact BN.o)]);clear hrb;have f0:=Z2.frozen 0;have p0:=Z2.cell 0;simp only[tA3,List.getElem?_cons_zero,tBc]at p0;go_upto_region 7 with((with_reducible refine(qku t.state _).mono ?_);rintro e w5 ⟨rfl,rfl⟩;rw[AU.o])
    obtain⟨W3,hW3⟩:=eqx (W2.setCell ⟨P,0,none⟩ (.int .i64 t.weight));rw[←hW3];have Z3:=zh1 (show Blk W3 P 136 #[.int .i64 t.weight,.int .i64 (t.queue.length:Int),.int .i64 t.deficit] by rw[hW3];exact Z2.set_ 0 _);have O3:=zh1 (show W3.ownsRow w.heap.size 136 3 u2 n (qw3 ((qwc s).take n)) by
     rw[hW3];exact qal O2.o (fun e=>by have:=(World.ownsRow.lt hl0.o.1 P e).2;have:=PG.o;omega) _)
    have BO:=zh1 (show Below w.heap.size w W3 by rw[hW3];exact AG.setCell (by have:=PG.o;have:=BM.o;show w.heap.size≤P;omega) _);clear hW3 e0 e2 p0 f0;have own7:=zh1 ((O3.o).alloc (.cells #[.int .i64 (t.weight),.int .i64 (t.queue.length:Int),.int .i64 t.deficit] 136));have rd7:Reads ((W3).alloc (.cells #[.int .i64 (t.weight),.int .i64 (t.queue.length:Int),.int .i64 t.deficit] 136)) ((W3).alloc (.cells #[.int .i64 (t.weight),.int .i64 (t.queue.length:Int),.int .i64 t.deficit] 136)).heap.size 3 (some ⟨(W3).heap.size,0,none⟩) 1 (qw2 (t.weight,(t.queue.length:Int),t.deficit)):=by
     have:=Reads.new (W3) 136 (qw2 (t.weight,(t.queue.length:Int),t.deficit)) 3 1 rfl;rwa[qar]
    obtain⟨AA,B7,A1⟩:=zh3 rd7 (qah (BO.o) (.cells #[.int .i64 (t.weight),.int .i64 (t.queue.length:Int),.int .i64 t.deficit] 136)) (show (qwc s).take (n+1)=(qwc s).take n++[(t.weight,(t.queue.length:Int),t.deficit)] by rw[qwu HT.o,A7.o]);have p0:=(Z3.o).cell 0;have p1:=(Z3.o).cell 1;have p2:=(Z3.o).cell 2;simp only[tA3,List.getElem?_cons_zero,tBc]at p0 p1 p2;clear rd7;go_wp2_with (at_builtin;refine qwt rfl (.tmp 35) (.tmp 37) rfl w.heap.size u2 n ((qwc s).take n) rfl own7.o (some ⟨(W3).heap.size,0,none⟩) 1 (t.weight,(t.queue.length:Int),t.deficit) rfl AA.o zo B7.size ?_)
    intro v' w7 own8 b8;go_wp2
    go_roundw
    case rel=>exact⟨n+1,by omega,by go_num,zh1 ⟨by rw[A1.o];exact own8,B7.trans b8⟩⟩
    case measure=>simp[intOf];omega
  have qn:¬(n:Int)<16:=zo;obtain rfl:n=16:=zo;have hown:=hl.o.1;rw[tB5 (by unfold qwc;rw[List.length_mapIdx,HS.tresn];omega)]at hown;obtain⟨OL,BL⟩:=zh2 hown hl.o.2;clear hown hl;go_upto_region 9 with(fail)
  obtain⟨A,cc,hv2,hcc,hcm,hrd⟩:=qaf OL.o;subst hv2;have hso:=HS.o;obtain⟨a,ha⟩:∃a:Nat,s.lane=a:=⟨s.lane.toNat,by have:=hso.lane;omega⟩;obtain⟨q,hq⟩:∃q:Nat,c.quantum=q:=⟨c.quantum.toNat,by have:=HC.q1;omega⟩;have hlen:(qwc s).length=16:=by unfold qwc;rw[List.length_mapIdx,hso.tresn]
  obtain⟨⟨⟨r0,r1,r2⟩,lo⟩,hsv⟩:∃x,qw9 (qwc s) a q=x:=⟨_,rfl⟩;have AH:=fun w1 (b:Below wr.heap.size wr w1)=>qwj (qwc s) a q A cc w1 (by rw[hlen];exact hrd.call b) (qwf hso) (by rw[hlen];omega) (by rw[hlen];have:=hso.lane;omega) (by have:=HC.q1;have:=HC.q2;omega) (by rw[hlen];exact hcc)
  simp only[hlen,hsv]at AH;have M0:=H.call BL.o;have c6:=M0.c6;have c1:=M0.c1;rw[ha]at c6;rw[hq]at c1;obtain⟨BP,AB,AV,HA,HQ,C6,C1⟩:=zh7 M0 AH hsv ha hq c6 c1;clear hso ha hq hlen hsv AH M0 c6 c1 hrd;obtain⟨S,HS9⟩:=zS fun w'=>Below wr.heap.size wr w'
  refine qjk S 18 [52,40,53,54,6] [(0,false),(1,false),(2,false),(3,false),(4,false),(5,false),(6,false),(7,false),(8,false),(9,false),(10,false)] 5 (.two 11 (.read 12 (.read 13 (.read 14 (.one 15 .done)))) 15 (.one 11 (.read 12 (.read 13 (.read 14 .done))))) [(16,true),(17,false)] #[true,true,true,true,true,true,true,true,true,true,true,false,false,false,false,false,false,false] #[true,true,true,true,true,true,true,true,true,true,true,true,true,true,true,true,false,false] zk rfl zk zk zk zk zk (fun _ _ d _ _ h=>by cases d<;>exact h) ((HS9.o _).mpr ((tA5 _ _).drew)) ?_;obtain⟨F0,F1⟩:=zh2 (zF HS9 C6.o) (zF HS9 C1.o);iterate 11 (refine qjr rfl rfl ⟨?_,fun w1 hS=>?_,?_⟩;rotate_left;(focus(have g0:=F0.o w1 hS;have g1:=F1.o w1 hS;clear hS;go_simp;try rfl));simp only[Act.put,tA0,tA1,tA2])
  refine qjq ?_;obtain⟨Wd,hWd,BD⟩:=zdr wr;rw[←hWd];clear hWd;refine⟨fun vs w'=>∃g9 v,vs=[.tuple #[.agg #[.int .i64 r0,.int .i64 r1,.int .i64 r2],v],.tuple #[.agg #[.int .i64 r0,.int .i64 r1,.int .i64 r2],v],.agg #[.int .i64 r0,.int .i64 r1,.int .i64 r2],v,.pointer (some ⟨g9,0,none⟩)]∧Blk w' g9 138 #[.int .i64 0,.int .i64 0,.int .i64 0]∧wr.heap.size≤g9∧w'.ownsRow wr.heap.size 136 3 v 16 (qw3 lo)∧Below wr.heap.size wr w',?_,?_⟩
  ·
   refine qjp rfl rfl rfl rfl ?_ ?_
   ·
    go_simp;refine(AB.o Wd BD.o).mono ?_;rintro e w2 ⟨v,rfl,o2,b2⟩;obtain⟨B2,O2⟩:=zh2 (BD.trans (b2.mono BD.size)) (qdb o2 BD.size);clear b2 o2;refine⟨(HS9.o _).mpr B2.o,?_⟩;refine zP ?_;iterate 3 (refine ztr ?_)
    refine qjo rfl rfl ?_;go_simp;refine⟨(HS9.o _).mpr (B2.alloc B2.size _),qjl ⟨[_,_,_,_,_],rfl,w2.heap.size,v,rfl,Blk.new _ _ _,B2.size,qr3 O2.o (qah (tA5 _ _) _),B2.alloc B2.size _⟩⟩
   go_simp;obtain⟨w2,hw2⟩:=eqx (Wd.alloc (.cells #[.int .i64 0,.int .i64 0,.int .i64 0] 138));rw[←hw2];obtain⟨Z2,B2⟩:=zh2 (show Blk w2 Wd.heap.size 138 #[.int .i64 0,.int .i64 0,.int .i64 0] by rw[hw2];exact Blk.new _ _ _) (show Below wr.heap.size wr w2 by rw[hw2];exact BD.alloc BD.size _);clear hw2;refine⟨(HS9.o _).mpr B2.o,?_⟩;refine zP ?_;refine qjo rfl rfl ?_;go_simp;refine(AB.o w2 B2.o).mono ?_;rintro e w3 ⟨v,rfl,o3,b3⟩;obtain⟨B3,O3,Z3⟩:=zh3 (B2.trans (b3.mono B2.size)) (qdb o3 B2.size) (Z2.below b3 Z2.lt);clear b3 o3;refine⟨(HS9.o _).mpr B3.o,?_⟩;refine zP ?_;iterate 3 (refine ztr ?_)
   refine qjl ⟨[_,_,_,_,_],rfl,Wd.heap.size,v,rfl,Z3.o,BD.size,O3.o,B3.o⟩
  rintro vs w4 - ⟨g9,v,rfl,z4,l4,o4,b4⟩;simp only[puts,Act.put,tA0,tA1,tA2];refine qbi rfl rfl ?_;refine wp_store_row 138 (.tmp 6) (.tmp 53) rfl g9 #[.int .i64 r0,.int .i64 r1,.int .i64 r2] rfl rfl 138 _ z4 zk zm (by simp[Value.oneCell']) ?_;obtain⟨W5,hW5⟩:=eqx (w4.setRow g9 #[.int .i64 r0,.int .i64 r1,.int .i64 r2]);rw[←hW5];obtain⟨H5,B5,O5,BQ⟩:=zh4 (show Blk W5 g9 138 #[.int .i64 r0,.int .i64 r1,.int .i64 r2] by rw[hW5];exact z4.setRow _) (show Below wr.heap.size wr W5 by rw[hW5];exact below_setRow b4 l4 _) (show W5.ownsRow wr.heap.size 136 3 v 16 (qw3 lo) by rw[hW5];exact tB3 o4 (qam _ _ _) (.inr (qa3 o4 z4 zdc))) l4;clear hW5 z4 l4 o4 b4;refine⟨fun _=>(HS9.o _).mpr B5.o,?_⟩;refine zP ?_;iterate 1 (refine zrb ?_)
  refine qbf ?_;clear HS9 F0 F1;obtain⟨g7,c7,hv7,t1,t2,-,t4⟩:=qul O5.o zo;subst hv7;obtain⟨T7,BR⟩:=zh2 (t4 (fun b=>if b=g7 then 1 else 0) 1 zm) t1;clear t1 t2 t4;have M5:=BP.call B5.o;have c6:=M5.c6;have f6:=M5.blk.frozen 6;rw[HA.o]at c6;have h90:=H5.cell 0;have h92:=H5.cell 2;simp only[tA3,List.getElem?_cons_zero,tBc]at h90 h92;have m6:=M5.own1 (.inl rfl) 6 (.int .i64 r2) (s':={s with lane:=r2}) rfl rfl rfl rfl;have t6:Turns (· ==1) W5 col (W5.setCell ⟨g,6,none⟩ (.int .i64 r2)) col:=Turns.setCell _ (by simp[M5.own]);have r6:=((Rest.of_below (col:=col) BL.o).trans (Rest.of_below B5.o)).step t6 rfl;obtain⟨A6,AI,AJ⟩:=zh3 m6 r6 M5.blk.lt;clear M5 m6 r6 t6;go_upto_region 11 with(fail)
  clear c6 f6 h90 h92;obtain⟨W6,hW6⟩:=eqx (W5.setCell ⟨g,6,none⟩ (.int .i64 r2));rw[←hW6]at A6 AI ⊢;have hgw:=H.blk.lt;have hws:=BL.size;obtain⟨H6,T6,C7⟩:=zh3 (show Blk W6 g9 138 #[.int .i64 r0,.int .i64 r1,.int .i64 r2] by rw[hW6];exact H5.far (by have:=BQ.o;show g9≠g;omega) _) (show TopAt W6 (fun b=>if b=g7 then 1 else 0) 1 136 g7 c7 3 16 (qw3 lo) by rw[hW6];exact T7.far (by have:=BR.o;show g7≠g;omega) _) hws;clear hW6 hgw hws;rcases hl:qmz (s.tres.mapIdx fun i t=>qn1 i t) s.lane.toNat with _|k
  ·
   have h1:=qwa (q:=c.quantum) (l:=qwc s) (a:=s.lane.toNat) (by rw[qwd];exact hl);rw[HA.o,HQ.o,tBe,AV.o]at h1;injection h1 with h1 h2;injection h1 with h3 h4;injection h4 with h4 h5;subst h3 h4 h5;have hS:S1=s:=by rw[←AR.o];exact qty HS.o hl
   have hs6:({s with lane:=(a:Int)}:Sta)=s:=by rw[←HA.o]
   rw[hs6]at A6;have AC:=zh1 hS;have h90:=H6.cell 0;simp only[tA3,List.getElem?_cons_zero,tBc]at h90;clear hS hs6 hl h2;go_wp2_with fail
   refine bodyPost_ret (results_none rfl _ _ _) rfl ?_;exact⟨rfl,col,⟨css,by rw[AC.o];exact A6.o⟩,AI.o⟩
  obtain⟨hk0,t,ht,hrun,hwt⟩:=qtv hl;have hS2:=qu0 (c:=c) HS.o hl ht;rw[AR.o]at hS2;have h1:=qwg (c:=c) HS.o hl ht;rw[HA.o,HQ.o,tBe,AV.o]at h1;have hto:=HS.tre ht;have hle:takeN c t≤t.queue.length:=by unfold takeN;omega
  have hqo:(seqT c t).Ok:=qtw hto (q:=c.quantum) _ _ rfl rfl;have hdf:=hqo.deficit;obtain⟨tk,htk⟩:=xeq (takeN c t);have hsq:seqT c t={t with deficit:=0,leaves:=t.leaves++t.queue.take tk,queue:=t.queue.drop tk}:=by
   have e:seqT c t={t with deficit:=(seqT c t).deficit,leaves:=t.leaves++t.queue.take (takeN c t),queue:=t.queue.drop (takeN c t)}:=rfl;rw[hdf,htk]at e;exact e
  rw[htk,hdf]at h1;rw[htk]at hS2 hle;injection h1 with h1 h2;injection h1 with h3 h4;injection h4 with h4 h5;subst h3 h4 h5;have hk16:k<16:=by obtain⟨h,_⟩:=tA8 ht;rw[HS.tresn]at h;exact h
  have hll:(qwc s).length=16:=by unfold qwc;rw[List.length_mapIdx,HS.tresn]
  have hlo:(qw3 lo)[k*3+2]? =some (.int .i64 0):=by
   rw[h2];exact(qw5 (x:=(qn1 k t,(t.queue.length:Int) - tk,0)) (by rw[List.getElem?_set_self zo]) zo).trans rfl
  have hl1:(0:Int)≤(((k+1) % 16:Nat):Int)∧(((k+1) % 16:Nat):Int)<16:=zo;obtain⟨s6,hs6⟩:=eqx ({s with lane:=(((k+1) % 16:Nat):Int)}:Sta);rw[←hs6]at A6 hS2;have s6ok:s6.Ok:=by rw[hs6];exact {HS.o with lane:=hl1}
  have ht6:s6.tres[k]? =some t:=by rw[hs6];exact ht
  have qk:(k:Int)<16:=zo;have qk0:(0:Int)≤k:=zo;obtain⟨A3,A4,AD,BS,BT,BU,BV,BW⟩:=zh8 s6ok ht6 hto hlo hS2 hsq hqo hle;obtain⟨BX,AK⟩:=zh2 hk0 hrun;have h90:=H6.cell 0;simp only[tA3,List.getElem?_cons_zero,tBc]at h90;clear hk0 ht hrun hwt hS2 hto hle hqo hdf htk hsq h2 hl hll hlo hl1 hs6 s6ok ht6;go_upto_region 12 with(fail)
  have c8:=A6.c8;obtain⟨S,HS9⟩:=zS fun w'=>w'.cell? ⟨g9,0,none⟩=some (.int .i64 (k:Int))∧w'.cell? ⟨g,8,none⟩=some (.slice (some ⟨L.rg,0,none⟩) 16 L.rc)
  refine zrs S 9 (zq 0 9 []) ((HS9.o _).mpr (⟨h90,c8⟩)) ?_;have F0:=zh1 (fun(w':World)(h:S w')=>(HS9.o w').mp h);repeat(refine zre rfl rfl (fun w1 hS=>by have g0:=(F0.o w1 hS).1;have g1:=(F0.o w1 hS).2;clear hS;go_simp;try rfl) ?_)
  refine qbf ?_;clear F0 HS9 c8 h90;obtain⟨W7,hW7⟩:=eqx W6.drew;rw[←hW7];have b7:Below W6.heap.size W6 W7:=by rw[hW7];exact(tA5 _ _).drew
  obtain⟨H7,T7b⟩:=zh2 (H6.below b7 H6.lt) (T6.keep ((Turns.of_below (fun _=>false) b7).keeps rfl));have M7:=A6.call b7;have R7:=zh1 (AI.trans (Rest.of_below b7));clear hW7 b7;obtain⟨-,Ad,cd,Al,cl,Aq,cq,hcs,hcell,hrd,hrl,hrq⟩:=M7.st.tree A3.o A4.o;have e3:=hcell 3 (.int .i64 t.deficit) rfl;have f3:=M7.st.tres.frozen (k*75+3);have l3:W7.cell? ⟨g7,k*3+2,none⟩=some (.int .i64 0):=T7b.cell BS.o;have h90:=H7.cell 0;simp only[tA3,List.getElem?_cons_zero,tBc]at h90;have m8:=M7.deficit1 (.inl rfl) A3.o A4.o 0;rw[qww A4.o (show ({t with deficit:=0}:Tre)=t by have:=AD.deficit;rw[←this])]at m8;have t8:Turns (· ==3) W7 col (W7.setCell ⟨L.rg,k*75+3,none⟩ (.int .i64 0)) col:=Turns.setCell _ (by simp[M7.st.tres.1]);have hgL:g9≠L.rg:=by
   intro e;have h1:=H7.o;obtain⟨-,sp,h2,-⟩:=M7.st.tres;rw[←e]at h2;unfold Blk at h1 h2;rw[h1]at h2;injection h2 with h2;injection h2 with _ h2;revert h2
   decide
  obtain⟨AL,AW,AJ,H8⟩:=zh4 m8 t8 hgL (H7.far (p:=⟨L.rg,k*75+3,none⟩) hgL (.int .i64 0));clear hcs hcell hrd hrl hrq M7 m8 t8 hgL;go_upto_region 14 with(fail)
  clear e3 f3 l3 h90;obtain⟨W8,hW8⟩:=eqx (W7.setCell ⟨L.rg,k*75+3,none⟩ (.int .i64 0));rw[←hW8]at AL AW H8 ⊢;clear hW8;obtain⟨-,Ad,cd,Al,cl,Aq,cq,hcs,hcell,hrd,hrl,hrq⟩:=AL.st.tree A3.o A4.o;obtain⟨nl,hnl⟩:=xeq t.leaves.length;obtain⟨nq,hnq⟩:=xeq t.queue.length;have hb1:=AD.leaves;have hb2:=AD.queue;have hle:=BW.o;rw[hnl,hnq]at hb1;rw[hnq]at hb2 hle;rw[hnl,hnq]at hcell;obtain⟨vs,hrow1,htx1⟩:=hrl;obtain⟨vs2,hrow2,htx2⟩:=hrq;rw[hnl]at hrow1;rw[hnq]at hrow2;obtain⟨A0,c0,ev,hlc,hlm,-,-⟩:=hrow1.sl;injection ev with ev1 _ ev3;subst ev1 ev3;obtain⟨A0,c0,ev,hqc,hqm,hrd2,-⟩:=hrow2.sl;injection ev with ev1 _ ev3;subst ev1 ev3;have e5:=hcell 5 (.slice Al nl cl) rfl;have e6:=hcell 6 (.slice Aq nq cq) rfl;have h91:=H8.cell 1;simp only[tA3,List.getElem?_cons_zero,tBc]at h91;have qt0:(0:Int)≤tk:=zo;have qt1:(tk:Int)≤nq:=zo;have qt2:(tk:Int)≤cq:=zo;have qn2:(nq:Int)≤cq:=zo;obtain⟨BY,AX,BZ,C0,AY,AZ,AE,AM⟩:=zh8 hcs hrow1 hrow2 htx1 htx2 hnl hnq hrd2;obtain⟨E6,C2⟩:=zh2 e6 hlc;clear hcs hcell hrd hrow1 hrow2 htx1 htx2 hnl hnq hrd2 hlc;obtain⟨S,HS9⟩:=zS fun w'=>w'.cell? ⟨L.rg,k*75+5,none⟩=some (.slice Al nl cl)∧w'.cell? ⟨L.rg,k*75+6,none⟩=some (.slice Aq nq cq)∧w'.cell? ⟨g9,1,none⟩=some (.int .i64 (tk:Int))
  refine zrs S 16 (zq 0 5 (zq 6 7 [(5,true),(13,true),(14,false),(15,false),(16,true)])) ((HS9.o _).mpr (⟨e5,e6,h91⟩)) ?_;obtain⟨F0,C5,B0⟩:=zh3 (fun(w':World)(h:S w')=>(HS9.o w').mp h) e5 h91;clear e5 e6 h91;iterate 12 (refine zre rfl rfl (fun w1 hS=>by have g0:=(F0.o w1 hS).1;have g1:=(F0.o w1 hS).2.1;have g2:=(F0.o w1 hS).2.2;clear hS;go_simp;try rfl) ?_)
  obtain⟨Wd,hWd,BD⟩:=zdr W8;rw[←hWd];clear hWd;obtain⟨MD,HD⟩:=zh2 (AL.call BD.o) (H8.below BD.o H8.lt);refine qbi rfl rfl ?_;go_simp;refine(qwk Al nl cl Wd C2.o zo).mono ?_;rintro e w1 ⟨rfl,rfl⟩;refine⟨(HS9.o _).mpr ⟨qai C5.o BD.o,qai E6.o BD.o,qai B0.o BD.o⟩,?_⟩;refine zP ?_;obtain⟨i0,hi0,hz0,hz1,hz2⟩:=info_parts Tryz.madd_info;have hv2:vs2.length=t.queue.length:=by have:=BZ.o.1;have:=AE.o;omega
  have hv1:vs.length=t.leaves.length:=by have:=AX.o.1;have:=AZ.o;omega
  refine qbi rfl rfl ?_;refine qwn Wd (.tmp 86) (.tmp 93) _ _ rfl col (11+3*k) 23 i0 _ 1 24 Tryz.underlying72 hi0 hz0 hz1 hz2 rfl Al nl vs rfl ((AX.call BD.o).clip) (.slice Aq tk cq) tk (vs2.take tk) rfl (Src.reads Wd Tryz.underlying72 ((AM.call BD.o).pre hle) (fun u hu=>qwv hv2 AY.o u (tB7 hu)) zdc) (by simp only[maxLen];omega) zo MD.fin ?_;intro v' wC col2 r2 t2 f2 b2;obtain⟨A9,c9,rfl,-,-,-,-⟩:=r2.sl;have BC:=zh1 (BD.trans (b2.mono BD.size));have KD:=(Turns.of_below (col:=col) (fun _=>false) BD.o).keeps (k:=5) rfl;have hX1d:∀(i:Nat) (bs:List Nat),t.leaves[i]? =some bs→∃u,vs[i]? =some u∧TextC Wd col u bs:=fun i bs h=>by
   obtain⟨u,h1,h2⟩:=C0.o i bs h;exact⟨u,h1,h2.keep KD⟩
  have hX2d:∀(i:Nat) (bs:List Nat),t.queue[i]? =some bs→∃u,vs2[i]? =some u∧TextC Wd col u bs:=fun i bs h=>by
   obtain⟨u,h1,h2⟩:=AY.o i bs h;exact⟨u,h1,h2.keep KD⟩
  have hlt:(t.leaves++t.queue.take tk).length=nl+tk:=by rw[tA6,tBd,AZ.o,AE.o];omega
  have htx:=qwo (l2:=t.leaves++t.queue.take tk) (by rw[hlt];exact r2) (qwp hv1 hX1d (qwq tk hX2d)) (t2.keeps rfl);have hh:∀t∈s6.tres,t.hd.Ok:=fun t ht=>(A3.tres t ht).hd
  obtain⟨css9,hcs9,m9,t9⟩:=MD.leavesNew (.inl rfl) A3.tresn hh A4.o BY.o t2 f2 htx;obtain⟨AF,AN,B4,C8⟩:=zh4 hcs9 m9 (((R7.step AW.o rfl).trans (Rest.of_below BD.o)).step t9 (qr1 (.inl rfl))) f2;have c5w:=qai C5.o BC.o;have f5w:=(MD.st.tres.keep (t2.keeps rfl)).frozen (k*75+5);clear hv1 hX1d hX2d hlt htx hh hcs9 m9 t9 f2 KD r2 b2 t2;refine⟨fun _=>(HS9.o _).mpr ⟨c5w,qai E6.o BC.o,qai B0.o BC.o⟩,?_⟩;refine zP ?_;iterate 2 (refine zrb ?_)
  refine qbi rfl rfl ?_;go_simp;refine qbf ?_;obtain⟨W9,hW9⟩:=eqx (wC.setCell ⟨L.rg,k*75+5,none⟩ (.slice A9 (nl+tk) c9));rw[←hW9]at AN B4 ⊢;have H9:=zh1 (show Blk W9 g9 138 #[.int .i64 (k:Int),.int .i64 (tk:Int),.int .i64 (((k+1) % 16:Nat):Int)] by rw[hW9];exact(H8.below BC.o H8.lt).far (p:=⟨L.rg,k*75+5,none⟩) AJ.o _);have e6:W9.cell? ⟨L.rg,k*75+6,none⟩=some (.slice Aq nq cq):=by
   rw[hW9];exact(World.cell?_setCell_other wC _ _ _ (by intro e;injection e with e1 e2;omega)).trans (qai E6.o BC.o)
  clear hW9 c5w f5w;have h91:=H9.cell 1;simp only[tA3,List.getElem?_cons_zero,tBc]at h91;have C9:=zh1 hv2;have ht9:(s6.setT k fun y=>{y with leaves:=t.leaves++t.queue.take tk}).tres[k]? =some {t with leaves:=t.leaves++t.queue.take tk}:=qo5 _ A4.o;have hr9:=(AN.rows ht9 AF.o).2.2;obtain⟨vs3,hr3,hx3⟩:=hr9;obtain⟨HT9b,E6b,C91b⟩:=zh3 ht9 e6 h91;clear ht9;change RowC W9 col2 (12+3*k) (.slice Aq t.queue.length cq) 23 1 t.queue.length vs3 at hr3;change ∀(i:Nat) (bs:List Nat),t.queue[i]? =some bs→_ at hx3;rw[AE.o]at hr3;obtain⟨A0,c0,ev,-,-,hrd3,-⟩:=hr3.sl;injection ev with ev1 _ ev3;subst ev1 ev3;obtain⟨C3,AO,B6⟩:=zh3 (show vs3.length=t.queue.length by have:=hr3.1;have:=AE.o;omega) hrd3 hx3;clear hr3 hx3 hrd3 hv2;go_upto_region 15 with(fail)
  obtain⟨S,HS9⟩:=zS fun w'=>w'.cell? ⟨L.rg,k*75+6,none⟩=some (.slice Aq nq cq)∧w'.cell? ⟨g9,1,none⟩=some (.int .i64 (tk:Int))
  refine zrs S 11 (zq 0 8 [(8,true),(9,false),(10,false),(11,true)]) ((HS9.o _).mpr (⟨E6b.o,C91b.o⟩)) ?_;have F0:=zh1 (fun(w':World)(h:S w')=>(HS9.o w').mp h);clear e6 h91;iterate 8 (refine zre rfl rfl (fun w1 hS=>by have g0:=(F0.o w1 hS).1;have g1:=(F0.o w1 hS).2;clear hS;go_simp;try rfl) ?_)
  obtain⟨We,hWe,BE⟩:=zdr W9;rw[←hWe];clear hWe;refine qbi rfl rfl ?_;go_simp;have rd8:Reads We We.heap.size 1 (if cq=tk then Aq else Option.map (fun x=>x.add tk) Aq) (nq - tk) (vs3.drop tk):=by
   have:=(AO.call BE.o).cut (k:=tk) (cap:=cq) hle zo;simpa using this
  obtain⟨A8,hA8⟩:∃x,(if cq=tk then Aq else Option.map (fun x=>x.add tk) Aq)=x:=⟨_,rfl⟩;rw[hA8]at rd8 ⊢;obtain⟨C4,ME⟩:=zh2 rd8 (AN.call BE.o);clear hA8 rd8;refine(qre A8 (nq - tk) (cq - tk) (vs3.drop tk) We C4.o zo (fun u hu=>qwv C3.o B6.o u (List.mem_of_mem_drop hu))).mono ?_;rintro e w1 ⟨vA,rfl,oA,bA⟩;obtain⟨A9',c9',hvA,-,-,-⟩:=qaf oA;obtain⟨col3,hc3,r3,f3⟩:=qwl (w:=We) (col:=col2) (k:=12+3*k) oA (tA4 _) bA.size ME.fin;subst hvA;have t3:Turns (fun _=>false) We col2 w1 col3:=(Turns.of_below _ bA).recolour hc3;have KE:=(Turns.of_below (col:=col2) (fun _=>false) BE.o).keeps (k:=5) rfl;have hX3e:∀(i:Nat) (bs:List Nat),t.queue[i]? =some bs→∃u,vs3[i]? =some u∧TextC We col2 u bs:=fun i bs h=>by
   obtain⟨u,h1,h2⟩:=B6.o i bs h;exact⟨u,h1,h2.keep KE⟩
  have htx3:=qwo (l2:=t.queue.drop tk) (by rw[tBk,AE.o];exact r3) (qwr tk hX3e) (t3.keeps rfl);have hh:∀t∈s6.tres,t.hd.Ok:=fun t ht=>(A3.tres t ht).hd
  obtain⟨css10,m10,t10⟩:=ME.queueNew (.inl rfl) (by simp[Sta.setT,A3.tresn]) (qo0 (P:=fun t:Tre=>t.hd.Ok) hh (fun y _ o=>o)) HT9b.o AF.o t3 f3 htx3;have hst:((s6.setT k fun y=>{y with leaves:=t.leaves++t.queue.take tk}).setT k fun y=>{y with queue:=t.queue.drop tk})=s6.setT k fun _=>seqT c t:=by
   unfold Sta.setT;dsimp only;rw[qrl,qr6 (g:=fun _=>seqT c t) (fun y hy=>by
    rw[A4.o]at hy;injection hy with hy;subst hy;rw[BU.o];have:=AD.deficit;rw[←this])]
  rw[hst]at m10;obtain⟨A5,A2,BF⟩:=zh3 m10 ((B4.trans (Rest.of_below BE.o)).step t10 (qr1 (.inl rfl))) (BE.trans (bA.mono BE.size));have e6w:=qai E6b.o BF.o;have f6w:=(ME.st.tres.keep (t3.keeps rfl)).frozen (k*75+6);clear hst m10 t10 hh htx3 hX3e KE t3 hc3 r3 f3 oA bA;refine⟨(HS9.o _).mpr ⟨e6w,qai C91b.o BF.o⟩,?_⟩;refine zP ?_;iterate 2 (refine zrb ?_)
  refine qbi rfl rfl ?_;go_simp;refine qbf ?_;obtain⟨B8,hW10⟩:=eqx (w1.setCell ⟨L.rg,k*75+6,none⟩ (.slice A9' (nq - tk) c9'));rw[←hW10]at A5 A2 ⊢;have B9:=zh1 (show Blk B8 g9 138 #[.int .i64 (k:Int),.int .i64 (tk:Int),.int .i64 (((k+1) % 16:Nat):Int)] by rw[hW10];exact(H9.below BF.o H9.lt).far (p:=⟨L.rg,k*75+6,none⟩) AJ.o _);clear hW10 e6w f6w;have h90:=B9.cell 0;have h91:=B9.cell 1;simp only[tA3,List.getElem?_cons_zero,tBc]at h90 h91;have hS:=BT.o;by_cases h0:tk=0
  ·
   have qz:¬(0:Int)<tk:=zo;rw[if_pos h0]at hS;have AC:=zh1 hS;clear hS h0 hle hb1 hb2;go_wp2
   go_end0
   exact⟨rfl,col3,⟨css10,by rw[AC.o];exact A5.o⟩,A2.o⟩
  have qz:(0:Int)<tk:=zo;rw[if_neg h0]at hS;have AC:=zh1 hS;have sok:(s6.setT k fun _=>seqT c t).Ok:=A3.setT (fun y hy o=>BV.o) (fun e=>absurd e BX.o);have CP:=zh1 (qpj c _ L col3 2 g css10 k (seqT c t) B8 (.inl rfl) HC.o sok A5.o (qo5 (fun _=>seqT c t) A4.o) ((AD.live (fun e=>by have h:=AK.o;rw[e]at h;revert h;decide)).2) (BH.rest A2.o H.base));clear hS h0 hle hb1 hb2 sok;go_wp2_with fail
  refine CP.o.mono ?_;rintro e W11 ⟨rfl,⟨css11,BA⟩,BB⟩;obtain⟨AP,AQ⟩:=zh2 BA (A2.step BB rfl);clear BA BB;go_wp2
  go_end0
  exact⟨rfl,col3,css11,by rw[AC.o];exact AP.o,AQ.o⟩
structure WldAt (w:World)(gw tb:Nat)(c:Cfg)(A:Option Addr)(n k:Nat):Prop where
 blk:Blk w gw 63 #[.pointer (some ⟨tb,0,none⟩),.int .i64 c.width,.int .i64 c.quantum,.int .u32 (c.store:Int),.slice A n k]
 tab:RTab w tb
 seed:Reads w w.heap.size 1 A n (byv c.seed)
theorem WldAt.call(h:WldAt w gw tb c A n k)(hb:Zb w w'):WldAt w' gw tb c A n k:=
 ⟨h.blk.below hb h.blk.lt,Blk.below h.tab hb (Blk.lt h.tab),h.seed.call hb⟩
theorem qzj(gw tb:Nat)(c:Cfg)(A:Option Addr)(n k:Nat)(w:World)(h:WldAt w gw tb c A n k)(hs:∀x∈c.seed,x<256)(hn:c.seed.length≤64):
 Zc 20 #[.pointer (some ⟨gw,0,none⟩)] w fun e w'=>e=.returned (.agg (byv (qmc c.seed)).toArray)∧Zb w w':=by
 have ln:=qb4 h.seed;obtain⟨W0,hW0⟩:=eqx (w.alloc (.cells zLD 29));have z0:Blk W0 w.heap.size 29 (byv (List.replicate 32 0)).toArray:=by rw[hW0];exact Blk.new w _ _
 have b0:=zMa hW0;obtain⟨H,HS,A2,Z0,B0,HN⟩:=zh6 h hs hW0 z0 b0 (show n≤64 by omega);clear h hs hW0 z0 b0 ln hn;go_enter Tryz.func20,Tryz.ntmps20
 go_upto_region 1 with(fail)
 rw[←A2.o];obtain⟨S,HS9⟩:=zS fun w'=>Zb W0 w'
 refine zrs S 11 (zq 0 9 [(9,true),(10,true),(11,true),(12,true)]) ((HS9.o _).mpr ((tA5 _ _).drew)) ?_;obtain⟨F0,F4⟩:=zh2 (fun(w':World)(h:S w')=>((((H.call B0.o).call ((HS9.o w').mp h)).blk).cell 0).trans (show (#[.pointer (some ⟨tb,0,none⟩),.int .i64 c.width,.int .i64 c.quantum,.int .u32 (c.store:Int),.slice A n k]:Array Value)[0]? =some (.pointer (some ⟨tb,0,none⟩)) from rfl)) (fun(w':World)(h:S w')=>((((H.call B0.o).call ((HS9.o w').mp h)).blk).cell 4).trans (show (#[.pointer (some ⟨tb,0,none⟩),.int .i64 c.width,.int .i64 c.quantum,.int .u32 (c.store:Int),.slice A n k]:Array Value)[4]? =some (.slice A n k) from rfl));iterate 9 (refine zre rfl rfl (fun w1 hS=>by have g0:=F0.o w1 hS;have g4:=F4.o w1 hS;clear hS;go_simp;try rfl) ?_)
 obtain⟨Wd,hWd,BD⟩:=zdr W0;rw[←hWd];clear hWd;obtain⟨w1,hw1⟩:=eqx (Wd.alloc (.cells (byv qm9).toArray 5));have e1:w1.heap[Wd.heap.size]? =some (.cells (byv qm9).toArray 5 (0,0)):=by rw[hw1];exact heap_alloc_new Wd _
 have b1:=zMa hw1;have s1:w1.heap.size=Wd.heap.size+1:=by rw[hw1,qar]
 obtain⟨E1,S1⟩:=zh2 hw1 s1;clear hw1 s1;refine zw ?_;go_simp;refine⟨(HS9.o _).mpr ?_,?_⟩
 · show Zb W0 (Wd.alloc (.cells (byv qm9).toArray 5))
   exact BD.alloc BD.size _
 change qb9 _ _ _ _ _ _ _ (Wd.alloc (.cells (byv qm9).toArray 5));rw[←E1.o];refine zP ?_;refine zw ?_;refine qjy (.tmp 12) rfl Wd.heap.size 4 4 rfl _ e1 ?_;intro w2 g2 l2;have b2:Zb Wd w2:=b1.grown g2 (by have:=S1.o;omega) (by intro g hg;injection hg with hg;omega);have B2:=zh1 (BD.trans (b2.mono BD.size));have r2:=l2.reads;have H2:=(H.call B0.o).call B2.o;have M2:=qzd tb n k 4 4 A _ c.seed qm9 w2 H2.tab H2.seed r2 HS.o qoa HN.o zdc;have A3:=zh1 M2;clear M2 r2 H2 b2 b1 e1 g2 l2;refine⟨fun _=>(HS9.o _).mpr B2.o,zput ?_⟩;refine zw ?_;go_simp;refine zcb A3.o fun w9 b9=>?_
 have B9:=zh1 (B2.trans (b9.mono B2.size));obtain⟨Z9,BB⟩:=zh2 (Z0.below B9.o Z0.lt) (B0.trans (B9.mono B0.size));clear b9;refine zP ?_;obtain⟨X9,hX9⟩:=xeq (byv (mac c.seed qm9));have lX9:X9.length=32:=by rw[←hX9,qat];exact qjv _ _
 have oX9:∀u∈X9,u.oneCell'=true:=by rw[←hX9];exact qau _
 rw[hX9];have A4:=zh1 hX9;have A0:(Tryz.prog.info? 29).map (·.size)=some X9.length:=by rw[lX9];exact Tryz.dig_info
 refine zw ?_;refine wp_store_row 29 (.tmp 2) (.tmp 14) rfl (w.heap.size) X9.toArray rfl rfl 29 _ Z9.o (by simpa using A0) (by simp[lX9,qat]) (by simpa using oX9) ?_;refine⟨fun h=>absurd h zdc,zput ?_⟩;refine qbf ?_;have z9:=Z9.setRow X9.toArray;have A1:=qap z9 0 X9 zjq;obtain⟨A5,A6⟩:=zh2 A1 A0;clear hX9 lX9 oX9 A0 z9 A1;go_wp2_with fail
 exact zrt A5.o zu29 A6.o ⟨(by rw[←A4.o];try rfl),below_setRow BB.o (by first|omega|exact tA4 _) _⟩
theorem qzk(R:Req)(c:Cfg)(id:Nat)(cav leafv:Value)(ht:R.tag.length=32):over (reqv R cav leafv) 1 (tokv id (.slice none 0 0) (qju (qmc c.seed) id))=reqv (byR c id R) (.slice none 0 0) leafv:=by
 have l1:=qdc R.tid cav R.tag ht;have l2:=qdc id (.slice none 0 0) (qju (qmc c.seed) id) (qjv _ _);unfold over reqv;rw[l2];simp only[List.cons_append,List.take_succ_cons,List.take_zero,List.nil_append];rw[show 1+34=34+1 by rfl,List.drop_succ_cons,←l1,List.drop_left];rfl
theorem qzl(gw tb:Nat)(c:Cfg)(A:Option Addr)(n k:Nat)(id:Nat)(R:Req)(cav leafv:Value)(w:World)(h:WldAt w gw tb c A n k)(hs:∀x∈c.seed,x<256)(hn:c.seed.length≤64)(hid:id<4294967296)(ht:R.tag.length=32)(h1:cav.oneCell'=true)(h2:leafv.oneCell'=true):
 Zc 28 #[.pointer (some ⟨gw,0,none⟩),.int .u32 (id:Int),.agg (reqv R cav leafv).toArray] w fun e w'=>e=.returned (.agg (reqv (byR c id R) (.slice none 0 0) leafv).toArray)∧Zb w w':=by
 have hby:=qzk R c id cav leafv ht;have lQ:=qiu R cav leafv ht;have lP:=qiu (byR c id R) (.slice none 0 0) leafv (qjv _ _);have oP:=qzh (byR c id R) (.slice none 0 0) leafv rfl h2;obtain⟨Q,hQ⟩:=xeq (reqv R cav leafv);obtain⟨P,hP⟩:=xeq (reqv (byR c id R) (.slice none 0 0) leafv);rw[hQ,hP]at hby;rw[hQ]at lQ;rw[hP]at lP oP;rw[hQ,hP];obtain⟨W0,hW0⟩:=eqx ((w.alloc (.cells Q.toArray 34)).alloc (.cells zLQ 34));have q0:=zNb hW0;have z0:=zNc hW0;have b0:=zMb hW0;obtain⟨H,A3,Q0,Z0,B0,A1,LQ,LP⟩:=zh8 h hW0 q0 z0 b0 hby lQ lP;obtain⟨OP,HS,HN⟩:=zh3 oP hs hn;clear h hW0 q0 z0 b0 hby lQ lP oP hs hn hQ hP h1 h2 ht;go_enter Tryz.func28,Tryz.ntmps28
 go_upto_region 1 with(fail)
 rw[←A3.o];obtain⟨S,HS9⟩:=zS fun w'=>Zb W0 w'
 refine zrs S 9 (zq 0 5 [(6,false),(5,true),(7,true),(8,false),(9,true)]) ((HS9.o _).mpr ((tA5 _ _).drew)) ?_;have F0:=zh1 (fun(w':World)(h:S w')=>((((H.call B0.o).call ((HS9.o w').mp h)).blk).cell 0).trans (show (#[.pointer (some ⟨tb,0,none⟩),.int .i64 c.width,.int .i64 c.quantum,.int .u32 (c.store:Int),.slice A n k]:Array Value)[0]? =some (.pointer (some ⟨tb,0,none⟩)) from rfl));iterate 6 (refine zr1 ?_)
 obtain⟨Wd,hWd,BD⟩:=zdr W0;rw[←hWd];clear hWd;refine zw ?_;go_simp;refine zcb (qzj gw tb c A n k Wd ((H.call B0.o).call BD.o) HS.o HN.o) fun w1 b1=>?_
 have B1:=zh1 (BD.trans (b1.mono BD.size));clear b1;refine⟨(HS9.o _).mpr B1.o,zput ?_⟩;refine zw ?_;go_simp;refine zcb (qze tb (qmc c.seed) id w1 (qjv _ _) (qjw _ _) hid ((H.call B0.o).call B1.o).tab) fun w2 b2=>?_
 have B2:=zh1 (B1.trans (b2.mono B1.size));clear b2;obtain⟨T,hT⟩:=xeq (tokv id (.slice none 0 0) (qju (qmc c.seed) id));have lT:T.length=34:=by rw[←hT];exact qdc _ _ _ (qjv _ _)
 have oT:∀u∈T,u.oneCell'=true:=by rw[←hT];exact qed _ _ rfl _
 rw[hT]at A1 ⊢;obtain⟨Q2,Z2,LT,OT⟩:=zh4 (Q0.below B2.o Q0.lt) (Z0.below B2.o Z0.lt) lT oT;clear hT lT oT;refine⟨(HS9.o _).mpr B2.o,zput ?_⟩;iterate 1 (refine zrb ?_)
 refine zw ?_;refine wp_store_mid 31 (.tmp 15) (.tmp 14) rfl w.heap.size 1 T.toArray rfl rfl (fun j hj=>⟨by rw[Q2.cell,tA3,tA7 (by have h0:T.toArray.size=34:=List.size_toArray.trans LT.o;rw[LQ.o];omega)];simp,Q2.frozen _⟩) (by rw[tB6,LT.o];kernel_rfl) (by simpa using OT.o) ?_;have q3:=qn4 T 1 w2 Q Q2.o (by rw[LQ.o,LT.o];decide);rw[A1.o]at q3;have g3:=qn5 w.heap.size T 1 w2;have z3:=Z2.grown g3 (by intro e;injection e with e;omega);have b3:Zb w (w2.setCells w.heap.size 1 T):=(B0.trans (B2.mono B0.size)).grown g3 (tB1 B0.size B2.size) (by intro g hg;injection hg with hg;omega);obtain⟨Q3,Z3,B3⟩:=zh3 q3 z3 b3;clear q3 g3 z3 b3;refine⟨fun h=>absurd h zdc,zput ?_⟩;refine qbf ?_;clear HS9 F0;obtain⟨W3,hW3⟩:=eqx (w2.setCells w.heap.size 1 T);obtain⟨A2,A0⟩:=zh2 (qap Q3.o 0 P zjq) (zI 34 LP.o);rw[←hW3]at A2 Q3 Z3 B3 ⊢;clear hW3;go_wp2_with (first
  |(refine zld A2.o zu34 A0.o ?_)
  |(refine zst Z3.o A0.o (by simp[LP.o]) OP.o ?_))
 have A4:=qap (Z3.setRow P.toArray) 0 P zjq;exact zrt A4 zu34 A0.o ⟨rfl,below_setRow B3.o zo _⟩
theorem qzm(n:Nat):(rWhy n).Ok:=⟨by show (0:Nat)<18446744073709551616;omega,fun x h=>(nomatch h),fun x h=>(nomatch h),Hd.zero_Ok,qiq⟩
theorem qzn(h:n<18446744073709551616):(qmk n).Ok:=⟨h,fun x h=>(nomatch h),fun x h=>(nomatch h),Hd.zero_Ok,qiq⟩
theorem qzo{l:List (List Nat)}{b:List Nat}(h:qml l b=some k):k<l.length:=by
 unfold qml at h;obtain⟨h1,_⟩:=List.findIdx?_eq_some_iff_getElem.1 h;exact h1
theorem qzp{x:Int}(h:(Lit.int .i64 x).wf=true):x.toNat<18446744073709551616:=by
 have:=(Go.Lit.wf_int_iff _ _).1 h;rw[IntKind.min_i64,IntKind.max_i64]at this;omega
theorem qzq(o:t.Ok)(hr:R.Good):(qmn c s R t).Ok:=by
 have h1:=hr.lo;have h2:=hr.hi;unfold qmn;split
 · exact⟨by show (0:Nat)<_;omega,fun x h=>(nomatch h),fun x h=>(nomatch h),o.hd,qiq⟩
 split
 · split
   · exact qzm _
   rename_i b hb
   exact⟨h1,fun x hx=>(o.leafb b (tB2 hb)).bs.2 x hx,fun x h=>(nomatch h),Hd.zero_Ok,qiq⟩
 split
 · split
   · exact qzm _
   exact⟨h2,fun x h=>(nomatch h),(qrt _ (qfl c.width).2 _ _ _ (tA4 _)).2,Hd.zero_Ok,qiq⟩
 split
 · exact qzm _
 exact⟨h2,fun x h=>(nomatch h),(qru _ (qfl c.width).2 _ _ _ _ (tA4 _)).2,Hd.zero_Ok,qiq⟩
theorem qzr(hs:s.Ok)(hr:R.Good):(qmv c s R).2.Ok:=by
 have w1:=qzp hr.tree;have w2:=qzp hr.tenant;have w3:=qzp hr.state;have w4:=qzp hr.weight;have w5:=hr.id;have hg:=hs.grasn;unfold qmv;split
 · unfold qmo
   repeat' split
   all_goals first|exact qzm _|exact qzn zo
 split
 · unfold qms
   repeat' split
   all_goals first
    |exact qzm _
    |exact⟨by show s.gras.length<_;omega,fun x h=>(nomatch h),fun x h=>(nomatch h),Hd.zero_Ok,⟨by show s.gras.length<_;omega,fun x h=>(nomatch h),qjv _ _,qjw _ _⟩⟩
 split
 · unfold qmt
   repeat' split
   all_goals first|exact qzm _|exact qzn zo
 split
 · unfold qmu
   repeat' split
   all_goals first|exact qzm _|exact qzn zo
 split
 · exact qzm _
 rename_i t ht
 have o:t.Ok:=by
  obtain⟨_,h,_⟩:=Sta.tree_some ht;exact hs.tre h
 have ol:=o.leaves;have od:=o.draws;split
 ·
  unfold qmm;split
  · exact qzm _
  split
  · rename_i k hk
    exact qzn (by have:=qzo hk;omega)
  split
  · rename_i k hk
    exact qzn (by have:=qzo hk;omega)
  split
  · exact qzm _
  split
  · exact qzm _
  split
  · exact qzm _
  exact qzn zo
 split
 · unfold qmp
   split
   · exact qzm _
   exact qzn w3
 split
 ·
  unfold qmq;split
  · exact qzm _
  split
  · exact qzm _
  exact qzn w4
 split
 · unfold qmr
   split
   · exact qzm _
   exact qzn zo
 exact qzq (s:=s) o hr
theorem qzs(hs:s.Ok)(n:Nat):(s.tres[n]?.getD Tre.zero).hd.Ok:=by
 cases h:s.tres[n]? with
 |none=>exact Hd.zero_Ok
 |some t=>exact(hs.tre h).hd
theorem qzt(hs:s.Ok)(hr:R.Good):(doS c s R).2.Ok:=by
 have h1:=qzr (c:=c) hs hr;have h2:=qto (c:=c) hs hr;unfold doS at h2 ⊢;dsimp only at h2 ⊢;split
 · exact qzm _
 rename_i e1
 rw[if_neg e1]at h2;split
 · exact qzm _
 rename_i e2
 rw[if_neg e2]at h2;split
 · exact qzm _
 rename_i e3
 rw[if_neg e3]at h2;split
 · exact qzm _
 rename_i e4
 rw[if_neg e4]at h2;split
 ·
  rename_i e5
  rw[if_pos e5]at h2;dsimp only at h2 ⊢;split
  · exact⟨h1.n,h1.bytes,h1.hashes,qzs h2 _,h1.tok⟩
  exact h1
 exact h1
abbrev ErrT (w:World):Prop:=w.cell? ⟨0,0,none⟩=some (.iface 327 (.agg #[.pointer (some ⟨3,81,none⟩)]))
structure Sit (W:World)(B:Nat)(w:World)(col:Col)(g gw tb:Nat)(c:Cfg)(s:Sta):Prop where
 ok:s.Ok
 mdl:∃L css,Mdl w col 2 g c s L css
 wld:∃A n k,WldAt w gw tb c A n k∧(0<n→∀ad,A=some ad→col ad.block=0∧ad.block<B)
 gws:col gw=0∧gw<B
 tbs:col tb=0∧tb<B
 tabs:Tabs w
 err:ErrT w
 low:∀b,b<W.heap.size→col b=0
 base:3≤W.heap.size∧W.heap.size≤B∧B≤w.heap.size
 below:Zb W w
section
variable {W w w' : World} {col col' : Col} {B g gw tb : Nat} {c : Cfg} {s s' : Sta}
theorem Sit.next(h:Sit W B w col g gw tb c s)(hr:Rest w col w' col')(hs:s'.Ok)(hm:∃L css,Mdl w' col' 2 g c s' L css):Sit W B w' col' g gw tb c s':=by
 obtain⟨L,css,h2⟩:=h.mdl;obtain⟨A,n,k,hw,hA⟩:=h.wld;have hb:=hr.below h.low h.below.size;have h3:=hr.below (B:=3) h2.base.2 h2.base.1;refine⟨hs,hm,⟨A,n,k,⟨hr.blk hw.blk h.gws.1,Rest.blk hr hw.tab h.tbs.1,hr.reads hw.seed (fun hn ad e=>(hA hn ad e).1)⟩,fun hn ad e=>⟨?_,(hA hn ad e).2⟩⟩,⟨(hr.block gw hw.blk.lt h.gws.1).2,h.gws.2⟩,⟨(hr.block tb (Blk.lt hw.tab) h.tbs.1).2,h.tbs.2⟩,h.tabs.below h3.1 (tA4 _),?_,hb.2,⟨h.base.1,h.base.2.1,tB1 h.base.2.2 hr.size⟩,h.below.trans hb.1⟩
 · obtain⟨ad',e',hlt,_⟩:=hw.seed.2 hn
   rw[e]at e';injection e' with e';subst e';exact(hr.block _ hlt (hA hn ad e).1).2
 exact(h3.1.cell (p:=⟨0,0,none⟩) (by show (0:Nat)<3;decide)).trans h.err
theorem Sit.call(h:Sit W B w col g gw tb c s)(hb:Zb w w'):Sit W B w' col g gw tb c s:=by
 obtain⟨L,css,h2⟩:=h.mdl;exact h.next (Rest.of_below hb) h.ok ⟨L,css,h2.call hb⟩
theorem Sit.alloc(h:Sit W B w col g gw tb c s)(o:Obj):Sit W B (w.alloc o) col g gw tb c s:=h.call ((tA5 _ _).alloc (tA4 _) o)
theorem Sit.drew(h:Sit W B w col g gw tb c s):Sit W B w.drew col g gw tb c s:=h.call (tA5 _ _).drew
theorem Sit.new0(h:Sit W B w col g gw tb c s)(hb:w.heap.size≤b):col b=0:=by
 obtain⟨L,css,h2⟩:=h.mdl;by_cases e:col b=0
 · exact e
 have:=h2.fin b e;omega
theorem Sit.grown(h:Sit W B w col g gw tb c s)(hg:w.grownBy w' (some b))(h0:col b=0)(hb:B≤b):Sit W B w' col g gw tb c s:=by
 obtain⟨L,css,h2⟩:=h.mdl;obtain⟨A,n,k,hw,hA⟩:=h.wld;obtain⟨h3,h4,h5⟩:=h.base;have hT:Turns (· ==0) w col w' col:=Turns.of_grown hg (fun k e=>by injection e with e;rw[←e,h0];rfl) (fun _ _=>rfl);have hB:Below B w w':=⟨hg.os,hg.tape,hg.output,hg.size,fun k hk=>hg.block k zo (fun e=>by injection e with e;omega)⟩;refine⟨h.ok,⟨L,css,h2.keep hT rfl rfl rfl rfl rfl (fun i hi=>by simp;omega) (h2.fin.mono hg.size)⟩,⟨A,n,k,⟨hw.blk.below hB h.gws.2,Blk.below hw.tab hB h.tbs.2,⟨hw.seed.1,fun hn=>?_⟩⟩,hA⟩,h.gws,h.tbs,h.tabs.below hB zo,?_,h.low,⟨h3,h4,tB1 h5 hg.size⟩,h.below.trans (hB.mono h4)⟩
 · obtain⟨ad,e,hlt,hc⟩:=hw.seed.2 hn
   refine⟨ad,e,tB0 hlt hg.size,fun j u hu=>?_⟩;refine(World.cell?_of_block ?_).trans (hc j u hu);rw[qa1];exact hB.block _ (hA hn ad e).2
 exact(hB.cell (p:=⟨0,0,none⟩) (by show (0:Nat)<B;exact tB0 (show (0:Nat)<3 from by decide) (tB1 h3 h4))).trans h.err
end
theorem qzu(h:Sit W B w col g gw tb c s)(hc:c.Ok)(R:Req)(Ac:Option Addr)(cc:Nat)(Al:Option Addr)(cl:Nat)(hA:Asked w col R Ac cc Al cl):
 Zc 17 #[.pointer (some ⟨g,0,none⟩),.agg (reqv R (.slice Ac R.cavs.length cc) (.slice Al R.leaf.length cl)).toArray] w fun e w'=>∃v col',e=.returned v∧RspV w' col' w.heap.size v (doS c s R).2∧Sit W B w' col' g gw tb c (doS c s R).1∧Rest w col w' col':=by
 obtain⟨L,css,h2⟩:=h.mdl;refine(qvt c s L col g css R Ac cc Al cl w hc h.ok h2 hA h.tabs h.err).mono ?_;rintro e w' ⟨v,col',L',css',rfl,h3,h4,h5⟩;exact⟨v,col',rfl,h3,h.next h5 (qto h.ok hA.good) ⟨L',css',h4⟩,h5⟩
theorem qzv(h:Sit W B w col g gw tb c s)(hc:c.Ok):
 Zc 26 #[.pointer (some ⟨g,0,none⟩)] w fun e w'=>e=.returned (.tuple #[])∧∃col',Sit W B w' col' g gw tb c (seqS c s)∧Rest w col w' col':=by
 obtain⟨L,css,h2⟩:=h.mdl;refine(qwx c s L col g css w hc h.ok h2 h.tabs).mono ?_;rintro e w' ⟨rfl,col',css',h4,h5⟩;exact⟨rfl,col',h.next h5 (qu1 h.ok) ⟨L,css',h4⟩,h5⟩
theorem qzw(h:Sit W B w col g gw tb c s):
 Zc 34 #[.pointer (some ⟨g,0,none⟩)] w fun e w'=>e=.returned (.tuple #[])∧Sit W B w' col g gw tb c (qmx s)∧Rest w col w' col:=by
 obtain⟨L,css,h2⟩:=h.mdl;refine(qw1 c s L col g css w h.ok h2).mono ?_;rintro e w' ⟨rfl,h4,h5⟩;exact⟨rfl,h.next h5 (qtt h.ok) ⟨L,css,h4⟩,h5⟩
theorem qzx(h:Sit W B w col g gw tb c s)(n:Nat)(hn:n<4294967296):
 Zc 49 #[.pointer (some ⟨g,0,none⟩),.int .u32 (n:Int)] w fun e w'=>e=.returned (.tuple #[])∧Sit W B w' col g gw tb c (qmy s n)∧Rest w col w' col:=by
 obtain⟨L,css,h2⟩:=h.mdl;refine(qqh n c s L col 2 g css w (.inl rfl) h2).mono ?_;rintro e w' ⟨rfl,h4,h5⟩;have hr:=Rest.of_turns h5 rfl;exact⟨rfl,h.next hr (qts h.ok hn) ⟨L,css,h4⟩,hr⟩
structure RspX (X:List Value)(a:Rsp):Prop where
 len:X.length=106
 one:∀u∈X,u.oneCell'=true
 why:X[0]? =some (.int .i64 a.why)
 n:X[1]? =some (.int .u64 (a.n:Int))
 hashes:∃A k,X[3]? =some (.slice A a.hashes.length k)
 size:X[6]? =some (.int .u64 (a.hd.size:Int))
theorem RspV.x{a:Rsp}(h:RspV W col base v a)(hs:a.Shape):∃X:List Value,v=.agg X.toArray∧RspX X a:=by
 obtain⟨bv,hv,cav,e,h1,h2,h3,-⟩:=h;obtain⟨A1,n1,c1,rfl,-⟩:=h1.sl;obtain⟨A2,c2,rfl,-⟩:=qaf h2.2;obtain⟨A3,n3,c3,rfl,-⟩:=h3.sl;exact⟨_,e,qpv _ _ _ _ (qni hs.1) hs.2,qpw _ _ _ _ rfl rfl rfl,rfl,rfl,⟨_,_,rfl⟩,rfl⟩
structure BoxAt (w:World)(col:Col)(B b:Nat)(X:List Value):Prop where
 blk:Blk w b 57 X.toArray
 col:col b=0
 low:B≤b
theorem BoxAt.rest(h:BoxAt w col B b X)(hr:Rest w col w' col'):BoxAt w' col' B b X:=⟨hr.blk h.blk h.col,(hr.block b h.blk.lt h.col).2,h.low⟩
theorem BoxAt.call(h:BoxAt w col B b X)(hb:Zb w w'):BoxAt w' col B b X:=h.rest (Rest.of_below hb)
theorem qzy{v:World}(h:Sit W B v col g gw tb c s)(cs:Array Value)(X:List Value):
 Sit W B ((v.alloc (.cells cs 57)).setRow v.heap.size X.toArray) col g gw tb c s∧BoxAt ((v.alloc (.cells cs 57)).setRow v.heap.size X.toArray) col B v.heap.size X∧Zb v ((v.alloc (.cells cs 57)).setRow v.heap.size X.toArray):=by
 have hb:Zb v ((v.alloc (.cells cs 57)).setRow v.heap.size X.toArray):=below_setRow ((tA5 _ _).alloc (tA4 _) _) (tA4 _) _;obtain⟨L,css,h2⟩:=h.mdl;refine⟨h.call hb,⟨(Blk.new _ _ _).setRow _,?_,h.base.2.2⟩,hb⟩;by_cases e:col v.heap.size=0
 · exact e
 have:=h2.fin _ e;omega
theorem RspX.pk{a:Rsp}(h:RspX X a):RspK X:=⟨h.len,h.one⟩
theorem qzz{v:World}(h:Sit W B v col g gw tb c s)(X:List Value):∃W' G,(v.alloc (.cells Tryz.zeroCells57 57)).setRow v.heap.size X.toArray=W'∧v.heap.size=G∧Hid (Sit W B W' col g gw tb c s)∧Hid (BoxAt W' col B G X)∧Hid (Zb v W'):=by
 obtain⟨h1,h2,h3⟩:=qzy h Tryz.zeroCells57 X;exact⟨_,_,rfl,rfl,h1,h2,h3⟩
theorem xa0(h:Sit W B w col g gw tb c s)(hc:c.Ok)(id:Nat)(ii:Int)(hii:ii=(id:Int))(hid:id<4294967296)(R:Req)(ht:R.tag.length=32)(cav leafv:Value)(h1:cav.oneCell'=true)(h2:leafv.oneCell'=true):
 Zc 28 #[.pointer (some ⟨gw,0,none⟩),.int .u32 ii,.agg (reqv R cav leafv).toArray] w fun e w'=>e=.returned (.agg (reqv (byR c id R) (.slice none 0 0) leafv).toArray)∧Sit W B w' col g gw tb c s∧Zb w w':=by
 obtain⟨A,n,k,hw,-⟩:=h.wld;subst hii;refine zcb (qzl gw tb c A n k id R cav leafv w hw hc.seedb hc.seed hid ht h1 h2) fun w' b=>?_
 exact⟨rfl,h.call b,b⟩
theorem xa1{a:Rsp}(h:Sit W B w col g gw tb c s)(hc:c.Ok)(id:Nat)(R:Req)(Al:Option Addr)(n cl:Nat)(hn:R.leaf.length=n)(hdo:doS c s (byR c id R)=(s',a))(hg:(byR c id R).Good)
 (hl:Reads w w.heap.size 1 Al n (byv R.leaf))(hnc:n≤cl)(hcm:cl≤maxLen)(h0:0<n→∀ad,Al=some ad→col ad.block=0):
 Zc 17 #[.pointer (some ⟨g,0,none⟩),.agg (reqv (byR c id R) (.slice none 0 0) (.slice Al n cl)).toArray] w fun e w'=>∃X col',e=.returned (.agg X.toArray)∧RspX X a∧Sit W B w' col' g gw tb c s'∧Rest w col w' col':=by
 subst hn;have hA:Asked w col (byR c id R) none 0 Al cl:=⟨hg,hl,hnc,hcm,⟨rfl,fun h=>absurd h (by show ¬0<0;omega)⟩,tA4 _,by simp[maxLen],h0,fun h=>absurd h (by show ¬0<0;omega)⟩;have hr:=qzt (c:=c) h.ok hg;have CD:=qzu h hc (byR c id R) none 0 Al cl hA;rw[hdo]at CD hr;refine CD.mono ?_;rintro e w' ⟨v,col',rfl,h3,h4,h5⟩;obtain⟨X,rfl,hX⟩:=h3.x ⟨hr.hd,hr.tok.2.2.1⟩;exact⟨X,col',rfl,hX,h4,h5⟩
def OwnTexts (w:World)(base:Nat)(v:Value)(ls:List (List Nat)):Prop:=
 ∃vs:List Value,w.ownsRow base 23 1 v ls.length vs∧∀(i:Nat) (bs:List Nat),ls[i]? =some bs→∃u,vs[i]? =some u∧OwnB w base u bs
def Col.ext (col:Col)(base size:Nat)(g:Option Nat)(k k':Nat):Col:=fun b=>if base≤b∧b<size then(if g=some b then k else k') else col b
section
variable {w w' : World} {col : Col} {base size k k' : Nat} {g : Option Nat} {v : Value} {ls : List (List Nat)}
theorem Col.ext_old(h:b<base):col.ext base size g k k' b=col b:=by unfold Col.ext;rw[if_neg zo]
theorem Col.ext_at(h:base≤b)(h':b<size)(e:g=some b):col.ext base size g k k' b=k:=by unfold Col.ext;rw[if_pos ⟨h,h'⟩,if_pos e]
theorem Col.ext_in(h:base≤b)(h':b<size)(e:g≠some b):col.ext base size g k k' b=k':=by unfold Col.ext;rw[if_pos ⟨h,h'⟩,if_neg e]
theorem Col.ext_new{lo:Nat}(h:∀b,col b≠0→lo≤b∧b<base)(hl:lo≤base)(hs:base≤size)(hb:col.ext base size g k k' b≠0):lo≤b∧b<size:=by
 unfold Col.ext at hb;by_cases e:base≤b∧b<size
 · omega
 rw[if_neg e]at hb;have:=h b hb;omega
theorem xa2(h:w.ownsRow base e sz v n xs){g:Nat}(hg:v.ownBlock=some g):base≤g∧g<w.heap.size:=by
 rcases h.2 with⟨rfl,_⟩|⟨g',cap,cur,rfl,hb,hh,_⟩
 · cases hg
 obtain rfl:g'=g:=by simpa [Value.ownBlock] using hg
 exact⟨hb,Blk.lt (show Blk w g' e cur from hh)⟩
theorem xa3(h:w.ownsRow base e sz v n xs)(k':Nat):RowC w (col.ext base w.heap.size v.ownBlock k k') k v e sz n xs:=
 RowC.of_own h fun g hg=>Col.ext_at (xa2 h hg).1 (xa2 h hg).2 hg
theorem OwnTexts.textsC(h:OwnTexts w base v ls):TextsC w (col.ext base w.heap.size v.ownBlock k 5) k v ls:=by
 obtain⟨vs,h1,h2⟩:=h;refine⟨vs,xa3 h1 5,fun i bs hi=>?_⟩;obtain⟨u,hu,ho⟩:=h2 i bs hi;refine⟨u,hu,TextC.own ho fun g hg=>?_⟩;have hb:=xa2 ho hg;refine Col.ext_in hb.1 hb.2 fun e=>?_
 rcases qrs ho h1 zdc with h0|h0
 · rw[h0]at hg;cases hg
 exact h0 (hg.trans e.symm)
theorem xa4(h:w.ownsRow base e sz v n xs)(hn:0<n):∃g c,v=.slice (some ⟨g,0,none⟩) n c∧base≤g∧g<w.heap.size∧∀(col:Col) (k:Nat),col g=k→TopAt w col k e g c sz n xs:=by
 rcases h.2 with⟨_,h0⟩|⟨g,cap,cur,rfl,hb,hh,hnc,hc,hsz,ht⟩
 · omega
 have hlt:=Blk.lt (show Blk w g e cur from hh);refine⟨g,cap,rfl,hb,hlt,fun col k hk=>⟨hk,cur.toList.drop (n*sz),?_,h.1,hnc,hc,?_⟩⟩
 · rw[←ht,List.take_append_drop]
   exact hh
 rw[h.1,tBk,Array.length_toList,hsz];have:n*sz≤cap*sz:=Nat.mul_le_mul_right _ hnc;omega
end
structure Cpy (w0:World)(lo:Nat)(w:World)(col:Col)(L:Loc)(css0 css:List (List Value))(j:Nat)(s:Sta):Prop where
 tens:TopAt w col 2 92 L.tg L.tc 6 16 (s.tens.flatMap tenv)
 tres:TopAt w col 3 74 L.rg L.rc 75 16 css.flatten
 gras:TopAt w col 4 66 L.gg L.gc 4 s.gras.length (s.gras.flatMap grav)
 len:css.length=16
 lens:∀c∈css,c.length=75
 done_:∀i t,i<j→s.tres[i]? =some t→∃cs,css[i]? =some cs∧TreAt w col i cs t
 rest:∀i,j≤i→css[i]? =css0[i]?
 new:∀b,col b≠0→lo≤b∧b<w.heap.size
 low:w0.heap.size≤lo∧lo≤w.heap.size
 below:Zb w0 w
section
variable {w0 w w' w1 w2 w3 : World} {col : Col} {L : Loc} {css0 css : List (List Value)} {j lo : Nat} {s : Sta}
theorem Cpy.keeps(h:Cpy w0 lo w col L css0 css j s)(ht:Turns (fun _=>false) w col w' col')(hn:∀b,col' b≠0→lo≤b∧b<w'.heap.size):Cpy w0 lo w' col' L css0 css j s:=
 ⟨h.tens.keep (ht.keeps rfl),h.tres.keep (ht.keeps rfl),h.gras.keep (ht.keeps rfl),h.len,h.lens,fun i t hi h1=>by
  obtain⟨cs,h2,h3⟩:=h.done_ i t hi h1;exact⟨cs,h2,h3.keep fun k _=>ht.keeps rfl⟩,h.rest,hn,⟨h.low.1,tB1 h.low.2 ht.size⟩,h.below.trans (ht.below (B:=w0.heap.size) (fun _ _=>rfl) h.below.size)⟩
theorem Cpy.call(h:Cpy w0 lo w col L css0 css j s)(hb:Zb w w'):Cpy w0 lo w' col L css0 css j s:=
 h.keeps (Turns.of_below _ hb) fun b hb'=>⟨(h.new b hb').1,tB0 (h.new b hb').2 hb.size⟩
theorem Cpy.ext(h:Cpy w0 lo w col L css0 css j s)(hb:Zb w w')(g:Option Nat)(k k':Nat):Cpy w0 lo w' (col.ext w.heap.size w'.heap.size g k k') L css0 css j s:=
 h.keeps ((Turns.of_below _ hb).recolour fun b hb'=>Col.ext_old hb') fun b hb'=>Col.ext_new h.new h.low.2 hb.size hb'
theorem xa5(t:Tre)(a b c a' b' c':Value):over (trev t a b c) 4 [a',b',c']=trev t a' b' c':=by
 unfold over trev;simp
theorem Cpy.step(h:Cpy w0 lo w col L css0 css j s)(ht:s.tres[j]? =some t)(hs:s.tres.length=16){a b c:Value}(h0:css0[j]? =some (trev t a b c))
 (hd:w1.ownsRow w.heap.size 22 1 vd t.draws.length (drwv t.draws))(b1:Zb w w1)(hl:OwnTexts w2 w1.heap.size vl t.leaves)(b2:Zb w1 w2)(hq:OwnTexts w3 w2.heap.size vq t.queue)(b3:Zb w2 w3):
 ∃col',Cpy w0 lo (w3.setCells L.rg (j*75+4) [vd,vl,vq]) col' L css0 (css.modify j fun x=>over x 4 [vd,vl,vq]) (j+1) s:=by
 obtain⟨hj,_⟩:=tA8 ht;have c1:=h.ext b1 vd.ownBlock (10+3*j) 0;have c2:=c1.ext b2 vl.ownBlock (11+3*j) 5;have c3:=c2.ext b3 vq.ownBlock (12+3*j) 5;have r1:RowC w1 (col.ext w.heap.size w1.heap.size vd.ownBlock (10+3*j) 0) (10+3*j) vd _ _ _ _:=xa3 hd 0;have r2:TextsC w2 ((col.ext w.heap.size w1.heap.size vd.ownBlock (10+3*j) 0).ext w1.heap.size w2.heap.size vl.ownBlock (11+3*j) 5) (11+3*j) vl t.leaves:=hl.textsC;have r3:TextsC w3 (((col.ext w.heap.size w1.heap.size vd.ownBlock (10+3*j) 0).ext w1.heap.size w2.heap.size vl.ownBlock (11+3*j) 5).ext w2.heap.size w3.heap.size vq.ownBlock (12+3*j) 5) (12+3*j) vq t.queue:=hq.textsC;obtain⟨C1,hC1⟩:=eqx (col.ext w.heap.size w1.heap.size vd.ownBlock (10+3*j) 0);rw[←hC1]at c1 c2 c3 r1 r2 r3;obtain⟨C2,hC2⟩:=eqx (C1.ext w1.heap.size w2.heap.size vl.ownBlock (11+3*j) 5);rw[←hC2]at c2 c3 r2 r3;obtain⟨C3,hC3⟩:=eqx (C2.ext w2.heap.size w3.heap.size vq.ownBlock (12+3*j) 5);rw[←hC3]at c3 r3;have t2:Turns (fun _=>false) w1 C1 w2 C2:=(Turns.of_below _ b2).recolour fun b hb=>by rw[hC2];exact Col.ext_old hb
 have t3:Turns (fun _=>false) w2 C2 w3 C3:=(Turns.of_below _ b3).recolour fun b hb=>by rw[hC3];exact Col.ext_old hb
 have r1':=r1.keep ((t2.trans t3).keeps rfl);have r2':=r2.keep (t3.keeps rfl) (t3.keeps rfl);have hT:Turns (· ==3) w3 C3 (w3.setCells L.rg (j*75+4) [vd,vl,vq]) C3:=Turns.setCells _ (by simp[c3.tres.1]);have k1:∀i,i≠3→KeepsCol i w3 C3 (w3.setCells L.rg (j*75+4) [vd,vl,vq]) C3:=fun i hi=>hT.keeps (by simpa using hi)
 have hcj:css[j]? =some (trev t a b c):=(h.rest j (tA4 _)).trans h0;have hfl:css.flatten.length=1200:=by rw[qnd h.lens,h.len]
 refine⟨C3,c3.tens.keep (k1 2 zdc),?_,c3.gras.keep (k1 4 zdc),by rw[List.length_modify];exact h.len,?_,?_,?_,fun b hb=>⟨(c3.new b hb).1,tB0 (c3.new b hb).2 hT.size⟩,⟨c3.low.1,tB1 c3.low.2 hT.size⟩,c3.below.trans (hT.below (B:=w0.heap.size) (fun b hb=>?_) c3.below.size)⟩
 · have:=c3.tres.over (o:=j*75+4) (cs:=[vd,vl,vq]) (by rw[hfl];simp only[tBi,List.length_nil];omega)
   rwa[qne _ h.lens (by rw[h.len];omega) zm]at this
 · intro x hx
   rcases qnz hx with h1|⟨y,h1,rfl⟩
   · exact h.lens x h1
   rw[qn3 (by rw[h.lens y (tB2 h1)];simp)];exact h.lens y (tB2 h1)
 ·
  intro i t' hi ht';by_cases e:j=i
  · subst e
    rw[ht]at ht';injection ht' with ht';subst ht';refine⟨_,qo5 _ hcj,vd,vl,vq,xa5 ..,r1'.keep (k1 _ zo),r2'.keep (k1 _ zo) (k1 5 zdc),r3.keep (k1 _ zo) (k1 5 zdc)⟩
  obtain⟨cs,h1,h2⟩:=c3.done_ i t' zo ht';exact⟨cs,by rw[qo6 _ _ e];exact h1,h2.keep fun k hk=>k1 k zo⟩
 · intro i hi
   rw[qo6 _ _ zo];exact h.rest i zo
 by_cases e:C3 b=0
 · rw[e];rfl
 have:=(c3.new b e).1;have:=c3.low.1;omega
theorem Cpy.box(h:Cpy w0 lo w col L css0 css j s)(hg:w.grownBy w' (some b))(h1:w0.heap.size≤b)(h2:b<lo):Cpy w0 lo w' col L css0 css j s:=by
 have h0:col b=0:=by
  by_cases e:col b=0
  · exact e
  have:=(h.new b e).1;omega
 have ht:Turns (· ==0) w col w' col:=Turns.of_grown hg (fun k e=>by injection e with e;subst e;simp[h0]) (fun _ _=>rfl);exact⟨h.tens.keep (ht.keeps rfl),h.tres.keep (ht.keeps rfl),h.gras.keep (ht.keeps rfl),h.len,h.lens,fun i t hi h1=>by
  obtain⟨cs,h2,h3⟩:=h.done_ i t hi h1;exact⟨cs,h2,h3.keep fun k hk=>ht.keeps (by simp;omega)⟩,h.rest,fun b hb=>⟨(h.new b hb).1,tB0 (h.new b hb).2 hg.size⟩,⟨h.low.1,tB1 h.low.2 hg.size⟩,h.below.grown hg h.below.size (fun k e=>by injection e with e;omega)⟩
theorem Cpy.start{css:List (List Value)}(hs:s.Ok)(hl:css.length=16)(h75:∀c∈css,c.length=75)(ha:w.ownsRow lo 92 6 va 16 (s.tens.flatMap tenv))(hr:w.ownsRow lo 74 75 vr 16 css.flatten)(hg:w.ownsRow lo 66 4 vg s.gras.length (s.gras.flatMap grav))
 (h0:w0.heap.size≤lo)(h1:lo≤w.heap.size)(hb:Zb w0 w):
 ∃col L,va=.slice (some ⟨L.tg,0,none⟩) 16 L.tc∧vr=.slice (some ⟨L.rg,0,none⟩) 16 L.rc∧vg=.slice (some ⟨L.gg,0,none⟩) s.gras.length L.gc∧Cpy w0 lo w col L css css 0 s:=by
 have sg:0<s.gras.length:=by obtain⟨h,_⟩:=tA8 hs.owner;exact h
 have n1:=qrs ha hr zdc;have n2:=qrs ha hg zdc;have n3:=qrs hr hg zdc;obtain⟨tg,tc,rfl,t1,t2,tt⟩:=xa4 ha zdc;obtain⟨rg,rc,rfl,r1,r2,rt⟩:=xa4 hr zdc;obtain⟨gg,gc,rfl,g1,g2,gt⟩:=xa4 hg sg;simp only[Value.ownBlock,Option.some.injEq,reduceCtorEq,false_or,ne_eq]at n1 n2 n3;refine⟨fun b=>if b=tg then 2 else if b=rg then 3 else if b=gg then 4 else 0,⟨tg,tc,rg,rc,gg,gc,none,0,0⟩,rfl,rfl,rfl,tt _ _ zm,rt _ _ ?_,gt _ _ ?_,hl,h75,fun i t hi=>absurd hi zo,fun _ _=>rfl,fun b hb=>?_,⟨h0,h1⟩,hb⟩
 · rw[if_neg (fun e=>n1 e.symm),if_pos rfl]
 · rw[if_neg (fun e=>n2 e.symm),if_neg (fun e=>n3 e.symm),if_pos rfl]
 by_cases e1:b=tg
 · omega
 by_cases e2:b=rg
 · omega
 by_cases e3:b=gg
 · omega
 rw[if_neg e1,if_neg e2,if_neg e3]at hb;exact absurd rfl hb
theorem Cpy.stAt(h:Cpy w0 lo w col L css0 css 16 s)(hs:s.tres.length=16):StAt 92 74 66 w col 2 L css s:=
 ⟨h.tens,h.tres,h.gras,h.len.trans hs.symm,fun i t ht=>h.done_ i t (by obtain⟨hi,_⟩:=tA8 ht;omega) ht⟩
end
structure CpT (w0 w:World)(base:Nat)(v:Value)(n:Nat)(vs vsj:List Value)(ls:List (List Nat))(j:Nat):Prop where
 row:w.ownsRow base 23 1 v n vsj
 done_:∀(i:Nat) (bs:List Nat),i<j→ls[i]? =some bs→∃u,vsj[i]? =some u∧OwnB w base u bs
 rest:∀i,j≤i→vsj[i]? =vs[i]?
 low:base≤w.heap.size
 below:Below base w0 w
theorem xa6{c:Nat}(h:w.ownsRow base e 1 (.slice (some ⟨g,0,none⟩) n c) n xs)(u:Value):(w.setCell ⟨g,j,none⟩ u).ownsRow base e 1 (.slice (some ⟨g,0,none⟩) n c) n (xs.set j u):=by
 refine⟨by rw[List.length_set];exact h.1,?_⟩;rcases h.2 with⟨e0,_⟩|⟨g',cap,cur,e0,hb,hh,hnc,hc,hsz,ht⟩
 · cases e0
 injection e0 with e1 e2 e3;injection e1 with e1;injection e1 with e1;subst e1 e3;have h2:=Blk.set_ (show Blk w g e cur from hh) j u;refine .inr ⟨g,c,cur.setIfInBounds j u,rfl,hb,h2,hnc,hc,by rw[Array.size_setIfInBounds];exact hsz,?_⟩;rw[Array.toList_setIfInBounds,List.take_set,ht]
theorem CpT.step{c:Nat}{ls:List (List Nat)}(h:CpT w0 w base (.slice (some ⟨g,0,none⟩) n c) n vs vsj ls j)(hj:ls[j]? =some bs)(hjn:j<n)(hn:vsj.length=n)
 (b2:Zb w w2)(ho:OwnB w2 w.heap.size u bs)(hg:base≤g):CpT w0 (w2.setCell ⟨g,j,none⟩ u) base (.slice (some ⟨g,0,none⟩) n c) n vs (vsj.set j u) ls (j+1):=by
 have h2:=qr3 h.row b2;have far:∀{x:Value} {l:List Nat} {b:Nat},OwnB w2 b x l→OwnB (w2.setCell ⟨g,j,none⟩ u) b x l:=fun hx=>hx.far (by
  rcases qrs hx h2 zdc with e|e
  · rw[e];simp
  exact e) u
 refine⟨xa6 h2 u,fun i b hi hb=>?_,fun i hi=>?_,?_,?_⟩
 ·
  by_cases e:j=i
  · subst e
    rw[hj]at hb;injection hb with hb;subst hb;exact⟨u,by rw[List.getElem?_set_self zo],far (ho.mono h.low)⟩
  obtain⟨x,h3,h4⟩:=h.done_ i b zo hb;exact⟨x,by rw[List.getElem?_set_ne e];exact h3,far (h4.kept b2)⟩
 · rw[List.getElem?_set_ne zo]
   exact h.rest i zo
 · exact tB1 h.low (tB1 b2.size (qab (tB9 w2 (some g)) (p:=⟨g,j,none⟩) (.inl rfl) u).size)
 refine h.below.trans ((b2.mono h.low).grown (qab (tB9 w2 (some g)) (p:=⟨g,j,none⟩) (.inl rfl) u) ?_ ?_)
 · exact tB1 h.low b2.size
 intro k hk;injection hk with hk;omega
theorem xa7(z:List Value)(n sz:Nat)(hz:z.length=sz)(h0:0<sz):madeCells z.toArray (n*sz)=(List.replicate n z).flatten.toArray:=by
 apply Array.ext';apply List.ext_getElem?;intro i;by_cases hi:i<n*sz
 ·
  have hq:i / sz<n:=Nat.div_lt_of_lt_mul (by rwa[Nat.mul_comm]at hi);have hr:i % sz<sz:=Nat.mod_lt _ h0;have e:=qnc (sz:=sz) (L:=List.replicate n z) (n:=i / sz) (j:=i % sz) (c:=z) (fun c hc=>by rw[List.eq_of_mem_replicate hc];exact hz) (by rw[List.getElem?_replicate,if_pos hq]) hr;rw[Nat.div_add_mod' i sz]at e;have e2:(madeCells z.toArray (n*sz)).toList[i]? =some (z.toArray[i % z.toArray.size]!):=by
   simp[madeCells,hi]
  rw[e2];show _=(List.replicate n z).flatten[i]?;rw[e,tB6,hz,List.getElem!_toArray,List.getElem!_eq_getElem?_getD];rw[tA7 zo];rfl
 have e1:(madeCells z.toArray (n*sz)).toList.length=n*sz:=by rw[Array.length_toList,size_madeCells]
 have e2:(List.replicate n z).flatten.length=n*sz:=by rw[qnd (sz:=sz) (fun c hc=>by rw[List.eq_of_mem_replicate hc];exact hz),List.length_replicate]
 rw[List.getElem?_eq_none zo];exact(List.getElem?_eq_none (by show (List.replicate n z).flatten.length≤i;omega)).symm
theorem xa8:((Tryz.prog.info? 92).bind fun i=>i.zero.map fun z=>(z.cells,i.size,i.bytes))=some ((tenv Ten.zero).toArray,6,24):=by kernel_rfl
theorem xa9:((Tryz.prog.info? 74).bind fun i=>i.zero.map fun z=>(z.cells,i.size,i.bytes))=some ((trev Tre.zero (.slice none 0 0) (.slice none 0 0) (.slice none 0 0)).toArray,75,200):=by kernel_rfl
theorem xaa{C:Array Value}(h:((Tryz.prog.info? e).bind fun i=>i.zero.map fun z=>(z.cells,i.size,i.bytes))=some (C,sz,by_)):∃i z,Tryz.prog.info? e=some i∧i.zero=some z∧z.cells=C∧i.size=sz∧i.bytes=by_:=by
 rcases h1:Tryz.prog.info? e with _|i
 · rw[h1]at h;cases h
 rcases h2:i.zero with _|z
 · rw[h1]at h;simp[h2]at h
 rw[h1]at h;simp[h2]at h;exact⟨i,z,rfl,h2,h.1,h.2.1,h.2.2⟩
def zTen:List Value:=(List.replicate 16 (tenv Ten.zero)).flatten
def zTre:List Value:=(List.replicate 16 (trev Tre.zero (.slice none 0 0) (.slice none 0 0) (.slice none 0 0))).flatten
theorem xab:(trev Tre.zero (.slice none 0 0) (.slice none 0 0) (.slice none 0 0)).length=75:=by decide
theorem xac(w:World):(Instr.makeSlice 45 (.int .i64 16) (.int .i64 16)).run Tryz.prog w=.ok (.slice (some ⟨w.heap.size,0,none⟩) 16 16) (w.alloc (.cells zTen.toArray 92)):=by
 obtain⟨i,z,hi,hz,hc,hs,hb⟩:=xaa xa8;have h:=run_make (P:=Tryz.prog) w 45 92 i z Tryz.underlying45 hi hz .i64 .i64 16 16 zdc zdc (by rw[hb];decide) zdc;rw[h,hc,hs,show (16:Int).toNat=16 from rfl,xa7 _ 16 6 rfl zdc];rfl
theorem xad(w:World):(Instr.makeSlice 46 (.int .i64 16) (.int .i64 16)).run Tryz.prog w=.ok (.slice (some ⟨w.heap.size,0,none⟩) 16 16) (w.alloc (.cells zTre.toArray 74)):=by
 obtain⟨i,z,hi,hz,hc,hs,hb⟩:=xaa xa9;have h:=run_make (P:=Tryz.prog) w 46 74 i z Tryz.underlying46 hi hz .i64 .i64 16 16 zdc zdc (by rw[hb];decide) zdc;rw[h,hc,hs,show (16:Int).toNat=16 from rfl,xa7 _ 16 75 xab zdc];rfl
def tre0 (h:Hd):Tre:={Tre.zero with state:=1,weight:=1,draws:=[0],hd:=h}
def ten0:Ten:=⟨true,1048576,1048576,1048576,32768,0⟩
def newH (h:Hd):Sta:=⟨0,0,0,ten0::List.replicate 15 Ten.zero,tre0 h::List.replicate 15 Tre.zero,[⟨0,4,18446744073709551615,false⟩]⟩
theorem xae(c:Cfg):newS c=newH (pubT c 0 0 (tre0 Hd.zero)):=rfl
theorem xaf:(newH Hd.zero).Ok:={
 clock:=by decide
 draw:=by decide
 lane:=by decide
 tensn:=rfl
 tresn:=rfl
 grasn:=by decide
 tens:=fun x hx=>by
  rcases List.mem_cons.1 hx with rfl|h
  · exact⟨by decide,by decide,by decide,by decide,by decide⟩
  rw[List.eq_of_mem_replicate h];exact Ten.zero_ok
 tres:=fun x hx=>by
  rcases List.mem_cons.1 hx with rfl|h
  · exact {Tre.zero_ok with state:=by show (0:Int)≤1∧(1:Int)≤4;decide,weight:=by show (0:Int)≤1∧(1:Int)≤4;decide,live:=fun _=>⟨by show (1:Int)≤1;decide,by simp[tre0]⟩,draws:=by simp[tre0],drawb:=fun x hx=>by obtain rfl:=List.mem_singleton.1 hx;decide}
  rw[List.eq_of_mem_replicate h];exact Tre.zero_ok
 gras:=fun x hx=>by
  obtain rfl:=List.mem_singleton.1 hx;exact⟨by decide,by decide,by decide⟩
 owner:=rfl
 first:=⟨_,rfl,rfl,rfl⟩}
def z75:List Value:=trev Tre.zero (.slice none 0 0) (.slice none 0 0) (.slice none 0 0)
def cssH (dg:Nat)(h:Hd):List (List Value):=trev (tre0 h) (.slice (some ⟨dg,0,none⟩) 1 1) (.slice none 0 0) (.slice none 0 0)::List.replicate 15 z75
theorem xag(dg:Nat){h:Hd}(ho:h.Ok):∀c∈cssH dg h,c.length=75:=by
 intro c hc;rcases List.mem_cons.1 hc with rfl|hc
 · exact qnj _ _ _ ho
 rw[List.eq_of_mem_replicate hc];exact xab
theorem xah(z r cs:List Value)(h:cs.length=z.length):over (z++r) 0 cs=cs++r:=by
 unfold over;rw[List.take_zero,List.nil_append,Nat.zero_add,h,List.drop_left]
theorem xai(h:Hd):over zTen 0 (tenv ten0)=(newH h).tens.flatMap tenv:=by
 have e:zTen=tenv Ten.zero++(List.replicate 15 (tenv Ten.zero)).flatten:=rfl;rw[e];exact(xah (tenv Ten.zero) _ (tenv ten0) rfl).trans rfl
theorem xaj(dg:Nat):over zTre 0 (trev (tre0 Hd.zero) (.slice (some ⟨dg,0,none⟩) 1 1) (.slice none 0 0) (.slice none 0 0))=(cssH dg Hd.zero).flatten:=by
 have e:zTre=z75++(List.replicate 15 z75).flatten:=rfl;rw[e];exact(xah z75 _ (trev (tre0 Hd.zero) (.slice (some ⟨dg,0,none⟩) 1 1) (.slice none 0 0) (.slice none 0 0)) ((qnj _ _ _ Hd.zero_Ok).trans xab.symm)).trans rfl
theorem xak(dg:Nat){h:Hd}(ho:h.Ok):over (cssH dg Hd.zero).flatten 7 (hdv h)=(cssH dg h).flatten:=by
 have e:=qne (sz:=75) (L:=cssH dg Hd.zero) (n:=0) (j:=7) (hdv h) (xag dg Hd.zero_Ok) (by simp[cssH]) (by rw[qni ho];decide);rw[show 0*75+7=7 from rfl]at e;rw[e];unfold cssH;rw[List.modify_zero_cons,qpi _ _ _ _ _ Hd.zero_Ok ho];rfl
theorem xal{c:Nat}(h:Blk w g e xs.toArray)(hc:col g=k)(hl:xs.length=c*size)(hm:c≤maxLen):TopAt w col k e g c size c xs:=
 ⟨hc,[],by rw[List.append_nil];exact h,hl,tA4 _,hm,by simpa using hl⟩
theorem xam{h:Hd}(ho:h.Ok)(ht:Blk w tg 92 ((newH h).tens.flatMap tenv).toArray)(hr:Blk w rg 74 (cssH dg h).flatten.toArray)
 (hg:Blk w gg 66 #[.int .i64 0,.int .i64 4,.int .u64 18446744073709551615,.bool false])(hd:Blk w dg 22 #[.int .u32 0])(h1:B≤tg)(h2:B≤rg)(h3:B≤gg)(h4:B≤dg):
 ∃col,StAt 92 74 66 w col 2 ⟨tg,16,rg,16,gg,1,none,0,0⟩ (cssH dg h) (newH h)∧∀b,col b≠0→B≤b∧b<w.heap.size:=by
 have n1:tg≠rg:=ht.ne_ hr zdc;have n2:tg≠gg:=ht.ne_ hg zdc;have n3:rg≠gg:=hr.ne_ hg zdc;have n4:tg≠dg:=ht.ne_ hd zdc;have n5:rg≠dg:=hr.ne_ hd zdc;have n6:gg≠dg:=hg.ne_ hd zdc;have z1:(fun b=>if b=tg then 2 else if b=rg then 3 else if b=gg then 4 else if b=dg then 10 else 0:Col) tg=2:=by simp
 have z2:(fun b=>if b=tg then 2 else if b=rg then 3 else if b=gg then 4 else if b=dg then 10 else 0:Col) rg=3:=by simp[n1.symm]
 have z3:(fun b=>if b=tg then 2 else if b=rg then 3 else if b=gg then 4 else if b=dg then 10 else 0:Col) gg=4:=by simp[n2.symm,n3.symm]
 have z4:(fun b=>if b=tg then 2 else if b=rg then 3 else if b=gg then 4 else if b=dg then 10 else 0:Col) dg=10:=by simp[n4.symm,n5.symm,n6.symm]
 have l1:=ht.lt;have l2:=hr.lt;have l3:=hg.lt;have l4:=hd.lt;refine⟨fun b=>if b=tg then 2 else if b=rg then 3 else if b=gg then 4 else if b=dg then 10 else 0,⟨xal ht z1 (by rw[qnm];rfl) (by simp[maxLen]),xal hr z2 (by rw[qnd (xag dg ho)];rfl) (by simp[maxLen]),xal (c:=1) hg z3 rfl (by simp[maxLen]),?_⟩,?_⟩
 ·
  refine⟨rfl,fun i t hi=>?_⟩;match i,hi with
  |0,hi=>
   injection hi with hi;subst hi;refine⟨_,rfl,_,_,_,rfl,⟨rfl,.inr ⟨dg,0,1,[.int .u32 0],rfl,z4,hd,tA4 _,by simp[maxLen],by simp,rfl⟩⟩,TextsC.nil _ _ _,TextsC.nil _ _ _⟩
  |i+1,hi=>
   have hi':(List.replicate 15 Tre.zero)[i]? =some t:=hi;rw[List.getElem?_replicate]at hi';split at hi'
   · rename_i hlt
     injection hi' with hi';subst hi';refine⟨z75,?_,.slice none 0 0,.slice none 0 0,.slice none 0 0,rfl,RowC.nil _ _ _ _ _,TextsC.nil _ _ _,TextsC.nil _ _ _⟩;show (List.replicate 15 z75)[i]? =some z75;rw[List.getElem?_replicate,if_pos hlt]
   cases hi'
 intro b hb;by_cases e1:b=tg
 · omega
 by_cases e2:b=rg
 · omega
 by_cases e3:b=gg
 · omega
 by_cases e4:b=dg
 · omega
 simp[e1,e2,e3,e4]at hb
structure NewI (B:Nat)(w:World)(d1 d2 d3 d4 d5:Bool)(v1 v2 v3 v4 v5:Value):Prop where
 tens:d1=true→∃g,v1=.slice (some ⟨g,0,none⟩) 16 16∧B≤g∧Blk w g 92 zTen.toArray
 tres:d2=true→∃g,v2=.slice (some ⟨g,0,none⟩) 16 16∧B≤g∧Blk w g 74 zTre.toArray
 gras:d3=true→∃g,v3=.slice (some ⟨g,0,none⟩) 1 1∧B≤g∧Blk w g 66 #[.int .i64 0,.int .i64 4,.int .u64 18446744073709551615,.bool false]
 box:d4=true→∃g,v4=.pointer (some ⟨g,0,none⟩)∧B≤g∧Blk w g 49 #[.int .u64 0,.int .u32 0,.int .i64 0,.slice none 0 0,.slice none 0 0,.slice none 0 0]
 sv:d5=true→d1=true∧d2=true∧d3=true∧v5=.agg #[.int .u64 0,.int .u32 0,.int .i64 0,v1,v2,v3]
 low:B≤w.heap.size
section
variable {B : Nat} {w : World} {d1 d2 d3 d4 d5 : Bool} {v1 v2 v3 v4 v5 : Value}
theorem NewI.a1(h:NewI B w d1 d2 d3 d4 d5 v1 v2 v3 v4 v5)(hd:d1=false)(d:Bool):NewI B (w.alloc (.cells zTen.toArray 92)) d d2 d3 d4 d5 (.slice (some ⟨w.heap.size,0,none⟩) 16 16) v2 v3 v4 v5:=
 ⟨fun _=>⟨_,rfl,h.low,Blk.new _ _ _⟩,fun e=>by obtain⟨g,h1,h2,h3⟩:=h.tres e;exact⟨g,h1,h2,h3.alloc _⟩,fun e=>by obtain⟨g,h1,h2,h3⟩:=h.gras e;exact⟨g,h1,h2,h3.alloc _⟩,fun e=>by obtain⟨g,h1,h2,h3⟩:=h.box e;exact⟨g,h1,h2,h3.alloc _⟩,fun e=>absurd ((h.sv e).1) (by rw[hd];decide),by rw[qar];exact Nat.le_succ_of_le h.low⟩
theorem NewI.a2(h:NewI B w d1 d2 d3 d4 d5 v1 v2 v3 v4 v5)(hd:d2=false)(d:Bool):NewI B (w.alloc (.cells zTre.toArray 74)) d1 d d3 d4 d5 v1 (.slice (some ⟨w.heap.size,0,none⟩) 16 16) v3 v4 v5:=
 ⟨fun e=>by obtain⟨g,h1,h2,h3⟩:=h.tens e;exact⟨g,h1,h2,h3.alloc _⟩,fun _=>⟨_,rfl,h.low,Blk.new _ _ _⟩,fun e=>by obtain⟨g,h1,h2,h3⟩:=h.gras e;exact⟨g,h1,h2,h3.alloc _⟩,fun e=>by obtain⟨g,h1,h2,h3⟩:=h.box e;exact⟨g,h1,h2,h3.alloc _⟩,fun e=>absurd ((h.sv e).2.1) (by rw[hd];decide),by rw[qar];exact Nat.le_succ_of_le h.low⟩
theorem NewI.a3(h:NewI B w d1 d2 d3 d4 d5 v1 v2 v3 v4 v5)(hd:d3=false)(d:Bool):NewI B (w.alloc (.cells #[.int .i64 0,.int .i64 4,.int .u64 18446744073709551615,.bool false] 66)) d1 d2 d d4 d5 v1 v2 (.slice (some ⟨w.heap.size,0,none⟩) 1 1) v4 v5:=
 ⟨fun e=>by obtain⟨g,h1,h2,h3⟩:=h.tens e;exact⟨g,h1,h2,h3.alloc _⟩,fun e=>by obtain⟨g,h1,h2,h3⟩:=h.tres e;exact⟨g,h1,h2,h3.alloc _⟩,fun _=>⟨_,rfl,h.low,Blk.new _ _ _⟩,fun e=>by obtain⟨g,h1,h2,h3⟩:=h.box e;exact⟨g,h1,h2,h3.alloc _⟩,fun e=>absurd ((h.sv e).2.2.1) (by rw[hd];decide),by rw[qar];exact Nat.le_succ_of_le h.low⟩
theorem NewI.a4(h:NewI B w d1 d2 d3 d4 d5 v1 v2 v3 v4 v5)(d:Bool):NewI B (w.alloc (.cells #[.int .u64 0,.int .u32 0,.int .i64 0,.slice none 0 0,.slice none 0 0,.slice none 0 0] 49)) d1 d2 d3 d d5 v1 v2 v3 (.pointer (some ⟨w.heap.size,0,none⟩)) v5:=
 ⟨fun e=>by obtain⟨g,h1,h2,h3⟩:=h.tens e;exact⟨g,h1,h2,h3.alloc _⟩,fun e=>by obtain⟨g,h1,h2,h3⟩:=h.tres e;exact⟨g,h1,h2,h3.alloc _⟩,fun e=>by obtain⟨g,h1,h2,h3⟩:=h.gras e;exact⟨g,h1,h2,h3.alloc _⟩,fun _=>⟨_,rfl,h.low,Blk.new _ _ _⟩,h.sv,by rw[qar];exact Nat.le_succ_of_le h.low⟩
theorem NewI.a5(h:NewI B w d1 d2 d3 d4 d5 v1 v2 v3 v4 v5)(h1:d1=true)(h2:d2=true)(h3:d3=true)(d:Bool):NewI B w d1 d2 d3 d4 d v1 v2 v3 v4 (.agg #[.int .u64 0,.int .u32 0,.int .i64 0,v1,v2,v3]):=
 ⟨h.tens,h.tres,h.gras,h.box,fun _=>⟨h1,h2,h3,rfl⟩,h.low⟩
end
theorem xan(c:Cfg)(As:Option Addr)(ns cs:Nat)(w:World)(hc:c.Ok)(hr:Reads w w.heap.size 1 As ns (byv c.seed))(hT:Tabs w):
 Zc 46 #[.agg #[.int .i64 c.width,.int .i64 c.quantum,.int .u32 (c.store:Int),.slice As ns cs]] w fun e w'=>∃col L css,e=.returned (.tuple #[.agg (stav (newS c) L).toArray,.int .i64 0])∧StAt 92 74 66 w' col 2 L css (newS c)∧(∀b,col b≠0→w.heap.size≤b∧b<w'.heap.size)∧Below w.heap.size w w':=by
 obtain⟨W0,hW0⟩:=eqx ((w.alloc (.cells #[.int .i64 c.width,.int .i64 c.quantum,.int .u32 (c.store:Int),.slice As ns cs] 25)).alloc (.cells #[.int .u64 0,.int .u32 0,.int .i64 0,.slice none 0 0,.slice none 0 0,.slice none 0 0] 49));have k0:=zNb hW0;have z0:=zNc hW0;have b0:=zMb hW0;have hn:=qb4 hr;have hs64:=hc.seed;have q1:¬c.width<1:=by have:=hc.w1;omega
 have q2:¬(32:Int)<c.width:=by have:=hc.w2;omega
 have q3:¬c.quantum<1:=by have:=hc.q1;omega
 have q4:¬(2:Int)<c.quantum:=by have:=hc.q2;omega
 have q5:¬(32768:Int)<(c.store:Int):=by have:=hc.store;omega
 have q6:¬(64:Int)<(ns:Int):=zo;obtain⟨AE,K0,Z0,B0,HC,HR,HT,A3⟩:=zh8 hW0 k0 z0 b0 hc hr hT (show W0.heap.size=w.heap.size+1+1 by rw[hW0,qar,qar]);clear hW0 k0 z0 b0 hc hr hT hn hs64;go_enter Tryz.func46,Tryz.ntmps46
 go_upto_region 3 with(fail)
 rw[←AE.o];clear q1 q2 q3 q4 q5 q6;obtain⟨S,HS⟩:=zS fun w'=>Below W0.heap.size W0 w'
 refine qow S 6 [37,38,40,41,4] [(2,false)] 5 [(0,[]),(1,[]),(3,[]),(4,[0,1,3]),(5,[])] [(6,true)] #[false,false,true,false,false,false,false] #[true,true,true,true,true,true,false] zk rfl zk zk zk zk zk zk (fun _ _ d _ _ h=>by cases d<;>exact h) ((HS.o _).mpr (tA5 _ W0).drew) ?_;refine qjr rfl rfl ⟨?_,fun w1 hS=>?_,?_⟩;rotate_left
 · go_simp
   try rfl
 refine zP ?_;refine qjq ?_;have keepS:∀w' o,S w'→W0.heap.size≤w'.heap.size→S (w'.alloc o):=fun w' o h hl=>by
  rw[HS.o]at h ⊢;exact h.alloc hl _
 refine⟨fun Dn vs w'=>∃v1 v2 v3 v5 v4,vs=[v1,v2,v3,v5,v4]∧NewI W0.heap.size w' (Dn 0) (Dn 1) (Dn 3) (Dn 5) (Dn 4) v1 v2 v3 v4 v5,⟨[_,_,_,_,_],rfl,_,_,_,_,_,rfl,?_⟩,⟨?_,?_,?_,?_,?_,trivial⟩,?_⟩
 · exact⟨fun h=>(nomatch h),fun h=>(nomatch h),fun h=>(nomatch h),fun h=>(nomatch h),fun h=>(nomatch h),tA4 _⟩
 ·
  rintro Dn vs w' hS ⟨v1,v2,v3,v5,v4,rfl,hI⟩ hD hd;simp only[puts,Act.put,tA0,tA1,tA2];have hm:=xac w';refine qoz fun K hK=>qjn rfl rfl ?_
  go_simp;exact hK _ _ ⟨keepS _ _ hS hI.low,[_,_,_,_,_],rfl,_,_,_,_,_,rfl,by simpa using hI.a1 hD true⟩
 ·
  rintro Dn vs w' hS ⟨v1,v2,v3,v5,v4,rfl,hI⟩ hD hd;simp only[puts,Act.put,tA0,tA1,tA2];have hm:=xad w';refine qoz fun K hK=>qjn rfl rfl ?_
  go_simp;exact hK _ _ ⟨keepS _ _ hS hI.low,[_,_,_,_,_],rfl,_,_,_,_,_,rfl,by simpa using hI.a2 hD true⟩
 · rintro Dn vs w' hS ⟨v1,v2,v3,v5,v4,rfl,hI⟩ hD hd
   simp only[puts,Act.put,tA0,tA1,tA2];refine qoz fun K hK=>qjn rfl rfl ?_
   go_simp;exact hK _ _ ⟨keepS _ _ hS hI.low,[_,_,_,_,_],rfl,_,_,_,_,_,rfl,by simpa using hI.a3 hD true⟩
 ·
  rintro Dn vs w' hS ⟨v1,v2,v3,v5,v4,rfl,hI⟩ hD hd;simp only[puts,Act.put,tA0,tA1,tA2];have d0:=hd 0 zm;have d1:=hd 1 zm;have d3:=hd 3 zm;obtain⟨g1,rfl,-⟩:=hI.tens d0;obtain⟨g2,rfl,-⟩:=hI.tres d1;obtain⟨g3,rfl,-⟩:=hI.gras d3;refine qoz fun K hK=>qjn rfl rfl ?_
  go_simp;exact hK _ _ ⟨hS,[_,_,_,_,_],rfl,_,_,_,_,_,rfl,by simpa [d0,d1,d3] using hI.a5 d0 d1 d3 true⟩
 · rintro Dn vs w' hS ⟨v1,v2,v3,v5,v4,rfl,hI⟩ hD hd
   simp only[puts,Act.put,tA0,tA1,tA2];refine qoz fun K hK=>qjn rfl rfl ?_
   go_simp;exact hK _ _ ⟨keepS _ _ hS hI.low,[_,_,_,_,_],rfl,_,_,_,_,_,rfl,by simpa using hI.a4 true⟩
 rintro vs w5 hS5 ⟨v1,v2,v3,v5,v4,rfl,hI⟩;simp only[puts,Act.put,tA0,tA1,tA2];obtain⟨tg,rfl,lt,bt⟩:=hI.tens rfl;obtain⟨rg,rfl,lr,br⟩:=hI.tres rfl;obtain⟨gg,rfl,lg,bg⟩:=hI.gras rfl;obtain⟨sg,rfl,ls,bs⟩:=hI.box rfl;obtain⟨-,-,-,rfl⟩:=hI.sv rfl;rw[HS.o]at hS5;have b5:=hS5;clear hI keepS hS5 HS;obtain⟨SV,hSV⟩:∃SV:List Value,[.int .u64 0,.int .u32 0,.int .i64 0,.slice (some ⟨tg,0,none⟩) 16 16,.slice (some ⟨rg,0,none⟩) 16 16,.slice (some ⟨gg,0,none⟩) 1 1]=SV:=⟨_,rfl⟩;refine qbi rfl rfl ?_;refine wp_store_row 49 (.tmp 4) (.tmp 41) rfl sg #[.int .u64 0,.int .u32 0,.int .i64 0,.slice (some ⟨tg,0,none⟩) 16 16,.slice (some ⟨rg,0,none⟩) 16 16,.slice (some ⟨gg,0,none⟩) 1 1] rfl rfl 49 _ bs zk zm (by simp[Value.oneCell']) ?_;refine⟨fun h=>absurd h zdc,?_⟩;obtain⟨W1,hW1⟩:=eqx (w5.setRow sg #[.int .u64 0,.int .u32 0,.int .i64 0,.slice (some ⟨tg,0,none⟩) 16 16,.slice (some ⟨rg,0,none⟩) 16 16,.slice (some ⟨gg,0,none⟩) 1 1]);rw[←hW1];obtain⟨S1,A4,A5,A6,B1,LT,LR,LG⟩:=zh8 (show Blk W1 sg 49 #[.int .u64 0,.int .u32 0,.int .i64 0,.slice (some ⟨tg,0,none⟩) 16 16,.slice (some ⟨rg,0,none⟩) 16 16,.slice (some ⟨gg,0,none⟩) 1 1] by rw[hW1];exact bs.setRow _) (show Blk W1 tg 92 zTen.toArray by rw[hW1];exact bt.setRow_far (bt.ne_ bs zdc) _) (show Blk W1 rg 74 zTre.toArray by rw[hW1];exact br.setRow_far (br.ne_ bs zdc) _) (show Blk W1 gg 66 #[.int .i64 0,.int .i64 4,.int .u64 18446744073709551615,.bool false] by rw[hW1];exact bg.setRow_far (bg.ne_ bs zdc) _) (show Below W0.heap.size W0 W1 by rw[hW1];exact below_setRow b5 ls _) lt lr lg;have LS:=zh1 ls;clear hW1 bt br bg bs b5 lt lr lg ls hSV;refine zP ?_;refine qbf ?_;go_wp2_with fail
 refine zcb (qq2 1048576 1048576 W1 zo zo) fun w2 b2=>?_
 go_upto_region 5 with(fail)
 obtain⟨W3,hW3⟩:=eqx (w2.alloc (.cells #[.int .u32 1048576,.int .u32 1048576,.int .u32 1048576] 90));obtain⟨bg,hbg⟩:=eqx w2.heap.size;try rw[←hW3]
 rw[←hbg];have b13:Below W1.heap.size W1 W3:=by rw[hW3];exact b2.alloc b2.size _
 have q3:Blk W3 bg 90 #[.int .u32 1048576,.int .u32 1048576,.int .u32 1048576]:=by rw[hW3,hbg];exact Blk.new _ _ _
 obtain⟨B3,S3,A0,A7,A8,Q3⟩:=zh6 (B1.trans (b13.mono B1.size)) (S1.below b13 S1.lt) (A4.below b13 A4.lt) (A5.below b13 A5.lt) (A6.below b13 A6.lt) q3;have s3:=S3.cell 3;have p0:=Q3.cell 0;have p1:=Q3.cell 1;have p2:=Q3.cell 2;have hth:=qeh A0.o 0 6 zdc;clear hW3 hbg b13 q3 b2;go_upto_region 6 with(refine wpList_store_mid rfl 92 (.tmp 50) (.tmp 49) rfl tg 0 #[.bool true,.int .u32 1048576,.int .u32 1048576,.int .u32 1048576,.int .u32 32768,.int .u32 0] rfl rfl hth zk (by simp[Value.oneCell']) ?_)
 obtain⟨W4,hW4⟩:=eqx (W3.setCells tg 0 (tenv ten0));change Code.wp _ _ _ _ (W3.setCells tg 0 (tenv ten0));rw[←hW4];have g34:W3.grownBy W4 (some tg):=by rw[hW4];exact qn5 tg _ 0 W3
 have t4:=qn4 (tenv ten0) 0 W3 zTen A0.o zdc;rw[←hW4]at t4;have A9:=zh1 t4;have NT:∀{x:Nat} {t:TypeId} {cs:Array Value},Blk W3 x t cs→92≠t→some x≠some tg:=fun hb hne e=>by injection e with e;exact A0.ne_ hb hne e.symm
 obtain⟨S4,A1,AA,B4⟩:=zh4 (S3.grown g34 (NT S3.o zdc)) (A7.grown g34 (NT A7.o zdc)) (A8.grown g34 (NT A8.o zdc)) (B3.grown g34 B3.size (fun k e=>by injection e with e;have:=LT.o;omega));have s4:=S4.cell 4;clear hW4 g34 t4 NT s3 p0 p1 p2 hth;obtain⟨DV,hDV⟩:=xeq (trev (tre0 Hd.zero) (.slice (some ⟨W4.heap.size,0,none⟩) 1 1) (.slice none 0 0) (.slice none 0 0));obtain⟨BT,LD,OD⟩:=zh3 (show Tryz.prog.built 74 [(0,.int .i64 1),(2,.int .i64 1),(4,.slice (some ⟨W4.heap.size,0,none⟩) 1 1)]=some DV.toArray by rw[←hDV];kernel_rfl) (show DV.length=75 by rw[←hDV];exact qnj _ _ _ Hd.zero_Ok) (show ∀u∈DV,u.oneCell'=true by rw[←hDV];exact qqk _ _ _ _ rfl rfl rfl);obtain⟨HI,AF⟩:=zh2 (zI 74 LD.o) hDV;have hth:=qeh (A1.alloc (.cells #[.int .u32 0] 22)) 0 75 (by rw[show zTre.length=1200 from by rw[show zTre=(List.replicate 16 z75).flatten from rfl,qnd (sz:=75) (fun c hc=>by rw[List.eq_of_mem_replicate hc];exact xab)];rfl];omega);rw[←LD.o]at hth;have AG:=zh1 hth;clear hDV hth;go_upto_region 7 with(first
  |(refine qbj rfl ⟨.agg DV.toArray,qgn 74 _ rfl _ _ BT.o (by simp[Act.eval]),?_⟩)
  |(refine wpList_store_mid rfl 74 (.tmp 55) (.tmp 54) rfl rg 0 DV.toArray rfl rfl (by rw[tB6];exact AG.o) (by rw[tB6];exact HI.o) (all_oneCell_toArray OD.o) ?_))
 simp only[Act.put];obtain⟨W5,hW5⟩:=eqx ((W4.alloc (.cells #[.int .u32 0] 22)).setCells rg 0 DV);rw[←hW5];have hgr:(W4.alloc (.cells #[.int .u32 0] 22)).grownBy W5 (some rg):=by rw[hW5];exact qn5 rg _ 0 _
 obtain⟨dg,hdg⟩:=xeq W4.heap.size;have NR:∀{x:Nat} {t:TypeId} {cs:Array Value},Blk (W4.alloc (.cells #[.int .u32 0] 22)) x t cs→74≠t→some x≠some rg:=fun hb hne e=>by injection e with e;exact(A1.alloc _).ne_ hb hne e.symm
 have d5:Blk W5 dg 22 #[.int .u32 0]:=by rw[←hdg];exact(Blk.new W4 _ _).grown hgr (NR (Blk.new W4 _ _) zdc)
 have r5:Blk W5 rg 74 (cssH dg Hd.zero).flatten.toArray:=by
  have h:=qn4 DV 0 _ zTre (A1.alloc (.cells #[.int .u32 0] 22)) (by rw[LD.o,show zTre=(List.replicate 16 z75).flatten from rfl,qnd (sz:=75) (fun c hc=>by rw[List.eq_of_mem_replicate hc];exact xab),List.length_replicate];omega);rw[←hW5,←AF.o,hdg,xaj]at h;exact h
 have t5:Blk W5 tg 92 ((newH Hd.zero).tens.flatMap tenv).toArray:=by
  have h:=(A9.alloc (.cells #[.int .u32 0] 22)).grown hgr (NR (A9.alloc _) zdc);rw[xai Hd.zero]at h;exact h
 have g5:=(AA.alloc (.cells #[.int .u32 0] 22)).grown hgr (NR (AA.alloc _) zdc);have s5:=(S4.alloc (.cells #[.int .u32 0] 22)).grown hgr (NR (S4.alloc _) zdc);have b5:Below W0.heap.size W0 W5:=(B4.alloc B4.size _).grown hgr (by have:=B4.size;rw[qar];omega) (fun k e=>by injection e with e;have:=LR.o;omega);have ldg:W0.heap.size≤dg:=by rw[←hdg];exact B4.size
 obtain⟨col0,st0,-⟩:=xam Hd.zero_Ok t5 r5 g5 d5 LT.o LR.o LG.o ldg;obtain⟨hd,hhd⟩:=xeq (pubT c 0 0 (tre0 Hd.zero));have hdok:hd.Ok:=by rw[←hhd];exact qo4 c 0 0 (tre0 Hd.zero) zdc zdc
 obtain⟨HV,hHV⟩:=xeq (hdv hd);have CP:∀w',Below W5.heap.size W5 w'→Zc 121 #[.agg #[.int .i64 c.width,.int .i64 c.quantum,.int .u32 (c.store:Int),.slice As ns cs],.agg #[.int .u64 0,.int .u32 0,.int .i64 0,.slice (some ⟨tg,0,none⟩) 16 16,.slice (some ⟨rg,0,none⟩) 16 16,.slice (some ⟨gg,0,none⟩) 1 1],.int .i64 0] w' fun e w''=>e=.returned (.tuple #[.agg HV.toArray,.int .i64 0])∧Below w'.heap.size w' w'':=fun w' hb=>by
  have h:=qph c (newH Hd.zero) ⟨tg,16,rg,16,gg,1,none,0,0⟩ col0 2 (cssH dg Hd.zero) 0 (tre0 Hd.zero) As ns cs w' HC.o xaf (HR.call (B0.trans ((b5.trans (hb.mono b5.size)).mono B0.size))) (st0.keep ((Turns.of_below (fun _=>false) hb).keeps rfl) ((Turns.of_below (fun _=>false) hb).keeps rfl) ((Turns.of_below (fun _=>false) hb).keeps rfl) (fun k _=>(Turns.of_below (fun _=>false) hb).keeps rfl)) rfl (by simp[tre0]) (HT.below (B0.trans ((b5.trans (hb.mono b5.size)).mono B0.size)) HT.size);rw[show (newH Hd.zero).clock=0 from rfl,hhd,hHV]at h;exact h
 obtain⟨AH,K5,Z5,D5,R5,T5,G5,S5⟩:=zh8 CP (K0.below b5 K0.lt) (Z0.below b5 Z0.lt) d5 r5 t5 g5 s5;obtain⟨B5,AI,AB,AC,AD,A2,AJ⟩:=zh7 b5 ldg hhd hdok hHV (show HV.length=68 by rw[←hHV];exact qni hdok) (show ∀u∈HV,u.oneCell'=true by rw[←hHV];exact qm7 _);clear hW5 hgr NR d5 r5 t5 g5 s5 b5 ldg st0 CP hhd hdok hHV s4 hdg;obtain⟨S,HS9⟩:=zS fun w'=>Blk w' w.heap.size 25 #[.int .i64 c.width,.int .i64 c.quantum,.int .u32 (c.store:Int),.slice As ns cs]∧Blk w' sg 49 #[.int .u64 0,.int .u32 0,.int .i64 0,.slice (some ⟨tg,0,none⟩) 16 16,.slice (some ⟨rg,0,none⟩) 16 16,.slice (some ⟨gg,0,none⟩) 1 1]
 refine zrs S 11 (zq 0 4 ((4,true)::zq 5 5 [(10,true)])) ((HS9.o _).mpr (⟨K5.o,S5.o⟩)) ?_;obtain⟨F4,FK,FS⟩:=zh3 (fun(w':World)(h:S w')=>((((HS9.o w').mp h).2.cell 4).trans (show (#[.int .u64 0,.int .u32 0,.int .i64 0,.slice (some ⟨tg,0,none⟩) 16 16,.slice (some ⟨rg,0,none⟩) 16 16,.slice (some ⟨gg,0,none⟩) 1 1]:Array Value)[4]? =some (.slice (some ⟨rg,0,none⟩) 16 16) from rfl))) (fun(w':World)(h:S w')=>qap ((HS9.o w').mp h).1 0 [.int .i64 c.width,.int .i64 c.quantum,.int .u32 (c.store:Int),.slice As ns cs] zjq) (fun(w':World)(h:S w')=>qap ((HS9.o w').mp h).2 0 [.int .u64 0,.int .u32 0,.int .i64 0,.slice (some ⟨tg,0,none⟩) 16 16,.slice (some ⟨rg,0,none⟩) 16 16,.slice (some ⟨gg,0,none⟩) 1 1] zjq);iterate 2 (refine zre rfl rfl (fun w1 hS=>by have g4:=F4.o w1 hS;clear hS;go_simp;try rfl) ?_)
 refine qo8 rfl rfl 25 (.tmp 1) rfl w.heap.size 0 rfl [.int .i64 c.width,.int .i64 c.quantum,.int .u32 (c.store:Int),.slice As ns cs] _ FK.o Tryz.underlying25 rfl zk ?_;refine zP ?_;refine qo8 rfl rfl 49 (.tmp 4) rfl sg 0 rfl [.int .u64 0,.int .u32 0,.int .i64 0,.slice (some ⟨tg,0,none⟩) 16 16,.slice (some ⟨rg,0,none⟩) 16 16,.slice (some ⟨gg,0,none⟩) 1 1] _ FS.o Tryz.underlying49 rfl zk ?_;refine zP ?_;obtain⟨Wd,hWd,BD⟩:=zdr W5;rw[←hWd];clear hWd;refine qbi rfl rfl ?_;go_simp;refine zcb (AH.o Wd BD.o) fun w6 b6=>?_
 have B6:=zh1 (BD.trans (b6.mono BD.size));clear b6;refine⟨(HS9.o _).mpr ⟨K5.below B6.o K5.lt,S5.below B6.o S5.lt⟩,?_⟩;refine zP ?_;iterate 5 (refine zrb ?_)
 have r6:=R5.below B6.o R5.lt;have l75:=xag dg Hd.zero_Ok;have hfl:(cssH dg Hd.zero).flatten.length=1200:=by rw[qnd l75];rfl
 have hth:=qeh r6 7 HV.toArray.size (by rw[tB6,A2.o,hfl];decide);have r7:=qn4 HV 7 w6 _ r6 (by rw[A2.o,hfl];decide);rw[←AD.o,xak dg AC.o]at r7;rw[AD.o]at r7;refine qbi rfl rfl ?_;refine wp_store_mid 55 (.tmp 65) (.tmp 62) rfl rg 7 HV.toArray rfl rfl hth (by rw[tB6,A2.o];kernel_rfl) (all_oneCell_toArray AJ.o) ?_;obtain⟨W7,hW7⟩:=eqx (w6.setCells rg 7 HV);change _∧qb9 _ _ _ _ _ _ _ (w6.setCells rg 7 HV);rw[←hW7]at r7 ⊢;have g67:w6.grownBy W7 (some rg):=by rw[hW7];exact qn5 rg _ 7 w6
 have NR:∀{x:Nat} {t:TypeId} {cs:Array Value},Blk w6 x t cs→74≠t→some x≠some rg:=fun hb hne e=>by injection e with e;exact r6.ne_ hb hne e.symm
 have mv:∀{x:Nat} {t:TypeId} {cs:Array Value},Blk W5 x t cs→74≠t→Blk W7 x t cs:=fun hb hne=>(hb.below B6.o hb.lt).grown g67 (NR (hb.below B6.o hb.lt) hne)
 have k7:=mv K5.o zdc;have s7:=mv S5.o zdc;have z7:=mv Z5.o zdc;have t7:Blk W7 tg 92 ((newH hd).tens.flatMap tenv).toArray:=mv T5.o zdc;have g7:=mv G5.o zdc;have d7:=mv D5.o zdc;have b7:Below W0.heap.size W0 W7:=(B5.trans (B6.mono B5.size)).grown g67 (tB1 B5.size B6.size) (fun k e=>by injection e with e;have:=LR.o;omega);refine⟨fun _=>(HS9.o _).mpr ⟨k7,s7⟩,?_⟩;obtain⟨col,st,nw⟩:=xam AC.o t7 r7 g7 d7 LT.o LR.o LG.o AI.o;obtain⟨ST,NW,B7,Z7,AK⟩:=zh5 st nw b7 z7 (qap s7 0 [.int .u64 0,.int .u32 0,.int .i64 0,.slice (some ⟨tg,0,none⟩) 16 16,.slice (some ⟨rg,0,none⟩) 16 16,.slice (some ⟨gg,0,none⟩) 1 1] zjq);clear hW7 g67 NR mv k7 s7 z7 t7 g7 d7 b7 st nw r6 r7 l75 hfl hth;refine zP ?_;refine qbf ?_;clear HS9 F4 FK FS;go_wp2_with (first
  |(refine qaq rfl 49 (.tmp 4) rfl sg 0 rfl [.int .u64 0,.int .u32 0,.int .i64 0,.slice (some ⟨tg,0,none⟩) 16 16,.slice (some ⟨rg,0,none⟩) 16 16,.slice (some ⟨gg,0,none⟩) 1 1] _ AK.o Tryz.underlying49 rfl zk ?_)
  |(refine wpList_store_row rfl 49 (.tmp 2) (.tmp 66) rfl (w.heap.size+1) #[.int .u64 0,.int .u32 0,.int .i64 0,.slice (some ⟨tg,0,none⟩) 16 16,.slice (some ⟨rg,0,none⟩) 16 16,.slice (some ⟨gg,0,none⟩) 1 1] rfl rfl 49 _ Z7.o zk zm (by simp[Value.oneCell']) ?_))
 have z9:=Z7.setRow #[.int .u64 0,.int .u32 0,.int .i64 0,.slice (some ⟨tg,0,none⟩) 16 16,.slice (some ⟨rg,0,none⟩) 16 16,.slice (some ⟨gg,0,none⟩) 1 1];have AL:=qap z9 0 [.int .u64 0,.int .u32 0,.int .i64 0,.slice (some ⟨tg,0,none⟩) 16 16,.slice (some ⟨rg,0,none⟩) 16 16,.slice (some ⟨gg,0,none⟩) 1 1] zjq;refine bodyPost_ret (qgr rfl rfl (run_loadVar_mid _ _ 0 _ [.int .u64 0,.int .u32 0,.int .i64 0,.slice (some ⟨tg,0,none⟩) 16 16,.slice (some ⟨rg,0,none⟩) 16 16,.slice (some ⟨gg,0,none⟩) 1 1] _ AL Tryz.underlying49 rfl zk)) rfl ⟨col,⟨tg,16,rg,16,gg,1,none,0,0⟩,cssH dg hd,?_,?_,?_,?_⟩
 · rw[xae,AB.o]
   rfl
 ·
  rw[xae,AB.o];have h9:Turns (· ==0) W7 col (W7.setRow (w.heap.size+1) #[.int .u64 0,.int .u32 0,.int .i64 0,.slice (some ⟨tg,0,none⟩) 16 16,.slice (some ⟨rg,0,none⟩) 16 16,.slice (some ⟨gg,0,none⟩) 1 1]) col:=Turns.of_grown (qam W7 (w.heap.size+1) _) (fun k e=>by
   injection e with e;by_cases h0:col k=0
   · rw[h0];rfl
   have:=(NW.o k h0).1;have:=A3.o;omega) (fun _ _=>rfl)
  exact ST.keep (h9.keeps rfl) (h9.keeps rfl) (h9.keeps rfl) (fun k hk=>h9.keeps (by simp;omega))
 · intro b hb
   have h1:=NW.o b hb;have h2:=A3.o;have h3:=(qam W7 (w.heap.size+1) #[.int .u64 0,.int .u32 0,.int .i64 0,.slice (some ⟨tg,0,none⟩) 16 16,.slice (some ⟨rg,0,none⟩) 16 16,.slice (some ⟨gg,0,none⟩) 1 1]).size;omega
 exact below_setRow (B0.trans (B7.mono B0.size)) zo _
theorem xao(hst:StAt 92 74 66 w col 2 L css s)(nw:∀b,col b≠0→b<w.heap.size)(t0:Turns (· ==0) w col w1 col)(ho:OwnB w1 w.heap.size (.slice A n k) c.seed)
 (b2:Zb w1 w2)(hg:Blk w2 g 117 (mdlv c s {L with sa:=A,sn:=n,sc:=k}))(hg1:w1.heap.size≤g)(h3:3≤w.heap.size∧∀b,b<3→col b=0):
 Mdl w2 ((col.ext w.heap.size w1.heap.size (Value.ownBlock (.slice A n k)) 5 0).put g 1) 2 g c s {L with sa:=A,sn:=n,sc:=k} css:=by
 obtain⟨C1,hC1⟩:=eqx (col.ext w.heap.size w1.heap.size (Value.ownBlock (.slice A n k)) 5 0);have t1:Turns (· ==0) w col w1 C1:=t0.recolour fun b hb=>by rw[hC1];exact Col.ext_old hb
 have t2:Turns (· ==0) w1 C1 w2 (C1.put g 1):=(Turns.of_below _ b2).recolour fun b hb=>Col.put_old _ _ zo
 have t12:=t1.trans t2;have f1:∀b,C1 b≠0→b<w1.heap.size:=fun b hb=>by
  rw[hC1]at hb;exact(Col.ext_new (lo:=0) (fun b hb=>⟨Nat.zero_le _,nw b hb⟩) (Nat.zero_le _) t0.size hb).2
 have sd:TextC w1 C1 (.slice A n k) c.seed:=TextC.own ho fun b hb=>by
  have:=xa2 ho hb;rw[hC1];exact Col.ext_at this.1 this.2 hb
 rw[←hC1];refine⟨hg,Col.put_at _ _ _,⟨tB1 h3.1 t12.size,fun b hb=>(t12.same b zo).trans (h3.2 b hb)⟩,fun b hb=>?_,sd.keep (t2.keeps rfl),?_⟩
 · by_cases e:b=g
   · subst e;exact hg.lt
   rw[Col.put_ne _ _ e]at hb;exact tB0 (f1 b hb) b2.size
 have h:=hst.keep (t12.keeps rfl) (t12.keeps rfl) (t12.keeps rfl) (fun k hk=>t12.keeps (by simp;omega));exact⟨h.tens,h.tres,h.gras,h.trs⟩
theorem xap(c:Cfg)(A:Option Addr)(n k:Nat)(w:World)(hc:c.Ok)(hr:Reads w w.heap.size 1 A n (byv c.seed))(hT:Tabs w):
 Zc 13 #[.agg #[.int .i64 c.width,.int .i64 c.quantum,.int .u32 (c.store:Int),.slice A n k]] w fun e w'=>∃g L css col,e=.returned (.tuple #[.pointer (some ⟨g,0,none⟩),.int .i64 0])∧Mdl w' col 2 g c (newS c) L css∧(∀b,b<w.heap.size→col b=0)∧Below w.heap.size w w':=by
 obtain⟨W0,hW0⟩:=eqx (w.alloc (.cells #[.int .i64 c.width,.int .i64 c.quantum,.int .u32 (c.store:Int),.slice A n k] 25));have k0:=zNa hW0;have b0:=zMa hW0;have CN:=xan c A n k W0 hc (hr.call b0) (hT.below b0 hT.size);have hn:=qb4 hr;obtain⟨s,hs⟩:=xeq (newS c);rw[hs]at CN ⊢;obtain⟨A4,A5,K0,B0,HC,HR,HT,HN⟩:=zh8 CN hW0 k0 b0 hc hr hT hn;clear CN hW0 k0 b0 hc hr hT hn hs;go_enter Tryz.func13,Tryz.ntmps13
 go_upto_region 1 with(fail)
 rw[←A5.o];have k0:=K0.o;go_wp2_with (refine qaq rfl 25 (.tmp 1) rfl w.heap.size 0 rfl [.int .i64 c.width,.int .i64 c.quantum,.int .u32 (c.store:Int),.slice A n k] _ (qap K0.o 0 [.int .i64 c.width,.int .i64 c.quantum,.int .u32 (c.store:Int),.slice A n k] zjq) Tryz.underlying25 rfl zk ?_)
 refine A4.o.mono ?_;rintro e w1 ⟨col,L,css,rfl,st,nw,b1⟩;obtain⟨SV,hSV⟩:=xeq (stav s L);have lSV:SV.length=6:=by rw[←hSV];rfl
 have oSV:∀u∈SV,u.oneCell'=true:=by rw[←hSV];exact qvp s L
 rw[hSV];obtain⟨ST,NW,B1,A6,A7,A8,A2,SN⟩:=zh8 st nw b1 hSV lSV oSV (zI 49 lSV) (Blk.new w1 49 #[.int .u64 0,.int .u32 0,.int .i64 0,.slice none 0 0,.slice none 0 0,.slice none 0 0]);clear st nw b1 hSV lSV oSV k0;go_upto_region 2 with(refine zst SN.o A2.o (by simp[A7.o]) A8.o ?_)
 obtain⟨W2,hW2⟩:=eqx ((w1.alloc (.cells #[.int .u64 0,.int .u32 0,.int .i64 0,.slice none 0 0,.slice none 0 0,.slice none 0 0] 49)).setRow w1.heap.size SV.toArray);rw[←hW2];obtain⟨sg,hsg⟩:=eqx w1.heap.size;rw[←hsg];have b12:Below w1.heap.size w1 W2:=by rw[hW2];exact below_setRow ((tA5 _ _).alloc (tA4 _) _) (tA4 _) _
 obtain⟨S2,A0⟩:=zh2 (show Blk W2 sg 49 SV.toArray by rw[hW2,hsg];exact(Blk.new _ _ _).setRow _) (show Below W0.heap.size W0 W2 from B1.trans (b12.mono B1.size));obtain⟨K2,A1,A9⟩:=zh3 (K0.below A0.o K0.lt) b12 (show W0.heap.size≤sg by rw[hsg];exact B1.size);clear hW2 hsg b12;have k3:=K2.cell 3;go_upto_region 4 with(fail)
 go_wp2_with fail
 refine(qrc A n k (byv c.seed) W2 (HR.call (B0.trans (A0.mono B0.size))) (by have:=HN.o;have:=HC.seed;omega) (qau _)).mono ?_;rintro e w3 ⟨v3,rfl,o3,b3⟩;have o3':OwnB w3 W2.heap.size v3 c.seed:=by
  have e:=HN.o;subst e;exact o3
 obtain⟨A3,n3,c3,rfl,-,-,-⟩:=o3'.sl;have kk3:=K2.below b3 K2.lt;have k3':=kk3.cell 3;have f3:=kk3.frozen 3;obtain⟨O3,B3,K3,S3⟩:=zh4 o3' b3 kk3 (S2.below b3 S2.lt);clear o3 o3' b3 kk3 k3;go_upto_region 5 with(fail)
 obtain⟨W4,hW4⟩:=eqx (w3.setCell ⟨w.heap.size,3,none⟩ (.slice A3 n3 c3));rw[←hW4];have z0:∀b,b<W0.heap.size→col b=0:=fun b hb=>by
  by_cases e:col b=0
  · exact e
  have:=(NW.o b e).1;omega
 have k4:Blk W4 w.heap.size 25 #[.int .i64 c.width,.int .i64 c.quantum,.int .u32 (c.store:Int),.slice A3 n3 c3]:=by
  have h:=K3.set_ 3 (.slice A3 n3 c3);rw[←hW4]at h;exact h
 have s4:Blk W4 sg 49 SV.toArray:=by rw[hW4];exact S3.far (p:=⟨w.heap.size,3,none⟩) (by have:=A9.o;have:=K0.lt;show sg≠w.heap.size;omega) _
 have o4:OwnB W4 W2.heap.size (.slice A3 n3 c3) c.seed:=by rw[hW4];exact O3.far (p:=⟨w.heap.size,3,none⟩) (O3.blk_ne K3.o zdc) _
 have t4:Turns (· ==0) W2 col W4 col:=by rw[hW4];exact(Turns.of_below _ B3.o).trans (Turns.setCell _ (by rw[z0 _ K0.lt];rfl))
 have b4:Below w.heap.size w W4:=by rw[hW4];exact((B0.trans ((A0.trans (B3.mono A0.size)).mono B0.size))).setCell (p:=⟨w.heap.size,3,none⟩) (tA4 _) _
 have bt:Tryz.prog.built 117 [(0,.agg #[.int .i64 c.width,.int .i64 c.quantum,.int .u32 (c.store:Int),.slice A3 n3 c3]),(1,.agg SV.toArray)]=some (mdlv c s {L with sa:=A3,sn:=n3,sc:=c3}):=by rw[←A6.o];kernel_rfl
 obtain⟨ML,hML⟩:∃ML:List Value,ML.toArray=mdlv c s {L with sa:=A3,sn:=n3,sc:=c3}:=⟨_,Array.toArray_toList⟩;rw[←hML]at bt;have oML:∀u∈ML,u.oneCell'=true:=by
  intro u hu;have h:u∈(mdlv c s {L with sa:=A3,sn:=n3,sc:=c3}):=by rw[←hML];simpa using hu
  unfold mdlv at h;simp only[List.mem_toArray,List.mem_cons,List.not_mem_nil,or_false]at h;rcases h with rfl|rfl|rfl|rfl|rfl|rfl|rfl|rfl|rfl|rfl<;>rfl
 have lML:ML.length=10:=by rw[←tB6,hML];rfl
 obtain⟨BT,AA,RK,RS,O4,T4,B4,Z0⟩:=zh8 bt hML (qap k4 0 [.int .i64 c.width,.int .i64 c.quantum,.int .u32 (c.store:Int),.slice A3 n3 c3] zjq) (qap s4 0 SV zjq) o4 t4 b4 z0;obtain⟨AB,AC,AD⟩:=zh3 (show StAt 92 74 66 W2 col 2 L css s from ST.keep ((Turns.of_below (fun _=>false) A1.o).keeps rfl) ((Turns.of_below (fun _=>false) A1.o).keeps rfl) ((Turns.of_below (fun _=>false) A1.o).keeps rfl) (fun k _=>(Turns.of_below (fun _=>false) A1.o).keeps rfl)) oML lML;clear hW4 z0 k4 s4 o4 t4 b4 bt hML oML lML k3' f3;go_wp2_with (first
  |(refine qaq rfl 25 (.tmp 1) rfl w.heap.size 0 rfl [.int .i64 c.width,.int .i64 c.quantum,.int .u32 (c.store:Int),.slice A3 n3 c3] _ RK.o Tryz.underlying25 rfl zk ?_)
  |(refine zld RS.o zu49 A2.o ?_)
  |(refine qbj rfl ⟨.agg ML.toArray,qgn 117 _ rfl _ _ BT.o (by simp[Act.eval,Act.put]),?_⟩))
 go_ret2
 refine⟨W4.heap.size,_,css,_,rfl,xao AB.o (fun b hb=>tB0 (NW.o b hb).2 A1.size) T4.o O4.o ((tA5 _ _).alloc (tA4 _) _) ?_ (tA4 _) ⟨?_,?_⟩,?_,?_⟩
 · rw[←AA.o]
   exact Blk.new _ _ _
 · have:=HT.size
   have:=B0.size;have:=A0.size;omega
 · intro b hb
   exact Z0.o b (by have:=HT.size;have:=B0.size;omega)
 ·
  intro b hb;have h1:=B0.size;have h2:=A0.size;have h3:=T4.size;rw[Col.put_old _ _ zo,Col.ext_old zo];exact Z0.o b zo
 exact B4.alloc B4.size _
theorem xaq(w:World)(b:Nat)(fr:Nat × Nat):Reads (w.alloc (.cells #[.int .u8 (b:Int)] 5 fr)) (w.alloc (.cells #[.int .u8 (b:Int)] 5 fr)).heap.size 1 (some ⟨w.heap.size,0,none⟩) 1 (byv [b]):=by
 refine⟨rfl,fun _=>⟨_,rfl,by simp,fun j u hu=>?_⟩⟩;rw[Addr.add_mid,Joins.cell_alloc_mark_at w _ _ _ _ _ rfl];simpa [byv] using hu
theorem xar(w:World):
 Zc 67 #[] w fun e w'=>∃A c,e=.returned (.agg #[.int .i64 32,.int .i64 1,.int .u32 32768,.slice A 1 c])∧Reads w' w'.heap.size 1 A 1 (byv [115])∧(∀ad,A=some ad→w.heap.size≤ad.block)∧1≤c∧c≤maxLen∧Zb w w':=by
 have hcv:=fun(w:World)(C:Array Value)(n c:Nat)=>Lib.run_convert_bytes_const (P:=Tryz.prog) w 23 5 C n c Tryz.underlying23 Tryz.underlying5
 have h1:=hcv (w.alloc (.cells #[.int .i64 0,.int .i64 0,.int .u32 0,.slice none 0 0] 25)) #[.int .u8 115] 1 1;rw[qar]at h1;clear hcv;go_enter Tryz.func67,Tryz.ntmps67
 go_wp2_with fail
 have hb:Blk ((w.alloc (.cells #[.int .i64 32,.int .i64 1,.int .u32 32768,.slice (some ⟨w.heap.size+1,0,none⟩) 1 1] 25)).alloc (.cells #[.int .u8 115] 5 (1,2))) w.heap.size 25 #[.int .i64 32,.int .i64 1,.int .u32 32768,.slice (some ⟨w.heap.size+1,0,none⟩) 1 1]:=(Blk.new w _ _).alloc _;have HR:=qap hb 0 [.int .i64 32,.int .i64 1,.int .u32 32768,.slice (some ⟨w.heap.size+1,0,none⟩) 1 1] zjq;have hr:=xaq (w.alloc (.cells #[.int .i64 32,.int .i64 1,.int .u32 32768,.slice (some ⟨w.heap.size+1,0,none⟩) 1 1] 25)) 115 (1,2);rw[qar w]at hr;refine bodyPost_ret (qao rfl rfl (run_loadVar_mid _ _ 0 _ [.int .i64 32,.int .i64 1,.int .u32 32768,.slice (some ⟨w.heap.size+1,0,none⟩) 1 1] _ HR Tryz.underlying25 rfl zk)) rfl ⟨some ⟨w.heap.size+1,0,none⟩,1,rfl,hr,fun ad e=>?_,tA4 _,by simp[maxLen],((tA5 _ _).alloc (tA4 _) _).alloc zm _⟩;injection e with e;subst e;show w.heap.size≤w.heap.size+1;omega
theorem xas(c:Cfg)(A:Option Addr)(n k:Nat)(w:World)(hr:Reads w w.heap.size 1 A n (byv c.seed)):
 Zc 14 #[.agg #[.int .i64 c.width,.int .i64 c.quantum,.int .u32 (c.store:Int),.slice A n k]] w fun e w'=>∃gw tb,e=.returned (.pointer (some ⟨gw,0,none⟩))∧WldAt w' gw tb c A n k∧w.heap.size≤gw∧w.heap.size≤tb∧Zb w w':=by
 have HR:=zh1 hr;clear hr;go_enter Tryz.func14,Tryz.ntmps14
 go_upto_region 1 with(fail)
 obtain⟨W1,hW1⟩:=eqx (w.alloc (.cells #[.int .i64 c.width,.int .i64 c.quantum,.int .u32 (c.store:Int),.slice A n k] 25));rw[←hW1];obtain⟨Z1,B1⟩:=zh2 (show Blk W1 w.heap.size 25 #[.int .i64 c.width,.int .i64 c.quantum,.int .u32 (c.store:Int),.slice A n k] by rw[hW1];exact Blk.new _ _ _) (show Zb w W1 by rw[hW1];exact qah (tA5 _ _) _);clear hW1;obtain⟨S,HS9⟩:=zS fun w'=>Zb W1 w'
 refine zrs S 5 [(1,false),(0,true),(2,false),(3,true),(4,false)] ((HS9.o _).mpr ((tA5 _ _).drew)) ?_;have A0:=zh1 (fun(w':World)(h:S w')=>qap (Z1.below ((HS9.o w').mp h) Z1.lt) 0 [.int .i64 c.width,.int .i64 c.quantum,.int .u32 (c.store:Int),.slice A n k] zjq);refine qo8 rfl rfl 25 (.tmp 1) rfl w.heap.size 0 rfl [.int .i64 c.width,.int .i64 c.quantum,.int .u32 (c.store:Int),.slice A n k] _ A0.o Tryz.underlying25 rfl zk ?_;refine zP ?_;obtain⟨W2,hW2,B2⟩:=zdr W1;rw[←hW2];clear hW2;refine zw ?_;go_simp;refine(qyq W2).mono ?_;rintro e w3 ⟨rfl,t3,b3⟩;obtain⟨B3,T3⟩:=zh2 (B2.trans (b3.mono B2.size)) t3;clear t3 b3;refine⟨(HS9.o _).mpr B3.o,zput ?_⟩;iterate 1 (refine zrb ?_)
 refine zw ?_;go_simp;obtain⟨W4,hW4⟩:=eqx (w3.alloc (.cells #[.pointer (some ⟨W2.heap.size,0,none⟩),.int .i64 c.width,.int .i64 c.quantum,.int .u32 (c.store:Int),.slice A n k] 63));rw[←hW4];have b4:=zMa hW4;obtain⟨Z4,T4,B4⟩:=zh3 (show Blk W4 w3.heap.size 63 #[.pointer (some ⟨W2.heap.size,0,none⟩),.int .i64 c.width,.int .i64 c.quantum,.int .u32 (c.store:Int),.slice A n k] by rw[hW4];exact Blk.new _ _ _) (show RTab W4 W2.heap.size from Blk.below T3.o b4 (Blk.lt T3.o)) (B3.trans (b4.mono B3.size));clear hW4 b4;refine⟨(HS9.o _).mpr B4.o,zput ?_⟩;iterate 1 (refine zrb ?_)
 refine qbf ?_;clear HS9 A0;have BW:=zh1 (B1.trans (B4.mono B1.size));have s1:=B1.size;have s2:=B2.size;have s3:=B3.size;go_wp2
 go_ret
 exact⟨w3.heap.size,W2.heap.size,rfl,⟨Z4.o,T4.o,HR.call BW.o⟩,by omega,by omega,BW.o⟩
end Go.Proofs.YthomgopipiomhaaGreatDoor

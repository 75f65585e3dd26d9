/- Lemmas. -/
import Derived.Test.YthomgopipiomhaaGreatDoorBML08
import Derived.Test.YthomgopipiomhaaGreatDoorBML14
namespace Go.Proofs.YthomgopipiomhaaGreatDoor
open Go.RowKit
set_option linter.unusedVariables false
set_option linter.unusedSimpArgs false
set_option maxRecDepth 100000
set_option maxHeartbeats 32000000
variable {n k g gw tb id B base b:Nat}{A:Option Addr}{css:List (List Value)}{L:Loc}{s:Sta}{c:Cfg}{col col':Col}{W w w':World}{R:Req}{bs:List Nat}{X:List Value}{T v21 v25 v6:Value}
theorem Sit.make(hs:s.Ok)(hm:Mdl w col 2 g c s L css)(hb:Zb w w')(hw:WldAt w' gw tb c A n k)(h1:w.heap.size≤gw)(h2:w.heap.size≤tb)(h3:0<n→∀ad,A=some ad→col ad.block=0)
 (hT:Tabs W)(hE:ErrT W)(low:∀b,b<W.heap.size→col b=0)(hW:Zb W w):Sit W w'.heap.size w' col g gw tb c s:=by
 have z:∀b,w.heap.size≤b→col b=0:=fun b hb=>by
  by_cases e:col b=0
  · exact e
  have:=hm.fin b e;omega
 have hW':=hW.trans (hb.mono hW.size);refine⟨hs,⟨L,css,hm.call hb⟩,⟨A,n,k,hw,fun hn ad e=>⟨h3 hn ad e,?_⟩⟩,⟨z gw h1,hw.blk.lt⟩,⟨z tb h2,Blk.lt hw.tab⟩,hT.below hW' hT.size,qai hE hW',low,⟨hT.size,hW'.size,tA4 _⟩,hW'⟩;obtain⟨ad',e',hlt,_⟩:=hw.seed.2 hn;rw[e]at e';injection e' with e';subst e';exact hlt
theorem xb5(hid:id<4294967296)(hg:R.Good):(byR c id R).Good:=
 {hg with tag:=qjv _ _,tagb:=qjw _ _,tid:=hid,cavn:=fun x hx=>(nomatch hx),cavk:=fun x hx=>(nomatch hx)}
def Req.goodB (R:Req):Bool:=
 decide (R.tag.length=32)&&R.tag.all (fun b=>decide (b<256))&&decide (R.tid<4294967296)&&R.cavs.isEmpty&&(Lit.int .i64 R.op).wf&&(Lit.int .i64 R.tree).wf&&(Lit.int .i64 R.tenant).wf&&(Lit.int .i64 R.role).wf&&(Lit.int .i64 R.state).wf&&(Lit.int .i64 R.weight).wf&&decide (R.id<4294967296)&&decide (R.lo<18446744073709551616)&&decide (R.hi<18446744073709551616)&&decide (R.rate<4294967296)&&decide (R.burst<4294967296)&&decide (R.store<4294967296)&&decide (R.expires<18446744073709551616)&&R.leaf.all (fun b=>decide (b<256))
theorem xb6(R:Req)(h:R.goodB=true):R.Good:=by
 simp only[Req.goodB,Bool.and_eq_true,decide_eq_true_eq,List.all_eq_true,List.isEmpty_iff]at h;obtain⟨⟨⟨⟨⟨⟨⟨⟨⟨⟨⟨⟨⟨⟨⟨⟨⟨h1,h2⟩,h3⟩,h4⟩,h5⟩,h6⟩,h7⟩,h8⟩,h9⟩,h10⟩,h11⟩,h12⟩,h13⟩,h14⟩,h15⟩,h16⟩,h17⟩,h18⟩:=h;exact⟨h1,h2,h3,(by rw[h4];intro x hx;cases hx),(by rw[h4];intro x hx;cases hx),h5,h6,h7,h8,h9,h10,h11,h12,h13,h14,h15,h16,h17,h18⟩
theorem xb7(W:World)(hT:Tabs W)(hE:ErrT W):Zc 27 #[] W fun e w'=>∃g gw tb B col,e=.returned (.tuple #[.pointer (some ⟨g,0,none⟩),.pointer (some ⟨gw,0,none⟩),.bool true])∧Sit W B w' col g gw tb KC K3:=by
 obtain⟨HT,HE⟩:=zh2 hT hE;clear hT hE;go_enter Tryz.func27,Tryz.ntmps27
 go_wp2_with fail
 refine(xar W).mono ?_;rintro e w1 ⟨A1,c1,rfl,r1,l1,-,-,b1⟩;have B1:=zh1 b1;have CN:=xap KC A1 1 c1 w1 KC_ok r1 (HT.below b1 HT.size);have AL:=zh1 CN;clear b1 r1 l1 CN;go_wp2_with fail
 refine AL.o.mono ?_;rintro e w2 ⟨g,L,css,col,rfl,m2,z2,b2⟩;obtain⟨M2,Z2,B2⟩:=zh3 m2 z2 b2;clear m2 z2 b2;go_wp2_with fail
 refine(xar w2).mono ?_;rintro e w3 ⟨A3,c3,rfl,r3,l3,-,-,b3⟩;have CW:=xas KC A3 1 c3 w3 r3;obtain⟨AM,B3,L3⟩:=zh3 CW b3 l3;clear CW r3 l3 b3;go_wp2_with fail
 refine AM.o.mono ?_;rintro e w4 ⟨gw,tb,rfl,wa4,lg,lt,b4⟩;have st4:Sit W w4.heap.size w4 col g gw tb KC (newS KC):=by
  have b24:=B3.trans (b4.mono B3.size);refine Sit.make qu2 M2.o b24 wa4 (tB1 B3.size lg) (tB1 B3.size lt) (fun _ ad e=>?_) HT.o HE.o (fun b hb=>Z2.o b (tB0 hb B1.size)) (B1.trans (B2.mono B1.size));by_cases e0:col ad.block=0
  · exact e0
  have h1:=M2.fin _ e0;have h2:=L3.o ad e;omega
 obtain⟨B,hB⟩:=xeq w4.heap.size;rw[hB]at st4;have S4:=zh1 st4;clear st4 wa4 lg lt b4 hB;go_upto_region 5 with(fail)
 obtain⟨Q5,hQ5⟩:=xeq (reqv quz (.slice none 0 0) (.slice none 0 0));have AN:=zh1 (show Tryz.prog.built 34 [(0,.int .i64 12),(3,.int .i64 1),(10,.int .u32 9),(11,.int .u32 9),(12,.int .u32 999)]=some Q5.toArray by rw[←hQ5];kernel_rfl);have A0:=xa0 S4.o KC_ok 0 0 rfl zdc quz zdc (.slice none 0 0) (.slice none 0 0) rfl rfl;rw[hQ5]at A0;have A2:=zh1 A0;clear A0 hQ5;go_wp2_with (refine qbj rfl ⟨.agg Q5.toArray,qgn 34 _ rfl _ _ AN.o (by simp[Act.eval]),?_⟩)
 refine A2.o.mono ?_;rintro e w5 ⟨rfl,s5,b5⟩;have A4:=xa1 s5 KC_ok 0 quz none 0 0 rfl qv4 (xb5 zdc (by exact xb6 _ zdc)) ⟨rfl,fun h=>absurd h zdc⟩ (tA4 _) (by simp[maxLen]) (fun h=>absurd h zdc);obtain⟨P5,hP5⟩:=xeq (reqv (byR KC 0 quz) (.slice none 0 0) (.slice none 0 0));rw[hP5]at A4 ⊢;obtain⟨A5,S5,AO⟩:=zh3 A4 s5 b5;clear A4 hP5 s5 b5;go_wp2_with fail
 refine A5.o.mono ?_;rintro e v5 ⟨X5,col5,rfl,hX5,t5,r5⟩;have pk5:=hX5.pk;obtain⟨AE,R5,AF,N5⟩:=zh4 hX5 r5 (qzz t5 X5) (Blk.new v5 57 Tryz.zeroCells57);clear hX5 t5 r5;go_upto_region 6 with(refine qqi _ _ _ X5 N5.o pk5 ?_)
 obtain⟨W5,G5,hW5,hG5,U5,AP,AQ⟩:=AF.o;rw[hW5,hG5];clear hW5 hG5 AF N5 pk5;have B0:=zh1 (((Rest.of_below AO.o).trans R5.o).trans (Rest.of_below AQ.o));obtain⟨Q6,hQ6⟩:=xeq (reqv qv0 (.slice none 0 0) (.slice none 0 0));have AR:=zh1 (show Tryz.prog.built 34 [(0,.int .i64 6),(2,.int .i64 1),(3,.int .i64 1),(6,.int .i64 1)]=some Q6.toArray by rw[←hQ6];kernel_rfl);have A6:=xa0 U5.o KC_ok 0 0 rfl zdc qv0 zdc (.slice none 0 0) (.slice none 0 0) rfl rfl;rw[hQ6]at A6;have A7:=zh1 A6;clear A6 hQ6;go_wp2_with (refine qbj rfl ⟨.agg Q6.toArray,qgn 34 _ rfl _ _ AR.o (by simp[Act.eval]),?_⟩)
 refine A7.o.mono ?_;rintro e w6 ⟨rfl,s6,b6⟩;have A8:=xa1 s6 KC_ok 0 qv0 none 0 0 rfl qv5 (xb5 zdc (by exact xb6 _ zdc)) ⟨rfl,fun h=>absurd h zdc⟩ (tA4 _) (by simp[maxLen]) (fun h=>absurd h zdc);obtain⟨P6,hP6⟩:=xeq (reqv (byR KC 0 qv0) (.slice none 0 0) (.slice none 0 0));rw[hP6]at A8 ⊢;obtain⟨A9,S6,AS⟩:=zh3 A8 s6 b6;clear A8 hP6 s6 b6;go_wp2_with fail
 refine A9.o.mono ?_;rintro e v6 ⟨X6,col6,rfl,hX6,t6,r6⟩;have pk6:=hX6.pk;obtain⟨AG,R6,AH,N6⟩:=zh4 hX6 r6 (qzz t6 X6) (Blk.new v6 57 Tryz.zeroCells57);clear hX6 t6 r6;go_upto_region 7 with(refine qqi _ _ _ X6 N6.o pk6 ?_)
 obtain⟨W6,G6,hW6,hG6,U6,AT,AU⟩:=AH.o;rw[hW6,hG6];clear hW6 hG6 AH N6 pk6;have AV:=zh1 (((Rest.of_below AS.o).trans R6.o).trans (Rest.of_below AU.o));obtain⟨Q7,hQ7⟩:=xeq (reqv qv1 (.slice none 0 0) (.slice none 0 0));have AW:=zh1 (show Tryz.prog.built 34 [(0,.int .i64 10),(3,.int .i64 1),(4,.int .i64 2),(13,.int .u64 99)]=some Q7.toArray by rw[←hQ7];kernel_rfl);have AA:=xa0 U6.o KC_ok 0 0 rfl zdc qv1 zdc (.slice none 0 0) (.slice none 0 0) rfl rfl;rw[hQ7]at AA;have AB:=zh1 AA;clear AA hQ7;go_wp2_with (refine qbj rfl ⟨.agg Q7.toArray,qgn 34 _ rfl _ _ AW.o (by simp[Act.eval]),?_⟩)
 refine AB.o.mono ?_;rintro e w7 ⟨rfl,s7,b7⟩;have AC:=xa1 s7 KC_ok 0 qv1 none 0 0 rfl qv6 (xb5 zdc (by exact xb6 _ zdc)) ⟨rfl,fun h=>absurd h zdc⟩ (tA4 _) (by simp[maxLen]) (fun h=>absurd h zdc);obtain⟨P7,hP7⟩:=xeq (reqv (byR KC 0 qv1) (.slice none 0 0) (.slice none 0 0));rw[hP7]at AC ⊢;obtain⟨AD,S7,AX⟩:=zh3 AC s7 b7;clear AC hP7 s7 b7;go_wp2_with fail
 refine AD.o.mono ?_;rintro e v7 ⟨X7,col7,rfl,hX7,t7,r7⟩;have pk7:=hX7.pk;obtain⟨AI,R7,AJ,N7⟩:=zh4 hX7 r7 (qzz t7 X7) (Blk.new v7 57 Tryz.zeroCells57);clear hX7 t7 r7;go_upto_region 8 with(refine qqi _ _ _ X7 N7.o pk7 ?_)
 obtain⟨W7,G7,hW7,hG7,U7,AY,AZ⟩:=AJ.o;rw[hW7,hG7];clear hW7 hG7 AJ N7 pk7;have AK:=zh1 (((Rest.of_below AX.o).trans R7.o).trans (Rest.of_below AZ.o));have x5:=(AP.rest AV.o).rest AK.o;have x6:=AT.rest AK.o;have x7:=AY.o;have a0:=(x5.blk.cell 0).trans (show X5.toArray[0]? =some (.int .i64 0) by rw[tA3];exact AE.why);have a1:=(x5.blk.cell 1).trans (show X5.toArray[1]? =some (.int .u64 1) by rw[tA3];exact AE.n);have b0:=(x6.blk.cell 0).trans (show X6.toArray[0]? =some (.int .i64 0) by rw[tA3];exact AG.why);have b1:=(x6.blk.cell 1).trans (show X6.toArray[1]? =some (.int .u64 1) by rw[tA3];exact AG.n);have c0:=(x7.blk.cell 0).trans (show X7.toArray[0]? =some (.int .i64 0) by rw[tA3];exact AI.why);have c1:=(x7.blk.cell 1).trans (show X7.toArray[1]? =some (.int .u64 1) by rw[tA3];exact AI.n);clear x5 x6 x7;obtain⟨S,HS9⟩:=zS fun w'=>(w'.cell? ⟨G5,0,none⟩=some (.int .i64 0)∧w'.cell? ⟨G5,1,none⟩=some (.int .u64 1))∧(w'.cell? ⟨G6,0,none⟩=some (.int .i64 0)∧w'.cell? ⟨G6,1,none⟩=some (.int .u64 1))∧(w'.cell? ⟨G7,0,none⟩=some (.int .i64 0)∧w'.cell? ⟨G7,1,none⟩=some (.int .u64 1))
 refine xb0 S [0,1,2,3,4,5,6,7,8,9,10,11,12,13,14,15,16,17,18,19,20,21,22,23,24,25,26,27,28,29,30,31,32] [(0,none),(1,none),(2,none),(3,some false),(4,none),(5,none),(6,none),(7,some false),(8,none),(9,none),(10,none),(11,none),(12,some false),(13,none),(14,none),(15,none),(16,none),(17,some false),(18,none),(19,none),(20,none),(21,none),(22,some false),(23,none),(24,none),(25,none),(26,none),(27,some false),(28,none),(29,none),(30,none),(31,none),(32,none)] zk rfl zk zk (fun _ _ d _ _ h=>by cases d<;>exact h) ((HS9.o _).mpr (⟨⟨a0,a1⟩,⟨b0,b1⟩,⟨c0,c1⟩⟩)) ?_;have F0:=zh1 (fun(w':World)(h:S w')=>(HS9.o w').mp h);clear a0 a1 b0 b1 c0 c1;iterate 33 (first
  |(refine xb2 rfl rfl ⟨?_,fun w1=>?_,?_⟩;rotate_left;(focus(go_simp;try rfl));simp only[Act.put,tA0,tA1,tA2])
  |(refine xb3 rfl rfl ⟨?_,fun w1 hS=>?_,?_⟩;rotate_left;(focus(obtain⟨⟨a0,a1⟩,⟨b0,b1⟩,⟨c0,c1⟩⟩:=F0.o w1 hS;clear hS;go_simp;try rfl));simp only[Act.put,tA0,tA1,tA2]))
 refine xb1 ?_;clear HS9 F0;go_wp2_with fail
 go_ret3
 exact⟨g,gw,tb,B,col7,rfl,U7.drew⟩
theorem xb8(A:Option Addr)(n c:Nat)(ls:List (List Nat))(w:World)(hr:TextsR w A n ls)(hn:n≤1024)(hl:∀b∈ls,b.length≤400):
 Zc 87 #[.slice A n c] w fun e w'=>∃v,e=.returned v∧OwnTexts w' w.heap.size v ls∧Zb w w':=by
 obtain⟨hln,vs,hrd,htx⟩:=hr;have hvl:vs.length=n:=by have:=hrd.1;omega
 have hone:∀u∈vs,u.oneCell'=true:=by
  intro u hu;obtain⟨i,hi,rfl⟩:=List.getElem_of_mem hu;obtain⟨A',n',c',h,_⟩:=htx i (ls[i]'zo) (tA7 zo);rw[tA7 hi]at h;injection h with h;rw[h];rfl
 obtain⟨A4,A6,A7,AB,A5,HL,HN⟩:=zh7 hln hrd htx hvl hone hl hn;clear hln hrd htx hvl hone hl hn;go_enter Tryz.func87,Tryz.ntmps87
 go_wp2_with fail
 refine(qre A n c vs w A6.o (by have:=HN.o;omega) A5.o).mono ?_;rintro e w1 ⟨v1,rfl,o1,b1⟩;obtain⟨A1,c1,rfl,hc1,hm1,-⟩:=qaf o1;have T1:=zh1 (show CpT w w1 w.heap.size (.slice A1 n c1) n vs vs ls 0 from⟨o1,fun i b hi _=>absurd hi zo,fun _ _=>rfl,b1.size,b1⟩);clear o1 b1;go_wp2_with fail
 go_loopw [9] (fun i wr=>∃j:Nat,j≤n∧i=.int .i64 j∧Hid (∃vsj,CpT w wr w.heap.size (.slice A1 n c1) n vs vsj ls j)) (fun i _=>n - (intOf i).toNat)
 case atStart=>exact⟨0,by omega,rfl,zh1 ⟨vs,T1.o⟩⟩
 case round=>
  obtain⟨j,hj,rfl,hlp⟩:=hrel;have hn24:=HN.o;by_cases hjn:j<n
  ·
   have qj:(j:Int)<n:=zo;have qj0:(0:Int)≤j:=zo;obtain⟨vsj,tj⟩:=hlp.o;have hvj:vsj.length=n:=by have:=tj.row.1;omega
   obtain⟨bs,hbs⟩:∃bs,ls[j]? =some bs:=⟨_,tA7 (by have:=A4.o;omega)⟩;obtain⟨A2,n2,c2,hv2,hnc2,hcm2,hrd2⟩:=A7.o j bs hbs;have hvj2:=(tj.rest j (tA4 _)).trans hv2;have hlb:=HL.o bs (tB2 hbs);have hn2:=qb4 hrd2;obtain⟨g,cap,cur,e0,hg,hh,-,-,-,ht⟩:∃g cap cur,(Value.slice A1 n c1)=.slice (some ⟨g,0,none⟩) n cap∧w.heap.size≤g∧wr.heap[g]? =some (.cells cur 23 (0,0))∧n≤cap∧cap≤maxLen∧cur.size=cap*1∧cur.toList.take (n*1)=vsj:=by
    rcases tj.row.2 with⟨_,h0⟩|h
    · omega
    exact h
   injection e0 with e1 e2 e3;subst e1 e3;have blk:Blk wr g 23 cur:=hh;have cj:wr.cell? ⟨g,j,none⟩=some (.slice A2 n2 c2):=by
    rw[blk.cell];rw[←ht,List.getElem?_take_of_lt zo]at hvj2;simpa using hvj2
   obtain⟨TJ,A8,A0,A9,BK,HG,AA⟩:=zh7 tj hbs (hrd2.call tj.below) (show n2≤400 by omega) blk hg hvj;clear tj hbs hrd2 hn2 blk hg hvj hlb hv2 hnc2 hcm2 hvj2 hh ht hlp;go_wp2_with fail
   refine(qrc A2 n2 c2 (byv bs) wr A0.o (by have:=A9.o;omega) (qau _)).mono ?_;rintro e w2 ⟨v2,rfl,o2,b2⟩;have o2':OwnB w2 wr.heap.size v2 bs:=by
    have e:n2=bs.length:=by have:=qb4 A0.o;omega
    rw[e]at o2;exact o2
   obtain⟨A3,n3,c3,rfl,-,-,-⟩:=o2'.sl;have bk2:=BK.below b2 BK.lt;have cj2:=qai cj b2;have f2:=bk2.frozen j;obtain⟨O2,B2⟩:=zh2 o2' b2;clear o2 o2' b2 bk2 cj;go_wp2
   go_roundw
   case rel=>exact⟨j+1,by omega,by go_num,zh1 ⟨_,TJ.step A8.o hjn AA.o B2.o O2.o HG.o⟩⟩
   case measure=>simp[intOf];omega
  have qj:¬(j:Int)<n:=zo;obtain rfl:j=n:=zo;go_wp2_with fail
  obtain⟨vsj,tj⟩:=hlp.o;go_ret
  exact⟨_,rfl,⟨vsj,by rw[A4.o];exact tj.row,fun i b hb=>tj.done_ i b (by obtain⟨hi,_⟩:=tA8 hb;have:=A4.o;omega) hb⟩,tj.below⟩
theorem xb9(s:Sta)(L:Loc)(col:Col)(k:Nat)(css:List (List Value))(w:World)(hs:s.Ok)(hst:StAt 92 74 66 w col k L css s):
 Zc 32 #[.agg (stav s L).toArray] w fun e w'=>∃col' L' css',e=.returned (.agg (stav s L').toArray)∧StAt 92 74 66 w' col' 2 L' css' s∧(∀b,col' b≠0→w.heap.size≤b∧b<w'.heap.size)∧Zb w w':=by
 obtain⟨W0,hW0⟩:=eqx ((w.alloc (.cells (stav s L).toArray 49)).alloc (.cells #[.int .u64 0,.int .u32 0,.int .i64 0,.slice none 0 0,.slice none 0 0,.slice none 0 0] 49));have a0:=zNb hW0;have z0:=zNc hW0;have b0:=zMb hW0;have sg:0<s.gras.length:=by obtain⟨h,_⟩:=tA8 hs.owner;exact h
 obtain⟨SV,hSV⟩:=xeq (stav s L);rw[hSV]at a0 hW0 ⊢;obtain⟨S3,S4,S5,A8,HS,A0,Z0,B0⟩:=zh8 (show SV.toArray[3]? =some (.slice (some ⟨L.tg,0,none⟩) 16 L.tc) by rw[←hSV];rfl) (show SV.toArray[4]? =some (.slice (some ⟨L.rg,0,none⟩) 16 L.rc) by rw[←hSV];rfl) (show SV.toArray[5]? =some (.slice (some ⟨L.gg,0,none⟩) s.gras.length L.gc) by rw[←hSV];rfl) hst hs a0 z0 b0;obtain⟨SG,AL,AM,AV⟩:=zh4 sg hSV hW0 (show W0.heap.size=w.heap.size+1+1 by rw[hW0,qar,qar]);clear hst hs a0 z0 b0 sg hSV hW0;go_enter Tryz.func32,Tryz.ntmps32
 go_upto_region 2 with(fail)
 rw[←AM.o];obtain⟨S,HS9⟩:=zS fun w'=>Blk w' w.heap.size 49 SV.toArray
 refine xb0 S [0,1,2,3,4,5,6,7,8,9,11,13] [(0,none),(1,some false),(3,none),(4,some false),(6,none),(7,some false),(2,some true),(9,none),(5,some true),(8,some true),(10,some true),(11,none),(12,some true),(13,none),(14,some true)] zk rfl zk zk (fun _ _ d _ _ h=>by cases d<;>exact h) ((HS9.o _).mpr (A0.o)) ?_;obtain⟨F3,F4,F5⟩:=zh3 (fun(w':World)(h:S w')=>(((HS9.o w').mp h).cell 3).trans S3.o) (fun(w':World)(h:S w')=>(((HS9.o w').mp h).cell 4).trans S4.o) (fun(w':World)(h:S w')=>(((HS9.o w').mp h).cell 5).trans S5.o);iterate 6 (first
  |(refine xb2 rfl rfl ⟨?_,fun w1=>?_,?_⟩;rotate_left;(focus(go_simp;try rfl));simp only[Act.put,tA0,tA1,tA2])
  |(refine xb3 rfl rfl ⟨?_,fun w1 hS=>?_,?_⟩;rotate_left;(focus(have g3:=F3.o w1 hS;have g4:=F4.o w1 hS;have g5:=F5.o w1 hS;clear hS;go_simp;try rfl));simp only[Act.put,tA0,tA1,tA2]))
 obtain⟨Wd,hWd⟩:=eqx W0.drew;obtain⟨BD,AD,ZD⟩:=zh3 (show Zb w Wd by rw[hWd];exact B0.drew) (show Blk Wd w.heap.size 49 SV.toArray by rw[hWd];exact A0.o) (show Blk Wd (w.heap.size+1) 49 #[.int .u64 0,.int .u32 0,.int .i64 0,.slice none 0 0,.slice none 0 0,.slice none 0 0] by rw[hWd];exact Z0.o);rw[←hWd];clear hWd;have gl:=HS.grasn;refine xb4 rfl rfl ?_;go_simp;refine(qrf (some ⟨L.tg,0,none⟩) 16 L.tc (s.tens.flatMap tenv) Wd (A8.tens.reads.call BD.o) zdc (qvm _)).mono ?_;rintro e wa ⟨va,rfl,oa,ba⟩;obtain⟨BA,OA⟩:=zh2 ba oa;clear oa ba;refine⟨(HS9.o _).mpr (AD.below BA.o AD.lt),?_⟩;refine zP ?_;iterate 1 (refine xb2 rfl rfl ⟨?_,fun w1=>?_,?_⟩;rotate_left;(focus(go_simp;try rfl));simp only[Act.put,tA0,tA1,tA2])
 refine xb4 rfl rfl ?_;go_simp;refine(qrh (some ⟨L.gg,0,none⟩) s.gras.length L.gc (s.gras.flatMap grav) wa (A8.gras.reads.call (BD.trans (BA.mono BD.size))) zo (qvn _)).mono ?_;rintro e wb ⟨vb,rfl,ob,bb⟩;obtain⟨BB,OB,AA⟩:=zh3 bb ob (BA.trans (bb.mono BA.size));clear ob bb;refine⟨(HS9.o _).mpr (AD.below AA.o AD.lt),?_⟩;refine zP ?_;refine xb4 rfl rfl ?_;go_simp;refine(qrg (some ⟨L.rg,0,none⟩) 16 L.rc css.flatten wb (A8.tres.reads.call (BD.trans (AA.mono BD.size))) zdc (qvl A8.trs)).mono ?_;rintro e wc ⟨vc,rfl,oc,bc⟩;obtain⟨BC,OC,AB⟩:=zh3 bc oc (AA.trans (bc.mono AA.size));clear oc bc;refine⟨(HS9.o _).mpr (AD.below AB.o AD.lt),?_⟩;refine zP ?_;have c16:css.length=16:=A8.trs.1.trans HS.tresn;have c75:=A8.trs.lens (fun t ht=>(HS.tres t ht).hd);obtain⟨col2,L2,e1,e2,e3,C0⟩:=Cpy.start (w0:=w) (lo:=Wd.heap.size) HS.o c16 c75 (qr3 (qr3 OA.o BB.o) BC.o) (qdb OC.o AA.size) (qdb (qr3 OB.o BC.o) BA.size) BD.size AB.size (BD.trans (AB.mono BD.size));subst e1 e2 e3;obtain⟨CC,AC,ZC⟩:=zh3 C0 (AD.below AB.o AD.lt) (ZD.below AB.o ZD.lt);clear C0 c16 c75 gl;have q3:=AC.frozen 3;have q4:=AC.frozen 4;have q5:=AC.frozen 5;have u3:=(AC.cell 3).trans S3.o;have u4:=(AC.cell 4).trans S4.o;have u5:=(AC.cell 5).trans S5.o;refine xb4 rfl rfl ?_;go_simp;refine zP ?_;iterate 1 (refine xb2 rfl rfl ⟨?_,fun w1=>?_,?_⟩;rotate_left;(focus(go_simp;try rfl));simp only[Act.put,tA0,tA1,tA2])
 refine xb4 rfl rfl ?_;go_simp;refine zP ?_;iterate 1 (refine xb2 rfl rfl ⟨?_,fun w1=>?_,?_⟩;rotate_left;(focus(go_simp;try rfl));simp only[Act.put,tA0,tA1,tA2])
 refine xb4 rfl rfl ?_;go_simp;refine zP ?_;refine xb1 ?_;obtain⟨W3,hW3⟩:=eqx (((wc.setCell ⟨w.heap.size,3,none⟩ (.slice (some ⟨L2.tg,0,none⟩) 16 L2.tc)).setCell ⟨w.heap.size,5,none⟩ (.slice (some ⟨L2.gg,0,none⟩) s.gras.length L2.gc)).setCell ⟨w.heap.size,4,none⟩ (.slice (some ⟨L2.rg,0,none⟩) 16 L2.rc));rw[←hW3];obtain⟨A2,hSV2⟩:=xeq (stav s L2);have a3:Blk W3 w.heap.size 49 A2.toArray:=by
  have h:=((AC.set_ 3 (.slice (some ⟨L2.tg,0,none⟩) 16 L2.tc)).set_ 5 (.slice (some ⟨L2.gg,0,none⟩) s.gras.length L2.gc)).set_ 4 (.slice (some ⟨L2.rg,0,none⟩) 16 L2.rc);rw[←hW3,←AL.o]at h;rw[←hSV2];exact h
 have g1:=qab (tB9 wc (some w.heap.size)) (p:=⟨w.heap.size,3,none⟩) (.inl rfl) (.slice (some ⟨L2.tg,0,none⟩) 16 L2.tc);have g2:=qab g1 (p:=⟨w.heap.size,5,none⟩) (.inl rfl) (.slice (some ⟨L2.gg,0,none⟩) s.gras.length L2.gc);have g3:=qab g2 (p:=⟨w.heap.size,4,none⟩) (.inl rfl) (.slice (some ⟨L2.rg,0,none⟩) 16 L2.rc);rw[←hW3]at g3;obtain⟨C3,Z3,A3,A9,AJ⟩:=zh5 (CC.box g3 (tA4 _) (by have:=AD.lt;omega)) (ZC.grown g3 (by intro e;injection e with e;omega)) a3 hSV2 (show A2.toArray[4]? =some (.slice (some ⟨L2.rg,0,none⟩) 16 L2.rc) by rw[←hSV2];rfl);obtain⟨lo,hlo⟩:=xeq Wd.heap.size;rw[hlo]at C3;have AE:=zh1 (show w.heap.size+1<lo by rw[←hlo];exact ZD.lt);have u4':=(a3.cell 4).trans AJ.o;clear hW3 a3 g1 g2 g3 hSV2 hlo q3 q4 q5 u3 u4 u5 HS9 F3 F4 F5;go_wp2_with fail
 clear u4';go_loopw [21] (fun i wr=>∃j:Nat,j≤16∧i=.int .i64 j∧Hid (∃col' cssj,Cpy w lo wr col' L2 css cssj j s)∧Hid (Blk wr w.heap.size 49 A2.toArray)∧Hid (Blk wr (w.heap.size+1) 49 #[.int .u64 0,.int .u32 0,.int .i64 0,.slice none 0 0,.slice none 0 0,.slice none 0 0])) (fun i _=>16 - (intOf i).toNat)
 case atStart=>exact⟨0,by omega,rfl,zh1 ⟨_,_,C3.o⟩,A3,Z3⟩
 case round=>
  obtain⟨j,hj,rfl,hc,ha,hz⟩:=hrel;by_cases hjn:j<16
  ·
   have qj:(j:Int)<16:=zo;have qj0:(0:Int)≤j:=zo;obtain⟨colj,cssj,cj⟩:=hc.o;obtain⟨t,ht⟩:∃t,s.tres[j]? =some t:=⟨_,tA7 (by rw[HS.tresn];exact hjn)⟩;obtain⟨-,Ad,cd,Al,cl,Aq,cq,hcs,-,hrd,hrl,hrq⟩:=A8.tree HS.o ht;have hto:=HS.tre ht;have hcj:=(cj.rest j (tA4 _)).trans hcs;have cell:∀i u,i<75→(trev t (.slice Ad t.draws.length cd) (.slice Al t.leaves.length cl) (.slice Aq t.queue.length cq))[i]? =some u→wr.cell? ⟨L2.rg,j*75+i,none⟩=some u:=fun i u hi hu=>cj.tres.cell ((qnc cj.lens hcj hi).trans hu)
   have x4:=cell 4 _ zo rfl;have x5:=cell 5 _ zo rfl;have x6:=cell 6 _ zo rfl;obtain⟨A',c',ev,hdc,hdm,hDR,-⟩:=hrd.sl;injection ev with ev1 _ ev3;subst ev1 ev3;obtain⟨A',c',ev,hlc,hlm,hLR⟩:=hrl.reads;injection ev with ev1 _ ev3;subst ev1 ev3;obtain⟨A',c',ev,hqc,hqm,hQR⟩:=hrq.reads;injection ev with ev1 _ ev3;subst ev1 ev3;obtain⟨nd,hnd⟩:=xeq t.draws.length;obtain⟨nl,hnl⟩:=xeq t.leaves.length;obtain⟨nq,hnq⟩:=xeq t.queue.length;have b1:=hto.draws;have b2:=hto.leaves;have b3:=hto.queue;rw[hnd]at x4 hDR b1;rw[hnl]at x5 hLR b2;rw[hnq]at x6 hQR b2 b3;have a4:=(ha.cell 4).trans AJ.o;obtain⟨A1,AN,AK,AO,AP,AW,AX,AQ⟩:=zh8 cj ht hto hcs hnd hnl hnq hDR;obtain⟨AR,AS,BN,X4,X5,X6⟩:=zh6 hLR hQR (show nd≤32∧nl≤1024∧nq≤64 by omega) x4 x5 x6;clear cj ht hto hcs hcj cell hnd hnl hnq hDR hLR hQR b1 b2 b3 hrd hrl hrq hdc hdm hlc hlm hqc hqm x4 x5 x6 hc;go_upto_region 7 with(fail)
   clear a4;obtain⟨S,HS9⟩:=zS fun w'=>w'.cell? ⟨L2.rg,j*75+4,none⟩=some (.slice Ad nd cd)∧w'.cell? ⟨L2.rg,j*75+5,none⟩=some (.slice Al nl cl)∧w'.cell? ⟨L2.rg,j*75+6,none⟩=some (.slice Aq nq cq)
   refine xb0 S [0,1,2,3,4,5,6,7,8,9,10,11,12,13,14,15,16,17,18,19,20,21,23,24,26,27] [(0,none),(1,none),(2,none),(3,none),(4,none),(5,none),(6,some false),(8,none),(9,none),(10,none),(11,none),(12,some false),(14,none),(15,none),(16,none),(17,none),(18,some false),(7,some true),(13,some true),(19,some true),(20,none),(21,none),(22,some true),(23,none),(24,none),(25,some true),(26,none),(27,none),(28,some true)] zk rfl zk zk (fun _ _ d _ _ h=>by cases d<;>exact h) ((HS9.o _).mpr (⟨X4.o,X5.o,X6.o⟩)) ?_;have F4:=zh1 (fun(w':World)(h:S w')=>(HS9.o w').mp h);iterate 17 (first
    |(refine xb2 rfl rfl ⟨?_,fun w1=>?_,?_⟩;rotate_left;(focus(go_simp;try rfl));simp only[Act.put,tA0,tA1,tA2])
    |(refine xb3 rfl rfl ⟨?_,fun w1 hS=>?_,?_⟩;rotate_left;(focus(have g4:=(F4.o w1 hS).1;have g5:=(F4.o w1 hS).2.1;have g6:=(F4.o w1 hS).2.2;clear hS;go_simp;try rfl));simp only[Act.put,tA0,tA1,tA2]))
   obtain⟨Wr,hWr,BR⟩:=zdr wr;rw[←hWr];clear hWr;obtain⟨keepS,AF⟩:=zh2 (fun(w':World)(hb:Zb wr w')=>(HS9.o w').mpr ⟨qai X4.o hb,qai X5.o hb,qai X6.o hb⟩) (A1.below.trans (BR.mono A1.below.size));refine xb4 rfl rfl ?_;go_simp;refine(qrd Ad nd cd (drwv t.draws) Wr (AQ.call AF.o) (by have:=BN.o;omega) (by intro u hu;obtain⟨n,-,rfl⟩:=List.mem_map.1 hu;rfl)).mono ?_;rintro e w4 ⟨v4,rfl,o4,b4⟩;obtain⟨A4,c4,rfl,-,-,-⟩:=qaf o4;obtain⟨O4,B4,AG,B4'⟩:=zh4 o4 (BR.trans (b4.mono BR.size)) (AF.trans (b4.mono AF.size)) b4;clear o4 b4;refine⟨keepS.o _ B4.o,?_⟩;refine zP ?_;refine xb4 rfl rfl ?_;go_simp;refine(xb8 Al nl cl t.leaves w4 (AR.call AG.o) (by have:=BN.o;omega) (fun b hb=>(AK.leafb b hb).1)).mono ?_;rintro e w5 ⟨v5,rfl,o5,b5⟩;obtain⟨A5,n5,c5,rfl⟩:∃A n c,v5=.slice A n c:=by obtain⟨_,h,_⟩:=o5;obtain⟨A,c,h,_⟩:=qaf h;exact⟨A,_,c,h⟩
   obtain⟨O5,B5,AH,B5'⟩:=zh4 o5 (B4.trans (b5.mono B4.size)) (AG.trans (b5.mono AG.size)) b5;clear o5 b5;refine⟨keepS.o _ B5.o,?_⟩;refine zP ?_;refine xb4 rfl rfl ?_;go_simp;refine(xb8 Aq nq cq t.queue w5 (AS.call AH.o) (by have:=BN.o;omega) (fun b hb=>(AK.queueb b hb).1)).mono ?_;rintro e w6 ⟨v6,rfl,o6,b6⟩;obtain⟨A6,n6,c6,rfl⟩:∃A n c,v6=.slice A n c:=by obtain⟨_,h,_⟩:=o6;obtain⟨A,c,h,_⟩:=qaf h;exact⟨A,_,c,h⟩
   obtain⟨O6,B6,AY,B6'⟩:=zh4 o6 (B5.trans (b6.mono B5.size)) (AH.trans (b6.mono AH.size)) b6;clear o6 b6;refine⟨keepS.o _ B6.o,?_⟩;refine zP ?_;have y4:=qai X4.o B6.o;have y5:=qai X5.o B6.o;have y6:=qai X6.o B6.o;have f4:=(A1.call B6.o).tres.frozen (j*75+4);have f5:=(A1.call B6.o).tres.frozen (j*75+5);have f6:=(A1.call B6.o).tres.frozen (j*75+6);iterate 2 (refine xb2 rfl rfl ⟨?_,fun w1=>?_,?_⟩;rotate_left;(focus(go_simp;try rfl));simp only[Act.put,tA0,tA1,tA2])
   refine xb4 rfl rfl ?_;go_simp;refine zP ?_;iterate 2 (refine xb2 rfl rfl ⟨?_,fun w1=>?_,?_⟩;rotate_left;(focus(go_simp;try rfl));simp only[Act.put,tA0,tA1,tA2])
   refine xb4 rfl rfl ?_;go_simp;refine zP ?_;iterate 2 (refine xb2 rfl rfl ⟨?_,fun w1=>?_,?_⟩;rotate_left;(focus(go_simp;try rfl));simp only[Act.put,tA0,tA1,tA2])
   refine xb4 rfl rfl ?_;go_simp;refine zP ?_;refine xb1 ?_;clear HS9 F4 keepS y4 y5 y6 f4 f5 f6;obtain⟨W7,hW7⟩:=eqx (((w6.setCell ⟨L2.rg,j*75+4,none⟩ (.slice A4 nd c4)).setCell ⟨L2.rg,j*75+5,none⟩ (.slice A5 n5 c5)).setCell ⟨L2.rg,j*75+6,none⟩ (.slice A6 n6 c6));rw[←hW7];have hW7':W7=w6.setCells L2.rg (j*75+4) [.slice A4 nd c4,.slice A5 n5 c5,.slice A6 n6 c6]:=by rw[hW7];rfl
   have cs7:∃col' cssj',Cpy w lo W7 col' L2 css cssj' (j+1) s:=by
    obtain⟨col',h⟩:=(A1.call BR.o).step AN.o HS.tresn AO.o (by rw[AP.o];exact O4.o) B4'.o O5.o B5'.o O6.o B6'.o;rw[←hW7']at h;exact⟨col',_,h⟩
   have g7:w6.grownBy W7 (some L2.rg):=by rw[hW7'];exact qn5 _ _ _ _
   have lrg:lo≤L2.rg:=(A1.new _ (by rw[A1.tres.1];decide)).1;have a7:=(ha.below B6.o ha.lt).grown g7 (by intro e;injection e with e;have:=AE.o;omega);have z7:=(hz.below B6.o hz.lt).grown g7 (by intro e;injection e with e;have:=AE.o;omega);obtain⟨AT,A7,Z7⟩:=zh3 cs7 a7 z7;clear hW7 hW7' cs7 g7 lrg a7 z7;go_wp2
   go_roundw
   case rel=>exact⟨j+1,by omega,by go_num,AT,A7,Z7⟩
   case measure=>simp[intOf];omega
  have qj:¬(j:Int)<16:=zo;obtain rfl:j=16:=zo;obtain⟨colj,cssj,cj⟩:=hc.o;have A1:=zh1 cj;have l2:A2.length=6:=by rw[←A9.o];rfl
  have o2:∀u∈A2,u.oneCell'=true:=by rw[←A9.o];exact qvp s L2
  obtain⟨AI,L2',O2',RA⟩:=zh4 (zI 49 l2) l2 o2 (qap ha.o 0 A2 zjq);clear l2 o2 cj hc;go_wp2_with (first
   |(refine zld RA.o zu49 AI.o ?_)
   |(refine zst hz.o AI.o (by simp[L2'.o]) O2'.o ?_))
  have z9:=hz.setRow A2.toArray;have AU:=qap z9 0 A2 zjq;have g9:=qam wr (w.heap.size+1) A2.toArray;have c9:=A1.box g9 zo AE.o;refine zrt AU zu49 AI.o ⟨colj,L2,by rw[A9.o],⟨cssj,c9.stAt HS.tresn⟩,fun b hb=>?_,c9.below⟩;have h1:=c9.new b hb;have h2:=c9.low.1;omega
theorem xba(c:Cfg)(s:Sta)(L:Loc)(col:Col)(g:Nat)(css:List (List Value))(w:World)(hs:s.Ok)(h:Mdl w col 2 g c s L css):
 Zc 16 #[.pointer (some ⟨g,0,none⟩)] w fun e w'=>∃col' L' css',e=.returned (.agg (stav s L').toArray)∧StAt 92 74 66 w' col' 2 L' css' s∧(∀b,col' b≠0→w.heap.size≤b∧b<w'.heap.size)∧Zb w w':=by
 obtain⟨W0,hW0⟩:=eqx (w.alloc (.cells #[.int .u64 0,.int .u32 0,.int .i64 0,.slice none 0 0,.slice none 0 0,.slice none 0 0] 49));have z0:=zNa hW0;have b0:=zMa hW0;have h0:=h.call b0;have CC:=xb9 s L col 2 css W0 hs h0.st;have rs:W0.rangeAt g 4 (stav s L):=h0.stRange;obtain⟨SV,hSV⟩:=xeq (stav s L);have lSV:SV.length=6:=by rw[←hSV];rfl
 rw[hSV]at CC rs;obtain⟨A4,A5,RS,Z0,B0,A6,A2⟩:=zh7 (zI 49 lSV) CC rs z0 b0 hW0 (show W0.heap.size=w.heap.size+1 by rw[hW0,qar]);clear CC rs hSV lSV z0 b0 hW0 h0 h hs;go_enter Tryz.func16,Tryz.ntmps16
 go_upto_region 1 with(fail)
 rw[←A6.o];go_wp2_with (refine zld RS.o zu49 A4.o ?_)
 refine A5.o.mono ?_;rintro e w1 ⟨col',L',css',rfl,st,nw,b1⟩;obtain⟨A0,hSV2⟩:=xeq (stav s L');have l2:A0.length=6:=by rw[←hSV2];rfl
 have o2:∀u∈A0,u.oneCell'=true:=by rw[←hSV2];exact qvp s L'
 rw[hSV2];obtain⟨A3,L2',O2',ST,NW,B1,A1,Z1⟩:=zh8 (zI 49 l2) l2 o2 st nw b1 hSV2 (Z0.below b1 Z0.lt);clear l2 o2 st nw b1 hSV2;go_wp2_with (refine zst Z1.o A3.o (by simp[L2'.o]) O2'.o ?_)
 have z9:=Z1.setRow A0.toArray;have A7:=qap z9 0 A0 zjq;have g9:=qam w1 w.heap.size A0.toArray;have h9:Turns (· ==0) w1 col' (w1.setRow w.heap.size A0.toArray) col':=Turns.of_grown g9 (fun k e=>by
  injection e with e;by_cases h0:col' k=0
  · rw[h0];rfl
  have:=(NW.o k h0).1;have:=A2.o;omega) (fun _ _=>rfl)
 refine zrt A7 zu49 A3.o ⟨col',L',css',by rw[A1.o],?_,fun b hb=>?_,?_⟩
 · exact ST.keep (h9.keeps rfl) (h9.keeps rfl) (h9.keeps rfl) (fun k hk=>h9.keeps (by simp;omega))
 · have h1:=NW.o b hb
   have h2:=A2.o;have h3:=g9.size;omega
 exact below_setRow (B0.trans (B1.mono B0.size)) (tA4 _) _
theorem xbb(s:Sta)(L:Loc)(w:World):(Instr.field 49 (.agg (stav s L).toArray) 4).run Tryz.prog w=.ok (.slice (some ⟨L.rg,0,none⟩) 16 L.rc) w:=by kernel_rfl
theorem xbc(h:Sit W B w col g gw tb c s):
 Zc 16 #[.pointer (some ⟨g,0,none⟩)] w fun e w'=>∃col2 L' css',e=.returned (.agg (stav s L').toArray)∧StAt 92 74 66 w' col2 2 L' css' s∧(∀b,col2 b≠0→w.heap.size≤b∧b<w'.heap.size)∧Zb w w'∧Sit W B w' col g gw tb c s:=by
 obtain⟨L,css,h2⟩:=h.mdl;refine(xba c s L col g css w h.ok h2).mono ?_;rintro e w' ⟨col2,L',css',rfl,h3,h4,h5⟩;exact⟨col2,L',css',rfl,h3,h4,h5,h.call h5⟩
theorem xbd:doS KC K5 (byR KC 1 qv2)=(K6,(doS KC K5 (byR KC 1 qv2)).2):=Prod.ext qv8.1 rfl
theorem xbe(W:World)(hT:Tabs W)(hE:ErrT W):Zc 18 #[] W fun e w'=>e=.returned (.bool true)∧Zb W w':=by
 have CB:=xb7 W hT hE;have AI:=zh1 CB;clear hT hE CB;go_enter Tryz.func18,Tryz.ntmps18
 go_wp2_with fail
 refine AI.o.mono ?_;rintro e w0 ⟨g,gw,tb,B,col0,rfl,s0⟩;have S0:=zh1 s0;clear s0;go_upto_region 4 with(fail)
 have cv4:=Lib.run_convert_bytes_const (P:=Tryz.prog) w0 23 5 #[.int .u8 97] 1 1 Tryz.underlying23 Tryz.underlying5;obtain⟨Q4,hQ4⟩:=xeq (reqv kAdd (.slice none 0 0) (.slice (some ⟨w0.heap.size,0,none⟩) 1 1));have AJ:=zh1 (show Tryz.prog.built 34 [(0,.int .i64 1),(2,.int .i64 1),(14,.slice (some ⟨w0.heap.size,0,none⟩) 1 1)]=some Q4.toArray by rw[←hQ4];kernel_rfl);have sl4:=S0.alloc (.cells #[.int .u8 97] 5 (1,2));have A0:=xa0 sl4 KC_ok 1 1 rfl zdc kAdd zdc (.slice none 0 0) (.slice (some ⟨w0.heap.size,0,none⟩) 1 1) rfl rfl;rw[hQ4]at A0;have rl4:Reads (w0.alloc (.cells #[.int .u8 97] 5 (1,2))) (w0.alloc (.cells #[.int .u8 97] 5 (1,2))).heap.size 1 (some ⟨w0.heap.size,0,none⟩) 1 (byv [97]):=xaq w0 97 (1,2);have z04:=S0.new0 (b:=w0.heap.size) (tA4 _);obtain⟨y4,hy4⟩:=eqx (w0.alloc (.cells #[.int .u8 97] 5 (1,2)));have by4:=(tA5 w0.heap.size w0).alloc (tA4 _) (.cells #[.int .u8 97] 5 (1,2));rw[←hy4]at A0 rl4 by4;obtain⟨A1,AK,AL,AC,AM⟩:=zh5 A0 rl4 hy4 by4 z04;clear A0 hQ4 sl4 rl4 hy4 by4 z04;go_wp2_with (refine qbj rfl ⟨.agg Q4.toArray,qgn 34 _ rfl _ _ AJ.o (by simp[Act.eval,Act.put]),?_⟩)
 rw[←AL.o];refine A1.o.mono ?_;rintro e w4 ⟨rfl,s4,b4⟩;have A2:=xa1 s4 KC_ok 1 kAdd (some ⟨w0.heap.size,0,none⟩) 1 1 rfl qv7 (xb5 zdc (by exact xb6 _ zdc)) (AK.call b4) (tA4 _) (by simp[maxLen]) (fun _ ad e=>by injection e with e;subst e;exact AM.o);obtain⟨P4,hP4⟩:=xeq (reqv (byR KC 1 kAdd) (.slice none 0 0) (.slice (some ⟨w0.heap.size,0,none⟩) 1 1));rw[hP4]at A2 ⊢;have AN:=zh1 (AC.trans (b4.mono AC.size));clear cv4;obtain⟨A3,S4⟩:=zh2 A2 s4;clear A2 hP4 s4 b4;go_wp2_with fail
 refine A3.o.mono ?_;rintro e v4 ⟨X4,col4,rfl,hX4,t4,r4⟩;have pk4:=hX4.pk;obtain⟨AD,R4,AE,N4⟩:=zh4 hX4 r4 (qzz t4 X4) (Blk.new v4 57 Tryz.zeroCells57);clear hX4 t4 r4;go_upto_region 5 with(refine qqi _ _ _ X4 N4.o pk4 ?_)
 obtain⟨W4,G4,hW4,hG4,U4,AO,AP⟩:=AE.o;rw[hW4,hG4];clear hW4 hG4 AE N4 pk4;have B2:=zh1 (((Rest.of_below AN.o).trans R4.o).trans (Rest.of_below AP.o));go_wp2_with fail
 refine(qzv U4.o KC_ok).mono ?_;rintro e w5 ⟨rfl,col5,s5,r5⟩;rw[show seqS KC K4=K5 from rfl]at s5;obtain⟨S5,AQ⟩:=zh2 s5 r5;clear s5 r5;go_upto_region 6 with(fail)
 obtain⟨Q6,hQ6⟩:=xeq (reqv qv2 (.slice none 0 0) (.slice none 0 0));have AR:=zh1 (show Tryz.prog.built 34 [(0,.int .i64 2),(2,.int .i64 1)]=some Q6.toArray by rw[←hQ6];kernel_rfl);have A4:=xa0 S5.o KC_ok 1 1 rfl zdc qv2 zdc (.slice none 0 0) (.slice none 0 0) rfl rfl;rw[hQ6]at A4;have A5:=zh1 A4;clear A4 hQ6;go_wp2_with (refine qbj rfl ⟨.agg Q6.toArray,qgn 34 _ rfl _ _ AR.o (by simp[Act.eval]),?_⟩)
 refine A5.o.mono ?_;rintro e w6 ⟨rfl,s6,b6⟩;have A6:=xa1 s6 KC_ok 1 qv2 none 0 0 rfl xbd (xb5 zdc (by exact xb6 _ zdc)) ⟨rfl,fun h=>absurd h zdc⟩ (tA4 _) (by simp[maxLen]) (fun h=>absurd h zdc);obtain⟨P6,hP6⟩:=xeq (reqv (byR KC 1 qv2) (.slice none 0 0) (.slice none 0 0));rw[hP6]at A6 ⊢;obtain⟨A7,S6,AS⟩:=zh3 A6 s6 b6;clear A6 hP6 s6 b6;go_wp2_with fail
 refine A7.o.mono ?_;rintro e v6 ⟨X6,col6,rfl,hX6,t6,r6⟩;have pk6:=hX6.pk;obtain⟨AT,R6,AF,N6⟩:=zh4 hX6 r6 (qzz t6 X6) (Blk.new v6 57 Tryz.zeroCells57);clear hX6 t6 r6;go_upto_region 7 with(refine qqi _ _ _ X6 N6.o pk6 ?_)
 obtain⟨W6,G6,hW6,hG6,U6,AU,AV⟩:=AF.o;rw[hW6,hG6];clear hW6 hG6 AF N6 pk6;have AW:=zh1 (((Rest.of_below AS.o).trans R6.o).trans (Rest.of_below AV.o));obtain⟨Q7,hQ7⟩:=xeq (reqv qv3 (.slice none 0 0) (.slice none 0 0));have AX:=zh1 (show Tryz.prog.built 34 [(0,.int .i64 6),(2,.int .i64 3),(3,.int .i64 1),(6,.int .i64 1)]=some Q7.toArray by rw[←hQ7];kernel_rfl);have A8:=xa0 U6.o KC_ok 1 1 rfl zdc qv3 zdc (.slice none 0 0) (.slice none 0 0) rfl rfl;rw[hQ7]at A8;have A9:=zh1 A8;clear A8 hQ7;go_wp2_with (refine qbj rfl ⟨.agg Q7.toArray,qgn 34 _ rfl _ _ AX.o (by simp[Act.eval]),?_⟩)
 refine A9.o.mono ?_;rintro e w7 ⟨rfl,s7,b7⟩;have AA:=xa1 s7 KC_ok 1 qv3 none 0 0 rfl qv9 (xb5 zdc (by exact xb6 _ zdc)) ⟨rfl,fun h=>absurd h zdc⟩ (tA4 _) (by simp[maxLen]) (fun h=>absurd h zdc);obtain⟨P7,hP7⟩:=xeq (reqv (byR KC 1 qv3) (.slice none 0 0) (.slice none 0 0));rw[hP7]at AA ⊢;obtain⟨AB,S7,AY⟩:=zh3 AA s7 b7;clear AA hP7 s7 b7;go_wp2_with fail
 refine AB.o.mono ?_;rintro e v7 ⟨X7,col7,rfl,hX7,t7,r7⟩;have pk7:=hX7.pk;obtain⟨AZ,R7,AG,N7⟩:=zh4 hX7 r7 (qzz t7 X7) (Blk.new v7 57 Tryz.zeroCells57);clear hX7 t7 r7;go_upto_region 8 with(refine qqi _ _ _ X7 N7.o pk7 ?_)
 obtain⟨W7,G7,hW7,hG7,U7,B0,B1⟩:=AG.o;rw[hW7,hG7];clear hW7 hG7 AG N7 pk7;have AH:=zh1 (((Rest.of_below AY.o).trans R7.o).trans (Rest.of_below B1.o));have x4:=((AO.rest AQ.o).rest AW.o).rest AH.o;have x6:=AU.rest AH.o;have x7:=B0.o;have a0:=(x4.blk.cell 0).trans (show X4.toArray[0]? =some (.int .i64 0) by rw[tA3];exact AD.why);have a1:=(x4.blk.cell 1).trans (show X4.toArray[1]? =some (.int .u64 0) by rw[tA3];exact AD.n);have b6:=(x6.blk.cell 6).trans (show X6.toArray[6]? =some (.int .u64 1) by rw[tA3];exact AT.size.trans (by rw[qv8.2];rfl));have c0:=(x7.blk.cell 0).trans (show X7.toArray[0]? =some (.int .i64 21) by rw[tA3];exact AZ.why);clear x4 x6 x7;go_wp2_with fail
 refine(xbc U7.o).mono ?_;rintro e w8 ⟨col2,L',css',rfl,st,nw,b8,s8⟩;obtain⟨t,ht,hl⟩:=qva;obtain⟨-,Ad,cd,Al,cl,Aq,cq,-,hcell,-⟩:=st.tree s8.ok ht;have c5:=hcell 5 _ rfl;rw[hl]at c5;have hf:=xbb K6 L' w8;obtain⟨SV,hSV⟩:=xeq (stav K6 L');rw[hSV]at hf ⊢;have BW:=zh1 (s8.below);rw[show 0*75+5=5 from rfl]at c5;clear st nw s8 b8 hcell ht hl hSV a0 a1 b6 c0;go_wp2
 go_ret
 exact⟨rfl,BW.o⟩
theorem xbf{c:Nat}(h:OwnB w base (.slice A n c) bs)(hk:k≤bs.length):OwnB w base (.slice A k c) (bs.take k):=by
 have hn:n=bs.length:=by
  rcases h.2 with⟨e,h0⟩|⟨g,cap,cur,e,_⟩
  · injection e with e1 e2;omega
  injection e with e1 e2
 unfold OwnB;rw[tBd,Nat.min_eq_left hk];refine⟨by rw[qat,tBd];omega,?_⟩;rcases h.2 with⟨e,h0⟩|⟨g,cap,cur,e,hb,hh,hnc,hc,hsz,ht⟩
 · injection e with e1 e2 e3
   subst e1 e3;exact .inl ⟨by rw[show k=0 by omega],by omega⟩
 injection e with e1 e2 e3;subst e1 e3;refine .inr ⟨g,c,cur,rfl,hb,hh,by omega,hc,hsz,?_⟩;rw[Nat.mul_one]at ht ⊢;have:(byv bs).take k=byv (bs.take k):=by simp[byv,List.map_take]
 rw[←this,←ht,List.take_take,Nat.min_eq_left hk]
theorem xbg(x y:Int)(st:Nat)(A:Option Addr)(n k:Nat)(bs:List Nat)(w:World)(hr:Reads w w.heap.size 1 A n (byv bs))(hx: -9223372036854775808≤x∧x≤9223372036854775807)(hy: -9223372036854775808≤y∧y≤9223372036854775807)(hst:st<4294967296)(hnk:n≤k)(hn:n≤140737488351232):
 Zc 12 #[.agg #[.int .i64 x,.int .i64 y,.int .u32 (st:Int),.slice A n k]] w fun e w'=>∃v,e=.returned (.agg #[.int .i64 (1+within (wrap64 (x - 1)) 0 31),.int .i64 (1+within (wrap64 (y - 1)) 0 1),.int .u32 ((st % 32769:Nat):Int),v])∧OwnB w' w.heap.size v (bs.take 64)∧Zb w w':=by
 have HR:=zh1 hr;have r0:((st:Int)).tmod 32769=((st % 32769:Nat):Int):=by rw[Int.tmod_eq_emod_of_nonneg zo];simp
 clear hr;go_enter Tryz.func12,Tryz.ntmps12
 go_upto_region 1 with(fail)
 obtain⟨W1,hW1⟩:=eqx ((w.alloc (.cells #[.int .i64 x,.int .i64 y,.int .u32 (st:Int),.slice A n k] 25)).alloc (.cells #[.int .i64 0,.int .i64 0,.int .u32 0,.slice none 0 0] 25));rw[←hW1];have z1:=zNb hW1;obtain⟨Z2,B1,Z1⟩:=zh3 (show Blk W1 (w.heap.size+1) 25 #[.int .i64 0,.int .i64 0,.int .u32 0,.slice none 0 0] by rw[hW1,←qar w (.cells #[.int .i64 x,.int .i64 y,.int .u32 (st:Int),.slice A n k] 25)];exact Blk.new _ _ _) (show Zb w W1 by rw[hW1];exact((tA5 _ _).alloc (tA4 _) _).alloc zm _) z1;clear hW1 z1;have wx: -9223372036854775808≤wrap64 (x - 1)∧wrap64 (x - 1)≤9223372036854775807:=by unfold wrap64;omega
 have wy: -9223372036854775808≤wrap64 (y - 1)∧wrap64 (y - 1)≤9223372036854775807:=by unfold wrap64;omega
 obtain⟨x',hx'⟩:=xeq (wrap64 (x - 1));obtain⟨y',hy'⟩:=xeq (wrap64 (y - 1));obtain⟨m,hm⟩:=xeq (st % 32769);rw[hx']at wx;rw[hy']at wy;rw[hm]at r0;obtain⟨HBa,HBb⟩:=zh2 (fun w'=>qkx x' 0 31 w' wx.1 wx.2 zo zo zo) (fun w'=>qkx y' 0 1 w' wy.1 wy.2 zo zo zo);obtain⟨a,ha⟩:=xeq (within x' 0 31);obtain⟨b,hb⟩:=xeq (within y' 0 1);have ba:=qky x' 0 31 zo;have bb:=qky y' 0 1 zo;rw[ha]at HBa ba;rw[hb]at HBb bb;have m0:m<32769:=zo;obtain⟨a0,a1⟩:=ba;obtain⟨b0,b1⟩:=bb;obtain⟨A9,AA,A1,AB,A0⟩:=zh5 hx' hy' hm ha hb;have ex:IntKind.i64.wrap (x - 1)=x':=by rw[←hx',IntKind.wrap_i64];unfold wrap64;rfl
 have ey:IntKind.i64.wrap (y - 1)=y':=by rw[←hy',IntKind.wrap_i64];unfold wrap64;rfl
 clear hm ha hb wx wy hx' hy';obtain⟨S,HS9⟩:=zS fun w'=>Zb W1 w'
 refine qjk S 15 [7,8,12,13,17,3] [(0,false),(1,false),(2,false),(5,false),(6,false),(7,false),(10,false),(11,false),(12,false)] 6 (.two 3 (.read 4 (.two 8 (.read 9 (.read 13 (.one 14 .done))) 14 (.one 8 (.read 9 (.read 13 .done))))) 14 (.one 3 (.read 4 (.one 8 (.read 9 (.read 13 .done)))))) [(15,true)] #[true,true,true,false,false,true,true,true,false,false,true,true,true,false,false,false] #[true,true,true,true,true,true,true,true,true,true,true,true,true,true,true,false] zk rfl zk zk zk zk zk (fun _ _ d _ _ h=>by cases d<;>exact h) ((HS9.o _).mpr ((tA5 _ _).drew)) ?_;have F0:=zh1 (fun(w':World)(h:S w')=>Z1.below ((HS9.o w').mp h) Z1.lt);iterate 9 (refine qjr rfl rfl ⟨?_,fun w1 hS=>?_,?_⟩;rotate_left;(focus(have g0:=(F0.o w1 hS).cell 0;have g1:=(F0.o w1 hS).cell 1;have g2:=(F0.o w1 hS).cell 2;simp only[tA3,List.getElem?_cons_zero,tBc]at g0 g1 g2;clear hS;go_simp;try rfl));simp only[Act.put,tA0,tA1,tA2])
 refine qjq ?_;obtain⟨Wd,hWd,BD⟩:=zdr W1;rw[←hWd];clear hWd;refine⟨fun vs w'=>∃g9,vs=[.int .i64 a,.int .i64 (1+a),.int .i64 b,.int .i64 (1+b),.agg #[.int .i64 (1+a),.int .i64 (1+b),.int .u32 (m:Int),.slice none 0 0],.pointer (some ⟨g9,0,none⟩)]∧Blk w' g9 25 #[.int .i64 0,.int .i64 0,.int .u32 0,.slice none 0 0]∧W1.heap.size≤g9∧Zb W1 w',?_,?_⟩
 ·
  obtain⟨w2,hw2⟩:=eqx (Wd.alloc (.cells #[.int .i64 0,.int .i64 0,.int .u32 0,.slice none 0 0] 25));obtain⟨Z3,B3,A4⟩:=zh3 (show Blk w2 Wd.heap.size 25 #[.int .i64 0,.int .i64 0,.int .u32 0,.slice none 0 0] by rw[hw2];exact Blk.new _ _ _) (show Zb W1 w2 by rw[hw2];exact BD.alloc BD.size _) hw2;clear hw2;refine qjp rfl rfl rfl rfl ?_ ?_
  ·
   go_simp;refine(HBa.o Wd).mono ?_;rintro e w9 ⟨rfl,rfl⟩;refine⟨(HS9.o _).mpr BD.o,?_⟩;refine zP ?_;iterate 1 (refine ztr ?_)
   refine qjp rfl rfl rfl rfl ?_ ?_
   ·
    go_simp;refine(HBb.o Wd).mono ?_;rintro e w9 ⟨rfl,rfl⟩;refine⟨(HS9.o _).mpr BD.o,?_⟩;refine zP ?_;iterate 2 (refine ztr ?_)
    refine qjo rfl rfl ?_;go_simp;rw[←A4.o];refine⟨(HS9.o _).mpr B3.o,qjl ⟨[_,_,_,_,_,_],rfl,Wd.heap.size,rfl,Z3.o,BD.size,B3.o⟩⟩
   go_simp;rw[←A4.o];refine⟨(HS9.o _).mpr B3.o,?_⟩;refine zP ?_;refine qjo rfl rfl ?_;go_simp;refine(HBb.o w2).mono ?_;rintro e w9 ⟨rfl,rfl⟩;refine⟨(HS9.o _).mpr B3.o,?_⟩;refine zP ?_;iterate 2 (refine ztr ?_)
   exact qjl ⟨[_,_,_,_,_,_],rfl,Wd.heap.size,rfl,Z3.o,BD.size,B3.o⟩
  go_simp;rw[←A4.o];refine⟨(HS9.o _).mpr B3.o,?_⟩;refine zP ?_;refine qjo rfl rfl ?_;go_simp;refine(HBa.o w2).mono ?_;rintro e w9 ⟨rfl,rfl⟩;refine⟨(HS9.o _).mpr B3.o,?_⟩;refine zP ?_;iterate 1 (refine ztr ?_)
  refine qjo rfl rfl ?_;go_simp;refine(HBb.o w2).mono ?_;rintro e w9 ⟨rfl,rfl⟩;refine⟨(HS9.o _).mpr B3.o,?_⟩;refine zP ?_;iterate 2 (refine ztr ?_)
  exact qjl ⟨[_,_,_,_,_,_],rfl,Wd.heap.size,rfl,Z3.o,BD.size,B3.o⟩
 rintro vs w4 - ⟨g9,rfl,z4,l4,b4⟩;simp only[puts,Act.put,tA0,tA1,tA2];refine qbi rfl rfl ?_;refine wp_store_row 25 (.tmp 3) (.tmp 17) rfl g9 #[.int .i64 (1+a),.int .i64 (1+b),.int .u32 (m:Int),.slice none 0 0] rfl rfl 25 _ z4 zk zm (by simp[Value.oneCell']) ?_;obtain⟨W5,hW5⟩:=eqx (w4.setRow g9 #[.int .i64 (1+a),.int .i64 (1+b),.int .u32 (m:Int),.slice none 0 0]);rw[←hW5];obtain⟨H5,B5,AG⟩:=zh3 (show Blk W5 g9 25 #[.int .i64 (1+a),.int .i64 (1+b),.int .u32 (m:Int),.slice none 0 0] by rw[hW5];exact z4.setRow _) (show Zb W1 W5 by rw[hW5];exact below_setRow b4 l4 _) l4;clear hW5 z4 l4 b4;refine⟨fun h=>absurd h zdc,?_⟩;refine zP ?_;refine qbf ?_;clear HS9 F0;have A5:=zh1 (B1.trans (B5.mono B1.size));obtain⟨AH,AC,AD⟩:=zh3 (HR.call A5.o) (Z1.below B5.o Z1.lt) (Z2.below B5.o Z2.lt);have e3:=(AC.cell 3).trans (show (#[.int .i64 x,.int .i64 y,.int .u32 (st:Int),.slice A n k]:Array Value)[3]? =some (.slice A n k) from rfl);obtain⟨LB,LG⟩:=zh2 (show w.heap.size≤W5.heap.size from A5.size) (show w.heap.size+1<g9 by have:=Z2.lt;have:=AG.o;omega);have lw5:=AC.lt;clear ex ey a0 a1 b0 b1 r0;go_wp2_with (at_builtin;refine qdy rfl _ _ rfl W5.heap.size _ [] rfl (OwnB.made W5 [] (by simp[maxLen])) A n k bs rfl (AH.laid (.cells #[] 5)) (by simp;omega) zm ?_)
 intro v3 w3 hown3 hb3 hg3;obtain⟨A3,n3,c3,rfl,k3,-,r3⟩:=hown3.sl;have hl3:bs.length=n3:=by have:=qb4 r3;simpa using this
 have b53:=(((tA5 W5.heap.size W5).alloc (tA4 _) (.cells #[] 5)).trans hb3);have h3:=H5.below b53 H5.lt;obtain⟨O3,AI,AJ⟩:=zh3 (show OwnB w3 w.heap.size (.slice A3 n3 c3) bs from(OwnB.mono hown3 LB.o).cast zm) (A5.trans (b53.mono LB.o)) (AD.below b53 AD.lt);obtain⟨W6,hW6⟩:=eqx (w3.setCell ⟨g9,3,none⟩ (.slice A3 n3 c3));obtain⟨H6,O6,AE,A2,AK,AF⟩:=zh6 (show Blk W6 g9 25 [.int .i64 (1+a),.int .i64 (1+b),.int .u32 (m:Int),.slice A3 n3 c3].toArray by rw[hW6];exact h3.set_ 3 _) (show OwnB W6 w.heap.size (.slice A3 n3 c3) bs by rw[hW6];exact OwnB.far O3.o (p:=⟨g9,3,none⟩) (qa3 O3.o h3 zdc) _) (show Zb w W6 by rw[hW6];exact AI.setCell (p:=⟨g9,3,none⟩) (by have:=LG.o;simp;omega) _) (show Blk W6 (w.heap.size+1) 25 #[.int .i64 0,.int .i64 0,.int .u32 0,.slice none 0 0] by rw[hW6];exact AJ.far (p:=⟨g9,3,none⟩) (by have:=LG.o;simp;omega) _) hW6 hl3;have f3:=h3.frozen 3;have c33:=h3.cell 3;clear lw5 hW6 hown3 hb3 hg3 r3 hl3 e3 b53 h3;go_upto_region 3 with(fail)
 rw[←AK.o];clear f3 c33;have e6:=(H6.cell 3).trans (show ([.int .i64 (1+a),.int .i64 (1+b),.int .u32 (m:Int),.slice A3 n3 c3].toArray:Array Value)[3]? =some (.slice A3 n3 c3) from rfl);have f6:=H6.frozen 3;by_cases h64:n3≤64
 ·
  have q:¬(n3:Int)>64:=zo;have O7:=zh1 (show OwnB W6 w.heap.size (.slice A3 n3 c3) (bs.take 64) by rw[tB5 (by rw[AF.o];exact h64)];exact O6.o);clear e6 f6;have e6:=(H6.cell 3).trans (show ([.int .i64 (1+a),.int .i64 (1+b),.int .u32 (m:Int),.slice A3 n3 c3].toArray:Array Value)[3]? =some (.slice A3 n3 c3) from rfl);obtain⟨A6,OL⟩:=zh2 (qap H6.o 0 [.int .i64 (1+a),.int .i64 (1+b),.int .u32 (m:Int),.slice A3 n3 c3] zjq) (show ∀u∈([.int .i64 (1+a),.int .i64 (1+b),.int .u32 (m:Int),.slice A3 n3 c3]:List Value),u.oneCell'=true by intro u hu;simp at hu;rcases hu with rfl|rfl|rfl|rfl<;>rfl);go_wp2_with (first
   |(refine qaq rfl 25 (.tmp 3) rfl g9 0 rfl [.int .i64 (1+a),.int .i64 (1+b),.int .u32 (m:Int),.slice A3 n3 c3] _ A6.o Tryz.underlying25 rfl zk ?_)
   |(refine wpList_store_row rfl 25 (.tmp 2) (.tmp 31) rfl (w.heap.size+1) ([.int .i64 (1+a),.int .i64 (1+b),.int .u32 (m:Int),.slice A3 n3 c3]).toArray rfl rfl 25 _ A2.o zk zm (by simpa using OL.o) ?_))
  have A7:=qap (A2.setRow ([.int .i64 (1+a),.int .i64 (1+b),.int .u32 (m:Int),.slice A3 n3 c3]).toArray) 0 [.int .i64 (1+a),.int .i64 (1+b),.int .u32 (m:Int),.slice A3 n3 c3] zjq;refine bodyPost_ret (v:=.agg ([.int .i64 (1+a),.int .i64 (1+b),.int .u32 (m:Int),.slice A3 n3 c3]).toArray) (qao rfl rfl (run_loadVar_mid _ _ 0 _ [.int .i64 (1+a),.int .i64 (1+b),.int .u32 (m:Int),.slice A3 n3 c3] _ A7 Tryz.underlying25 rfl zk)) rfl ?_;refine⟨_,?_,tB3 O7.o (qam _ _ _) (.inr (qa3 O7.o A2.o zdc)),below_setRow AE.o zo _⟩;rw[A9.o,AA.o,AB.o,A0.o];first|rw[A1.o]|rw[show (st:Int) % 32769=(m:Int) by have:=A1.o;omega]
 have q:(n3:Int)>64:=zo;have q2:(64:Int)≤c3:=zo;obtain⟨W7,hW7⟩:=eqx (W6.setCell ⟨g9,3,none⟩ (.slice A3 64 c3));obtain⟨H7,O7,AL,A8,AM⟩:=zh5 (show Blk W7 g9 25 [.int .i64 (1+a),.int .i64 (1+b),.int .u32 (m:Int),.slice A3 64 c3].toArray by rw[hW7];exact H6.set_ 3 _) (show OwnB W7 w.heap.size (.slice A3 64 c3) (bs.take 64) by rw[hW7];exact xbf (OwnB.far O6.o (p:=⟨g9,3,none⟩) (qa3 O6.o H6.o zdc) _) (by rw[AF.o];omega)) (show Zb w W7 by rw[hW7];exact AE.setCell (p:=⟨g9,3,none⟩) (by have:=LG.o;simp;omega) _) (show Blk W7 (w.heap.size+1) 25 #[.int .i64 0,.int .i64 0,.int .u32 0,.slice none 0 0] by rw[hW7];exact A2.far (p:=⟨g9,3,none⟩) (by have:=LG.o;simp;omega) _) hW7;clear hW7;go_upto_region 5 with(fail)
 rw[←AM.o];clear e6 f6;obtain⟨A6,OL⟩:=zh2 (qap H7.o 0 [.int .i64 (1+a),.int .i64 (1+b),.int .u32 (m:Int),.slice A3 64 c3] zjq) (show ∀u∈([.int .i64 (1+a),.int .i64 (1+b),.int .u32 (m:Int),.slice A3 64 c3]:List Value),u.oneCell'=true by intro u hu;simp at hu;rcases hu with rfl|rfl|rfl|rfl<;>rfl);go_wp2_with (first
  |(refine qaq rfl 25 (.tmp 3) rfl g9 0 rfl [.int .i64 (1+a),.int .i64 (1+b),.int .u32 (m:Int),.slice A3 64 c3] _ A6.o Tryz.underlying25 rfl zk ?_)
  |(refine wpList_store_row rfl 25 (.tmp 2) (.tmp 31) rfl (w.heap.size+1) ([.int .i64 (1+a),.int .i64 (1+b),.int .u32 (m:Int),.slice A3 64 c3]).toArray rfl rfl 25 _ A8.o zk zm (by simpa using OL.o) ?_))
 have A7:=qap (A8.setRow ([.int .i64 (1+a),.int .i64 (1+b),.int .u32 (m:Int),.slice A3 64 c3]).toArray) 0 [.int .i64 (1+a),.int .i64 (1+b),.int .u32 (m:Int),.slice A3 64 c3] zjq;refine bodyPost_ret (v:=.agg ([.int .i64 (1+a),.int .i64 (1+b),.int .u32 (m:Int),.slice A3 64 c3]).toArray) (qao rfl rfl (run_loadVar_mid _ _ 0 _ [.int .i64 (1+a),.int .i64 (1+b),.int .u32 (m:Int),.slice A3 64 c3] _ A7 Tryz.underlying25 rfl zk)) rfl ?_;refine⟨_,?_,tB3 O7.o (qam _ _ _) (.inr (qa3 O7.o A8.o zdc)),below_setRow AL.o zo _⟩;rw[A9.o,AA.o,AB.o,A0.o];first|rw[A1.o]|rw[show (st:Int) % 32769=(m:Int) by have:=A1.o;omega]
def xbj (t:Tok)(x:Int × Nat):Tok:=if (qk2 t x).2=0 then(qk2 t x).1 else t
def xbk (c:Cfg)(S:Stp):Tok:=(S.cavs.take 4).foldl xbj (qk7 (qmc c.seed) (S.who % 4294967296).toNat)
def xbl (c:Cfg)(S:Stp):Req:=
 let r:=if 0≤S.who then {S.r with tid:=(xbk c S).1,cavs:=(xbk c S).2.1,tag:=(xbk c S).2.2} else S.r
 {r with leaf:=r.leaf.take 512}
def bytesOf (c:Cfg)(S:Stp):Option (List Nat):=
 if S.kind=5 then some (S.raw.take 400) else if (qit (xbl c S)).1=0 then some (qit (xbl c S)).2 else none
def xbm (c:Cfg)(s:Sta)(S:Stp):Sta × List Nat:=
 if S.kind=2 then(seqS c s,[])
 else if S.kind=3 then(qmx s,[])
 else if S.kind=4 then(qmy s S.n,[])
 else if S.kind=1∨S.kind=5 then(match bytesOf c S with|some b=>askS c s b|none=>(s,[]))
 else(s,[])
theorem xbn{x:Int}(h1:0≤x)(h2:x<256):(Lit.int .i64 x).wf=true:=by
 refine(Go.Lit.wf_int_iff _ _).2 ?_;rw[IntKind.min_i64,IntKind.max_i64];omega
structure Req.Deci (R:Req):Prop where
 ints:∀o,o=35∨o=36∨o=37∨o=38∨o=39→0≤R.num o∧R.num o<256
 mids:∀o,o=40∨o=43∨o=44∨o=45→R.num o<4294967296
 longs:∀o,o=41∨o=42∨o=46→R.num o<18446744073709551616
 leafb:∀b∈R.leaf,b<256
theorem xbo(h:R.Deci){f:Fld}(hf:IsFld f)(n:Nat)(hn:n<256^f.1):(R.put f.2.2 n).Deci:=by
 have h1:=h.ints;have h2:=h.mids;have h3:=h.longs;rcases hf with rfl|rfl|rfl|rfl|rfl|rfl|rfl|rfl|rfl|rfl|rfl|rfl|rfl<;>
 ·
  refine⟨fun o ho=>?_,fun o ho=>?_,fun o ho=>?_,h.leafb⟩
  · have:=h1 o ho
    rcases ho with rfl|rfl|rfl|rfl|rfl<;>simp only[Req.put,Req.num]at hn this ⊢<;>omega
  · have:=h2 o ho
    rcases ho with rfl|rfl|rfl|rfl<;>simp only[Req.put,Req.num]at hn this ⊢<;>omega
  have:=h3 o ho;rcases ho with rfl|rfl|rfl<;>simp only[Req.put,Req.num]at hn this ⊢<;>omega
theorem xbp (bs:List Nat)(hb:∀x∈bs,x<256):∀(l:List Fld) (s:RSt) (R:Req),(∀f∈l,IsFld f)→R.Deci→(qia bs l s R).2.Deci
 |[],s,R,_,h=>h
 |f::l,s,R,hl,h=>by
  unfold qia;split
  · exact xbp bs hb l _ _ (fun g hg=>hl g (List.mem_cons_of_mem _ hg)) ⟨h.ints,h.mids,h.longs,qhl bs s 256 hb⟩
  exact xbp bs hb l _ _ (fun g hg=>hl g (List.mem_cons_of_mem _ hg)) (xbo h (hl f zm) _ (qgd bs s f.1 hb))
theorem xbq (bs:List Nat):∀(l:List Fld) (s:RSt) (R:Req),(qia bs l s R).2.op=R.op∧(qia bs l s R).2.tid=R.tid∧(qia bs l s R).2.cavs=R.cavs∧(qia bs l s R).2.tag=R.tag
 |[],s,R=>⟨rfl,rfl,rfl,rfl⟩
 |f::l,s,R=>by
  unfold qia;split
  · exact xbq bs l _ _
  obtain⟨h1,h2,h3,h4⟩:=xbq bs l (rNum bs s f.1).1 (R.put f.2.2 (rNum bs s f.1).2);obtain⟨e1,e2,e3,-,e5⟩:=qip R f.2.2 (rNum bs s f.1).2;exact⟨h1.trans e5,h2.trans e1,h3.trans e2,h4.trans e3⟩
theorem xbr(bs:List Nat)(hb:∀x∈bs,x<256):∀x∈(qh1 bs).2.2.1,(Lit.int .i64 x.1).wf=true:=by
 cases h:(qh1 bs).1 with
 |none=>
  obtain⟨id,l,tag,e,h1,h2,h3,h4,h5,-⟩:=qhu bs hb h;rw[e];intro x hx;obtain⟨a,b⟩:=qd6 (h3 x hx).1;exact xbn zo zo
 |some x=>
  have e:qh1 bs=(some x,qgq):=by
   unfold qh1 at h ⊢;split
   · rename_i h1
     rw[h1]at h;cases h
   rename_i y h1
   rw[h1]at h;injection h with h;rw[h]
  rw[e];intro c hc;cases hc
theorem xbs(hd:R.Deci)(hT:R.tag.length=32∧(∀b∈R.tag,b<256)∧R.tid<4294967296∧(∀x∈R.cavs,x.2<4294967296)∧∀x∈R.cavs,(Lit.int .i64 x.1).wf=true)(ho:0≤R.op∧R.op<256):R.Good:=by
 have a:=fun o h=>hd.ints o h
 have b:=fun o h=>hd.mids o h
 have d:=fun o h=>hd.longs o h
 have num35:=a 35 zm;have num36:=a 36 zm;have num37:=a 37 zm;have num38:=a 38 zm;have num39:=a 39 zm;have num40:=b 40 zm;have num43:=b 43 zm;have num44:=b 44 zm;have num45:=b 45 zm;have num41:=d 41 zm;have num42:=d 42 zm;have num46:=d 46 zm;simp only[Req.num]at num35 num36 num37 num38 num39 num40 num41 num42 num43 num44 num45 num46;exact⟨hT.1,hT.2.1,hT.2.2.1,hT.2.2.2.1,hT.2.2.2.2,xbn ho.1 ho.2,xbn num35.1 num35.2,xbn num36.1 num36.2,xbn num37.1 num37.2,xbn num38.1 num38.2,xbn num39.1 num39.2,by omega,by omega,by omega,by omega,by omega,by omega,by omega,hd.leafb⟩
theorem xbt(bs:List Nat)(hb:∀x∈bs,x<256):(qie bs).2.Good:=by
 have hlt:=qhl bs (0,none) 77 hb;have hT:=qhv (qhk bs (0,none) 77).2 hlt;have hk:=xbr (qhk bs (0,none) 77).2 hlt;have hn:=qgd bs (qib bs) 1 hb;have d0:∀(T:Tok) (k:Int),(req0 T k).Deci:=fun T k=>⟨fun o ho=>by rcases ho with rfl|rfl|rfl|rfl|rfl<;>simp[req0,Req.num],fun o ho=>by rcases ho with rfl|rfl|rfl|rfl<;>simp[req0,Req.num],fun o ho=>by rcases ho with rfl|rfl|rfl<;>simp[req0,Req.num],by simp[req0]⟩
 have hz:qid.Good:=xbs (d0 _ _) ⟨by simp[qid,req0,qgq],by intro x hx;simp[qid,req0,qgq]at hx;omega,by decide,fun c hc=>(nomatch hc),fun c hc=>(nomatch hc)⟩ zdc;unfold qie;split
 ·
  unfold qic;split
  · exact xbs (d0 _ _) ⟨hT.1.2.2.1,hT.1.2.2.2,hT.1.1,hT.1.2.1,hk⟩ (by show 0≤((rNum bs (qib bs) 1).2:Int)∧_;simp only[req0];omega)
  rename_i l hl
  obtain⟨e1,e2,e3,e4⟩:=xbq bs l (rNum bs (qib bs) 1).1 (req0 (reqT bs) ((rNum bs (qib bs) 1).2:Int));refine xbs (xbp bs hb l _ _ (fun f hm=>qi3 _ l hl f hm) (d0 _ _)) ?_ ?_
  · rw[e2,e3,e4]
    exact⟨hT.1.2.2.1,hT.1.2.2.2,hT.1.1,hT.1.2.1,hk⟩
  rw[e1];simp only[req0];omega
 exact hz
theorem xbu(R:Req)(h1:∀x∈R.leaf,x<256)(h2:∀x∈R.tag,x<256):∀x∈(qit R).2,x<256:=by
 have ht:∀x∈(qd7 R.tid R.cavs R.tag).2,x<256:=by
  unfold qd7;split
  · intro x hx;cases hx
  split
  ·
   intro x hx;simp only[tBg]at hx;rcases hx with((h|h)|h)|h
   · exact qaz _ _ x h
   · exact qaz _ _ x h
   · unfold cavb at h
     obtain⟨y,_,hy⟩:=List.mem_flatMap.1 h;simp only[tBg]at hy;rcases hy with hy|hy<;>exact qaz _ _ x hy
   exact h2 x h
  intro x hx;cases hx
 unfold qit;split
 ·
  split
  ·
   intro x hx;rcases List.mem_append.1 hx with h|h
   · unfold txt at h
     rcases List.mem_append.1 h with h|h
     · exact qaz _ _ x h
     exact ht x (tB7 h)
   exact qsu R h1 x h
  intro x hx;cases hx
 intro x hx;cases hx
theorem xbv(root:List Nat)(id:Nat)(h:id<4294967296):(qk7 root id).Ok∧∀x∈(qk7 root id).2.1,(Lit.int .i64 x.1).wf=true:=⟨qkc root id h,fun x hx=>(nomatch hx)⟩
theorem xbw{t:Tok}{x:Int × Nat}(h:t.Ok∧∀x∈t.2.1,(Lit.int .i64 x.1).wf=true)(hx:x.2<4294967296)(hk:(Lit.int .i64 x.1).wf=true):(xbj t x).Ok∧∀y∈(xbj t x).2.1,(Lit.int .i64 y.1).wf=true:=by
 unfold xbj;split
 ·
  refine⟨qkd t x h.1 hx,?_⟩;unfold qk2;split
  ·
   split
   · intro y hy
     rcases List.mem_append.1 hy with h1|h1
     · exact h.2 y h1
     obtain rfl:=List.mem_singleton.1 h1;exact hk
   intro y hy;cases hy
  intro y hy;cases hy
 exact h
theorem xbx:∀(l:List (Int × Nat)) (t:Tok),(t.Ok∧∀x∈t.2.1,(Lit.int .i64 x.1).wf=true)→(∀x∈l,x.2<4294967296)→(∀x∈l,(Lit.int .i64 x.1).wf=true)→(l.foldl xbj t).Ok∧∀y∈(l.foldl xbj t).2.1,(Lit.int .i64 y.1).wf=true
 |[],t,h,_,_=>h
 |x::l,t,h,h1,h2=>xbx l _ (xbw h (h1 x zm) (h2 x zm)) (fun y hy=>h1 y (by simp[hy])) (fun y hy=>h2 y (by simp[hy]))
theorem xby(c:Cfg){S:Stp}(hr:S.r.Good)(h1:∀x∈S.cavs,x.2<4294967296)(h2:∀x∈S.cavs,(Lit.int .i64 x.1).wf=true):(xbl c S).Good:=by
 have ht:=xbx (S.cavs.take 4) (qk7 (qmc c.seed) (S.who % 4294967296).toNat) (xbv _ _ zo) (fun x hx=>h1 x (tB7 hx)) (fun x hx=>h2 x (tB7 hx));have hg:(if 0≤S.who then {S.r with tid:=(xbk c S).1,cavs:=(xbk c S).2.1,tag:=(xbk c S).2.2} else S.r:Req).Good:=by
  split
  · exact {hr with tid:=ht.1.1,cavn:=ht.1.2.1,tag:=ht.1.2.2.1,tagb:=ht.1.2.2.2,cavk:=ht.2}
  exact hr
 unfold xbl;exact {hg with leafb:=fun b hb=>hg.leafb b (tB7 hb)}
theorem xbz(c:Cfg){S:Stp}(hr:S.r.Good)(h1:∀x∈S.cavs,x.2<4294967296)(h2:∀x∈S.cavs,(Lit.int .i64 x.1).wf=true)(h3:∀b∈S.raw,b<256)(h:bytesOf c S=some bs):∀x∈bs,x<256:=by
 have hg:=xby c hr h1 h2;unfold bytesOf at h;split at h
 · injection h with h
   subst h;exact fun x hx=>h3 x (tB7 hx)
 split at h
 · injection h with h
   subst h;exact xbu _ hg.leafb hg.tagb
 cases h
theorem xc0(R:Req)(cav leafv:Value)(hc:cav.oneCell'=true)(hl:leafv.oneCell'=true):∀u∈reqv R cav leafv,u.oneCell'=true:=by
 intro u hu;unfold reqv at hu;rcases List.mem_append.1 hu with hu|hu
 · rcases List.mem_cons.1 hu with rfl|hu
   · rfl
   exact qed _ _ hc _ u hu
 simp[Req.rest]at hu;rcases hu with rfl|rfl|rfl|rfl|rfl|rfl|rfl|rfl|rfl|rfl|rfl|rfl|rfl<;>first|rfl|exact hl
theorem xc1(c:Cfg)(s:Sta)(L:Loc)(col:Col)(g:Nat)(css:List (List Value))(bs:List Nat)(A:Option Addr)(n cc:Nat)(w:World)(hc:c.Ok)(hs:s.Ok)(h:Mdl w col 2 g c s L css)
 (hr:Reads w w.heap.size 1 A n (byv bs))(hn:n≤140737488355328)(hb:∀x∈bs,x<256)(hT:Tabs w)(hE:w.cell? ⟨0,0,none⟩=some (.iface 327 (.agg #[.pointer (some ⟨3,81,none⟩)]))):
 Zc 30 #[.pointer (some ⟨g,0,none⟩),.slice A n cc] w fun e w'=>∃v col' L' css',e=.returned v∧OwnB w' w.heap.size v (askS c s bs).2∧(∀g,v.ownBlock=some g→col' g=0)∧Mdl w' col' 2 g c (askS c s bs).1 L' css'∧Rest w col w' col':=by
 obtain⟨AV,hAV⟩:=xeq (askS c s bs);rw[hAV];have bT:=qq7 (12:Int);rw[show (Value.int .i64 (12:Int)::.int .u64 0::.slice none 0 0::.slice none 0 0::(hdv Hd.zero++tokv qgq.1 (.slice none 0 0) qgq.2.2))=qq8 (rWhy 12) from rfl]at bT;have lX:=qq9 (rWhy 12) Hd.zero_Ok (by simp[rWhy,qir,qgq]);have oX:=qqa (rWhy 12);obtain⟨X,hX⟩:=xeq (qq8 (rWhy 12));rw[hX]at bT lX oX;have z0:=Blk.new w 57 Tryz.zeroCells57;obtain⟨Z0,BT,LX,OX,HX,AC,H,HS⟩:=zh8 z0 bT lX oX hX hAV h hs;obtain⟨HC,AD,HE,HR,HB,AE,A7⟩:=zh7 hc hT hE hr hb (zI 57 lX) qqb;clear bT lX oX hX z0 hAV h hs hc hT hE hr hb;go_enter Tryz.func30,Tryz.ntmps30
 go_upto_region 2 with(first
  |(refine qbj rfl ⟨.agg X.toArray,qgn 57 _ rfl _ _ BT.o (by simp[Act.eval]),?_⟩)
  |(refine zst Z0.o AE.o (by simp[LX.o,A7.o]) OX.o ?_))
 obtain⟨W1,hW1⟩:=eqx ((w.alloc (.cells Tryz.zeroCells57 57)).setRow w.heap.size X.toArray);rw[←hW1];obtain⟨Z1,B1⟩:=zh2 (show Blk W1 w.heap.size 57 X.toArray by rw[hW1];exact Z0.setRow _) (show Zb w W1 by rw[hW1];exact below_setRow ((tA5 _ _).alloc (tA4 _) _) (tA4 _) _);clear hW1;obtain⟨R,hR⟩:=xeq ((qie bs).2);have CD:=qpr bs A n cc W1 (HR.call B1.o) hn HB.o (qai HE.o B1.o);have hG:=xbt bs HB.o;rw[hR]at hG;simp only[hR]at CD;obtain⟨AG,HG,AH⟩:=zh3 CD hG hR;clear CD hG hR;go_upto_region 3 with(fail)
 go_wp2_with fail
 refine AG.o.mono ?_;rintro e w2 ⟨cav,lv,rv,rfl,oc,ol,re,b2⟩;obtain⟨Ac,cc2,hcv,hcc2,hcm2,rdc⟩:=qaf (e:=132) (size:=2) oc;obtain⟨Al,cl2,hlv,hcl2,hlm2,rdl⟩:=qaf (e:=5) (size:=1) ol;have lQ:=qiu R cav lv HG.tag;have oQ:=xc0 R cav lv (by rw[hcv];rfl) (by rw[hlv];rfl);obtain⟨Q,hQ⟩:=xeq (reqv R cav lv);rw[hQ]at lQ oQ;rw[hQ];obtain⟨IQ,LQ,OQ,Z2,HQ,AI,AJ,AK⟩:=zh8 (zI 34 lQ) lQ oQ (Blk.new w2 34 zLQ) hQ hcv hlv rdc;obtain⟨AL,OC,OL,RE,B2⟩:=zh5 rdl oc ol re b2;clear lQ oQ hQ hcv hlv rdc rdl oc ol re b2;go_upto_region 3 with(refine wpList_store_row rfl 34 (.tmp 6) (.tmp 14) rfl w2.heap.size Q.toArray rfl rfl 34 _ Z2.o (by rw[tB6];exact IQ.o) (by simp[LQ.o]) (by simpa using OQ.o) ?_)
 obtain⟨W3,hW3⟩:=eqx ((w2.alloc (.cells zLQ 34)).setRow w2.heap.size Q.toArray);rw[←hW3];obtain⟨G6,hG6⟩:=eqx w2.heap.size;rw[←hG6];have q3:Blk W3 G6 34 Q.toArray:=by rw[hW3,hG6];exact Z2.setRow _
 have b3:Zb w2 W3:=by rw[hW3];exact below_setRow ((tA5 _ _).alloc (tA4 _) _) (tA4 _) _
 have b03:Zb w W3:=(B1.trans (B2.mono B1.size)).trans (b3.mono (tB1 B1.size B2.size));have z2:=Z1.below B2.o Z1.lt;obtain⟨Z3,Q3,B3,A4⟩:=zh4 (z2.below b3 z2.lt) q3 b3 b03;have A5:=zh1 (show ∀b,w.heap.size≤b→col b=0 from fun b h=>by
  by_cases e:col b=0
  · exact e
  have:=H.fin b e;omega)
 clear hW3 hG6 q3 b3 b03 z2;rcases hdec:(qie bs).1 with _|y
 ·
  have hnil:rv=.nilIface:=by have:=RE.o;rw[hdec]at this;exact this
  subst hnil;have hav:=qtq (c:=c) (s:=s) hdec;rw[AC.o,AH.o]at hav;have hlf:=AJ.o;have hcf:=AI.o;have hA:Asked W3 col R Ac cc2 Al cl2:=⟨HG.o,AL.call B3.o,hcl2,hlm2,AK.call B3.o,hcc2,hcm2,
   fun h ad e=>A5.o _ (tB1 B1.size (World.ownsRow.lt OL.o ad.block (by rw[hlf,e];rfl)).1),
   fun h ad e=>A5.o _ (tB1 B1.size (World.ownsRow.lt OC.o ad.block (by rw[hcf,e];rfl)).1)⟩
  have A8:=qvt c s L col g css R Ac cc2 Al cl2 W3 HC.o HS.o (H.call A4.o) hA (AD.below A4.o AD.size) (qai HE.o A4.o);rw[←hcf,←hlf,HQ.o]at A8;obtain⟨A0,A9,AA,AM⟩:=zh4 hav A8 (qzt (c:=c) HS.o HG.o) (qap Q3.o 0 Q zjq);clear hav hA A8 hdec hlf hcf;go_wp2_with (refine zld AM.o zu34 IQ.o ?_)
  refine A9.o.mono ?_;rintro e w4 ⟨v,col',L',css',rfl,rv4,m4,r4⟩;obtain⟨V,hv,lV,oV⟩:=rv4.cells ⟨AA.hd,AA.tok.2.2.1⟩;subst hv;have z4:=r4.blk Z3.o (A5.o _ (tA4 _));have g0:col' w.heap.size=0:=(r4.block _ Z3.lt (A5.o _ (tA4 _))).2;obtain⟨AF,M5,R5,Z4,IV,LV,OV,Z5⟩:=zh8 (rv4.row (X:=V.toArray) z4 A4.size) (m4.row0 (.inl rfl) V.toArray g0) (((Rest.of_below (col:=col) A4.o).trans r4).newer (qam w4 w.heap.size V.toArray) (tA4 _)) z4 (zI 57 lV) lV oV (z4.setRow V.toArray);clear rv4 m4 r4 lV oV z4 g0;go_upto_region 5 with(refine zst Z4.o IV.o (by simp[LV.o,LX.o]) OV.o ?_)
  obtain⟨W5,hW5⟩:=eqx (w4.setRow w.heap.size V.toArray);rw[←hW5]at AF M5 R5 Z5 ⊢;clear hW5;obtain⟨bv,hvv,cv5,ev,o1,o2,o3,k1,k2,k3⟩:=AF.o;obtain⟨A1,c1,hb1,hbc,hbm,rb⟩:=qaf (e:=5) (size:=1) o1;obtain⟨A2,c2,hb2,hhc,hhm,rh⟩:=qaf (e:=29) (size:=32) o2.2;obtain⟨A3,c3,hb3,hcc,hcm,rc⟩:=qaf (e:=132) (size:=2) o3;subst hb1 hb2 hb3;have CA:=xbi (doS c s R).2 A1 c1 A2 c2 A3 c3 W5 AA.o rb hbc hbm rh hhc hhm rc hcc hcm;injection ev with ev;rw[←ev]at CA;obtain⟨AB,AN⟩:=zh2 CA (qap Z5.o 0 V zjq);clear CA ev rb rh rc hbc hbm hhc hhm hcc hcm o1 o2 o3 k1 k2 k3;go_wp2_with (refine zld AN.o zu57 IV.o ?_)
  refine AB.o.mono ?_;rintro e w6 ⟨v,rfl,ov,b6⟩;obtain⟨A6,B6⟩:=zh2 ov b6;clear ov b6;go_wp2
  go_ret
  refine⟨v,col',L',css',rfl,?_,fun g hg=>?_,?_,R5.trans (Rest.of_below B6.o)⟩
  · rw[A0.o]
    exact qdb A6.o R5.size
  · by_cases e:col' g=0
    · exact e
    have h1:=M5.fin g e;have h2:=(World.ownsRow.lt A6.o g hg).1;omega
  rw[A0.o];exact M5.call B6.o
 have re':=RE.o;rw[hdec]at re';obtain⟨hh,hrv,-,-⟩:=re';subst hrv;have hav:=qtp (c:=c) (s:=s) hdec;rw[AC.o]at hav;have CA:=xbi (rWhy 12) none 0 none 0 none 0 W3 (qzm 12) ⟨rfl,fun h=>absurd h (by show ¬0<0;omega)⟩ (tA4 _) (by simp[maxLen]) ⟨rfl,fun h=>absurd h (by show ¬0<0;omega)⟩ (tA4 _) (by simp[maxLen]) ⟨rfl,fun h=>absurd h (by show ¬0<0;omega)⟩ (tA4 _) (by simp[maxLen]);change Zc 78 #[.agg (qq8 (rWhy 12)).toArray] W3 _ at CA;rw[HX.o]at CA;obtain⟨A0,AB,AO⟩:=zh3 hav CA (qap Z3.o 0 X zjq);clear hav CA hdec;go_wp2_with (refine zld AO.o zu57 AE.o ?_)
 refine AB.o.mono ?_;rintro e w6 ⟨v,rfl,ov,b6⟩;obtain⟨A6,B6⟩:=zh2 ov b6;clear ov b6;go_wp2
 go_ret
 refine⟨v,col,L,css,rfl,?_,fun g hg=>A5.o g (tB1 A4.size (World.ownsRow.lt A6.o g hg).1),?_,(Rest.of_below A4.o).trans (Rest.of_below B6.o)⟩
 · rw[A0.o]
   exact qdb A6.o A4.size
 rw[A0.o];exact(H.call A4.o).call B6.o
theorem xc2(h:Sit W B w col g gw tb c s)(hc:c.Ok)(bs:List Nat)(A:Option Addr)(n cc:Nat)(hr:Reads w w.heap.size 1 A n (byv bs))(hn:n≤140737488355328)(hb:∀x∈bs,x<256):
 Zc 30 #[.pointer (some ⟨g,0,none⟩),.slice A n cc] w fun e w'=>∃v col',e=.returned v∧OwnB w' w.heap.size v (askS c s bs).2∧(∀g,v.ownBlock=some g→col' g=0)∧Sit W B w' col' g gw tb c (askS c s bs).1∧Rest w col w' col':=by
 obtain⟨L,css,h2⟩:=h.mdl;refine(xc1 c s L col g css bs A n cc w hc h.ok h2 hr hn hb h.tabs h.err).mono ?_;rintro e w' ⟨v,col',L',css',rfl,h3,h4,h5,h6⟩;exact⟨v,col',rfl,h3,h4,h.next h6 (qtr h.ok (xbt bs hb)) ⟨L',css',h5⟩,h6⟩
structure OwnAt (w:World)(col:Col)(B b:Nat)(t:TypeId)(X:List Value):Prop where
 blk:Blk w b t X.toArray
 col:col b=0
 low:B≤b
theorem OwnAt.rest{t:TypeId}(h:OwnAt w col B b t X)(hr:Rest w col w' col'):OwnAt w' col' B b t X:=⟨hr.blk h.blk h.col,(hr.block b h.blk.lt h.col).2,h.low⟩
theorem OwnAt.call{t:TypeId}(h:OwnAt w col B b t X)(hb:Zb w w'):OwnAt w' col B b t X:=h.rest (Rest.of_below hb)
theorem OwnAt.rng{t:TypeId}(h:OwnAt w col B b t X):w.rangeAt b 0 X:=qap h.blk 0 X (fun j u hu=>by simpa using hu)
theorem xc3{v:World}(h:Sit W B v col g gw tb c s)(t:TypeId)(cs:Array Value)(X:List Value):
 Sit W B ((v.alloc (.cells cs t)).setRow v.heap.size X.toArray) col g gw tb c s∧OwnAt ((v.alloc (.cells cs t)).setRow v.heap.size X.toArray) col B v.heap.size t X∧Zb v ((v.alloc (.cells cs t)).setRow v.heap.size X.toArray):=by
 have hb:Zb v ((v.alloc (.cells cs t)).setRow v.heap.size X.toArray):=below_setRow ((tA5 _ _).alloc (tA4 _) _) (tA4 _) _;exact⟨h.call hb,⟨(Blk.new _ _ _).setRow _,h.new0 (tA4 _),h.base.2.2⟩,hb⟩
theorem xcd{c:Nat}(h:OwnB w base (.slice A n c) bs)(hk:k≤bs.length):OwnB w base (.slice A k c) (bs.take k):=by
 have hn:n=bs.length:=by
  rcases h.2 with⟨e,h0⟩|⟨g,cap,cur,e,_⟩
  · injection e with e1 e2;omega
  injection e with e1 e2
 unfold OwnB;rw[tBd,Nat.min_eq_left hk];refine⟨by rw[qat,tBd];omega,?_⟩;rcases h.2 with⟨e,h0⟩|⟨g,cap,cur,e,hb,hh,hnc,hc,hsz,ht⟩
 · injection e with e1 e2 e3
   subst e1 e3;exact .inl ⟨by rw[show k=0 by omega],by omega⟩
 injection e with e1 e2 e3;subst e1 e3;refine .inr ⟨g,c,cur,rfl,hb,hh,by omega,hc,hsz,?_⟩;rw[Nat.mul_one]at ht ⊢;have:(byv bs).take k=byv (bs.take k):=by simp[byv,List.map_take]
 rw[←this,←ht,List.take_take,Nat.min_eq_left hk]
def Req.cut (R:Req):Req:={R with leaf:=R.leaf.take 512}
theorem xce{t:Tok}{l:List (Int × Nat)}{x:Int × Nat}(h:l[k]? =some x):(l.take (k+1)).foldl xbj t=xbj ((l.take k).foldl xbj t) x:=by
 obtain⟨hk,e⟩:=tA8 h;rw[List.take_succ_eq_append_getElem hk,List.foldl_append,e];rfl
def xcf (c:Cfg)(S:Stp):Req:=if 0≤S.who then {S.r with tid:=(xbk c S).1,cavs:=(xbk c S).2.1,tag:=(xbk c S).2.2} else S.r
theorem xcg(c:Cfg)(S:Stp):xbl c S=(xcf c S).cut:=rfl
theorem xch(c:Cfg)(S:Stp):(xcf c S).leaf=S.r.leaf:=by unfold xcf;split<;>rfl
theorem xci(c:Cfg)(S:Stp)(h:S.r.tag.length=32)(hk:∀x∈S.cavs,x.2<4294967296):(xcf c S).tag.length=32:=by
 unfold xcf;split
 ·
  have key:∀(l:List (Int × Nat)) (t:Tok),t.Ok→(∀x∈l,x.2<4294967296)→(l.foldl xbj t).Ok:=by
   intro l;induction l with
   |nil=>intro t h _;exact h
   |cons y l ih=>
    intro t ht hl;refine ih _ ?_ (fun x hx=>hl x (List.mem_cons_of_mem _ hx));unfold xbj;split
    · exact qkd t y ht (hl y (List.mem_cons_self ..))
    exact ht
  exact(key _ _ (qkc _ _ zo) (fun x hx=>hk x (tB7 hx))).2.2.1
 exact h
theorem xcj(R:Req)(t:Tok)(cav cav' leafv:Value)(ht:R.tag.length=32)(h2:t.2.2.length=32):over (reqv R cav leafv) 1 (tokv t.1 cav' t.2.2)=reqv {R with tid:=t.1,cavs:=t.2.1,tag:=t.2.2} cav' leafv:=by
 have l1:=qdc R.tid cav R.tag ht;have l2:=qdc t.1 cav' t.2.2 h2;unfold over reqv;rw[l2];simp only[List.cons_append,List.take_succ_cons,List.take_zero,List.nil_append];rw[show 1+34=34+1 by rfl,List.drop_succ_cons,←l1,List.drop_left];rfl
theorem xck{l:List (Int × Nat)}(h:l.length≤k∨4≤k)(h4:k≤4):l.take k=l.take 4:=by
 rcases h with h|h
 · rw[tB5 h,tB5 zo]
 rw[show k=4 by omega]
structure RtI (B:Nat)(w:World)(d5 d9 d10:Bool)(R T v21 v25 v6:Value):Prop where
 root:d5=true→v21=R
 tok:d9=true→v25=T
 box:d10=true→∃g,v6=.pointer (some ⟨g,0,none⟩)∧B≤g∧Blk w g 31 qgv.toArray
 low:B≤w.heap.size
theorem RtI.call{d5 d9 d10:Bool}{R:Value}(h:RtI B w d5 d9 d10 R T v21 v25 v6)(b:Zb w w'):RtI B w' d5 d9 d10 R T v21 v25 v6:=
 ⟨h.root,h.tok,fun e=>by obtain⟨g,h1,h2,h3⟩:=h.box e;exact⟨g,h1,h2,h3.below b h3.lt⟩,tB1 h.low b.size⟩
theorem RtI.a5{d5 d9 d10:Bool}{R:Value}(h:RtI B w d5 d9 d10 R T v21 v25 v6)(d:Bool):RtI B w d d9 d10 R T R v25 v6:=⟨fun _=>rfl,h.tok,h.box,h.low⟩
theorem RtI.a9{d5 d9 d10:Bool}{R:Value}(h:RtI B w d5 d9 d10 R T v21 v25 v6)(d:Bool):RtI B w d5 d d10 R T v21 T v6:=⟨h.root,fun _=>rfl,h.box,h.low⟩
theorem RtI.a10{d5 d9 d10:Bool}{R:Value}(h:RtI B w d5 d9 d10 R T v21 v25 v6)(d:Bool):RtI B (w.alloc (.cells qgv.toArray 31)) d5 d9 d R T v21 v25 (.pointer (some ⟨w.heap.size,0,none⟩)):=
 ⟨h.root,h.tok,fun _=>⟨_,rfl,h.low,Blk.new _ _ _⟩,by rw[qar];exact Nat.le_succ_of_le h.low⟩
theorem xcl(gw tb:Nat)(c:Cfg)(A0:Option Addr)(n0 k0:Nat)(S:Stp)(cs:List Value)(w:World)(hw:WldAt w gw tb c A0 n0 k0)(hc:c.Ok)(hs:StpR w cs S):
 Zc 35 #[.pointer (some ⟨gw,0,none⟩),.agg cs.toArray] w fun e w'=>∃cav lv,e=.returned (.agg (reqv (xbl c S) cav lv).toArray)∧OwnC w' w.heap.size cav (xbl c S).cavs∧OwnB w' w.heap.size lv (xbl c S).leaf∧Below w.heap.size w w':=by
 obtain⟨Ac,cc,Al,cl,Ak,ck,Ar,cr,rfl,hg,⟨hc1,hc2,hc3,hc4⟩,⟨hl1,hl2,hl3,hl4⟩,⟨hk1,hk2,hk3,hk4,hk5⟩,-,-,-,hwho⟩:=hs;have lC:=qnq S (.slice Ac S.r.cavs.length cc) (.slice Al S.r.leaf.length cl) (.slice Ak S.cavs.length ck) (.slice Ar S.raw.length cr) hg.tag;have rq:=qnr S (.slice Ac S.r.cavs.length cc) (.slice Al S.r.leaf.length cl) (.slice Ak S.cavs.length ck) (.slice Ar S.raw.length cr);have c49:=qns S (.slice Ac S.r.cavs.length cc) (.slice Al S.r.leaf.length cl) (.slice Ak S.cavs.length ck) (.slice Ar S.raw.length cr) hg.tag 0;have c50:=qns S (.slice Ac S.r.cavs.length cc) (.slice Al S.r.leaf.length cl) (.slice Ak S.cavs.length ck) (.slice Ar S.raw.length cr) hg.tag 1;obtain⟨C,hC⟩:=xeq (stpv S (.slice Ac S.r.cavs.length cc) (.slice Al S.r.leaf.length cl) (.slice Ak S.cavs.length ck) (.slice Ar S.raw.length cr));rw[hC]at lC rq c49 c50 ⊢;obtain⟨wh,hwh⟩:=xeq S.who;obtain⟨nk,hnk⟩:=xeq S.cavs.length;rw[hnk]at c50 hk1 hk3;rw[hwh]at c49 hwho;obtain⟨W0,hW0⟩:=eqx ((w.alloc (.cells C.toArray 44)).alloc (.cells zLQ 34));have t0:=zNb hW0;have z0:=zNc hW0;have b0:=zMb hW0;have lQ0:=qiu S.r (.slice Ac S.r.cavs.length cc) (.slice Al S.r.leaf.length cl) hg.tag;have CC:=qzi S.r Ac S.r.cavs.length cc Al S.r.leaf.length cl W0 hg.tag (hc3.call b0) zo (hl3.call b0) zo;obtain⟨Q0,hQ0⟩:=xeq (reqv S.r (.slice Ac S.r.cavs.length cc) (.slice Al S.r.leaf.length cl));rw[hQ0]at lQ0 rq CC;have hrq:W0.rangeAt w.heap.size 1 Q0:=qap t0 1 Q0 (fun j u h=>rq j u h);obtain⟨B3,B4,B5,B7,T0,Z0,B0,B8⟩:=zh8 CC hrq (zI 34 lQ0) hW0 t0 z0 b0 (hw.call b0);obtain⟨HC,HG,B9,BA,BY,A6,AD,BZ⟩:=zh8 hc hg (hk3.call b0) hk4 hk5 hwh hnk (show nk≤maxLen by omega);obtain⟨BC,C0,BD,BE,BF⟩:=zh5 (xci c S hg.tag hk4) hwho c49 c50 (show W0.heap.size=w.heap.size+1+1 by rw[hW0,qar,qar]);clear hC lC rq c49 c50 hwh hwho t0 z0 b0 lQ0 CC hQ0 hrq hW0 hw hc hg hc1 hc2 hc3 hc4 hl1 hl2 hl3 hl4 hk2 hk3 hk4 hk5 hnk hk1;go_enter Tryz.func35,Tryz.ntmps35
 go_upto_region 1 with(fail)
 rw[←B7.o];go_wp2_with (refine zld B4.o zu34 B5.o ?_)
 refine B3.o.mono ?_;rintro e w1 ⟨cav1,lv1,rfl,oc1,ol1,b1⟩;obtain⟨Ac1,cc1,hcv1,-,-,-⟩:=qaf (e:=132) (size:=2) oc1;obtain⟨Al1,nl,cl1,hlv1,-,-,rl1⟩:=ol1.sl;have hnl:=qb4 rl1;subst hcv1 hlv1;have lQ:=qiu S.r (.slice Ac1 S.r.cavs.length cc1) (.slice Al1 nl cl1) HG.tag;have oQ:=qzh S.r (.slice Ac1 S.r.cavs.length cc1) (.slice Al1 nl cl1) rfl rfl;obtain⟨Q,hQ⟩:=xeq (reqv S.r (.slice Ac1 S.r.cavs.length cc1) (.slice Al1 nl cl1));rw[hQ]at lQ oQ ⊢;obtain⟨BG,LQ,OQ,HQ,BH,BI,B1,NL⟩:=zh8 (zI 34 lQ) lQ oQ hQ oc1 ol1 b1 hnl;have N1:=zh1 (Blk.new w1 34 zLQ);clear lQ oQ hQ oc1 ol1 b1 rl1 hnl;go_upto_region 2 with(refine wpList_store_row rfl 34 (.tmp 5) (.tmp 12) rfl w1.heap.size Q.toArray rfl rfl 34 _ N1.o (by rw[tB6];exact BG.o) (by simp[LQ.o]) (by simpa using OQ.o) ?_)
 obtain⟨W1,hW1⟩:=eqx ((w1.alloc (.cells zLQ 34)).setRow w1.heap.size Q.toArray);rw[←hW1];obtain⟨G5,hG5⟩:=eqx w1.heap.size;rw[←hG5];have b11:Below w1.heap.size w1 W1:=by rw[hW1];exact below_setRow ((tA5 _ _).alloc (tA4 _) _) (tA4 _) _
 obtain⟨Q1,A1,BJ,AE⟩:=zh4 (show Blk W1 G5 34 Q.toArray by rw[hW1,hG5];exact(Blk.new _ _ _).setRow _) (show Below W0.heap.size W0 W1 from B1.trans (b11.mono B1.size)) (OwnC.kept BH.o b11) (BI.kept b11);obtain⟨T1,Z1,AF⟩:=zh3 (T0.below A1.o T0.lt) (Z0.below A1.o Z0.lt) (show W0.heap.size≤G5 by rw[hG5];exact B1.size);clear hW1 hG5 b11;have e49:=(T1.cell 49).trans (show C.toArray[49]? =some (.int .i64 wh) by simpa using BD.o);obtain⟨A7,P1⟩:=zh2 (B8.call A1.o) (show Below w.heap.size w W1 from B0.trans (A1.mono B0.size));go_upto_if 15 with(fail)
 go_cut [] (fun wx=>∃cav:Value,Hid (Blk wx G5 34 (reqv (xcf c S) cav (.slice Al1 nl cl1)).toArray)∧Hid (OwnC wx w.heap.size cav (xcf c S).cavs)∧Hid (OwnB wx w.heap.size (.slice Al1 nl cl1) S.r.leaf)∧Hid (Below W0.heap.size W0 wx))
 case first=>
  by_cases hw0:0≤wh
  ·
   have q0:(wh:Int) ≥ 0:=zo;obtain⟨idn,hidn⟩:∃m:Nat,(S.who % 4294967296).toNat=m:=⟨_,rfl⟩;have hidl:idn<4294967296:=zo;have hu:IntKind.u32.wrap wh=(idn:Int):=by rw[IntKind.wrap_u32];rw[←A6.o];omega
   obtain⟨HU,C1,A2⟩:=zh3 hu hidn hidn;clear hidn;have rkl:(qmc c.seed).length=32:=qjv _ _;have rkb:∀x∈qmc c.seed,x<256:=qjw _ _;obtain⟨BK,BL⟩:=zh2 rkl rkb;clear rkl rkb;go_upto_region 3 with(fail)
   rw[show decide (0≤wh)=true from decide_eq_true hw0];obtain⟨S',HS⟩:∃S':World→Prop,Hid (∀w',S' w'=(Below W1.heap.size W1 w'∧w'.cell? ⟨gw,0,none⟩=some (.pointer (some ⟨tb,0,none⟩))∧w'.cell? ⟨w.heap.size,49,none⟩=some (.int .i64 wh))):=⟨_,fun _=>rfl⟩;have mkS:Hid (∀w',Below W1.heap.size W1 w'→S' w'):=fun w' h=>by
    rw[HS.o];exact⟨h,(((A7.call h).blk).cell 0).trans rfl,(h.cell (p:=⟨w.heap.size,49,none⟩) T1.lt).trans e49⟩
   obtain⟨RV,hRV⟩:∃V:Value,.agg (byv (qmc c.seed)).toArray=V:=⟨_,rfl⟩;obtain⟨TV,hTV⟩:∃V:Value,.agg (tokv idn (.slice none 0 0) (qju (qmc c.seed) idn)).toArray=V:=⟨_,rfl⟩;obtain⟨AG,AP⟩:=zh2 hRV hTV;clear hRV hTV;refine qow S' 11 [21,25,6] [(0,false),(1,false),(2,false),(3,false),(4,false),(6,false),(7,false),(8,false)] 3 [(5,[]),(9,[5]),(10,[])] [(11,true)] #[true,true,true,true,true,false,true,true,true,false,false,false] #[true,true,true,true,true,true,true,true,true,true,true,false] zk rfl zk zk zk zk zk zk (fun _ _ d _ _ h=>by cases d<;>exact h) (mkS.o _ (tA5 _ W1).drew) ?_;clear e49;iterate 8 (refine qjr rfl rfl ⟨?_,fun w1 hS=>?_,?_⟩;rotate_left;(focus(rw[HS.o]at hS;go_split_ands;go_simp;try rfl));simp only[Act.put,tA0,tA1,tA2])
   refine qjq ?_;refine⟨fun Dn vs w'=>∃v21 v25 v6,vs=[v21,v25,v6]∧RtI W1.heap.size w' (Dn 5) (Dn 9) (Dn 10) RV TV v21 v25 v6,⟨[_,_,_],rfl,_,_,_,rfl,?_⟩,⟨?_,?_,?_,trivial⟩,?_⟩
   · exact⟨fun h=>(nomatch h),fun h=>(nomatch h),fun h=>(nomatch h),tA4 _⟩
   ·
    rintro Dn vs w' hS ⟨v21,v25,v6,rfl,hI⟩ hD hd;simp only[puts,Act.put,tA0,tA1,tA2];have hb:=((HS.o _).mp hS).1;refine qoz fun K hK=>qjn rfl rfl ?_
    go_simp;with_reducible refine zcb (qzj gw tb c A0 n0 k0 w' (A7.o.call hb) HC.o.seedb HC.o.seed) fun w2 b2=>?_
    rw[AG.o];exact hK _ _ ⟨mkS.o _ (hb.trans (b2.mono hb.size)),[_,_,_],rfl,_,_,_,rfl,by simpa using (hI.call b2).a5 true⟩
   ·
    rintro Dn vs w' hS ⟨v21,v25,v6,rfl,hI⟩ hD hd;simp only[puts,Act.put,tA0,tA1,tA2];have hb:=((HS.o _).mp hS).1;have d5:=hd 5 zm;have e5:=hI.root d5;rw[e5]at hI;rw[e5];refine qoz fun K hK=>qjn rfl rfl ?_
    go_simp;rw[←AG.o];with_reducible refine zcb (qze tb (qmc c.seed) idn w' BK.o BL.o hidl (A7.o.call hb).tab) fun w2 b2=>?_
    rw[AP.o,AG.o];exact hK _ _ ⟨mkS.o _ (hb.trans (b2.mono hb.size)),[_,_,_],rfl,_,_,_,rfl,by simpa [d5] using (hI.call b2).a9 true⟩
   · rintro Dn vs w' hS ⟨v21,v25,v6,rfl,hI⟩ hD hd
     simp only[puts,Act.put,tA0,tA1,tA2];have hb:=((HS.o _).mp hS).1;refine qoz fun K hK=>qjn rfl rfl ?_
     go_simp;exact hK _ _ ⟨mkS.o _ (hb.alloc hb.size _),[_,_,_],rfl,_,_,_,rfl,by simpa using (show RtI W1.heap.size (w'.alloc (.cells zLT 31)) (Dn 5) (Dn 9) true RV TV v21 v25 (.pointer (some ⟨w'.heap.size,0,none⟩)) from hI.a10 true)⟩
   rintro vs w5 hS5 ⟨v21,v25,v6,rfl,hI⟩;simp only[puts,Act.put,tA0,tA1,tA2];have e25:=hI.tok rfl;obtain⟨X,rfl,lX,zX⟩:=hI.box rfl;have b5:=((HS.o _).mp hS5).1;subst e25;rw[←AP.o];obtain⟨L0,hL0⟩:=xeq (tokv idn (.slice none 0 0) (qju (qmc c.seed) idn));have lL0:L0.length=34:=by rw[←hL0];exact qdc _ _ _ (qjv _ _)
   have oL0:∀v∈L0,v.oneCell'=true:=by rw[←hL0];exact qed _ _ rfl _
   rw[hL0];clear hI hS5 HS mkS;refine qbi rfl rfl ?_;refine wp_store_row 31 (.tmp 6) (.tmp 25) rfl X L0.toArray rfl rfl 31 _ zX (by rw[tB6,lL0];exact Tryz.tok_info) (by simp[lL0,qgv,qdc]) (by simpa using oL0) ?_;refine⟨fun h=>absurd h zdc,?_⟩;obtain⟨W2,hW2⟩:=eqx (w5.setRow X L0.toArray);rw[←hW2];obtain⟨X2,B2,BM,LX⟩:=zh4 (show Blk W2 X 31 L0.toArray by rw[hW2];exact zX.setRow _) (show Below W1.heap.size W1 W2 by rw[hW2];exact below_setRow b5 lX _) hL0 lX;clear hW2 zX b5 hL0 lL0 oL0 lX;refine zP ?_;refine qbf ?_;go_wp2_with fail
   go_loopw [7,8,9,37] (fun i _ _ _ wr=>∃(k:Nat) (x:Tok) (v:Value),k≤nk∧k≤4∧i=.int .i64 k∧Hid ((S.cavs.take k).foldl xbj (qk7 (qmc c.seed) idn)=x)∧Hid x.Ok∧x.2.1.length≤k∧Hid (Blk wr X 31 (tokv x.1 v x.2.2).toArray)∧Hid (OwnC wr W1.heap.size v x.2.1)∧Hid (Below W1.heap.size W1 wr)) (fun i _ _ _ _=>4 - (intOf i).toNat)
   case atStart=>exact⟨0,qk7 (qmc c.seed) idn,.slice none 0 0,by omega,by omega,rfl,by rw[List.take_zero];exact rfl,qkc _ _ hidl,by simp[qk7],by rw[show tokv (qk7 (qmc c.seed) idn).1 (.slice none 0 0) (qk7 (qmc c.seed) idn).2.2=L0 from BM.o];exact X2.o,OwnC.nil _ _,B2.o⟩
   case round=>
    obtain⟨k,x,v,hk,hk4,rfl,hg,hxo,hxl,hX,hv,hb⟩:=hrel;have tr:=T1.below hb.o T1.lt;have tc50:=(tr.cell 50).trans (show C.toArray[50]? =some (.slice Ak nk ck) by simpa using BE.o);have e50:=tc50;have T0cell:=(((A7.call hb.o).blk).cell 0).trans (show (#[.pointer (some ⟨tb,0,none⟩),.int .i64 c.width,.int .i64 c.quantum,.int .u32 (c.store:Int),.slice A0 n0 k0]:Array Value)[0]? =some (.pointer (some ⟨tb,0,none⟩)) from rfl);by_cases hkn:k<nk
    ·
     have qk:(k:Int)<nk:=zo;by_cases hk4':k<4
     ·
      have q4:(k:Int)<4:=zo;obtain⟨cav,hcav⟩:∃c,S.cavs[k]? =some c:=⟨_,tA7 (by rw[AD.o];exact hkn)⟩;obtain⟨gb,go,hA,hgb,hrd⟩:=B9.mid zo zo;obtain⟨e0,e1⟩:=qdf S.cavs k cav hcav;have hgb1:gb<W1.heap.size:=tB0 hgb A1.size;have m0:=(hb.cell (p:=⟨gb,go+k*2,none⟩) hgb1).trans ((A1.cell (p:=⟨gb,go+k*2,none⟩) hgb).trans (hrd _ _ e0));have m1:=(hb.cell (p:=⟨gb,go+(k*2+1),none⟩) hgb1).trans ((A1.cell (p:=⟨gb,go+(k*2+1),none⟩) hgb).trans (hrd _ _ e1));subst hA;obtain⟨kk,NN⟩:=cav;dsimp only at m0 m1;rw[←Nat.add_assoc]at m1;have AH:=zh1 hcav;have hgbr:gb<wr.heap.size:=tB0 hgb1 hb.size;obtain⟨S',HS⟩:∃S':World→Prop,Hid (∀w',S' w'=Below wr.heap.size wr w'):=⟨_,fun _=>rfl⟩;have AQ:=zh1 (A7.call hb.o);have FC:Hid (∀w',S' w'→w'.rangeAt gb (go+k*2) [.int .i64 kk,.int .u32 (NN:Int)]):=fun w' h j u hu=>by
       rw[HS.o]at h;rw[h.cell (p:=⟨gb,go+k*2+j,none⟩) hgbr];match j,hu with
       |0,hu=>simp at hu;subst hu;exact m0
       |1,hu=>simp at hu;subst hu;exact m1
      have F1:Hid (∀w',S' w'→w'.cell? ⟨w.heap.size,50,none⟩=some (.slice (some ⟨gb,go,none⟩) nk ck)):=fun w' h=>by
       rw[HS.o]at h;rw[h.cell (p:=⟨w.heap.size,50,none⟩) tr.lt];exact e50
      have F2:Hid (∀w',S' w'→w'.cell? ⟨gw,0,none⟩=some (.pointer (some ⟨tb,0,none⟩))):=fun w' h=>by
       rw[HS.o]at h;rw[h.cell (p:=⟨gw,0,none⟩) AQ.blk.lt];exact T0cell
      obtain⟨Ax,nx,cx,rfl,enx,ncx,-,rx⟩:=hv.sl;have hN:NN<4294967296:=BA.o (kk,NN) (tB2 AH.o);have N3:=fun w' (h:Below wr.heap.size wr w')=>xcc tb x Ax nx cx kk NN w' (rx.call h) ncx zo hxo.o.2.2.1 hxo.o.2.2.2 hN ((AQ.call h).tab)
      have lX3:=qdc x.1 (.slice Ax nx cx) x.2.2 hxo.o.2.2.1;have x3:=hX.o;obtain⟨E,hE⟩:=xeq (tokv x.1 (.slice Ax nx cx) x.2.2);simp only[hE]at N3;rw[hE]at x3 lX3;have FX:Hid (∀w',S' w'→w'.rangeAt X 0 E):=fun w' h=>by
       rw[HS.o]at h;exact qap (x3.below h x3.lt) 0 E zjq
      obtain⟨BN,BO,BP,X3,BQ,Hok',Hlen'⟩:=zh7 (zI 31 lX3) (show (Tryz.prog.info? 132).map (·.size)=some [Value.int .i64 kk,.int .u32 (NN:Int)].length by kernel_rfl) N3 x3 lX3 (qkd x (kk,NN) hxo.o hN) (qke x (kk,NN));obtain⟨r,hr⟩:=xeq (qk2 x (kk,NN));obtain⟨AR,HV,BR⟩:=zh3 hr hv.o hE;simp only[hr]at N3;have AS:=zh1 N3;rw[hr]at Hok' Hlen';clear N3 BP x3 hN lX3 hE enx ncx rx hX hv m0 m1 e0 e1 hrd hcav hgbr hr tc50 T0cell tr hgb hgb1;go_upto_region 7 with(fail)
      refine qjk S' 17 [48,37,49,50,8] [(0,false),(1,false),(2,false),(3,false),(4,false),(5,false),(6,false),(7,false),(8,false),(9,false)] 5 (.two 10 (.read 11 (.read 12 (.read 13 (.one 14 .done)))) 14 (.one 10 (.read 11 (.read 12 (.read 13 .done))))) [(15,true),(16,false)] #[true,true,true,true,true,true,true,true,true,true,false,false,false,false,false,false,false] #[true,true,true,true,true,true,true,true,true,true,true,true,true,true,true,false,false] zk rfl zk zk zk zk zk (fun _ _ d _ _ h=>by cases d<;>exact h) ((HS.o _).mpr (tA5 _ wr).drew) ?_;iterate 3 (refine qjr rfl rfl ⟨?_,fun w1 hS=>?_,?_⟩;rotate_left;(focus(have g1:=F2.o w1 hS;go_simp;try rfl));simp only[Act.put,tA0,tA1,tA2])
      iterate 1 (refine qjr rfl rfl ⟨?_,fun w1 hS=>?_,?_⟩;rotate_left;(focus(have g1:=F2.o w1 hS;go_simp;try rfl));simp only[Act.put,tA0,tA1,tA2])
      refine qoy rfl rfl 31 (.tmp 6) rfl X 0 rfl E _ FX.o Tryz.underlying31 rfl BN.o ?_;refine zP ?_;iterate 4 (refine qjr rfl rfl ⟨?_,fun w1 hS=>?_,?_⟩;rotate_left;(focus(have g1:=F1.o w1 hS;go_simp;try rfl));simp only[Act.put,tA0,tA1,tA2])
      refine qoy rfl rfl 132 (.tmp 46) rfl gb (go+k*2) rfl [.int .i64 kk,.int .u32 (NN:Int)] _ FC.o Tryz.underlying132 rfl BO.o ?_;refine zP ?_;refine qjq ?_;have hwdwr:Below wr.heap.size wr wr.drew:=(tA5 _ _).drew;obtain⟨Wdwr,hWdwr⟩:=eqx wr.drew;have HWdwr:=zh1 hWdwr;rw[←hWdwr]at hwdwr ⊢;clear hWdwr;refine⟨fun vs w'=>∃A4 n4 c4 g9,vs=[.tuple #[.agg (tokv r.1.1 (.slice A4 n4 c4) r.1.2.2).toArray,.int .i64 (r.2:Nat)],.tuple #[.agg (tokv r.1.1 (.slice A4 n4 c4) r.1.2.2).toArray,.int .i64 (r.2:Nat)],.agg (tokv r.1.1 (.slice A4 n4 c4) r.1.2.2).toArray,.int .i64 (r.2:Nat),.pointer (some ⟨g9,0,none⟩)]∧OwnC w' wr.heap.size (.slice A4 n4 c4) r.1.2.1∧Blk w' g9 31 qgv.toArray∧wr.heap.size≤g9∧Below wr.heap.size wr w',?_,?_⟩
      ·
       refine qjp rfl rfl rfl rfl ?_ ?_
       ·
        go_simp;refine(AS.o Wdwr hwdwr).mono ?_;rintro e w4 ⟨v4,rfl,o4,b4⟩;obtain⟨A4,n4,c4,rfl,-,-,-,-⟩:=o4.sl;obtain⟨F,hF⟩:=xeq (tokv r.1.1 (.slice A4 n4 c4) r.1.2.2);rw[hF];have b4':=hwdwr.trans (b4.mono hwdwr.size);have o4':=OwnC.mono o4 hwdwr.size;obtain⟨HF,HO,HB⟩:=zh3 hF o4' b4';clear hF o4 b4 o4' b4';refine⟨(HS.o _).mpr HB.o,?_⟩;refine zP ?_;iterate 3 (refine ztr ?_)
        refine qjo rfl rfl ?_;go_simp;refine⟨(HS.o _).mpr (HB.alloc HB.size _),qjl ⟨[_,_,_,_,_],rfl,A4,n4,c4,w4.heap.size,by rw[HF.o],HO.alloc _,Blk.new _ _ _,HB.size,HB.alloc HB.size _⟩⟩
       go_simp;obtain⟨w3,hw3⟩:=eqx (Wdwr.alloc (.cells zLT 31));rw[←hw3];have z3:Blk w3 Wdwr.heap.size 31 qgv.toArray:=by rw[hw3];exact Blk.new _ _ _
       have b3:Below wr.heap.size wr w3:=by rw[hw3];exact hwdwr.alloc hwdwr.size _
       clear hw3;refine⟨(HS.o _).mpr b3,?_⟩;refine qjo rfl rfl ?_;go_simp;refine(AS.o w3 b3).mono ?_;rintro e w4 ⟨v4,rfl,o4,b4⟩;obtain⟨A4,n4,c4,rfl,-,-,-,-⟩:=o4.sl;obtain⟨F,hF⟩:=xeq (tokv r.1.1 (.slice A4 n4 c4) r.1.2.2);rw[hF];have b4':=b3.trans (b4.mono b3.size);have o4':=OwnC.mono o4 b3.size;have z4:=z3.below b4 z3.lt;obtain⟨HF,HO,HB,HZ⟩:=zh4 hF o4' b4' z4;clear hF o4 b4 o4' b4' z4 z3 b3;refine⟨(HS.o _).mpr HB.o,?_⟩;refine zP ?_;iterate 3 (refine ztr ?_)
       refine qjl ⟨[_,_,_,_,_],rfl,A4,n4,c4,Wdwr.heap.size,by rw[HF.o],HO.o,HZ.o,hwdwr.size,HB.o⟩
      rintro vs w4 - ⟨AI,nK1,cK1,gK1,rfl,o4,z9,l9,b4⟩;simp only[puts,Act.put,tA0,tA1,tA2];obtain⟨A8,hF,hlF,hoF,iF⟩:=xc9 r.1.1 AI nK1 cK1 r.1.2.2 Hok'.o.2.2.1;rw[hF];refine qbi rfl rfl ?_;refine wp_store_row 31 (.tmp 8) (.tmp 49) rfl gK1 A8.toArray rfl rfl 31 _ z9 iF (by simp[hlF,qgv,qdc]) (by simpa using hoF) ?_;obtain⟨AJ,hW9⟩:=eqx (w4.setRow gK1 A8.toArray);rw[←hW9];have fK1:Blk AJ gK1 31 A8.toArray:=by rw[hW9];exact z9.setRow _
      have bK1:Below wr.heap.size wr AJ:=by rw[hW9];exact below_setRow b4 l9 _
      have oK1:OwnC AJ wr.heap.size (.slice AI nK1 cK1) r.1.2.1:=by rw[hW9];exact tB3 o4 (qam _ _ _) (.inr (qa3 o4 z9 zdc))
      obtain⟨A9,AK,AL,AM,BS⟩:=zh5 hlF hoF iF hF l9;clear hW9 z9 b4 o4 iF hlF hoF hF l9;refine⟨fun _=>(HS.o _).mpr bK1,?_⟩;refine zP ?_;iterate 1 (refine zrb ?_)
      refine qbf ?_;obtain⟨q,hq⟩:=xeq r.2;rw[hq];obtain⟨AC,BT,BU,AT,C2,AA,AU,BV⟩:=zh8 (X3.below bK1 X3.lt) (qap fK1 0 A8 zjq) (zI 31 A9.o) oK1 bK1 (hb.trans (bK1.mono hb.size)) hq (HV.kept bK1);clear fK1 bK1 oK1 hq FC F1 F2 FX HS;by_cases h0:q=0
      ·
       have h0':(q:Int)=0:=zo;go_wp2_with (first
        |(refine zld BT.o zu31 BU.o ?_)
        |(refine wpList_store_row rfl 31 (.tmp 6) (.tmp 53) rfl X A8.toArray rfl rfl 31 _ AC.o AL.o (by simp[A9.o,BQ.o]) (by simpa using AK.o) ?_))
       go_roundw
       case rel=>
        have hstep:(S.cavs.take (k+1)).foldl xbj (qk7 (qmc c.seed) idn)=r.1:=by
         rw[xce AH.o,hg.o];unfold xbj;rw[AR.o,if_pos (by rw[AU.o,h0])]
        refine⟨k+1,r.1,.slice AI nK1 cK1,by omega,by omega,by go_num,hstep,Hok'.o,?_,?_,?_,?_⟩
        · have:=Hlen'.o
          omega
        · rw[AM.o]
          exact AC.setRow _
        · exact OwnC.mono (tB3 AT.o (qam _ _ _) (.inr (qa3 AT.o AC.o zdc))) hb.size
        exact below_setRow AA.o LX.o _
       case measure=>simp[intOf];omega
      have h0':¬(q:Int)=0:=zo;go_wp2
      go_roundw
      case rel=>
       have hstep:(S.cavs.take (k+1)).foldl xbj (qk7 (qmc c.seed) idn)=x:=by
        rw[xce AH.o,hg.o];unfold xbj;rw[AR.o,if_neg (by rw[AU.o];exact h0)]
       refine⟨k+1,x,.slice Ax nx cx,by omega,by omega,by go_num,hstep,hxo,by omega,?_,BV.o,AA.o⟩;rw[BR.o];exact AC.o
      case measure=>simp[intOf];omega
     have q4:¬(k:Int)<4:=zo;have hfin:(S.cavs.take 4).foldl xbj (qk7 (qmc c.seed) idn)=x:=by rw[←xck (l:=S.cavs) (k:=k) (by rw[AD.o];omega) hk4];exact hg.o
     have q9:=Q1.below hb.o Q1.lt;have lE:=qdc x.1 v x.2.2 hxo.o.2.2.1;have oE:=qed x.1 v (by obtain⟨A',n',c',rfl,-⟩:=hv.sl;rfl) x.2.2;have hov:over Q 1 (tokv x.1 v x.2.2)=reqv (xcf c S) v (.slice Al1 nl cl1):=by
      have ht:xbk c S=x:=by unfold xbk;rw[←hfin,A2.o]
      rw[←HQ.o,xcj S.r x _ v _ HG.tag hxo.o.2.2.1];unfold xcf;rw[if_pos (by rw[A6.o];omega),ht]
     have hcv:(xcf c S).cavs=x.2.1:=by
      have ht:xbk c S=x:=by unfold xbk;rw[←hfin,A2.o]
      unfold xcf;rw[if_pos (by rw[A6.o];omega),ht]
     obtain⟨E,hE⟩:=xeq (tokv x.1 v x.2.2);have x9:=hX.o;rw[hE]at lE oE hov x9;obtain⟨A3,AB,AN,OE,QB,CB⟩:=zh6 (qap x9 0 E zjq) (zI 31 lE) (show wr.there G5 1 E.toArray.size from fun j hj=>⟨by rw[q9.cell,tA3,tA7 (by have h0:E.toArray.size=34:=List.size_toArray.trans lE;rw[LQ.o];omega)];simp,q9.frozen _⟩) (all_oneCell_toArray oE) (show Blk (wr.setCells G5 1 E) G5 34 (reqv (xcf c S) v (.slice Al1 nl cl1)).toArray by rw[←hov];exact qn4 E 1 wr Q q9 (by rw[LQ.o,lE];decide)) (show OwnC (wr.setCells G5 1 E) w.heap.size v (xcf c S).cavs by rw[hcv];exact OwnC.mono (tB3 hv.o (qn5 G5 E 1 wr) (.inr (qa3 hv.o q9 zdc))) P1.size);have ol9:=AE.kept hb.o;obtain⟨LB,BB⟩:=zh2 (show OwnB (wr.setCells G5 1 E) w.heap.size (.slice Al1 nl cl1) S.r.leaf from OwnB.mono (tB3 ol9 (qn5 G5 E 1 wr) (.inr (qa3 ol9 q9 zdc))) B0.size) (show Below W0.heap.size W0 (wr.setCells G5 1 E) from(A1.trans (hb.mono A1.size)).grown (qn5 G5 E 1 wr) (tB1 A1.size hb.size) (by intro g hg;injection hg with hg;have:=AF.o;omega));clear hfin q9 lE oE hov hcv hE x9 ol9 tc50 T0cell tr hX hv;go_wp2_with (first
      |(refine zld A3.o zu31 AB.o ?_)
      |(refine wpList_store_mid rfl 31 (.tmp 55) (.tmp 54) rfl G5 1 E.toArray rfl rfl AN.o (by simpa using AB.o) OE.o ?_))
     go_meet
     case rel=>exact⟨v,QB,CB,LB,BB⟩
    have qk:¬(k:Int)<nk:=zo;have hfin:(S.cavs.take 4).foldl xbj (qk7 (qmc c.seed) idn)=x:=by rw[←xck (l:=S.cavs) (k:=k) (by rw[AD.o];omega) hk4];exact hg.o
    have q9:=Q1.below hb.o Q1.lt;have lE:=qdc x.1 v x.2.2 hxo.o.2.2.1;have oE:=qed x.1 v (by obtain⟨A',n',c',rfl,-⟩:=hv.sl;rfl) x.2.2;have hov:over Q 1 (tokv x.1 v x.2.2)=reqv (xcf c S) v (.slice Al1 nl cl1):=by
     have ht:xbk c S=x:=by unfold xbk;rw[←hfin,A2.o]
     rw[←HQ.o,xcj S.r x _ v _ HG.tag hxo.o.2.2.1];unfold xcf;rw[if_pos (by rw[A6.o];omega),ht]
    have hcv:(xcf c S).cavs=x.2.1:=by
     have ht:xbk c S=x:=by unfold xbk;rw[←hfin,A2.o]
     unfold xcf;rw[if_pos (by rw[A6.o];omega),ht]
    obtain⟨E,hE⟩:=xeq (tokv x.1 v x.2.2);have x9:=hX.o;rw[hE]at lE oE hov x9;obtain⟨A3,AB,AN,OE,QB,CB⟩:=zh6 (qap x9 0 E zjq) (zI 31 lE) (show wr.there G5 1 E.toArray.size from fun j hj=>⟨by rw[q9.cell,tA3,tA7 (by have h0:E.toArray.size=34:=List.size_toArray.trans lE;rw[LQ.o];omega)];simp,q9.frozen _⟩) (all_oneCell_toArray oE) (show Blk (wr.setCells G5 1 E) G5 34 (reqv (xcf c S) v (.slice Al1 nl cl1)).toArray by rw[←hov];exact qn4 E 1 wr Q q9 (by rw[LQ.o,lE];decide)) (show OwnC (wr.setCells G5 1 E) w.heap.size v (xcf c S).cavs by rw[hcv];exact OwnC.mono (tB3 hv.o (qn5 G5 E 1 wr) (.inr (qa3 hv.o q9 zdc))) P1.size);have ol9:=AE.kept hb.o;obtain⟨LB,BB⟩:=zh2 (show OwnB (wr.setCells G5 1 E) w.heap.size (.slice Al1 nl cl1) S.r.leaf from OwnB.mono (tB3 ol9 (qn5 G5 E 1 wr) (.inr (qa3 ol9 q9 zdc))) B0.size) (show Below W0.heap.size W0 (wr.setCells G5 1 E) from(A1.trans (hb.mono A1.size)).grown (qn5 G5 E 1 wr) (tB1 A1.size hb.size) (by intro g hg;injection hg with hg;have:=AF.o;omega));clear hfin q9 lE oE hov hcv hE x9 ol9 tc50 T0cell tr hX hv;go_wp2_with (first
     |(refine zld A3.o zu31 AB.o ?_)
     |(refine wpList_store_mid rfl 31 (.tmp 55) (.tmp 54) rfl G5 1 E.toArray rfl rfl AN.o (by simpa using AB.o) OE.o ?_))
    go_meet
    case rel=>exact⟨v,QB,CB,LB,BB⟩
  have q0:¬(wh:Int) ≥ 0:=zo;go_wp2
  go_meet
  case rel=>
   have ht:xcf c S=S.r:=by unfold xcf;rw[if_neg (by rw[A6.o];omega)]
   rw[ht];exact⟨_,by rw[HQ.o];exact Q1,OwnC.mono BJ.o B0.size,OwnB.mono AE.o B0.size,A1⟩
 case rest=>
  obtain⟨cav,q9,oc9,ol9,b9⟩:=hcut;obtain⟨W5,rfl⟩:=eqx wc;have hT:=xcg c S;have hlf:=xch c S;have htl:(xcf c S).tag.length=32:=BC.o;have hcv1:cav.oneCell'=true:=by obtain⟨A',n',c',rfl,-⟩:=oc9.sl;rfl
  obtain⟨Q9,hQ9⟩:=xeq (reqv (xcf c S) cav (.slice Al1 nl cl1));have l9:=qiu (xcf c S) cav (.slice Al1 nl cl1) htl;have o9:=qzh (xcf c S) cav (.slice Al1 nl cl1) hcv1 rfl;have e9:Q9[47]? =some (.slice Al1 nl cl1):=by
   rw[←hQ9];exact(qdh (xcf c S) cav (.slice Al1 nl cl1) htl 12).trans rfl
  rw[hQ9]at l9 o9 q9;have e47:=(q9.cell 47).trans (show Q9.toArray[47]? =some (.slice Al1 nl cl1) by rw[tA3];exact e9);have f47:=q9.frozen 47;obtain⟨Z5,AV⟩:=zh2 (Z0.below b9.o Z0.lt) (B0.trans (b9.mono B0.size));have hnl:nl=S.r.leaf.length:=by
   obtain⟨A',c',e,-⟩:=ol9.slice;injection e with e1 e2
  have hcl:nl≤cl1:=by
   obtain⟨A',n',c',e,h1,-⟩:=ol9.sl;injection e with e1 e2 e3;omega
  obtain⟨AW,LG,AX,L9,O9,TL,AY⟩:=zh7 hnl (show w.heap.size+1<G5 by have:=AF.o;have:=BF.o;omega) hQ9 l9 o9 htl hlf;have Q9':=q9;clear hnl hQ9 l9 o9 htl hlf hT e9 q9;by_cases h512:nl≤512
  ·
   have q5:¬(nl:Int)>512:=zo;obtain⟨A3,A5⟩:=zh2 (qap Q9'.o 0 Q9 zjq) (zI 34 L9.o);go_wp2_with (first
    |(refine zld A3.o zu34 A5.o ?_)
    |(refine zst Z5.o A5.o (by simp[L9.o]) O9.o ?_))
   have AO:=qap (Z5.setRow Q9.toArray) 0 Q9 zjq;refine zrt AO zu34 A5.o ⟨cav,.slice Al1 nl cl1,by rw[←AX.o];rfl,?_,?_,?_⟩
   · exact tB3 oc9.o (qam _ _ _) (.inr (qa3 oc9.o Z5.o zdc))
   · have e:(xbl c S).leaf=S.r.leaf:=by
      show (xcf c S).leaf.take 512=_;rw[AY.o,tB5 (by rw[←AW.o];exact h512)]
     rw[e];exact tB3 ol9.o (qam _ _ _) (.inr (qa3 ol9.o Z5.o zdc))
   exact below_setRow AV.o zo _
  have q5:(nl:Int)>512:=zo;have q6:(512:Int)≤cl1:=zo;have l9':=qiu (xcf c S) cav (.slice Al1 512 cl1) TL.o;have o9':=qzh (xcf c S) cav (.slice Al1 512 cl1) hcv1 rfl;have hs:=qzg (xcf c S) cav (.slice Al1 nl cl1) (.slice Al1 512 cl1) TL.o;obtain⟨Qc,hQc⟩:=xeq (reqv (xcf c S) cav (.slice Al1 512 cl1));rw[hQc]at l9' o9' hs;rw[AX.o]at hs;obtain⟨W6,hW6⟩:=eqx (W5.setCell ⟨G5,47,none⟩ (.slice Al1 512 cl1));have q6':Blk W6 G5 34 Qc.toArray:=by
   rw[hW6,←hs];have h:=Q9'.set_ 47 (.slice Al1 512 cl1);rwa[List.setIfInBounds_toArray]at h
  have z6:Blk W6 (w.heap.size+1) 34 zLQ:=by
   rw[hW6];exact Z5.far (p:=⟨G5,47,none⟩) (by have:=LG.o;simp;omega) _
  have b6:Below w.heap.size w W6:=by rw[hW6];exact AV.setCell (p:=⟨G5,47,none⟩) (by have:=LG.o;simp;omega) _
  have oc6:OwnC W6 w.heap.size cav (xcf c S).cavs:=by rw[hW6];exact qal oc9.o (p:=⟨G5,47,none⟩) (qa3 oc9.o Q9'.o zdc) _
  have ol6:OwnB W6 w.heap.size (.slice Al1 nl cl1) S.r.leaf:=by rw[hW6];exact OwnB.far ol9.o (p:=⟨G5,47,none⟩) (qa3 ol9.o Q9'.o zdc) _
  obtain⟨A3,A5,Z6,B6,AZ,BW,L9',O9'⟩:=zh8 (qap q6' 0 Qc zjq) (zI 34 l9') z6 b6 oc6 ol6 l9' o9';obtain⟨HQc,BX⟩:=zh2 hQc hW6;clear hs hQc hW6 q6' z6 b6 oc6 ol6 l9' o9';go_upto_region 13 with(fail)
  rw[←BX.o];go_wp2_with (first
   |(refine zld A3.o zu34 A5.o ?_)
   |(refine zst Z6.o A5.o (by simp[L9'.o]) O9'.o ?_))
  have AO:=qap (Z6.setRow Qc.toArray) 0 Qc zjq;refine zrt AO zu34 A5.o ⟨cav,.slice Al1 512 cl1,by rw[←HQc.o];rfl,?_,?_,?_⟩
  · exact tB3 AZ.o (qam _ _ _) (.inr (qa3 AZ.o Z6.o zdc))
  · have e:(xbl c S).leaf=S.r.leaf.take 512:=by
     show (xcf c S).leaf.take 512=_;rw[AY.o]
    rw[e];have o:=xcd BW.o (k:=512) (by rw[←AW.o];omega);exact tB3 o (qam _ _ _) (.inr (qa3 o Z6.o zdc))
  exact below_setRow B6.o zo _
theorem xct(gw tb:Nat)(c:Cfg)(A0:Option Addr)(n0 k0:Nat)(S:Stp)(cs:List Value)(w:World)(hw:WldAt w gw tb c A0 n0 k0)(hc:c.Ok)(hs:StpR w cs S)(h140:S.raw.length≤140737488351232):
 Zc 37 #[.pointer (some ⟨gw,0,none⟩),.agg cs.toArray] w fun e w'=>∃v bs ok,e=.returned (.tuple #[v,.bool ok])∧OwnB w' w.heap.size v bs∧(∀b,bytesOf c S=some b→ok=true∧bs=b)∧(bytesOf c S=none→ok=false)∧Zb w w':=by
 have hs0:=hs;obtain⟨Ac,cc,Al,cl,Ak,ck,Ar,cr,rfl,hg,h1,h2,h3,⟨hr1,hr2,hr3,hr4⟩,h5,h6,h7⟩:=hs;have lC:=qnq S (.slice Ac S.r.cavs.length cc) (.slice Al S.r.leaf.length cl) (.slice Ak S.cavs.length ck) (.slice Ar S.raw.length cr) hg.tag;have c0:(stpv S (.slice Ac S.r.cavs.length cc) (.slice Al S.r.leaf.length cl) (.slice Ak S.cavs.length ck) (.slice Ar S.raw.length cr))[0]? =some (.int .i64 S.kind):=rfl;have c52:=qns S (.slice Ac S.r.cavs.length cc) (.slice Al S.r.leaf.length cl) (.slice Ak S.cavs.length ck) (.slice Ar S.raw.length cr) hg.tag 3;obtain⟨C,hC⟩:=xeq (stpv S (.slice Ac S.r.cavs.length cc) (.slice Al S.r.leaf.length cl) (.slice Ak S.cavs.length ck) (.slice Ar S.raw.length cr));rw[hC]at lC c0 c52 hs0 ⊢;obtain⟨n,hn⟩:=xeq S.raw.length;obtain⟨kd,hkd⟩:=xeq S.kind;rw[hn]at c52 hr1 hr3 h140;rw[hkd]at c0 h6;obtain⟨W0,hW0⟩:=eqx (w.alloc (.cells C.toArray 44));have t0:=zNa hW0;have b0:=zMa hW0;have e0:=(t0.cell 0).trans (show C.toArray[0]? =some (.int .i64 kd) by simpa using c0);have e52:=(t0.cell 52).trans (show C.toArray[52]? =some (.slice Ar n cr) by simpa using c52);have CR:=xcl gw tb c A0 n0 k0 S C W0 (hw.call b0) hc (hs0.stay b0.size (fun b hb=>b0.block b hb));obtain⟨A6,AI,AA,AD,HI,AE,AF,HN⟩:=zh8 b0 t0 (hr3.call b0) CR (zI 44 lC) (qap t0 0 C zjq) hW0 hn;obtain⟨A4,LW,GD,AG⟩:=zh4 hkd b0.size (xby c hg h3.2.2.2.1 h3.2.2.2.2) hr4;clear hs0 hg h1 h2 h3 hr2 hr3 hr4 h5 h7 c0 c52 b0 t0 CR hn hkd hw lC hW0 hC;go_enter Tryz.func37,Tryz.ntmps37
 go_upto_region 1 with(fail)
 rw[←AF.o];by_cases hk:kd=5
 ·
  subst hk;by_cases h4:n≤400
  ·
   have q:¬(400:Int)<n:=zo;go_wp2_with (at_builtin;refine qdy rfl _ _ rfl W0.heap.size _ [] rfl (OwnB.made W0 [] (by simp[maxLen])) Ar n cr S.raw rfl (AA.laid (.cells #[] 5)) (by simp;omega) zm ?_)
   intro v3 w3 hown3 hb3 hg3;obtain⟨A3,n3,c3,rfl,-,-,-⟩:=hown3.sl;obtain⟨O3,BB⟩:=zh2 hown3 (A6.trans ((((tA5 W0.heap.size W0).alloc (tA4 _) (.cells #[] 5)).trans hb3).mono LW.o));clear hown3 hb3 hg3;go_wp2
   go_ret2
   refine⟨_,S.raw,true,rfl,?_,fun b hb=>⟨rfl,?_⟩,fun h=>?_,BB.o⟩
   · exact(OwnB.mono O3.o LW.o).cast zm
   · unfold bytesOf at hb
     rw[if_pos A4.o]at hb;injection hb with hb;rw[←hb,tB5 (by rw[HN.o];omega)]
   unfold bytesOf at h;rw[if_pos A4.o]at h;cases h
  have q:(400:Int)<n:=zo;have q2:(400:Int)≤cr:=zo;have AH:=zh1 (show Reads W0 W0.heap.size 1 Ar 400 (byv (S.raw.take 400)) by
   have h:=AA.take (k:=400) zo;rw[Nat.mul_one]at h;have e:(byv S.raw).take 400=byv (S.raw.take 400):=by simp[byv,List.map_take]
   rw[←e];exact h)
  have hl4:(S.raw.take 400).length=400:=by rw[tBd,HN.o];omega
  have AJ:=zh1 hl4;clear hl4;go_wp2_with (at_builtin;refine qdy rfl _ _ rfl W0.heap.size _ [] rfl (OwnB.made W0 [] (by simp[maxLen])) Ar 400 cr (S.raw.take 400) rfl (AH.laid (.cells #[] 5)) zm zm ?_)
  intro v3 w3 hown3 hb3 hg3;obtain⟨A3,n3,c3,rfl,-,-,-⟩:=hown3.sl;obtain⟨O3,BB⟩:=zh2 hown3 (A6.trans ((((tA5 W0.heap.size W0).alloc (tA4 _) (.cells #[] 5)).trans hb3).mono LW.o));clear hown3 hb3 hg3;go_wp2
  go_ret2
  refine⟨_,S.raw.take 400,true,rfl,?_,fun b hb=>⟨rfl,?_⟩,fun h=>?_,BB.o⟩
  · exact(OwnB.mono O3.o LW.o).cast zm
  · unfold bytesOf at hb
    rw[if_pos A4.o]at hb;injection hb with hb
  unfold bytesOf at h;rw[if_pos A4.o]at h;cases h
 go_wp2_with (refine zld AE.o zu44 HI.o ?_)
 refine AD.o.mono ?_;rintro e w1 ⟨cav,lv,rfl,oc,ol,b1⟩;obtain⟨A1,n1,c1,rfl,e1,k1,m1,r1⟩:=oc.sl;obtain⟨A2,c2,rfl,k2,m2,r2⟩:=ol.slice;subst e1;have EN:=xcs (xbl c S) A1 c1 A2 c2 w1 GD.fit r2 k2 m2 r1 k1 m1 GD.tid GD.cavn;obtain⟨R,hR⟩:=xeq (xbl c S);obtain⟨Q,hQ⟩:=xeq (reqv R (.slice A1 R.cavs.length c1) (.slice A2 R.leaf.length c2));obtain⟨q,hq⟩:=xeq ((qit R).1);rw[hR]at EN ⊢;rw[hQ,hq]at EN;rw[hQ];obtain⟨AB,A7,A8,AC,A5⟩:=zh5 EN hR hq (A6.trans (b1.mono LW.o)) (tB1 LW.o b1.size);clear EN hR hQ hq oc ol b1 k1 m1 r1 k2 m2 r2;have hk5:¬S.kind=5:=by rw[A4.o];exact hk
 have A9:=zh1 hk5;clear hk5;by_cases hq0:q=0
 ·
  have q1:(q:Int)=0:=zo;go_wp2_with fail
  refine AB.o.mono ?_;rintro e w2 ⟨v,rfl,ob,b2⟩;obtain⟨OB,B2⟩:=zh2 ob (AC.trans (b2.mono A5.o));clear ob b2;go_wp2
  go_ret2
  refine⟨v,_,true,rfl,OwnB.mono OB.o A5.o,fun b hb=>⟨rfl,?_⟩,fun h=>?_,B2.o⟩
  · unfold bytesOf at hb
    rw[if_neg A9.o,A7.o,if_pos (by rw[A8.o,hq0])]at hb;injection hb
  unfold bytesOf at h;rw[if_neg A9.o,A7.o,if_pos (by rw[A8.o,hq0])]at h;cases h
 have q1:¬(q:Int)=0:=zo;have q2:((q:Int)==0)=false:=by simpa using q1
 go_wp2_with fail
 refine AB.o.mono ?_;rintro e w2 ⟨v,rfl,ob,b2⟩;obtain⟨OB,B2⟩:=zh2 ob (AC.trans (b2.mono A5.o));clear ob b2;go_wp2
 go_ret2
 refine⟨v,_,false,rfl,OwnB.mono OB.o A5.o,fun b hb=>?_,fun h=>rfl,B2.o⟩;unfold bytesOf at hb;rw[if_neg A9.o,A7.o,if_neg (by rw[A8.o];exact hq0)]at hb;cases hb
end Go.Proofs.YthomgopipiomhaaGreatDoor

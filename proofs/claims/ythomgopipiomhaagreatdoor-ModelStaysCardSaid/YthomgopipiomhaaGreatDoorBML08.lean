/- Lemmas. -/
import Derived.Test.YthomgopipiomhaaGreatDoorBML07
namespace Go.Proofs.YthomgopipiomhaaGreatDoor
open Go.RowKit
set_option linter.unusedVariables false
set_option linter.unusedSimpArgs false
set_option maxRecDepth 100000
set_option maxHeartbeats 32000000
variable {v:Value}{n c' N g:Nat}{A:Option Addr}{w:World}{R:Req}{o:Oper}{P:Program}
theorem xbh:∀(l:List (List Nat)) (k:Nat),(∀d∈l,d.length=32)→(l.take k).flatten.length=min k l.length*32
 |[],k,_=>by simp
 |d::l,0,_=>by simp
 |d::l,k+1,h=>by
  rw[List.take_succ_cons,List.flatten_cons,tA6,xbh l k (fun x hx=>h x (List.mem_cons_of_mem _ hx)),h d zm,tBi];omega
theorem xbi(R:Rsp)(Ab:Option Addr)(cb:Nat)(Ah:Option Addr)(ch:Nat)(Ac:Option Addr)(cc:Nat)(w:World)(hR:R.Ok)
 (hrb:Reads w w.heap.size 1 Ab R.bytes.length (byv R.bytes))(hbc:R.bytes.length≤cb)(hbm:cb≤maxLen)
 (hrh:Reads w w.heap.size 32 Ah R.hashes.length (digv R.hashes))(hhc:R.hashes.length≤ch)(hhm:ch≤maxLen)
 (hrc:Reads w w.heap.size 2 Ac R.tok.2.1.length (cavv R.tok.2.1))(hcc:R.tok.2.1.length≤cc)(hcm:cc≤maxLen):
 Zc 78 #[.agg (rspv R (.slice Ab R.bytes.length cb) (.slice Ah R.hashes.length ch) (.slice Ac R.tok.2.1.length cc)).toArray] w fun e w'=>∃v,e=.returned (.tuple #[v,.int .i64 ((qis R).1:Int)])∧OwnB w' w.heap.size v (qis R).2∧Below w.heap.size w w':=by
 have kenc:=fun w' h=>qdg R.tok.1 R.tok.2.1 Ac cc R.tok.2.2 w' h hcc hcm hR.tok.1 hR.tok.2.1 hR.tok.2.2.1
 have knone:=fun w'=>qm8 R.tok.1 Ac R.tok.2.1.length cc R.tok.2.2 w' hR.tok.2.2.1 hR.tok.2.2.2
 have kneq:=fun w'=>qlu w' R.hd Hd.zero hR.hd Hd.zero_Ok
 have tl:=qe7 R.tok.1 R.tok.2.1 R.tok.2.2 hR.tok.2.2.1;have d0:(rspv R (.slice Ab R.bytes.length cb) (.slice Ah R.hashes.length ch) (.slice Ac R.tok.2.1.length cc))[0]? =some (.int .i64 R.why):=rfl;have d1:(rspv R (.slice Ab R.bytes.length cb) (.slice Ah R.hashes.length ch) (.slice Ac R.tok.2.1.length cc))[1]? =some (.int .u64 (R.n:Int)):=rfl;have d2:(rspv R (.slice Ab R.bytes.length cb) (.slice Ah R.hashes.length ch) (.slice Ac R.tok.2.1.length cc))[2]? =some (.slice Ab R.bytes.length cb):=rfl;have d3:(rspv R (.slice Ab R.bytes.length cb) (.slice Ah R.hashes.length ch) (.slice Ac R.tok.2.1.length cc))[3]? =some (.slice Ah R.hashes.length ch):=rfl;have dh:=qlz R (.slice Ab R.bytes.length cb) (.slice Ah R.hashes.length ch) (.slice Ac R.tok.2.1.length cc) hR;have dt:=qm3 R (.slice Ab R.bytes.length cb) (.slice Ah R.hashes.length ch) (.slice Ac R.tok.2.1.length cc) hR;have lT:=qdc R.tok.1 (.slice Ac R.tok.2.1.length cc) R.tok.2.2 hR.tok.2.2.1;have lS:=qll R.hd hR.hd;have lH:=qlk R.hd hR.hd.rootl;have hh:∀j u,(qli R.hd)[j]? =some u→(hdv R.hd)[j]? =some u:=fun j u hu=>by rw[qlj];exact qm4 j u hu
 have hg:∀j u,(byv R.hd.tag)[j]? =some u→(hdv R.hd)[36+j]? =some u:=fun j u hu=>by rw[qlj];exact qm5 36 lH j u hu
 have hq:∀j u,(byv R.hd.root)[j]? =some u→(qli R.hd)[4+j]? =some u:=fun j u hu=>by
  rw[show 4+j=j+1+1+1+1 from by omega];exact hu
 have oneH:=qm6 R.hd;have e0:(qli R.hd)[0]? =some (.int .i64 R.hd.tree):=rfl;have e1:(qli R.hd)[1]? =some (.int .i64 R.hd.epoch):=rfl;have e2:(qli R.hd)[2]? =some (.int .u64 (R.hd.size:Int)):=rfl;have e3:(qli R.hd)[3]? =some (.int .u64 (R.hd.clock:Int)):=rfl;have gR:(byv R.hd.root).length=32:=by rw[qat,hR.hd.rootl]
 have gT:(byv R.hd.tag).length=32:=by rw[qat,hR.hd.tagl]
 have hans:qis R=if 255<R.hashes.length∨(qd7 R.tok.1 R.tok.2.1 R.tok.2.2).1=4 then(4,[]) else if 65536≤R.bytes.length then(3,[]) else if R.fits=true∧(qd7 R.tok.1 R.tok.2.1 R.tok.2.2).1=0 then(0,ansB R) else(1,[]):=rfl
 have hab:ansB R=be R.why.toNat 1++(be R.n 8++(txt R.bytes++(be R.hashes.length 1++(R.hashes.flatten++(be (flagsOf R) 1++((if R.hd=Hd.zero then [] else hdB R.hd)++(if R.tok=qgq then [] else txt (qd7 R.tok.1 R.tok.2.1 R.tok.2.2).2))))))):=rfl;have hfl:flagsOf R=(if R.hd=Hd.zero then 0 else 1)+(if R.tok=qgq then 0 else 2):=rfl;have hhB:hdB R.hd=be R.hd.tree.toNat 1++(be R.hd.epoch.toNat 4++(be R.hd.size 8++(be R.hd.clock 8++(R.hd.root++R.hd.tag)))):=rfl;have hft:R.fits=(decide (0≤R.why∧R.why≤255)&&decide (0≤R.hd.tree∧R.hd.tree≤255)&&decide (0≤R.hd.epoch∧R.hd.epoch≤2147483647)):=rfl;have hzt:(R.tok.1=0∧R.tok.2.1.length=0∧R.tok.2.2=List.replicate 32 0) ↔ R.tok=qgq:=by
  obtain⟨a,b,c⟩:=R.tok;simp[qgq,List.length_eq_zero_iff]
 have knone:∀w',Zc 75 #[.agg (tokv R.tok.1 (.slice Ac R.tok.2.1.length cc) R.tok.2.2).toArray] w' fun e w''=>e=.returned (.bool (decide (R.tok=qgq)))∧Below w'.heap.size w' w'':=fun w'=>by
  have:=knone w';simp only[hzt]at this;exact this
 have hn64:=hR.n;have hs64:=hR.hd.size;have hc64:=hR.hd.clock;have hok:=hR.hashes;obtain⟨L,hL⟩:=xeq (rspv R (.slice Ab R.bytes.length cb) (.slice Ah R.hashes.length ch) (.slice Ac R.tok.2.1.length cc));rw[hL]at d0 d1 d2 d3 dh dt ⊢;obtain⟨T,hT⟩:=xeq (tokv R.tok.1 (.slice Ac R.tok.2.1.length cc) R.tok.2.2);rw[hT]at dt lT;simp only[hT]at kenc knone;obtain⟨S,hS⟩:=xeq (hdv R.hd);rw[hS]at dh hh hg lS;simp only[hS]at kneq;obtain⟨H,hH⟩:=xeq (qli R.hd);rw[hH]at hh hq lH oneH e0 e1 e2 e3;obtain⟨y,hy⟩:=xeq R.why;obtain⟨ny,hny⟩:=xeq R.n;obtain⟨kt,hkt⟩:=xeq R.hd.tree;obtain⟨ke,hke⟩:=xeq R.hd.epoch;obtain⟨ks,hks⟩:=xeq R.hd.size;obtain⟨kc,hkc⟩:=xeq R.hd.clock;obtain⟨rt,hrt⟩:=xeq R.hd.root;obtain⟨tg,htg⟩:=xeq R.hd.tag;obtain⟨bs,hbs⟩:=xeq R.bytes;obtain⟨hs,hhs⟩:=xeq R.hashes;obtain⟨nb,hnb⟩:=xeq R.bytes.length;obtain⟨nh,hnh⟩:=xeq R.hashes.length;obtain⟨nc,hnc⟩:=xeq R.tok.2.1.length;obtain⟨zh,hzh⟩:=xeq (decide (R.hd=Hd.zero));obtain⟨zt,hzt2⟩:=xeq (decide (R.tok=qgq));obtain⟨cv,hcv⟩:=xeq R.tok.2.1;obtain⟨⟨tw,tb⟩,htr⟩:∃y,qd7 R.tok.1 R.tok.2.1 R.tok.2.2=y:=⟨_,rfl⟩;have ezh:(if R.hd=Hd.zero then 0 else 1)=(if zh then 0 else 1):=by rw[←hzh];simp
 have ezt:(if R.tok=qgq then 0 else 2)=(if zt then 0 else 2):=by rw[←hzt2];simp
 have ezh2:(if R.hd=Hd.zero then [] else hdB R.hd)=(if zh then [] else hdB R.hd):=by rw[←hzh];simp
 have ezt2:(if R.tok=qgq then [] else txt (qd7 R.tok.1 R.tok.2.1 R.tok.2.2).2)=(if zt then [] else txt (qd7 R.tok.1 R.tok.2.1 R.tok.2.2).2):=by rw[←hzt2];simp
 rw[ezh2,ezt2]at hab;rw[ezh,ezt]at hfl;simp only[hzh]at kneq;simp only[hzt2]at knone;rw[htr]at tl hans;simp only[htr]at kenc hab;rw[hnb]at hans hbc hrb;rw[hnh]at hans hrh hhc hab;rw[hnc,hcv]at hrc;rw[hnc]at hcc;simp only[hnc]at kenc;simp only[hcv]at kenc;rw[hnb]at d2;rw[hnh]at d3;rw[hy]at d0 hft hab;rw[hny]at d1 hab hn64;rw[hkt]at e0 hft hhB;rw[hke]at e1 hft hhB;rw[hks]at e2 hhB hs64;rw[hkc]at e3 hhB hc64;rw[hrt]at hq gR hhB;rw[htg]at hg gT hhB;rw[hbs]at hrb hab;rw[hhs]at hrh hab hok;have hnb':bs.length=nb:=by rw[←hbs];exact hnb
 have hnh':hs.length=nh:=by rw[←hhs];exact hnh
 have lrt:rt.length=32:=by rw[←hrt];exact hR.hd.rootl
 have ltg:tg.length=32:=by rw[←htg];exact hR.hd.tagl
 dsimp only at tl kenc hans hab;have lt60:tb.length≤60:=tl;obtain⟨AO,AA,AP,D0,D1,D2,D3,DH⟩:=zh8 kenc knone kneq d0 d1 d2 d3 dh;obtain⟨DT,IT,IS,IH,IH',LH,OH,IR⟩:=zh8 dt (zI 31 lT) (zI 55 lS) (zI 53 lH) (show (Tryz.prog.info? 53).map (·.size)=some H.toArray.size by rw[tB6,lH];exact Tryz.hd_info) lH oneH (show (Tryz.prog.info? 29).map (·.size)=some (byv rt).length by rw[gR];exact Tryz.digest_info);obtain⟨IG,HH,HG,HQ,E0,E1,E2,E3⟩:=zh8 (show (Tryz.prog.info? 29).map (·.size)=some (byv tg).length by rw[gT];exact Tryz.digest_info) hh hg hq e0 e1 e2 e3;obtain⟨A0,BL,BM,BA,A7,AB,BB,AQ⟩:=zh8 hans hab hfl hhB hft hok hnb' hnh';obtain⟨AJ,BC,BN,BO,BP⟩:=zh5 lrt ltg hrb hrh hrc;clear kenc knone kneq d0 d1 d2 d3 dh dt lT lS oneH gR gT hh hg hq e0 e1 e2 e3 hans hab hfl hhB hft hok hnb' hnh' lrt ltg hrb hrh hrc hL hT hS hH hy hny hkt hke hks hkc hrt htg hbs hhs hnb hnh hnc hzh hzt2 hcv htr hzt ezh ezt ezh2 ezt2 tl lH;unfold maxLen at hbm hhm hcm;have t0:Blk (w.alloc (.cells L.toArray 57)) w.heap.size 57 L.toArray:=Blk.new w _ _;obtain⟨B0,T0,AR,AS⟩:=zh4 (show Below w.heap.size w (w.alloc (.cells L.toArray 57)) from qah (tA5 _ _) _) t0 (qap t0 72 T DT.o) (BP.laid (.cells L.toArray 57));clear t0;obtain⟨W0,hW0⟩:=eqx (w.alloc (.cells L.toArray 57));rw[←hW0]at B0 T0 AR AS;have BD:=zh1 hW0;clear hW0;go_enter Tryz.func78,Tryz.ntmps78
 go_upto_region 1 with(fail)
 rw[←BD.o];go_wp2_with (refine zld AR.o zu31 IT.o ?_)
 refine(AO.o W0 AS.o).mono ?_;rintro e w1 ⟨v1,rfl,own1,b1⟩;have own1:OwnB w1 W0.heap.size v1 tb:=own1;have b1':=B0.trans (b1.mono B0.size);have t1:=T0.below b1 T0.lt;obtain⟨rg1,Z1⟩:=zh2 (qap t1 4 H (fun j u hu=>DH.o j u (HH.o j u hu))) (Blk.new w1 53 zLS);have hgw:w.heap.size<w1.heap.size:=t1.lt;obtain⟨T1,B1,AC⟩:=zh3 t1 b1' own1;clear t1 b1' own1 AR AS T0 B0 BD b1;go_upto_region 3 with(first
  |(refine zld rg1.o zu53 IH.o ?_)
  |(refine wpList_store_row rfl 53 (.tmp 6) (.tmp 19) rfl w1.heap.size H.toArray rfl rfl 53 _ Z1.o IH'.o (by simp[LH.o]) (all_oneCell_toArray OH.o) ?_))
 obtain⟨w4,h4⟩:=eqx ((w1.alloc (.cells zLS 53)).setRow w1.heap.size H.toArray);rw[←h4];have u4:Blk w4 w1.heap.size 53 H.toArray:=by rw[h4];exact Z1.setRow _
 have b4:Below w1.heap.size w1 w4:=by rw[h4];exact below_setRow ((tA5 _ _).alloc (tA4 _) _) (tA4 _) _
 have B4:=zh1 (B1.trans (b4.mono B1.size));have t4:=T1.below b4 T1.lt;have own4:=AC.kept b4;obtain⟨At,nt,ct,rfl,nct,mct,rdt⟩:=own4.sl;have hnt:tb.length=nt:=qb4 rdt;obtain⟨gh,hgh⟩:=xeq w1.heap.size;rw[hgh]at u4 hgw ⊢;obtain⟨U4,U4lt,T4,T4lt,AT,BQ,AK,AL⟩:=zh8 u4 u4.lt t4 t4.lt rdt hnt (BN.call B4.o) (BO.call B4.o);have c0:=(t4.cell 0).trans (show L.toArray[0]? =some (.int .i64 y) by simpa using D0.o);have c2:=(t4.cell 2).trans (show L.toArray[2]? =some (.slice Ab nb cb) by simpa using D2.o);have c3:=(t4.cell 3).trans (show L.toArray[3]? =some (.slice Ah nh ch) by simpa using D3.o);have h0:=(u4.cell 0).trans (show H.toArray[0]? =some (.int .i64 kt) by simpa using E0.o);have h1:=(u4.cell 1).trans (show H.toArray[1]? =some (.int .i64 ke) by simpa using E1.o);clear h4 b4 u4 t4 own4 rdt hnt hgh rg1 Z1 T1 B1 AC;by_cases q1:255<nh
 ·
  have q:(255:Int)<nh:=zo;have HN:Hid (qis R=(4,[])):=by
   unfold Hid;rw[A0.o,if_pos (.inl q1)]
  go_wp2
  go_ret2
  exact⟨_,by rw[HN.o];rfl,by rw[HN.o];exact OwnB.nil _ _,B4.o⟩
 have p1:¬(255:Int)<nh:=zo;by_cases q2:tw=4
 ·
  subst q2;have HN:Hid (qis R=(4,[])):=by
   unfold Hid;rw[A0.o,if_pos (.inr rfl)]
  go_wp2
  go_ret2
  exact⟨_,by rw[HN.o];rfl,by rw[HN.o];exact OwnB.nil _ _,B4.o⟩
 have p2:¬(tw:Int)=4:=zo;have A1:=zh1 (A0.trans (if_neg (fun h=>h.elim q1 q2)));clear A0;by_cases q3:65536≤nb
 ·
  have q:(65536:Int)≤nb:=zo;have HN:Hid (qis R=(3,[])):=by
   unfold Hid;rw[A1.o,if_pos q3]
  go_wp2
  go_ret2
  exact⟨_,by rw[HN.o];rfl,by rw[HN.o];exact OwnB.nil _ _,B4.o⟩
 have p3:¬(65536:Int)≤nb:=zo;have A2:=zh1 (A1.trans (if_neg q3));clear A1;by_cases q4:0≤y∧y≤255
 ·
  by_cases q5:0≤kt∧kt≤255
  ·
   by_cases q6:ke<0
   ·
    have HN:Hid (qis R=(1,[])):=by
     unfold Hid;rw[A2.o,if_neg];rw[A7.o];simp;omega
    go_wp2_with fail
    refine zca (qhw _ _) ?_;rw[decide_eq_true q4];go_wp2_with fail
    refine zca (qhw _ _) ?_;rw[decide_eq_true q5];go_wp2
    go_ret2
    exact⟨_,by rw[HN.o];rfl,by rw[HN.o];exact OwnB.nil _ _,B4.o⟩
   by_cases q7:2147483647<ke
   ·
    have HN:Hid (qis R=(1,[])):=by
     unfold Hid;rw[A2.o,if_neg];rw[A7.o];simp;omega
    go_wp2_with fail
    refine zca (qhw _ _) ?_;rw[decide_eq_true q4];go_wp2_with fail
    refine zca (qhw _ _) ?_;rw[decide_eq_true q5];go_wp2
    go_ret2
    exact⟨_,by rw[HN.o];rfl,by rw[HN.o];exact OwnB.nil _ _,B4.o⟩
   by_cases q8:tw=0
   ·
    subst q8;have A3:=zh1 (A2.trans (if_pos ⟨by rw[A7.o];simp;omega,rfl⟩));have HX:=zh1 (show qis R=(0,ansB R) from A3.o);clear A2 A3 A7;obtain⟨ky,rfl⟩:∃k:Nat,y=k:=⟨y.toNat,by omega⟩;obtain⟨lt,rfl⟩:∃k:Nat,kt=k:=⟨kt.toNat,by omega⟩;obtain⟨le,rfl⟩:∃k:Nat,ke=k:=⟨ke.toNat,by omega⟩;have f1:ky≤255:=zo;have f2:lt≤255:=zo;have f3:le≤2147483647:=zo;have f4:nh≤255:=zo;have f5:nb<65536:=zo;go_wp2_with fail
    refine zca (qhw _ _) ?_;rw[decide_eq_true q4];go_wp2_with fail
    refine zca (qhw _ _) ?_;rw[decide_eq_true q5];clear q1 q2 q3 q4 q5 q6 q7 p1 p2 p3;go_wp2_with fail
    refine(qcz _).mono ?_;rintro e w5 ⟨rfl,hw5,hb5⟩;obtain⟨G,hG⟩:=xeq w4.heap.size;have gG1:w.heap.size<G:=by rw[←hG];exact T4lt.o
    have gG2:gh<G:=by rw[←hG];exact U4lt.o
    have gG3:w.heap.size≤G:=zo;have T4:Hid (Blk w4 w.heap.size 57 L.toArray):=T4;have T4lt:Hid (w.heap.size<G):=gG1;have U4lt:Hid (gh<G):=gG2;obtain⟨AK,AL,AT⟩:=zh3 (hG▸AK.o:Reads w4 G 1 Ab nb (byv bs)) (hG▸AL.o:Reads w4 G 32 Ah nh (digv hs)) (hG▸AT.o:Reads w4 G 1 At nt (byv tb));have hnt:=BQ.o;(try simp only[Zb]at hb5);rw[hG]at hw5 hb5 ⊢
    clear hG c0 c2 c3 h0 h1;have AD:=tA5 G w4;have A8:=AD.trans hb5;have t5:=T4.below A8 T4lt.o;have c0:=(t5.cell 0).trans (show L.toArray[0]? =some (.int .i64 (ky:Int)) by simpa using D0.o);have c1:=(t5.cell 1).trans (show L.toArray[1]? =some (.int .u64 (ny:Int)) by simpa using D1.o);have c2:=(t5.cell 2).trans (show L.toArray[2]? =some (.slice Ab nb cb) by simpa using D2.o);have c3:=(t5.cell 3).trans (show L.toArray[3]? =some (.slice Ah nh ch) by simpa using D3.o);go_wp2_with fail
    refine(qcy G G ky 1 [] _ hw5 zo (by first|omega|simp)).mono ?_;rintro e w6 ⟨rfl,hww6,hbw6,-⟩;rw[show qb0 1=1 from rfl]at hww6;obtain⟨X1,hxX1⟩:=eqx ([]++be ky 1);rw[←hxX1]at hww6;have lxX1:X1.length≤1:=by rw[hxX1,tA6];first|(rw[qaw];omega)|(simp only[List.length_nil];rw[qaw];omega)
    have AE:=zh1 hxX1;clear hxX1;have hb6:=hbw6;have AU:=A8.trans hb6;have t6:=T4.below AU T4lt.o;have c0:=(t6.cell 0).trans (show L.toArray[0]? =some (.int .i64 (ky:Int)) by simpa using D0.o);have c1:=(t6.cell 1).trans (show L.toArray[1]? =some (.int .u64 (ny:Int)) by simpa using D1.o);have c2:=(t6.cell 2).trans (show L.toArray[2]? =some (.slice Ab nb cb) by simpa using D2.o);have c3:=(t6.cell 3).trans (show L.toArray[3]? =some (.slice Ah nh ch) by simpa using D3.o);clear c0 c2 c3 hw5;go_wp2_with fail
    refine(qcy G G ny 8 X1 _ hww6 zo (by first|omega|simp)).mono ?_;rintro e w7 ⟨rfl,hww7,hbw7,-⟩;rw[show qb0 8=8 from rfl]at hww7;obtain⟨X2,hxX2⟩:=eqx (X1++be ny 8);rw[←hxX2]at hww7;have lxX2:X2.length≤9:=by rw[hxX2,tA6];first|(rw[qaw];omega)|(simp only[List.length_nil];rw[qaw];omega)
    have AF:=zh1 hxX2;clear hxX2;have hb7:=hbw7;clear c1;have AM:=AU.trans hb7;have t7:=T4.below AM T4lt.o;have c0:=(t7.cell 0).trans (show L.toArray[0]? =some (.int .i64 (ky:Int)) by simpa using D0.o);have c1:=(t7.cell 1).trans (show L.toArray[1]? =some (.int .u64 (ny:Int)) by simpa using D1.o);have c2:=(t7.cell 2).trans (show L.toArray[2]? =some (.slice Ab nb cb) by simpa using D2.o);have c3:=(t7.cell 3).trans (show L.toArray[3]? =some (.slice Ah nh ch) by simpa using D3.o);clear c0 c1 c3 hww6;go_wp2_with fail
    refine(qd3 G G X2 bs Ab nb cb _ hww7 zo (AK.below AM) zo (by unfold maxLen;omega)).mono ?_;rintro e w8 ⟨rfl,hww8,hb8,-⟩;obtain⟨X3,hxX3⟩:=eqx (X2++txt bs);rw[←hxX3]at hww8;have lxX3:X3.length≤65546:=by rw[hxX3,tA6];first| (have:=qix bs;have:=BB.o;omega)|(simp only[List.length_nil];have:=qix bs;have:=BB.o;omega)
    have AG:=zh1 hxX3;clear hxX3;clear c2;have AV:=AM.trans hb8;have t8:=T4.below AV T4lt.o;have c0:=(t8.cell 0).trans (show L.toArray[0]? =some (.int .i64 (ky:Int)) by simpa using D0.o);have c1:=(t8.cell 1).trans (show L.toArray[1]? =some (.int .u64 (ny:Int)) by simpa using D1.o);have c2:=(t8.cell 2).trans (show L.toArray[2]? =some (.slice Ab nb cb) by simpa using D2.o);have c3:=(t8.cell 3).trans (show L.toArray[3]? =some (.slice Ah nh ch) by simpa using D3.o);clear c0 c1 c2 hww7;go_wp2_with fail
    refine(qcy G G nh 1 X3 _ hww8 zo (by first|omega|simp)).mono ?_;rintro e w9 ⟨rfl,hww9,hbw9,-⟩;rw[show qb0 1=1 from rfl]at hww9;obtain⟨X4,hxX4⟩:=eqx (X3++be nh 1);rw[←hxX4]at hww9;have lxX4:X4.length≤65547:=by rw[hxX4,tA6];first|(rw[qaw];omega)|(simp only[List.length_nil];rw[qaw];omega)
    have AH:=zh1 hxX4;clear hxX4;have hb9:=hbw9;clear c3;have AW:=AV.trans hb9;have t9:=T4.below AW T4lt.o;have c0:=(t9.cell 0).trans (show L.toArray[0]? =some (.int .i64 (ky:Int)) by simpa using D0.o);have c1:=(t9.cell 1).trans (show L.toArray[1]? =some (.int .u64 (ny:Int)) by simpa using D1.o);have c2:=(t9.cell 2).trans (show L.toArray[2]? =some (.slice Ab nb cb) by simpa using D2.o);have c3:=(t9.cell 3).trans (show L.toArray[3]? =some (.slice Ah nh ch) by simpa using D3.o);clear c0 c1 c2 hww8;have BR:Hid (X4=be ky 1++(be ny 8++(txt bs++be nh 1))):=by
     unfold Hid;rw[AH.o,AG.o,AF.o,AE.o];simp[List.append_assoc]
    have C1:=lxX4;obtain⟨HF,BE⟩:=zh2 AW hww9;clear AD A8 AU AM AV hb5 hbw6 hb6 hbw7 hb7 hb8 hbw9 hb9 t5 t6 t7 t8 lxX1 lxX2 lxX3 lxX4 AE AF AG AH AW hww9 AK;go_wp2
    go_loopw [82] (fun i wr=>∃k:Nat,k≤nh∧i=.int .i64 k∧Hid (Wri wr G G (X4++(hs.take k).flatten))∧Hid (Below G w4 wr)) (fun i _=>nh - (intOf i).toNat)
    case atStart=>exact⟨0,by omega,rfl,by simpa using BE,HF⟩
    case round=>
     clear t9 c3 HF BE;obtain⟨k,hk,rfl,hwr,hfr⟩:=hrel;have tr:=T4.below hfr.o T4lt.o;have hlw:w.heap.size<wr.heap.size:=by have:=tr.lt;omega
     by_cases hlt:k<nh
     ·
      have hx:∃d,hs[k]? =some d:=⟨_,tA7 (by rw[AQ.o];exact hlt)⟩;obtain⟨d,hd⟩:=hx;have hdm:=tB2 hd;have hdl:=(AB.o d hdm).1;obtain⟨b,o,rfl,hab,hcell⟩:=(AL.below hfr.o).mid zo zo;have RG:=zh1 (show wr.rangeAt b (o+k*32) (byv d) from fun j u hu=>by
       have:=hcell _ u (qlv hs (fun x hx=>(AB.o x hx).1) k d hd j u hu);rwa[←Nat.add_assoc]at this)
      have m0:wr.cell? ⟨b,o+k*32,none⟩=wr.cell? ⟨b,o+k*32,none⟩:=rfl;obtain⟨ID,ID',Zr,LD⟩:=zh4 (show (Tryz.prog.info? 29).map (·.size)=some (byv d).length by rw[qat,hdl];exact Tryz.digest_info) (show (Tryz.prog.info? 29).map (·.size)=some (byv d).toArray.size by rw[tB6,qat,hdl];exact Tryz.digest_info) (Blk.new wr 29 zLD) (show (byv d).length=32 by rw[qat,hdl]);have hGr:G≤wr.heap.size:=by
       obtain⟨v,hg,hB,-⟩:=hwr.o;have:=hg.lt;omega
      obtain⟨HD,BS,BT⟩:=zh3 hd hdl (xbh hs k (fun x hx=>(AB.o x hx).1));clear m0 hcell hdm hd hdl hab;go_upto_region 17 with(first
       |(refine zld RG.o zu29 ID.o ?_)
       |(refine wpList_store_row rfl 29 (.tmp 9) (.tmp 85) rfl wr.heap.size (byv d).toArray rfl rfl 29 _ Zr.o ID'.o (by simp[LD.o]) (all_oneCell_toArray (qau d)) ?_))
      obtain⟨ws,hs1⟩:=eqx ((wr.alloc (.cells zLD 29)).setRow wr.heap.size (byv d).toArray);rw[←hs1];have us:Blk ws wr.heap.size 29 (byv d).toArray:=by rw[hs1];exact Zr.setRow _
      have bs1:Below wr.heap.size wr ws:=by rw[hs1];exact below_setRow ((tA5 _ _).alloc (tA4 _) _) (tA4 _) _
      have fs:=hfr.trans (bs1.mono hGr);obtain⟨BF,BG,FS⟩:=zh3 (hwr.kept_call bs1) (qap us 0 (byv d) zjq) fs;clear hs1 us bs1 fs Zr RG hwr hfr tr;go_wp2_with (refine zld BG.o zu29 ID.o ?_)
      refine(qd4 G G _ d ws BF.o (by rw[tA6,BT.o];omega) BS.o).mono ?_;rintro e wt ⟨rfl,hwt,hbt,-⟩;have BU:=zh1 (show Wri wt G G (X4++(hs.take (k+1)).flatten) by
       rw[List.take_add_one,HD.o];simpa [List.append_assoc] using hwt)
      have FT:=zh1 (FS.trans hbt);clear hwt hbt FS BF BG;go_wp2
      go_roundw
      case rel=>exact⟨k+1,by omega,by go_num,BU.o,FT.o⟩
      case measure=>simp[intOf];omega
     obtain rfl:nh=k:=zo;have hfl:hs.take nh=hs:=tB5 (by rw[AQ.o];exact tA4 _);have lf:=xbh hs nh (fun x hx=>(AB.o x hx).1);rw[hfl]at hwr lf;rw[Nat.min_eq_left (by rw[AQ.o];exact tA4 _)]at lf;obtain⟨X5,hX5⟩:=eqx (X4++hs.flatten);rw[←hX5]at hwr;have lX5:X5.length≤74000:=by rw[hX5,tA6,lf];omega
     obtain⟨BV,RS⟩:=zh2 hX5 (qap tr 4 S DH.o);obtain⟨Z0,hZ0⟩:=xeq (hdv Hd.zero);have kneq:=AP.o;have hbz:=qly;rw[hZ0]at kneq hbz;have BZ:=zh1 hbz;have GWr:=hwr;clear hX5 hfl lf hZ0 hbz AL AB;go_upto_if 93 with(first
      |(refine zld RS.o zu55 IS.o ?_)
      |(refine qbj rfl ⟨.agg Z0.toArray,qgn 55 _ rfl _ _ BZ.o (by simp[Act.eval]),?_⟩))
     clear kneq;obtain⟨f1,hf1⟩:∃f1:Nat,Hid (f1=if zh then 0 else 1):=⟨_,rfl⟩;go_cut [10] (fun s10 wx=>s10=.int .i64 f1∧wx=wr)
     case first=>
      cases zh<;>(have e1:=hf1.o;simp at e1;subst e1;go_wp2;go_meet;case rel=>exact⟨rfl,rfl⟩)
     case rest=>
      obtain⟨rfl,rfl⟩:=hcut;obtain⟨wr,rfl⟩:=eqx wc;have RT:=zh1 (qap tr 72 T DT.o);go_wp2_with (refine zld RT.o zu31 IT.o ?_)
      refine zcb (AA.o wr) fun wa ba=>?_
      have hGr:G≤wr.heap.size:=by
       obtain⟨v,hg,hB,-⟩:=hwr.o;have:=hg.lt;omega
      obtain⟨BH,FA⟩:=zh2 (hwr.kept_call ba) (hfr.trans (ba.mono hGr));clear ba tr RS RT hwr hfr GWr;go_upto_if 99 with(fail)
      obtain⟨f,hf⟩:∃f:Nat,f=(if zh then 0 else 1)+(if zt then 0 else 2):=⟨_,rfl⟩;have hf3:f≤3:=by rw[hf];cases zh<;>cases zt<;>simp
      have AN:=zh1 hf;clear hf;go_cut [10] (fun s10 wx=>s10=.int .i64 f∧wx=wa)
      case first=>
       cases zh<;>cases zt<;>(have e1:=hf1.o;have e2:=AN.o;simp at e1 e2;subst e1;subst e2;go_wp2;go_meet;case rel=>exact⟨rfl,rfl⟩)
      case rest=>
       obtain⟨rfl,rfl⟩:=hcut;obtain⟨wa,rfl⟩:=eqx wc;have hwa:=BH.o;go_wp2_with fail
       refine(qcy G G f 1 X5 _ hwa zo (by first|omega|simp)).mono ?_;rintro e wb ⟨rfl,hwwb,hbwb,-⟩;rw[show qb0 1=1 from rfl]at hwwb;obtain⟨X6,hxX6⟩:=eqx (X5++be f 1);rw[←hxX6]at hwwb;have lxX6:X6.length≤74001:=by rw[hxX6,tA6];first|(rw[qaw];omega)|(simp only[List.length_nil];rw[qaw];omega)
       have AX:=zh1 hxX6;clear hxX6;obtain⟨FBb,AY⟩:=zh2 (FA.trans hbwb) hwwb;clear hwa hwwb hbwb BH FA;go_upto_region 25 with(fail)
       go_cut [108] (fun s wx=>s=.bool (!zh)∧wx=wb)
       case first=>
        cases zh<;>cases zt<;>(have e2:=AN.o;simp at e2;subst e2;go_wp2;go_meet;case rel=>exact⟨rfl,rfl⟩)
       case rest=>
        obtain⟨rfl,rfl⟩:=hcut;obtain⟨wb,rfl⟩:=eqx wc;go_upto_if 108 with(fail)
        obtain⟨A4,hHB1⟩:=eqx (if zh then [] else hdB R.hd);have A5:=zh1 hHB1;clear hHB1;go_cut [] (fun wx=>Hid (Wri wx G G (X6++A4))∧Hid (Below G w4 wx))
        case first=>
         cases zh with
         |true=>
          have e:A4=[]:=A5.o;subst e;go_wp2
          go_meet
          case rel=>exact⟨by simpa using AY,FBb⟩
         |false=>
          have e:A4=hdB R.hd:=A5.o;have hww:=AY.o;have BW:=FBb.o;have hb0:=tA5 G wb;have AZ:=BW.trans hb0;have t0:=T4.below AZ T4lt.o;have c0:=(t0.cell 0).trans (show L.toArray[0]? =some (.int .i64 (ky:Int)) by simpa using D0.o);have c1:=(t0.cell 1).trans (show L.toArray[1]? =some (.int .u64 (ny:Int)) by simpa using D1.o);have c2:=(t0.cell 2).trans (show L.toArray[2]? =some (.slice Ab nb cb) by simpa using D2.o);have c3:=(t0.cell 3).trans (show L.toArray[3]? =some (.slice Ah nh ch) by simpa using D3.o);have u0:=U4.below AZ U4lt.o;have h0:=(u0.cell 0).trans (show H.toArray[0]? =some (.int .i64 (lt:Int)) by simpa using E0.o);have h1:=(u0.cell 1).trans (show H.toArray[1]? =some (.int .i64 (le:Int)) by simpa using E1.o);have h2:=(u0.cell 2).trans (show H.toArray[2]? =some (.int .u64 (ks:Int)) by simpa using E2.o);have h3:=(u0.cell 3).trans (show H.toArray[3]? =some (.int .u64 (kc:Int)) by simpa using E3.o);go_wp2_with fail
          refine(qcy G G lt 1 X6 _ hww zo (by first|omega|simp)).mono ?_;rintro e v1 ⟨rfl,hwv1,hbv1,-⟩;rw[show qb0 1=1 from rfl]at hwv1;obtain⟨Y1,hxY1⟩:=eqx (X6++be lt 1);rw[←hxY1]at hwv1;have lxY1:Y1.length≤74002:=by rw[hxY1,tA6];first|(rw[qaw];omega)|(simp only[List.length_nil];rw[qaw];omega)
          have B2:=zh1 hxY1;clear hxY1;clear c0 c1 c2 c3 h0 h1 h2 h3;have hb1:=hbv1;have BI:=AZ.trans hb1;have u1:=U4.below BI U4lt.o;have h0:=(u1.cell 0).trans (show H.toArray[0]? =some (.int .i64 (lt:Int)) by simpa using E0.o);have h1:=(u1.cell 1).trans (show H.toArray[1]? =some (.int .i64 (le:Int)) by simpa using E1.o);have h2:=(u1.cell 2).trans (show H.toArray[2]? =some (.int .u64 (ks:Int)) by simpa using E2.o);have h3:=(u1.cell 3).trans (show H.toArray[3]? =some (.int .u64 (kc:Int)) by simpa using E3.o);go_wp2_with fail
          refine(qcy G G le 4 Y1 _ hwv1 zo (by first|omega|simp)).mono ?_;rintro e v2 ⟨rfl,hwv2,hbv2,-⟩;rw[show qb0 4=4 from rfl]at hwv2;obtain⟨Y2,hxY2⟩:=eqx (Y1++be le 4);rw[←hxY2]at hwv2;have lxY2:Y2.length≤74006:=by rw[hxY2,tA6];first|(rw[qaw];omega)|(simp only[List.length_nil];rw[qaw];omega)
          have B3:=zh1 hxY2;clear hxY2;clear h0 h1 h2 h3;have hb2:=hbv2;have BJ:=BI.trans hb2;have u2:=U4.below BJ U4lt.o;have h0:=(u2.cell 0).trans (show H.toArray[0]? =some (.int .i64 (lt:Int)) by simpa using E0.o);have h1:=(u2.cell 1).trans (show H.toArray[1]? =some (.int .i64 (le:Int)) by simpa using E1.o);have h2:=(u2.cell 2).trans (show H.toArray[2]? =some (.int .u64 (ks:Int)) by simpa using E2.o);have h3:=(u2.cell 3).trans (show H.toArray[3]? =some (.int .u64 (kc:Int)) by simpa using E3.o);go_wp2_with fail
          refine(qcy G G ks 8 Y2 _ hwv2 zo (by first|omega|simp)).mono ?_;rintro e v3 ⟨rfl,hwv3,hbv3,-⟩;rw[show qb0 8=8 from rfl]at hwv3;obtain⟨Y3,hxY3⟩:=eqx (Y2++be ks 8);rw[←hxY3]at hwv3;have lxY3:Y3.length≤74014:=by rw[hxY3,tA6];first|(rw[qaw];omega)|(simp only[List.length_nil];rw[qaw];omega)
          have B5:=zh1 hxY3;clear hxY3;clear h0 h1 h2 h3;have hb3:=hbv3;have BK:=BJ.trans hb3;have u3:=U4.below BK U4lt.o;have h0:=(u3.cell 0).trans (show H.toArray[0]? =some (.int .i64 (lt:Int)) by simpa using E0.o);have h1:=(u3.cell 1).trans (show H.toArray[1]? =some (.int .i64 (le:Int)) by simpa using E1.o);have h2:=(u3.cell 2).trans (show H.toArray[2]? =some (.int .u64 (ks:Int)) by simpa using E2.o);have h3:=(u3.cell 3).trans (show H.toArray[3]? =some (.int .u64 (kc:Int)) by simpa using E3.o);go_wp2_with fail
          refine(qcy G G kc 8 Y3 _ hwv3 zo (by first|omega|simp)).mono ?_;rintro e v4 ⟨rfl,hwv4,hbv4,-⟩;rw[show qb0 8=8 from rfl]at hwv4;obtain⟨Y4,hxY4⟩:=eqx (Y3++be kc 8);rw[←hxY4]at hwv4;have lxY4:Y4.length≤74022:=by rw[hxY4,tA6];first|(rw[qaw];omega)|(simp only[List.length_nil];rw[qaw];omega)
          have B6:=zh1 hxY4;clear hxY4;clear h0 h1 h2 h3;have hb4:=hbv4;have AD:=BK.trans hb4;have u4:=U4.below AD U4lt.o;have h0:=(u4.cell 0).trans (show H.toArray[0]? =some (.int .i64 (lt:Int)) by simpa using E0.o);have h1:=(u4.cell 1).trans (show H.toArray[1]? =some (.int .i64 (le:Int)) by simpa using E1.o);have h2:=(u4.cell 2).trans (show H.toArray[2]? =some (.int .u64 (ks:Int)) by simpa using E2.o);have h3:=(u4.cell 3).trans (show H.toArray[3]? =some (.int .u64 (kc:Int)) by simpa using E3.o);have RR:=zh1 (qap u4 4 (byv rt) HQ.o);go_wp2_with (refine zld RR.o zu29 IR.o ?_)
          refine(qd4 G G Y4 rt v4 hwv4 zo AJ.o).mono ?_;rintro e v5 ⟨rfl,hwv5,hb5,-⟩;obtain⟨Y5,hxY5⟩:=eqx (Y4++rt);rw[←hxY5]at hwv5;have lxY5:Y5.length≤74054:=by rw[hxY5,tA6];first|(rw[AJ.o];omega)|(simp only[List.length_nil];rw[AJ.o];omega)
          have B7:=zh1 hxY5;clear hxY5;clear h0 h1 h2 h3;have A8:=AD.trans hb5;have t5:=T4.below A8 T4lt.o;have c0:=(t5.cell 0).trans (show L.toArray[0]? =some (.int .i64 (ky:Int)) by simpa using D0.o);have c1:=(t5.cell 1).trans (show L.toArray[1]? =some (.int .u64 (ny:Int)) by simpa using D1.o);have c2:=(t5.cell 2).trans (show L.toArray[2]? =some (.slice Ab nb cb) by simpa using D2.o);have c3:=(t5.cell 3).trans (show L.toArray[3]? =some (.slice Ah nh ch) by simpa using D3.o);have BX:=zh1 (qap t5 40 (byv tg) (fun j u hu=>by
           have:=DH.o (36+j) u (HG.o j u hu);rwa[←Nat.add_assoc]at this))
          go_wp2_with (refine zld BX.o zu29 IG.o ?_)
          refine(qd4 G G Y5 tg v5 hwv5 zo BC.o).mono ?_;rintro e v6 ⟨rfl,hwv6,hb6,-⟩;have BY:=zh1 (show Wri v6 G G (X6++A4) by
           rw[e,BA.o];have:=hwv6;rw[B7.o,B6.o,B5.o,B3.o,B2.o]at this;simpa [List.append_assoc] using this)
          have FV:=zh1 (A8.trans hb6);clear c0 c1 c2 c3 hwv6 hb6;go_wp2
          go_meet
          case rel=>exact⟨BY.o,FV.o⟩
        case rest=>
         obtain⟨B8,FC⟩:=hcut;obtain⟨wd,rfl⟩:=eqx wc;clear AY FBb;have lHB:A4.length≤85:=by
          rw[A5.o];split
          · simp
          rw[BA.o];simp only[tA6,qaw,AJ.o,BC.o];omega
         go_upto_region 32 with(fail)
         go_cut [138] (fun s wx=>s=.bool (!zt)∧wx=wd)
         case first=>
          cases zh<;>cases zt<;>(have e2:=AN.o;simp at e2;subst e2;go_wp2;go_meet;case rel=>exact⟨rfl,rfl⟩)
         case rest=>
          obtain⟨rfl,rfl⟩:=hcut;obtain⟨wd,rfl⟩:=eqx wc;go_upto_if 138 with(fail)
          obtain⟨A9,hTB1⟩:=eqx (if zt then [] else txt tb);have A6:=zh1 hTB1;clear hTB1;go_cut [] (fun wx=>Hid (Wri wx G G (X6++A4++A9))∧Hid (Below G w4 wx))
          case first=>
           cases zt with
           |true=>
            have e:A9=[]:=A6.o;subst e;go_wp2
            go_meet
            case rel=>exact⟨by simpa using B8,FC⟩
           |false=>
            have e:A9=txt tb:=A6.o;subst e;go_wp2_with fail
            refine(qd3 G G (X6++A4) tb At nt ct _ B8.o (by rw[tA6];omega) (AT.below FC.o) nct mct).mono ?_;rintro e we ⟨rfl,hwe,hbe,-⟩;obtain⟨AI,FE⟩:=zh2 hwe (FC.trans hbe);clear hwe hbe;go_wp2
            go_meet
            case rel=>exact⟨AI.o,FE.o⟩
          case rest=>
           obtain⟨AI,FE⟩:=hcut;obtain⟨we,rfl⟩:=eqx wc;clear B8 FC;have lTB:A9.length≤62:=by
            rw[A6.o];split
            · simp
            have:=qix tb;omega
           have hAB:X6++A4++A9=ansB R:=by
            rw[BL.o,AX.o,BV.o,BR.o,BM.o,←AN.o,A5.o,A6.o,tBe];simp only[List.append_assoc]
           have hlen:(X6++A4++A9).length≤140737488355328:=by simp only[tA6];omega
           rw[hAB]at AI hlen;have B9:=zh1 hlen;have hGe:w.heap.size≤we.heap.size:=tB1 B4.size FE.size;clear hAB hlen;go_wp2_with fail
           refine(qd1 G G _ we AI.o B9.o).mono ?_;rintro e wf ⟨vf,rfl,ownf,hbf⟩;obtain⟨HO,C0⟩:=zh2 (show OwnB wf w.heap.size vf (ansB R) from qdb ownf hGe) ((B4.trans (FE.mono gG3)).trans (hbf.mono hGe));clear ownf hbf AI FE;go_wp2
           go_ret2
           exact⟨_,by rw[HX.o];rfl,by rw[HX.o];exact HO.o,C0.o⟩
   have hn:((tw:Int)==0)=false:=by simpa using q8
   have hn2:((tw:Int) != 0)=true:=by simpa using q8
   have HN:Hid (qis R=(1,[])):=by
    unfold Hid;rw[A2.o,if_neg (fun h=>q8 h.2)]
   go_wp2_with fail
   refine zca (qhw _ _) ?_;rw[decide_eq_true q4];go_wp2_with fail
   refine zca (qhw _ _) ?_;rw[decide_eq_true q5];go_wp2
   go_ret2
   exact⟨_,by rw[HN.o];rfl,by rw[HN.o];exact OwnB.nil _ _,B4.o⟩
  have HN:Hid (qis R=(1,[])):=by
   unfold Hid;rw[A2.o,if_neg];rw[A7.o];simp;omega
  go_wp2_with fail
  refine zca (qhw _ _) ?_;rw[decide_eq_true q4];go_wp2_with fail
  refine zca (qhw _ _) ?_;rw[decide_eq_false q5];go_wp2
  go_ret2
  exact⟨_,by rw[HN.o];rfl,by rw[HN.o];exact OwnB.nil _ _,B4.o⟩
 have HN:Hid (qis R=(1,[])):=by
  unfold Hid;rw[A2.o,if_neg];rw[A7.o];simp;omega
 go_wp2_with fail
 refine zca (qhw _ _) ?_;rw[decide_eq_false q4];go_wp2
 go_ret2
 exact⟨_,by rw[HN.o];rfl,by rw[HN.o];exact OwnB.nil _ _,B4.o⟩
theorem xc4(id:Nat)(v:Value)(t tag:List Nat)(h:t.length=32)(h':tag.length=32):(tokv id v t).take 2++(byv tag++(tokv id v t).drop (2+(byv tag).length))=tokv id v tag:=by
 rw[qat,h',List.drop_eq_nil_of_le (by rw[qdc _ _ _ h];omega)];simp[tokv]
structure NInv (B id:Nat)(l:List (Int × Nat))(c:Int × Nat)(D:Nat→Bool)(x21 x24 x26 x27 x28 x8:Value)(w:World):Prop where
 fB:B≤w.heap.size
 f2:D 2=true→D 5=false→OwnC w B x21 []
 f5:D 5=true→D 8=false→OwnC w B x24 l
 f7:D 7=true→D 8=false→∃h,x26=.slice (some ⟨h,0,none⟩) 1 1∧Blk w h 132 #[.int .i64 c.1,.int .u32 (c.2:Int)]∧(D 2=true→D 5=false→x21.ownBlock≠some h)
 f8:D 8=true→OwnC w B x27 (l++[c])
 f58:D 8=true→D 5=true
 f9:D 9=true→D 8=true∧∃A n c',x27=.slice A n c'∧x28=.agg (tokv id x27 (List.replicate 32 0)).toArray
 f10:D 10=true→∃g,x8=.pointer (some ⟨g,0,none⟩)∧Blk w g 31 qgv.toArray∧B≤g
section
variable {B id : Nat} {l : List (Int × Nat)} {c : Int × Nat} {D : Nat → Bool} {x21 x24 x26 x27 x28 x8 : Value} {w w' : World}
theorem NInv.below(h:NInv B id l c D x21 x24 x26 x27 x28 x8 w)(hb:Zb w w'):NInv B id l c D x21 x24 x26 x27 x28 x8 w':=
 ⟨tB1 h.fB hb.size,fun a b=>(h.f2 a b).kept hb,fun a b=>(h.f5 a b).kept hb,fun a b=>by obtain⟨g,h1,h2,h3⟩:=h.f7 a b;exact⟨g,h1,h2.below hb h2.lt,h3⟩,fun a=>(h.f8 a).kept hb,h.f58,h.f9,
  fun a=>by obtain⟨g,h1,h2,h3⟩:=h.f10 a;exact⟨g,h1,h2.below hb h2.lt,h3⟩⟩
theorem NInv.op2(h:NInv B id l c D x21 x24 x26 x27 x28 x8 w)(h2:D 2=false):
 NInv B id l c (fun j=>D j||j==2) (.slice (some ⟨w.heap.size,0,none⟩) 0 0) x24 x26 x27 x28 x8 (w.alloc (.cells #[] 132)):=by
 have k:=h.below (w':=w.alloc (.cells #[] 132)) ((tA5 _ _).alloc (tA4 _) _);refine⟨k.fB,?_,by simpa using k.f5,?_,by simpa using k.f8,by simpa using k.f58,by simpa using k.f9,by simpa using k.f10⟩
 · intro _ _
   exact OwnC.mono (OwnC.made w [] (by simp[maxLen])) h.fB
 intro a b;obtain⟨g,g1,g2,g3⟩:=h.f7 (by simpa using a) (by simpa using b);refine⟨g,g1,g2.alloc _,fun _ _ e=>?_⟩;have:=g2.lt;simp only[Value.ownBlock,Option.some.injEq]at e;omega
theorem NInv.op7(h:NInv B id l c D x21 x24 x26 x27 x28 x8 w)(h7:D 7=false):
 NInv B id l c (fun j=>D j||j==7) x21 x24 (.slice (some ⟨w.heap.size,0,none⟩) 1 1) x27 x28 x8 (w.alloc (.cells #[.int .i64 c.1,.int .u32 (c.2:Int)] 132)):=by
 have k:=h.below (w':=w.alloc (.cells #[.int .i64 c.1,.int .u32 (c.2:Int)] 132)) ((tA5 _ _).alloc (tA4 _) _);refine⟨k.fB,by simpa using k.f2,by simpa using k.f5,?_,by simpa using k.f8,by simpa using k.f58,by simpa using k.f9,by simpa using k.f10⟩;intro _ _;refine⟨w.heap.size,rfl,Blk.new _ _ _,fun a b e=>?_⟩;have:=(World.ownsRow.lt (h.f2 (by simpa using a) (by simpa using b)) _ e).2;omega
theorem NInv.op5(h:NInv B id l c D x21 x24 x26 x27 x28 x8 w)(h5:D 5=false)(h2:D 2=true)(ho:OwnC w' B v l)(hb:Below B w w')(hg:w.grownBy w' x21.ownBlock):
 NInv B id l c (fun j=>D j||j==5) x21 v x26 x27 x28 x8 w':=by
 have h8:D 8=false:=by
  rcases Bool.eq_false_or_eq_true (D 8) with e|e
  · rw[h.f58 e]at h5;cases h5
  exact e
 refine⟨tB1 h.fB hg.size,by simp,fun _ _=>ho,?_,by simp[h8],by simp,?_,?_⟩
 · intro a b
   obtain⟨g,g1,g2,g3⟩:=h.f7 (by simpa using a) h8;exact⟨g,g1,g2.grown hg (fun e=>g3 h2 h5 e.symm),by simp⟩
 · intro a
   have:=(h.f9 (by simpa using a)).1;rw[h8]at this;cases this
 intro a;obtain⟨g,g1,g2,g3⟩:=h.f10 (by simpa using a);exact⟨g,g1,g2.grown hg (fun e=>qa3 (h.f2 h2 h5) g2 zdc e.symm),g3⟩
theorem NInv.op8(h:NInv B id l c D x21 x24 x26 x27 x28 x8 w)(h8:D 8=false)(h5:D 5=true)(ho:OwnC w' B v (l++[c]))(hb:Below B w w')(hg:w.grownBy w' x24.ownBlock):
 NInv B id l c (fun j=>D j||j==8) x21 x24 x26 v x28 x8 w':=by
 refine⟨tB1 h.fB hg.size,by simp[h5],by simp,by simp,fun _=>ho,by simp[h5],?_,?_⟩
 · intro a
   have:=(h.f9 (by simpa using a)).1;rw[h8]at this;cases this
 intro a;obtain⟨g,g1,g2,g3⟩:=h.f10 (by simpa using a);exact⟨g,g1,g2.grown hg (fun e=>qa3 (h.f5 h5 h8) g2 zdc e.symm),g3⟩
theorem NInv.op9(h:NInv B id l c D x21 x24 x26 x27 x28 x8 w)(h8:D 8=true)(e:x27=.slice A n c'):
 NInv B id l c (fun j=>D j||j==9) x21 x24 x26 x27 (.agg (tokv id x27 (List.replicate 32 0)).toArray) x8 w:=by
 exact⟨h.fB,by simpa using h.f2,by simpa using h.f5,by simpa using h.f7,by simpa using h.f8,by simpa using h.f58,fun _=>⟨by simpa using h8,A,n,c',e,rfl⟩,by simpa using h.f10⟩
theorem NInv.op10(h:NInv B id l c D x21 x24 x26 x27 x28 x8 w):
 NInv B id l c (fun j=>D j||j==10) x21 x24 x26 x27 x28 (.pointer (some ⟨w.heap.size,0,none⟩)) (w.alloc (.cells qgv.toArray 31)):=by
 have k:=h.below (w':=w.alloc (.cells qgv.toArray 31)) ((tA5 _ _).alloc (tA4 _) _);exact⟨k.fB,by simpa using k.f2,by simpa using k.f5,by simpa using k.f7,by simpa using k.f8,by simpa using k.f58,by simpa using k.f9,fun _=>⟨_,rfl,Blk.new _ _ _,h.fB⟩⟩
end
theorem xc5(n m:Int)(hm:0<m)(hn:n<0):(n.tmod m=0∧n % m=0)∨(-m<n.tmod m∧n.tmod m<0∧n % m=n.tmod m+m):=by
 have h1:n.tmod m=n % m - ((if 0≤n∨m ∣ n then 0 else m.natAbs:Nat):Int):=Int.tmod_eq_emod;have h2:=Int.emod_nonneg n (b:=m) zo;have h3:=Int.emod_lt_of_pos n hm;by_cases hd:m ∣ n
 · left
   have h4:=Int.emod_eq_zero_of_dvd hd;rw[if_pos (.inr hd)]at h1;omega
 right;have h4:n % m≠0:=fun h=>hd (Int.dvd_of_emod_eq_zero h)
 rw[if_neg zo]at h1;omega
def xc6 (n lo hi:Int):Int:=lo+n % (hi - lo+1)
theorem xc7(n lo hi:Int)(h:lo≤hi):lo≤xc6 n lo hi∧xc6 n lo hi≤hi:=by
 unfold xc6;have h1:=Int.emod_nonneg n (b:=hi - lo+1) zo;have h2:=Int.emod_lt_of_pos n (show 0<hi - lo+1 by omega);omega
theorem xc8(n lo hi:Int)(w:World)(h0:0≤lo)(h1:lo≤hi)(h2:hi≤1000000)(n1: -9223372036854775808≤n)(n2:n≤9223372036854775807):
 Zc 23 #[.int .i64 n,.int .i64 lo,.int .i64 hi] w fun e w'=>e=.returned (.int .i64 (xc6 n lo hi))∧w=w':=by
 have H:Hid (xc6 n lo hi=lo+n % (hi - lo+1)):=rfl;by_cases hn:0≤n
 ·
  have a1:=Int.emod_nonneg n (b:=hi - lo+1) zo;have a2:=Int.emod_lt_of_pos n (show 0<hi - lo+1 by omega);have hnn:¬n % (hi - lo+1)<0:=zo;go_enter Tryz.func23,Tryz.ntmps23
  go_wp2
  go_ret
  exact⟨qcw (by rw[H.o]),rfl⟩
 have hm:0<hi - lo+1:=zo;rcases xc5 n (hi - lo+1) hm zo with⟨e1,e2⟩|⟨e1,e2,e3⟩
 ·
  have E2:=zh1 e2;clear e2;go_enter Tryz.func23,Tryz.ntmps23
  go_wp2
  go_ret
  exact⟨qcw (by rw[H.o,E2.o];omega),rfl⟩
 have E3:=zh1 e3;clear e3;go_enter Tryz.func23,Tryz.ntmps23
 go_wp2
 go_ret
 exact⟨qcw (by rw[H.o,E3.o];omega),rfl⟩
def rootb (c:Nat):List Nat:=c::1::2::List.replicate 29 0
theorem xc9(id:Nat)(A:Option Addr)(n c:Nat)(tag:List Nat)(h:tag.length=32):
 ∃L,tokv id (.slice A n c) tag=L∧L.length=34∧(∀u∈L,u.oneCell'=true)∧(Tryz.prog.info? 31).map (·.size)=some L.toArray.size:=by
 refine⟨_,rfl,qdc _ _ _ h,qed _ _ rfl _,?_⟩;rw[tB6,qdc _ _ _ h];exact Tryz.tok_info
theorem xca{k:Int}(h:Blk w g 132 #[.int .i64 k,.int .u32 (N:Int)]):Reads w w.heap.size 2 (some ⟨g,0,none⟩) 1 (cavv [(k,N)]):=by
 refine⟨rfl,fun _=>⟨_,rfl,h.lt,fun j u hu=>?_⟩⟩;rw[Addr.add_mid,h.cell (0+j)];simpa [cavv] using hu
theorem xcb(id:Nat)(A:Option Addr)(n c:Nat):Tryz.prog.built 31 [(0,.int .u32 id),(1,.slice A n c)]=some (tokv id (.slice A n c) (List.replicate 32 0)).toArray:=by kernel_rfl
theorem xcc(tb:Nat)(t:Tok)(A:Option Addr)(n c:Nat)(k:Int)(N:Nat)(w:World)(hr:Reads w w.heap.size 2 A n (cavv t.2.1))(hnc:n≤c)(hn:n≤8796093022000)(ht:t.2.2.length=32)(hb:∀x∈t.2.2,x<256)(hN:N<4294967296)(hT:RTab w tb):
 Zc 59 #[.pointer (some ⟨tb,0,none⟩),.agg (tokv t.1 (.slice A n c) t.2.2).toArray,.agg #[.int .i64 k,.int .u32 N]] w fun e w'=>∃v,e=.returned (.tuple #[.agg (tokv (qk2 t (k,N)).1.1 v (qk2 t (k,N)).1.2.2).toArray,.int .i64 ((qk2 t (k,N)).2:Nat)])∧OwnC w' w.heap.size v (qk2 t (k,N)).1.2.1∧Zb w w':=by
 have hl:t.2.1.length=n:=by have:=hr.1;rw[qea]at this;omega
 have hlen:=qdc t.1 (.slice A n c) t.2.2 ht;have d0:(tokv t.1 (.slice A n c) t.2.2)[0]? =some (.int .u32 (t.1:Int)):=rfl;have d1:(tokv t.1 (.slice A n c) t.2.2)[1]? =some (.slice A n c):=rfl;have d2:∀j u,(byv t.2.2)[j]? =some u→(tokv t.1 (.slice A n c) t.2.2)[2+j]? =some u:=fun j u h=>by
  unfold tokv;rw[show 2+j=j+1+1 by omega,tBc,tBc];exact h
 obtain⟨D,hD⟩:=xeq (tokv t.1 (.slice A n c) t.2.2);rw[hD]at hlen d0 d1 d2 ⊢;obtain⟨W0,hW0⟩:=eqx (((w.alloc (.cells D.toArray 31)).alloc (.cells #[.int .i64 k,.int .u32 N] 132)).alloc (.cells zLT 31));have t0:=zNd hW0;have v0:=zNe hW0;have z0:=zNf hW0;have b0:=zMc hW0;have tb0:RTab W0 tb:=Blk.below hT b0 (Blk.lt hT);have lW:w.heap.size+1+1<W0.heap.size:=z0.lt;have ltb:tb<w.heap.size:=Blk.lt hT;have ck:=v0.cell 0;have cs:=t0.cell 1;rw[show (#[Value.int .i64 k,.int .u32 N]:Array Value)[0]? =some (.int .i64 k) from rfl]at ck;rw[tA3,d1]at cs;obtain⟨AC,HD,AD,D0,D1,D2,T0,V0⟩:=zh8 hW0 hD hlen d0 d1 d2 t0 v0;obtain⟨Z0,B0,HR,HT,Hl⟩:=zh5 z0 b0 (hr.call b0) tb0 hl;clear hW0 hD hlen d0 d1 d2 t0 v0 z0 b0 hr hT tb0 hl;go_enter Tryz.func59,Tryz.ntmps59
 go_upto_region 1 with(fail)
 rw[←AC.o];by_cases hk:qd5 k=true
 ·
  go_upto_region 3 with((with_reducible refine(qha k _).mono ?_);(rintro _ _ ⟨rfl,rfl⟩))
  by_cases h4:n<4
  ·
   have hres:qk2 t (k,N)=((t.1,t.2.1++[(k,N)],mac t.2.2 (qk1 (k,N))),0):=by unfold qk2;rw[if_pos hk,if_pos (by rw[Hl.o];exact h4)]
   have k13:=qd6 hk;have q4:¬(n:Int) ≥ 4:=zo;have Hres:=zh1 hres;clear hres hk;obtain⟨m,rfl⟩:=Int.eq_ofNat_of_zero_le (by omega:0≤k);have ku:IntKind.u8.wrap (m:Int)=m:=IntWalk.u8_in _ zo;have nu:IntKind.u64.wrap (N:Int)=N:=tBa _ zo;obtain⟨KU,NU⟩:=zh2 ku nu;clear ku nu ck;go_upto_region 5 with(fail)
   obtain⟨S,HS⟩:=zS fun w'=>Zb W0 w'
   have F0:Hid (∀w',S w'→w'.cell? ⟨w.heap.size,0,none⟩=some (.int .u32 (t.1:Int))):=fun w' h=>by
    rw[HS.o]at h;rw[(T0.below h T0.lt).cell,tA3,D0.o]
   have F1:Hid (∀w',S w'→w'.cell? ⟨w.heap.size,1,none⟩=some (.slice A n c)):=fun w' h=>by
    rw[HS.o]at h;rw[(T0.below h T0.lt).cell,tA3,D1.o]
   have F2:Hid (∀w',S w'→w'.cell? ⟨w.heap.size+1,0,none⟩=some (.int .i64 m)):=fun w' h=>by
    rw[HS.o]at h;rw[(V0.below h V0.lt).cell];rfl
   have F3:Hid (∀w',S w'→w'.cell? ⟨w.heap.size+1,1,none⟩=some (.int .u32 N)):=fun w' h=>by
    rw[HS.o]at h;rw[(V0.below h V0.lt).cell];rfl
   have keepS:∀w' w'',S w'→W0.heap.size≤w'.heap.size→Zb w' w''→S w'':=fun w' w'' h hl hb=>by
    rw[HS.o]at h ⊢;exact h.trans (hb.mono hl)
   refine qow S 11 [21,24,26,27,28,8] [(0,false),(1,false),(3,false),(4,false),(6,false)] 6 [(2,[]),(5,[2]),(7,[]),(8,[5,7]),(9,[8]),(10,[])] [(11,true)] #[true,true,false,true,true,false,true,false,false,false,false,false] #[true,true,true,true,true,true,true,true,true,true,true,false] zk rfl zk zk zk zk zk zk (fun _ _ d _ _ h=>by cases d<;>exact h) ((HS.o _).mpr (tA5 _ W0).drew) ?_;iterate 5 (refine qjr rfl rfl ⟨?_,fun w1 hS=>?_,?_⟩;rotate_left;(focus(have g0:=F0.o w1 hS;have g1:=F1.o w1 hS;have g2:=F2.o w1 hS;have g3:=F3.o w1 hS;go_simp;try rfl));simp only[Act.put,tA0,tA1,tA2])
   refine qjq ?_;refine⟨fun Dn vs w'=>∃x21 x24 x26 x27 x28 x8,vs=[x21,x24,x26,x27,x28,x8]∧NInv W0.heap.size t.1 t.2.1 ((m:Int),N) Dn x21 x24 x26 x27 x28 x8 w',⟨[_,_,_,_,_,_],rfl,_,_,_,_,_,_,rfl,?_⟩,⟨?_,?_,?_,?_,?_,?_,trivial⟩,?_⟩
   · exact⟨tA4 _,fun h=>(nomatch h),fun h=>(nomatch h),fun h=>(nomatch h),fun h=>(nomatch h),fun h=>(nomatch h),fun h=>(nomatch h),fun h=>(nomatch h)⟩
   · rintro Dn vs w' hS ⟨x21,x24,x26,x27,x28,x8,rfl,hI⟩ hD hd
     simp only[puts,Act.put,tA0,tA1,tA2];refine qoz fun K hK=>qjn rfl rfl ?_
     go_simp;exact hK _ _ ⟨keepS _ _ hS (hI.fB) ((tA5 _ _).alloc (tA4 _) _),[_,_,_,_,_,_],rfl,_,_,_,_,_,_,rfl,hI.op2 hD⟩
   ·
    rintro Dn vs w' hS ⟨x21,x24,x26,x27,x28,x8,rfl,hI⟩ hD hd;simp only[puts,Act.put,tA0,tA1,tA2];have h2:=hd 2 zm;refine qoz fun K hK=>qjn rfl rfl ?_
    have hb':=hS;rw[HS.o]at hb';refine qgs (.tmp 21) (.tmp 23) rfl W0.heap.size _ [] rfl (hI.f2 h2 hD) A n c t.2.1 rfl (HR.call hb') (by simp;omega) hI.fB ?_;intro v5 w5 o5 b5 g5;exact hK _ _ ⟨(HS.o _).mpr (hb'.trans b5),[_,_,_,_,_,_],rfl,_,_,_,_,_,_,rfl,hI.op5 hD h2 (by simpa using o5) b5 g5⟩
   · rintro Dn vs w' hS ⟨x21,x24,x26,x27,x28,x8,rfl,hI⟩ hD hd
     simp only[puts,Act.put,tA0,tA1,tA2];refine qoz fun K hK=>qjn rfl rfl ?_
     go_simp;exact hK _ _ ⟨keepS _ _ hS (hI.fB) ((tA5 _ _).alloc (tA4 _) _),[_,_,_,_,_,_],rfl,_,_,_,_,_,_,rfl,hI.op7 hD⟩
   ·
    rintro Dn vs w' hS ⟨x21,x24,x26,x27,x28,x8,rfl,hI⟩ hD hd;simp only[puts,Act.put,tA0,tA1,tA2];have h5:=hd 5 zm;have h7:=hd 7 zm;obtain⟨g,rfl,gb,-⟩:=hI.f7 h7 hD;refine qoz fun K hK=>qjn rfl rfl ?_
    have hb':=hS;rw[HS.o]at hb';refine qgs (.tmp 24) (.tmp 26) rfl W0.heap.size _ t.2.1 rfl (hI.f5 h5 hD) _ 1 1 [((m:Int),N)] rfl (xca gb) (by have:=Hl.o;omega) hI.fB ?_;intro v5 w5 o5 b5 g5;exact hK _ _ ⟨(HS.o _).mpr (hb'.trans b5),[_,_,_,_,_,_],rfl,_,_,_,_,_,_,rfl,hI.op8 hD h5 o5 b5 g5⟩
   ·
    rintro Dn vs w' hS ⟨x21,x24,x26,x27,x28,x8,rfl,hI⟩ hD hd;simp only[puts,Act.put,tA0,tA1,tA2];have h8:=hd 8 zm;obtain⟨A0,n27,c27,rfl,-,-,-,-⟩:=(hI.f8 h8).sl;have bT:=xcb t.1 A0 n27 c27;refine qoz fun K hK=>qjn rfl rfl ?_
    refine qox (qgn 31 _ rfl _ _ bT (by simp[Act.eval])) ?_;exact hK _ _ ⟨hS,[_,_,_,_,_,_],rfl,_,_,_,_,_,_,rfl,hI.op9 h8 rfl⟩
   · rintro Dn vs w' hS ⟨x21,x24,x26,x27,x28,x8,rfl,hI⟩ hD hd
     simp only[puts,Act.put,tA0,tA1,tA2];refine qoz fun K hK=>qjn rfl rfl ?_
     go_simp;exact hK _ _ ⟨keepS _ _ hS (hI.fB) ((tA5 _ _).alloc (tA4 _) _),[_,_,_,_,_,_],rfl,_,_,_,_,_,_,rfl,hI.op10⟩
   rintro vs w5 hS5 ⟨x21,x24,x26,x27,x28,x8,rfl,hI⟩;simp only[puts,Act.put,tA0,tA1,tA2];obtain⟨-,A0,n27,c27,rfl,rfl⟩:=hI.f9 rfl;obtain⟨g8,rfl,z8,l8⟩:=hI.f10 rfl;have o27:=hI.f8 rfl;obtain⟨T5,hT5,lT5,oT5,iT5⟩:=xc9 t.1 A0 n27 c27 (List.replicate 32 0) zm;have htt:=xc4 t.1 (.slice A0 n27 c27) (List.replicate 32 0) (mac t.2.2 (qk1 (m,N))) zm (qjv _ _);have ltt:=qdc t.1 (.slice A0 n27 c27) (mac t.2.2 (qk1 (m,N))) (qjv _ _);have ott:=qed t.1 (.slice A0 n27 c27) rfl (mac t.2.2 (qk1 (m,N)));rw[hT5]at htt ⊢;rw[HS.o]at hS5;have b5:=hS5;clear hT5 hS5 hI F0 F1 F2 F3 keepS HS;refine qbi rfl rfl ?_;refine wp_store_row 31 (.tmp 8) (.tmp 28) rfl g8 T5.toArray rfl rfl 31 _ z8 iT5 (by simp[lT5,qgv,qdc]) (by simpa using oT5) ?_;refine⟨fun h=>absurd h zdc,?_⟩;obtain⟨W6,hW6⟩:=eqx ((w5.setRow g8 T5.toArray).drew);have z6:Blk W6 g8 31 T5.toArray:=by rw[hW6];exact z8.setRow _
   have o6:OwnC W6 W0.heap.size (.slice A0 n27 c27) (t.2.1++[((m:Int),N)]):=by
    rw[hW6];exact OwnC.kept (tB3 o27 (qam _ _ _) (.inr (qa3 o27 z8 zdc))) (tA5 _ _).drew
   have b6:Zb W0 W6:=by rw[hW6];exact(below_setRow b5 l8 _).drew
   have l86:=z6.lt;obtain⟨Z6,O6,B6,A5,AE,AF,AG,L8⟩:=zh8 z6 o6 b6 lT5 htt ltt ott l8;have A6:=zh1 hW6;clear z6 o6 b6 lT5 htt ltt ott oT5 iT5 o27 z8 b5 hW6 l8 l86;refine zP ?_;refine qbf ?_;go_upto_region 6 with(fail)
   obtain⟨S,HS⟩:=zS fun w'=>Zb W6 w'
   have F2:Hid (∀w',S w'→w'.cell? ⟨w.heap.size+1,0,none⟩=some (.int .i64 m)):=fun w' h=>by
    rw[HS.o]at h;have v6:=V0.below B6.o V0.lt;rw[(v6.below h v6.lt).cell];rfl
   have F3:Hid (∀w',S w'→w'.cell? ⟨w.heap.size+1,1,none⟩=some (.int .u32 N)):=fun w' h=>by
    rw[HS.o]at h;have v6:=V0.below B6.o V0.lt;rw[(v6.below h v6.lt).cell];rfl
   refine zrs S 13 (zq 0 6 (zq 7 3 [(6,true),(10,true),(11,true),(12,false),(13,true)])) ((HS.o _).mpr (by rw[A6.o];exact tA5 _ _)) ?_;rw[show (w5.setRow g8 T5.toArray).drew=W6 from A6.symm];iterate 9 (refine zre rfl rfl (fun w1 hS=>by have g2:=F2.o w1 hS;have g3:=F3.o w1 hS;have ku:=KU.o;have nu:=NU.o;go_simp;try rfl) ?_)
   have B6d:=B6.o;have k6:=Z6.o;obtain⟨W7,hW7⟩:=eqx (W6.alloc (.cells #[.int .u8 (m:Int)] 5));have y7:=zNa hW7;have b7:=zMa hW7;have N7:=qh8 (some ⟨W6.heap.size,0,none⟩) 1 1 N 4 [m] W7 (qp2 y7) zm zo;rw[show qb0 4=4 from rfl,show [m]++be N 4=qk1 ((m:Int),N) from by simp only[qk1,tBe];rw[qhc,Nat.mod_eq_of_lt zo]]at N7;obtain⟨AH,AI⟩:=zh2 N7 hW7;clear N7 hW7 y7 k6 B6d;refine qbi rfl rfl ?_;refine qp1 (.tmp 34) rfl (m:Int) rfl ?_;rw[show W6.alloc (.cells #[.int .u8 (m:Int)] 5)=W7 from AI.symm];refine⟨fun _=>(HS.o _).mpr b7,?_⟩;refine zP ?_;refine qbi rfl rfl ?_;go_simp;refine AH.o.mono ?_;rintro e w8 ⟨v8,rfl,own8,b8⟩;obtain⟨A8,n8,c8,rfl,nc8,-,r8⟩:=own8.sl;have ln8:=qb4 r8;have lc:(qk1 ((m:Int),N)).length=5:=by simp[qk1,qaw]
   rw[lc]at ln8;have b68:=b7.trans (b8.mono b7.size);have t8:=(T0.below B6.o T0.lt).below b68 (tB0 T0.lt B6.size);have rk:=qgt (n:=32) t8 (by rw[qat];exact ht) D2.o;have M8:=qzd tb 32 32 n8 c8 _ A8 t.2.2 (qk1 ((m:Int),N)) w8 (Blk.below (Blk.below HT.o B6.o (Blk.lt HT.o)) b68 (tB0 (Blk.lt HT.o) B6.size)) rk r8 hb (by intro x hx;rcases List.mem_append.1 hx with h|h<;>exact qaz _ _ x h) zo zo;obtain⟨AJ,A1⟩:=zh2 M8 b68;clear M8 rk t8 ln8 lc own8 r8 b68 b7 b8 nc8;refine⟨(HS.o _).mpr A1.o,?_⟩;refine zP ?_;refine qbi rfl rfl ?_;go_simp;refine zcb AJ.o fun w9 b9=>?_
   have b69:=A1.trans (b9.mono A1.size);have z9:=Z6.below b69 Z6.lt;have o9:=O6.kept b69;have bl9:=B6.trans (b69.mono B6.size);have lV:(byv (mac t.2.2 (qk1 ((m:Int),N)))).length=32:=by rw[qat];exact qjv _ _
   have TH:=qeh z9 2 32 (by rw[A5.o];decide);have SC:=Blk.setCells (byv (mac t.2.2 (qk1 ((m:Int),N)))) 2 w9 _ z9 (by rw[A5.o,lV];decide);rw[AE.o]at SC;have OV:=all_oneCell_toArray (qau (mac t.2.2 (qk1 ((m:Int),N))));obtain⟨E,hE⟩:=xeq (byv (mac t.2.2 (qk1 ((m:Int),N))));rw[hE]at SC lV OV ⊢;have IV:(Tryz.prog.info? 29).map (·.size)=some E.toArray.size:=by rw[tB6,lV];exact Tryz.dig_info
   have TH':w9.there g8 2 E.toArray.size:=by rw[tB6,lV];exact TH
   obtain⟨T,hTT⟩:=xeq (tokv t.1 (.slice A0 n27 c27) (mac t.2.2 (qk1 ((m:Int),N))));have LT:=AF.o;have OT:=AG.o;rw[hTT]at SC LT OT;obtain⟨W9,hW9⟩:=eqx (w9.setCells g8 2 E);rw[←hW9]at SC;have gsc:=qef g8 E 2 w9;rw[←hW9]at gsc;have O9:OwnC W9 W0.heap.size (.slice A0 n27 c27) (t.2.1++[((m:Int),N)]):=tB3 o9 gsc (.inr (qa3 o9 z9 zdc));have A2:Zb W0 W9:=bl9.grown gsc (tB1 B6.size b69.size) (fun k hk=>by injection hk with hk;rw[←hk];exact L8.o);have z2:=Z0.below A2 Z0.lt;obtain⟨AR,A7,A3,AK,AL,AM,A9,AN⟩:=zh8 SC O9 A2 TH' IV OV LT OT;obtain⟨AO,A4,AP⟩:=zh3 hTT z2 hW9;have AA:S w9:=(HS.o _).mpr b69;obtain⟨AB,AQ⟩:=zh2 (zI 31 LT) (qap SC 0 T zjq);clear SC O9 A2 TH TH' IV OV LT OT hTT z2 gsc b69 z9 o9 bl9 lV hE F2 F3 hW9;refine⟨AA,?_⟩;clear AA;refine zP ?_;iterate 1 (refine zrb ?_)
   refine qbi rfl rfl ?_;refine wp_store_mid 29 (.tmp 41) (.tmp 40) rfl g8 2 E.toArray rfl rfl AK.o AL.o AM.o ?_;refine⟨fun h=>absurd h zdc,?_⟩;rw[show w9.setCells g8 2 E.toArray.toList=W9 from AP.symm];refine zP ?_;refine qbf ?_;go_wp2_with (first
    |(refine zld AQ.o zu31 AB.o ?_)
    |(refine zst A4.o AB.o (by simp[A9.o]) AN.o ?_))
   have z8:=A4.setRow T.toArray;have O8:OwnC (W9.setRow (w.heap.size+1+1) T.toArray) W0.heap.size (.slice A0 n27 c27) (t.2.1++[((m:Int),N)]):=
    tB3 A7.o (qam _ _ _) (.inr (qa3 A7.o A4.o zdc))
   refine bodyPost_ret (qgr rfl rfl (qgu z8 A9.o)) rfl ⟨.slice A0 n27 c27,by rw[Hres.o,←AO.o];rfl,by rw[Hres.o];exact O8.mono B0.size,?_⟩;exact below_setRow (B0.trans (A3.mono B0.size)) zo _
  have hres:qk2 t (k,N)=(qgq,4):=by unfold qk2;rw[if_pos hk,if_neg (by rw[Hl.o];exact h4)]
  have q4:(n:Int) ≥ 4:=zo;have Hres:=zh1 hres;clear hres hk ck;go_wp2_with (refine wpList_store_row rfl 31 (.tmp 6) (.tmp 18) rfl (w.heap.size+1+1) qgv.toArray rfl rfl 31 _ Z0.o qgx qgy qgw ?_)
  have z8:Blk _ _ 31 qgv.toArray:=Z0.setRow qgv.toArray;refine bodyPost_ret (qgr rfl rfl (qgu z8 rfl)) rfl ⟨.slice none 0 0,by rw[Hres.o];rfl,by rw[Hres.o];exact OwnC.nil _ _,?_⟩;exact below_setRow B0.o zo _
 have hk':qd5 k=false:=by simpa using hk
 have hres:qk2 t (k,N)=(qgq,1):=by unfold qk2;rw[if_neg hk]
 have Hres:=zh1 hres;clear hres hk;go_wp2_with (first
  |((with_reducible refine(qha k _).mono ?_);(rintro _ _ ⟨rfl,rfl⟩))
  |(refine wpList_store_row rfl 31 (.tmp 6) (.tmp 13) rfl (w.heap.size+1+1) qgv.toArray rfl rfl 31 _ Z0.o qgx qgy qgw ?_))
 have z8:Blk _ _ 31 qgv.toArray:=Z0.setRow qgv.toArray;refine bodyPost_ret (qgr rfl rfl (qgu z8 rfl)) rfl ⟨.slice none 0 0,by rw[Hres.o];rfl,by rw[Hres.o];exact OwnC.nil _ _,?_⟩;exact below_setRow B0.o zo _
theorem xcm(R:Req)(l:List Fld)(hl:fieldsOf R.op=some l)(h:∀f∈l,qhx R f=0):qhz R=(0,be R.op.toNat 1++l.flatMap (fldB R)):=by
 unfold qhz;rw[hl];simp only;rw[qi0 R l l.length _ (by rw[List.take_length];exact h),List.drop_length,List.take_length];rfl
theorem xcn(R:Req)(h1:1≤R.op)(h2:R.op≤12)(hs:ql9 R=false):qhz R=(1,[]):=by
 obtain⟨op,tid,cavs,tag,tree,tenant,role,state,weight,id,lo,hi,rate,burst,store,expires,leaf⟩:=R;simp only at h1 h2;have h:op=1∨op=2∨op=3∨op=4∨op=5∨op=6∨op=7∨op=8∨op=9∨op=10∨op=11∨op=12:=zo;rcases h with rfl|rfl|rfl|rfl|rfl|rfl|rfl|rfl|rfl|rfl|rfl|rfl;all_goals
  simp[ql9,ql7,qdi,isByte]at hs;try simp[qhz,fieldsOf,qhy,qhx,Req.num]
  try(repeat' split)
  all_goals first|rfl|omega|(intros;omega)|(exfalso;omega)|simp_all
theorem xco(R:Req)(h1:1≤R.op)(h2:R.op≤12)(hs:ql9 R=true)(hl:R.op=1→R.leaf.length≤256)(l:List Fld)(hf:fieldsOf R.op=some l):qhz R=(0,be R.op.toNat 1++l.flatMap (fldB R)):=by
 refine xcm R l hf fun f hm=>?_
 obtain⟨op,tid,cavs,tag,tree,tenant,role,state,weight,id,lo,hi,rate,burst,store,expires,leaf⟩:=R;simp only at h1 h2 hl hf;have h:op=1∨op=2∨op=3∨op=4∨op=5∨op=6∨op=7∨op=8∨op=9∨op=10∨op=11∨op=12:=zo;rcases h with rfl|rfl|rfl|rfl|rfl|rfl|rfl|rfl|rfl|rfl|rfl|rfl;all_goals
  simp[ql9,ql7,qdi,isByte]at hs;injection hf with hf;subst hf;simp only[List.mem_cons,List.not_mem_nil,or_false]at hm;first
   |(rcases hm with rfl|rfl|rfl|rfl<;>simp[qhx,Req.num]<;>omega)
   |(rcases hm with rfl|rfl|rfl<;>simp[qhx,Req.num]<;>omega)
   |(rcases hm with rfl|rfl<;>simp[qhx,Req.num]<;>omega)
   |(subst hm;simp[qhx,Req.num]<;>omega)
   |(subst hm;simp[qhx,Req.num])
theorem xcp{x:Int}(h:ql9 R=true)(hm:x∈ql7 R):∃n:Nat,Hid (x=(n:Int))∧n≤255∧Hid (n % 256=n)∧IntKind.u8.wrap (n:Int)=n:=by
 have hb:=List.all_eq_true.1 h x hm;unfold isByte at hb;have hb:=of_decide_eq_true hb;exact⟨x.toNat,show x=(x.toNat:Int) by omega,by omega,Nat.mod_eq_of_lt zo,IntWalk.u8_in _ zo⟩
theorem xcq(R:Req)(h1:R.op=1)(hs:ql9 R=true)(hl:256<R.leaf.length):qhz R=(3,[]):=by
 obtain⟨op,tid,cavs,tag,tree,tenant,role,state,weight,id,lo,hi,rate,burst,store,expires,leaf⟩:=R;simp only at h1 hl;subst h1;simp[ql9,ql7,qdi,isByte]at hs;simp[qhz,fieldsOf,qhy,qhx,Req.num];simp[hs,hl]
theorem xcr(R:Req)(cav:Value)(Al:Option Addr)(cl:Nat)(w:World)(hR:R.Fit)(hleaf:Reads w w.heap.size 1 Al R.leaf.length (byv R.leaf))(hlc:R.leaf.length≤cl)(hc:cl≤maxLen):
 Zc 39 #[.agg (reqv R cav (.slice Al R.leaf.length cl)).toArray] w fun e w'=>∃v,e=.returned (.tuple #[v,.int .i64 ((qhz R).1:Int)])∧OwnB w' w.heap.size v (qhz R).2∧Zb w w':=by
 by_cases hn:1≤R.op∧R.op≤12
 ·
  have hsm:=fun w'=>qle R cav (.slice Al R.leaf.length cl) w' hR.tag hn.1 hn.2
  have hrr:=qdh R cav (.slice Al R.leaf.length cl) hR.tag;have hlen:=qiu R cav (.slice Al R.leaf.length cl) hR.tag;obtain⟨k,hk⟩:=xeq R.op;have r0:(reqv R cav (.slice Al R.leaf.length cl))[0]? =some (.int .i64 k):=by rw[←hk];rfl
  rw[hk]at hn;obtain⟨h1,h2⟩:=hn;obtain⟨L,hL⟩:=xeq (reqv R cav (.slice Al R.leaf.length cl));rw[hL]at hrr r0 hlen ⊢;simp only[hL]at hsm;obtain⟨kn,hkn⟩:∃n:Nat,(n:Int)=k:=⟨k.toNat,by omega⟩;have t1:Blk (w.alloc (.cells L.toArray 34)) w.heap.size 34 L.toArray:=Blk.new w _ _;have B3:Zb w (w.alloc (.cells L.toArray 34)):=(tA5 _ _).alloc (tA4 _) _;obtain⟨HC,A4,KE,KM,KN⟩:=zh5 (show ∀(i:Nat) (v:Value),L[i]? =some v→L.toArray[i]? =some v from fun i v h=>by simpa using h) (zI 34 hlen) (show R.op.toNat=kn by omega) (show kn % 256=kn by omega) hkn;have kw:IntKind.u8.wrap k=k:=IntWalk.u8_in _ zo;obtain⟨A5,A0,R0,HK,A3,A6⟩:=zh6 hsm hrr r0 hk (And.intro h1 h2) (qap t1 0 L zjq);have c0:=(t1.cell 0).trans (HC.o _ _ r0);have n1:¬k<1:=zo;have n2:¬12<k:=zo;clear hsm hrr r0 hk hlen hL hkn h1 h2;go_enter Tryz.func39,Tryz.ntmps39
  go_wp2_with (refine zld A6.o zu34 A4.o ?_)
  refine zcb (A5.o _) fun w1 hb1=>?_
  replace t1:=t1.below hb1 (by rw[qar];omega);replace B3:=B3.trans (hb1.mono B3.size);have c0:=(t1.cell 0).trans (HC.o _ _ R0.o);have hs1:w.heap.size+1≤w1.heap.size:=t1.lt;have hs2:w.heap.size<w1.heap.size:=t1.lt;clear hb1;cases hs:ql9 R with
  |false=>
   have H:=zh1 (xcn R (by have:=A3.o;have:=HK.o;omega) (by have:=A3.o;have:=HK.o;omega) hs);clear hs;go_wp2
   go_ret2
   exact⟨_,by rw[H.o];rfl,by rw[H.o];exact OwnB.nil _ _,B3⟩
  |true=>
   have A1:=zh1 hs;clear hs;have d47:=(t1.cell 47).trans (HC.o _ _ ((A0.o 12).trans (show _=some (.slice Al R.leaf.length cl) from rfl)));by_cases hlong:k=1∧256<R.leaf.length
   · obtain⟨rfl,hb⟩:=hlong
     have H:=zh1 (xcq R HK.o A1.o hb);go_wp2
     go_ret2
     exact⟨_,by rw[H.o];rfl,by rw[H.o];exact OwnB.nil _ _,B3⟩
   have HL:=zh1 (show k=1→R.leaf.length≤256 from fun h=>Nat.le_of_not_lt fun hb=>hlong ⟨h,hb⟩);clear hlong;go_upto_region 3 with(fail)
   go_cut [26] (fun s26 wx=>s26=.bool false∧wx=w1)
   case first=>
    by_cases h1:k=1
    · have hb:¬(256:Int)<R.leaf.length:=by have:=HL.o h1;omega
      subst h1;go_wp2
      go_meet
      case rel=>exact⟨rfl,rfl⟩
    have hb:(k==1)=false:=by simpa using h1
    go_wp2
    go_meet
    case rel=>exact⟨rfl,rfl⟩
   case rest=>
    obtain⟨rfl,rfl⟩:=hcut;have hown:OwnB (wc.alloc (.cells #[.int .u8 k] 5)) (w.heap.size+1) (.slice (some ⟨wc.heap.size,0,none⟩) 1 1) [kn]:=by
     have h:=(OwnB.made wc [kn] (by simp[maxLen])).mono hs1;rw[show (byv [kn]).toArray=#[.int .u8 k] by rw[←KN.o];rfl]at h;exact h
    clear d47;go_wp2_with fail
    refine(ql6 _ _).mono ?_;rintro e w2 ⟨rfl,rfl⟩;replace t1:=t1.alloc (.cells #[.int .u8 k] 5);replace B3:=B3.alloc B3.size (.cells #[.int .u8 k] 5);clear c0;have c0:=(t1.cell 0).trans (HC.o _ _ R0.o);have A2:=zh1 (show qdi k=true→R.tree.toNat % 256=R.tree.toNat from fun hb=>by
     obtain⟨tr,trE,trl,-,-⟩:=xcp A1.o (x:=R.tree) (by simp[ql7,HK.o,hb]);rw[trE.o];omega)
    go_upto_if 33 with(fail)
    go_cut [4] (fun s4 wx=>∃A n c,s4=.slice A n c∧Hid (OwnB wx (w.heap.size+1) (.slice A n c) ([kn]++if qdi k then [R.tree.toNat] else []))∧Hid (Blk wx w.heap.size 34 L.toArray)∧Hid (Zb w wx))
    case first=>
     cases hb:qdi k with
     |false=>
      obtain⟨HX,HO,HT,HB⟩:=zh4 hb hown t1 B3;clear hb hown t1 B3;go_wp2
      go_meet
      case rel=>exact⟨_,_,_,rfl,by rw[HX.o];exact HO,HT,HB⟩
     |true=>
      have HX:=zh1 hb;obtain⟨tr,trE,trl,trm,trw⟩:=xcp A1.o (x:=R.tree) (by simp[ql7,HK.o,hb]);clear hb;have d35:=(t1.cell 35).trans (HC.o _ _ ((A0.o 0).trans (show _=some (.int .i64 (R.tree)) from rfl)));rw[trE.o]at d35;go_wp2_with (at_builtin;refine qdy rfl _ _ rfl (w.heap.size+1) _ _ rfl (hown.alloc (.cells (byv [tr]).toArray 5)) _ _ _ [tr] rfl (qe4 _ [tr] _ zm _ rfl) (by first|(simp;done)|(split<;>simp)) (by first|(simp only[qar];omega)| (have:=t1.lt;simp only[qar]at*;omega)) ?_)
      intro v2 w2 hown2 hb2 hg2;replace t1:=(t1.alloc (.cells (byv [tr]).toArray 5)).below hb2 zo;replace B3:=(B3.alloc B3.size (.cells (byv [tr]).toArray 5)).trans (hb2.mono zo);replace hown:=hown2;have c0:=(t1.cell 0).trans (HC.o _ _ R0.o);have hs2:w.heap.size<w2.heap.size:=t1.lt;clear hb2 hg2 hown2;obtain⟨HO,HT,HB⟩:=zh3 hown t1 B3;clear hown t1 B3 d35;go_wp2
      go_meet
      case rel=>
       obtain⟨As,ns,cs,rfl,-,-,-⟩:=HO.sl;exact⟨_,_,_,rfl,by rw[HX.o,trE.o];exact HO,HT,HB⟩
    case rest=>
     obtain⟨A,n,c,rfl,ho,Ht,HB⟩:=hcut;clear c0 t1 B3 hown hs1 hs2;have hown:=ho.o;have t1:=Ht.o;have B3:=HB.o;have c0:=(t1.cell 0).trans (HC.o _ _ R0.o);have hs2:w.heap.size<wc.heap.size:=t1.lt;clear ho Ht HB;have h12:=A3.o;clear A3 kw n1 n2;go_upto_block 0 with fail
     go_cut [4] (fun s4 wx=>∃A n c,s4=.slice A n c∧Hid (OwnB wx w.heap.size (.slice A n c) (qhz R).2)∧Hid ((qhz R).1=0)∧Hid (Zb w wx))
     case first=>
      have h12':k=1∨(k=2∨k=9)∨k=3∨(k=4∨k=5)∨k=6∨k=7∨k=8∨k=10∨k=11∨k=12:=zo;clear h12;rcases h12' with rfl|h29|rfl|h45|rfl|rfl|rfl|rfl|rfl|rfl
      ·
       have d47:=(t1.cell 47).trans (HC.o _ _ ((A0.o 12).trans (show _=some (.slice Al R.leaf.length cl) from rfl)));have t1l:=t1.lt;obtain⟨A9,n9,c9,e9,-,-,hr9⟩:=hown.sl;injection e9 with q1 q2 q3;subst q1 q2 q3;go_wp2_with fail
       refine(qh9 _ Al _ R.leaf.length _ cl _ R.leaf _ hr9 (hleaf.call B3) (by first|(simp;done)|(split<;>simp)) hlc hc).mono ?_;rintro e w2 ⟨v2,rfl,hown2,hb2⟩;replace hown:=hown2.mono (show w.heap.size+1≤_ from t1l);replace t1:=t1.below hb2 t1l;replace B3:=B3.trans (hb2.mono B3.size);have H:=zh1 (xco R (by rw[HK.o];decide) (by rw[HK.o];decide) A1.o (fun _=>by have:=HL.o;simpa using this) [(1,1,35),(0,0,0)] (by rw[HK.o];rfl));obtain⟨HO,HB⟩:=zh2 ((hown.mono (Nat.le_succ _)).cast (show (qhz R).2=_ by rw[H.o];simp[KE.o,KM.o,A2.o rfl,qhc,fldB,Req.num,qdi])) B3;clear hown hown2 hb2 hr9 B3;go_wp2
       go_meet
       case rel=>
        obtain⟨As,ns,cs,e9,-,-,-⟩:=HO.sl;exact⟨As,ns,cs,e9,by rw[←e9];exact HO,zh1 (by rw[H.o]),HB⟩
      · rcases h29 with rfl|rfl
        all_goals
         have H:=zh1 (xco R (by rw[HK.o];decide) (by rw[HK.o];decide) A1.o (fun h=>absurd (HK.symm.trans h) zdc) [(1,1,35)] (by rw[HK.o];rfl));obtain⟨HO,HB⟩:=zh2 ((hown.mono (Nat.le_succ _)).cast (show (qhz R).2=_ by rw[H.o];simp[KE.o,KM.o,A2.o,qhc,fldB,Req.num,qdi,A2.o rfl])) B3;clear hown B3;go_wp2
         go_meet
         case rel=>
          obtain⟨As,ns,cs,e9,-,-,-⟩:=HO.sl;exact⟨As,ns,cs,e9,by rw[←e9];exact HO,zh1 (by rw[H.o]),HB⟩
      ·
       have d41:=(t1.cell 41).trans (HC.o _ _ ((A0.o 6).trans (show _=some (.int .u64 R.lo) from rfl)));have hb41:R.lo<18446744073709551616:=by have:=hR.num 41;simp[Req.num]at this;omega
       have hw41:IntKind.u64.wrap ((R.lo:Nat):Int)=(R.lo:Nat):=tBa _ zo;have t1l:=t1.lt;go_wp2_with fail
       obtain⟨A9,n9,c9,e9,-,-,hr9⟩:=hown.sl;first|subst e9|(injection e9 with q1 q2 q3;subst q1 q2 q3)
       refine(qh8 _ _ _ R.lo 8 _ _ hr9 (by first|(simp[qaw];done)|(simp only[tA6,qaw];split<;>simp)) hb41).mono ?_;rintro e w2 ⟨v2,rfl,hown2,hb2⟩;rw[show qb0 8=8 from rfl]at hown2;replace hown:=hown2.mono (show w.heap.size+1≤_ from t1l);replace t1:=t1.below hb2 t1l;replace B3:=B3.trans (hb2.mono B3.size);clear hb2 hr9 hown2;have H:=zh1 (xco R (by rw[HK.o];decide) (by rw[HK.o];decide) A1.o (fun h=>absurd (HK.symm.trans h) zdc) [(1,1,35),(8,3,41)] (by rw[HK.o];rfl));obtain⟨HO,HB⟩:=zh2 ((hown.mono (Nat.le_succ _)).cast (show (qhz R).2=_ by rw[H.o];simp[KE.o,KM.o,A2.o,qhc,fldB,Req.num,qdi,A2.o rfl])) B3;clear hown B3;go_wp2
       go_meet
       case rel=>
        obtain⟨As,ns,cs,e9,-,-,-⟩:=HO.sl;exact⟨As,ns,cs,e9,by rw[←e9];exact HO,zh1 (by rw[H.o]),HB⟩
      ·
       rcases h45 with rfl|rfl;all_goals
        have d41:=(t1.cell 41).trans (HC.o _ _ ((A0.o 6).trans (show _=some (.int .u64 R.lo) from rfl)));have d42:=(t1.cell 42).trans (HC.o _ _ ((A0.o 7).trans (show _=some (.int .u64 R.hi) from rfl)));have hb41:R.lo<18446744073709551616:=by have:=hR.num 41;simp[Req.num]at this;omega
        have hw41:IntKind.u64.wrap ((R.lo:Nat):Int)=(R.lo:Nat):=tBa _ zo;have hb42:R.hi<18446744073709551616:=by have:=hR.num 42;simp[Req.num]at this;omega
        have hw42:IntKind.u64.wrap ((R.hi:Nat):Int)=(R.hi:Nat):=tBa _ zo;go_wp2_with fail
        obtain⟨S,HS⟩:=zS fun w'=>w'.cell? ⟨w.heap.size,41,none⟩=some (.int .u64 R.lo)∧w'.cell? ⟨w.heap.size,42,none⟩=some (.int .u64 R.hi)
        refine zrs S 8 (zq 0 3 [(4,false),(5,false),(3,true),(6,true),(7,false)]) ((HS.o _).mpr ⟨d41,d42⟩) ?_;repeat(refine zrt0 ?_)
        replace t1:=t1.drew;replace B3:=B3.drew;replace hown:=hown.drew;have t1l:=t1.lt;obtain⟨A9,n9,c9,e9,-,-,hr9⟩:=hown.sl;first|subst e9|(injection e9 with q1 q2 q3;subst q1 q2 q3)
        refine zw ?_;go_simp;refine(qh8 _ _ _ R.lo 8 _ _ hr9 (by first|(simp[qaw];done)|(simp only[tA6,qaw];split<;>simp)) hb41).mono ?_;rintro e w2 ⟨v2,rfl,hown2,hb2⟩;rw[show qb0 8=8 from rfl]at hown2;replace hown:=hown2.mono (show w.heap.size+1≤_ from t1l);replace t1:=t1.below hb2 t1l;replace B3:=B3.trans (hb2.mono B3.size);clear hb2 hr9 hown2;have d41:=(t1.cell 41).trans (HC.o _ _ ((A0.o 6).trans (show _=some (.int .u64 R.lo) from rfl)));have d42:=(t1.cell 42).trans (HC.o _ _ ((A0.o 7).trans (show _=some (.int .u64 R.hi) from rfl)));refine⟨by first|exact(HS.o _).mpr ⟨d41,d42⟩|exact fun _=>(HS.o _).mpr ⟨d41,d42⟩,?_⟩;have t1l:=t1.lt;obtain⟨A9,n9,c9,e9,-,-,hr9⟩:=hown.sl;first|subst e9|(injection e9 with q1 q2 q3;subst q1 q2 q3)
        refine zw ?_;go_simp;refine(qh8 _ _ _ R.hi 8 _ _ hr9 (by first|(simp[qaw];done)|(simp only[tA6,qaw];split<;>simp)) hb42).mono ?_;rintro e w2 ⟨v2,rfl,hown2,hb2⟩;rw[show qb0 8=8 from rfl]at hown2;replace hown:=hown2.mono (show w.heap.size+1≤_ from t1l);replace t1:=t1.below hb2 t1l;replace B3:=B3.trans (hb2.mono B3.size);clear hb2 hr9 hown2;have d41:=(t1.cell 41).trans (HC.o _ _ ((A0.o 6).trans (show _=some (.int .u64 R.lo) from rfl)));have d42:=(t1.cell 42).trans (HC.o _ _ ((A0.o 7).trans (show _=some (.int .u64 R.hi) from rfl)));refine⟨by first|exact(HS.o _).mpr ⟨d41,d42⟩|exact fun _=>(HS.o _).mpr ⟨d41,d42⟩,?_⟩;repeat(refine zrt0 ?_)
        refine qbf ?_;have H:=zh1 (xco R (by rw[HK.o];decide) (by rw[HK.o];decide) A1.o (fun h=>absurd (HK.symm.trans h) zdc) [(1,1,35),(8,3,41),(8,3,42)] (by rw[HK.o];rfl));obtain⟨HO,HB⟩:=zh2 ((hown.mono (Nat.le_succ _)).cast (show (qhz R).2=_ by rw[H.o];simp[KE.o,KM.o,A2.o,qhc,fldB,Req.num,qdi,A2.o rfl])) B3;clear hown B3;go_wp2
        go_meet
        case rel=>
         obtain⟨As,ns,cs,e9,-,-,-⟩:=HO.sl;exact⟨As,ns,cs,e9,by rw[←e9];exact HO,zh1 (by rw[H.o]),HB⟩
      ·
       obtain⟨te,teE,tel,tem,tew⟩:=xcp A1.o (x:=R.tenant) (by simp[ql7,HK.o]);obtain⟨we,weE,wel,wem,wew⟩:=xcp A1.o (x:=R.weight) (by simp[ql7,HK.o]);have d36:=(t1.cell 36).trans (HC.o _ _ ((A0.o 1).trans (show _=some (.int .i64 (R.tenant)) from rfl)));rw[teE.o]at d36;have d39:=(t1.cell 39).trans (HC.o _ _ ((A0.o 4).trans (show _=some (.int .i64 (R.weight)) from rfl)));rw[weE.o]at d39;go_wp2_with (at_builtin;refine qdy rfl _ _ rfl (w.heap.size+1) _ _ rfl (hown.alloc (.cells (byv [te,we]).toArray 5)) _ _ _ [te,we] rfl (qe4 _ [te,we] _ zm _ rfl) (by first|(simp;done)|(split<;>simp)) (by first|(simp only[qar];omega)| (have:=t1.lt;simp only[qar]at*;omega)) ?_)
       intro v2 w2 hown2 hb2 hg2;replace t1:=(t1.alloc (.cells (byv [te,we]).toArray 5)).below hb2 zo;replace B3:=(B3.alloc B3.size (.cells (byv [te,we]).toArray 5)).trans (hb2.mono zo);replace hown:=hown2;have c0:=(t1.cell 0).trans (HC.o _ _ R0.o);have hs2:w.heap.size<w2.heap.size:=t1.lt;clear hb2 hg2 hown2;have H:=zh1 (xco R (by rw[HK.o];decide) (by rw[HK.o];decide) A1.o (fun h=>absurd (HK.symm.trans h) zdc) [(1,1,35),(1,1,36),(1,1,39)] (by rw[HK.o];rfl));obtain⟨HO,HB⟩:=zh2 ((hown.mono (Nat.le_succ _)).cast (show (qhz R).2=_ by rw[H.o];simp[KE.o,KM.o,A2.o,qhc,fldB,Req.num,qdi,A2.o rfl,teE.o,tem.o,weE.o,wem.o])) B3;clear hown B3;go_wp2
       go_meet
       case rel=>
        obtain⟨As,ns,cs,e9,-,-,-⟩:=HO.sl;exact⟨As,ns,cs,e9,by rw[←e9];exact HO,zh1 (by rw[H.o]),HB⟩
      ·
       obtain⟨st,stE,stl,stm,stw⟩:=xcp A1.o (x:=R.state) (by simp[ql7,HK.o]);have d38:=(t1.cell 38).trans (HC.o _ _ ((A0.o 3).trans (show _=some (.int .i64 (R.state)) from rfl)));rw[stE.o]at d38;go_wp2_with (at_builtin;refine qdy rfl _ _ rfl (w.heap.size+1) _ _ rfl (hown.alloc (.cells (byv [st]).toArray 5)) _ _ _ [st] rfl (qe4 _ [st] _ zm _ rfl) (by first|(simp;done)|(split<;>simp)) (by first|(simp only[qar];omega)| (have:=t1.lt;simp only[qar]at*;omega)) ?_)
       intro v2 w2 hown2 hb2 hg2;replace t1:=(t1.alloc (.cells (byv [st]).toArray 5)).below hb2 zo;replace B3:=(B3.alloc B3.size (.cells (byv [st]).toArray 5)).trans (hb2.mono zo);replace hown:=hown2;have c0:=(t1.cell 0).trans (HC.o _ _ R0.o);have hs2:w.heap.size<w2.heap.size:=t1.lt;clear hb2 hg2 hown2;have H:=zh1 (xco R (by rw[HK.o];decide) (by rw[HK.o];decide) A1.o (fun h=>absurd (HK.symm.trans h) zdc) [(1,1,35),(1,1,38)] (by rw[HK.o];rfl));obtain⟨HO,HB⟩:=zh2 ((hown.mono (Nat.le_succ _)).cast (show (qhz R).2=_ by rw[H.o];simp[KE.o,KM.o,A2.o,qhc,fldB,Req.num,qdi,A2.o rfl,stE.o,stm.o])) B3;clear hown B3;go_wp2
       go_meet
       case rel=>
        obtain⟨As,ns,cs,e9,-,-,-⟩:=HO.sl;exact⟨As,ns,cs,e9,by rw[←e9];exact HO,zh1 (by rw[H.o]),HB⟩
      ·
       obtain⟨we,weE,wel,wem,wew⟩:=xcp A1.o (x:=R.weight) (by simp[ql7,HK.o]);have d39:=(t1.cell 39).trans (HC.o _ _ ((A0.o 4).trans (show _=some (.int .i64 (R.weight)) from rfl)));rw[weE.o]at d39;go_wp2_with (at_builtin;refine qdy rfl _ _ rfl (w.heap.size+1) _ _ rfl (hown.alloc (.cells (byv [we]).toArray 5)) _ _ _ [we] rfl (qe4 _ [we] _ zm _ rfl) (by first|(simp;done)|(split<;>simp)) (by first|(simp only[qar];omega)| (have:=t1.lt;simp only[qar]at*;omega)) ?_)
       intro v2 w2 hown2 hb2 hg2;replace t1:=(t1.alloc (.cells (byv [we]).toArray 5)).below hb2 zo;replace B3:=(B3.alloc B3.size (.cells (byv [we]).toArray 5)).trans (hb2.mono zo);replace hown:=hown2;have c0:=(t1.cell 0).trans (HC.o _ _ R0.o);have hs2:w.heap.size<w2.heap.size:=t1.lt;clear hb2 hg2 hown2;have H:=zh1 (xco R (by rw[HK.o];decide) (by rw[HK.o];decide) A1.o (fun h=>absurd (HK.symm.trans h) zdc) [(1,1,35),(1,1,39)] (by rw[HK.o];rfl));obtain⟨HO,HB⟩:=zh2 ((hown.mono (Nat.le_succ _)).cast (show (qhz R).2=_ by rw[H.o];simp[KE.o,KM.o,A2.o,qhc,fldB,Req.num,qdi,A2.o rfl,weE.o,wem.o])) B3;clear hown B3;go_wp2
       go_meet
       case rel=>
        obtain⟨As,ns,cs,e9,-,-,-⟩:=HO.sl;exact⟨As,ns,cs,e9,by rw[←e9];exact HO,zh1 (by rw[H.o]),HB⟩
      ·
       obtain⟨te,teE,tel,tem,tew⟩:=xcp A1.o (x:=R.tenant) (by simp[ql7,HK.o]);obtain⟨ro,roE,rol,rom,row⟩:=xcp A1.o (x:=R.role) (by simp[ql7,HK.o]);have d36:=(t1.cell 36).trans (HC.o _ _ ((A0.o 1).trans (show _=some (.int .i64 (R.tenant)) from rfl)));rw[teE.o]at d36;have d37:=(t1.cell 37).trans (HC.o _ _ ((A0.o 2).trans (show _=some (.int .i64 (R.role)) from rfl)));rw[roE.o]at d37;have d46:=(t1.cell 46).trans (HC.o _ _ ((A0.o 11).trans (show _=some (.int .u64 R.expires) from rfl)));have hb46:R.expires<18446744073709551616:=by have:=hR.num 46;simp[Req.num]at this;omega
       have hw46:IntKind.u64.wrap ((R.expires:Nat):Int)=(R.expires:Nat):=tBa _ zo;go_wp2_with fail
       obtain⟨S,HS⟩:=zS fun w'=>w'.cell? ⟨w.heap.size,36,none⟩=some (.int .i64 (te:Int))∧w'.cell? ⟨w.heap.size,37,none⟩=some (.int .i64 (ro:Int))∧w'.cell? ⟨w.heap.size,46,none⟩=some (.int .u64 R.expires)
       refine zrs S 13 (zq 0 7 [(9,false),(10,false),(7,true),(8,true),(11,true),(12,false)]) ((HS.o _).mpr ⟨d36,d37,d46⟩) ?_;repeat(refine zrt0 ?_)
       refine zw ?_;go_simp;replace t1:=(t1.alloc (.cells (byv [te,ro]).toArray 5)).drew;replace B3:=(B3.alloc B3.size (.cells (byv [te,ro]).toArray 5)).drew;replace hown:=(hown.alloc (.cells (byv [te,ro]).toArray 5)).drew;have d36:=(t1.cell 36).trans (HC.o _ _ ((A0.o 1).trans (show _=some (.int .i64 (R.tenant)) from rfl)));rw[teE.o]at d36;have d37:=(t1.cell 37).trans (HC.o _ _ ((A0.o 2).trans (show _=some (.int .i64 (R.role)) from rfl)));rw[roE.o]at d37;have d46:=(t1.cell 46).trans (HC.o _ _ ((A0.o 11).trans (show _=some (.int .u64 R.expires) from rfl)));refine⟨by first|exact(HS.o _).mpr ⟨d36,d37,d46⟩|exact fun _=>(HS.o _).mpr ⟨d36,d37,d46⟩,?_⟩;have t1l:=t1.lt;refine zw ?_;refine qdz _ _ rfl (w.heap.size+1) _ _ rfl hown _ _ _ [te,ro] rfl (qe4 _ [te,ro] _ zm _ rfl).drewS (by first|(simp;done)|(split<;>simp)) t1l ?_;intro v2 w2 hown2 hb2 hg2;replace t1:=t1.below hb2 zo;replace B3:=B3.trans (hb2.mono zo);replace hown:=hown2;clear hb2 hg2 hown2;have d36:=(t1.cell 36).trans (HC.o _ _ ((A0.o 1).trans (show _=some (.int .i64 (R.tenant)) from rfl)));rw[teE.o]at d36;have d37:=(t1.cell 37).trans (HC.o _ _ ((A0.o 2).trans (show _=some (.int .i64 (R.role)) from rfl)));rw[roE.o]at d37;have d46:=(t1.cell 46).trans (HC.o _ _ ((A0.o 11).trans (show _=some (.int .u64 R.expires) from rfl)));refine⟨by first|exact(HS.o _).mpr ⟨d36,d37,d46⟩|exact fun _=>(HS.o _).mpr ⟨d36,d37,d46⟩,?_⟩;simp only[Act.put,tA0,tA1,tA2];have t1l:=t1.lt;obtain⟨A9,n9,c9,e9,-,-,hr9⟩:=hown.sl;first|subst e9|(injection e9 with q1 q2 q3;subst q1 q2 q3)
       refine zw ?_;go_simp;refine(qh8 _ _ _ R.expires 8 _ _ hr9 (by first|(simp[qaw];done)|(simp only[tA6,qaw];split<;>simp)) hb46).mono ?_;rintro e w2 ⟨v2,rfl,hown2,hb2⟩;rw[show qb0 8=8 from rfl]at hown2;replace hown:=hown2.mono (show w.heap.size+1≤_ from t1l);replace t1:=t1.below hb2 t1l;replace B3:=B3.trans (hb2.mono B3.size);clear hb2 hr9 hown2;have d36:=(t1.cell 36).trans (HC.o _ _ ((A0.o 1).trans (show _=some (.int .i64 (R.tenant)) from rfl)));rw[teE.o]at d36;have d37:=(t1.cell 37).trans (HC.o _ _ ((A0.o 2).trans (show _=some (.int .i64 (R.role)) from rfl)));rw[roE.o]at d37;have d46:=(t1.cell 46).trans (HC.o _ _ ((A0.o 11).trans (show _=some (.int .u64 R.expires) from rfl)));refine⟨by first|exact(HS.o _).mpr ⟨d36,d37,d46⟩|exact fun _=>(HS.o _).mpr ⟨d36,d37,d46⟩,?_⟩;repeat(refine zrt0 ?_)
       refine qbf ?_;have H:=zh1 (xco R (by rw[HK.o];decide) (by rw[HK.o];decide) A1.o (fun h=>absurd (HK.symm.trans h) zdc) [(1,1,36),(1,1,37),(8,3,46)] (by rw[HK.o];rfl));obtain⟨HO,HB⟩:=zh2 ((hown.mono (Nat.le_succ _)).cast (show (qhz R).2=_ by rw[H.o];simp[KE.o,KM.o,A2.o,qhc,fldB,Req.num,qdi,teE.o,tem.o,roE.o,rom.o])) B3;clear hown B3;go_wp2
       go_meet
       case rel=>
        obtain⟨As,ns,cs,e9,-,-,-⟩:=HO.sl;exact⟨As,ns,cs,e9,by rw[←e9];exact HO,zh1 (by rw[H.o]),HB⟩
      ·
       have d40:=(t1.cell 40).trans (HC.o _ _ ((A0.o 5).trans (show _=some (.int .u32 R.id) from rfl)));have hb40:R.id<18446744073709551616:=by have:=hR.num 40;simp[Req.num]at this;omega
       have hw40:IntKind.u64.wrap ((R.id:Nat):Int)=(R.id:Nat):=tBa _ zo;have t1l:=t1.lt;go_wp2_with fail
       obtain⟨A9,n9,c9,e9,-,-,hr9⟩:=hown.sl;first|subst e9|(injection e9 with q1 q2 q3;subst q1 q2 q3)
       refine(qh8 _ _ _ R.id 4 _ _ hr9 (by first|(simp[qaw];done)|(simp only[tA6,qaw];split<;>simp)) hb40).mono ?_;rintro e w2 ⟨v2,rfl,hown2,hb2⟩;rw[show qb0 4=4 from rfl]at hown2;replace hown:=hown2.mono (show w.heap.size+1≤_ from t1l);replace t1:=t1.below hb2 t1l;replace B3:=B3.trans (hb2.mono B3.size);clear hb2 hr9 hown2;have H:=zh1 (xco R (by rw[HK.o];decide) (by rw[HK.o];decide) A1.o (fun h=>absurd (HK.symm.trans h) zdc) [(4,2,40)] (by rw[HK.o];rfl));obtain⟨HO,HB⟩:=zh2 ((hown.mono (Nat.le_succ _)).cast (show (qhz R).2=_ by rw[H.o];simp[KE.o,KM.o,A2.o,qhc,fldB,Req.num,qdi,KM.o])) B3;clear hown B3;go_wp2
       go_meet
       case rel=>
        obtain⟨As,ns,cs,e9,-,-,-⟩:=HO.sl;exact⟨As,ns,cs,e9,by rw[←e9];exact HO,zh1 (by rw[H.o]),HB⟩
      ·
       obtain⟨te,teE,tel,tem,tew⟩:=xcp A1.o (x:=R.tenant) (by simp[ql7,HK.o]);have d36:=(t1.cell 36).trans (HC.o _ _ ((A0.o 1).trans (show _=some (.int .i64 (R.tenant)) from rfl)));rw[teE.o]at d36;have d43:=(t1.cell 43).trans (HC.o _ _ ((A0.o 8).trans (show _=some (.int .u32 R.rate) from rfl)));have hb43:R.rate<18446744073709551616:=by have:=hR.num 43;simp[Req.num]at this;omega
       have hw43:IntKind.u64.wrap ((R.rate:Nat):Int)=(R.rate:Nat):=tBa _ zo;have hb44:R.burst<18446744073709551616:=by have:=hR.num 44;simp[Req.num]at this;omega
       have hw44:IntKind.u64.wrap ((R.burst:Nat):Int)=(R.burst:Nat):=tBa _ zo;have hb45:R.store<18446744073709551616:=by have:=hR.num 45;simp[Req.num]at this;omega
       have hw45:IntKind.u64.wrap ((R.store:Nat):Int)=(R.store:Nat):=tBa _ zo;go_wp2_with fail
       obtain⟨S,HS⟩:=zS fun w'=>w'.cell? ⟨w.heap.size,36,none⟩=some (.int .i64 (te:Int))∧w'.cell? ⟨w.heap.size,43,none⟩=some (.int .u32 R.rate)
       refine zrs S 11 (zq 0 4 (zq 6 3 [(4,true),(5,true),(9,true),(10,false)])) ((HS.o _).mpr ⟨d36,d43⟩) ?_;repeat(refine zrt0 ?_)
       refine zw ?_;go_simp;replace t1:=(t1.alloc (.cells (byv [te]).toArray 5)).drew;replace B3:=(B3.alloc B3.size (.cells (byv [te]).toArray 5)).drew;replace hown:=(hown.alloc (.cells (byv [te]).toArray 5)).drew;have d36:=(t1.cell 36).trans (HC.o _ _ ((A0.o 1).trans (show _=some (.int .i64 (R.tenant)) from rfl)));rw[teE.o]at d36;have d43:=(t1.cell 43).trans (HC.o _ _ ((A0.o 8).trans (show _=some (.int .u32 R.rate) from rfl)));refine⟨by first|exact(HS.o _).mpr ⟨d36,d43⟩|exact fun _=>(HS.o _).mpr ⟨d36,d43⟩,?_⟩;have t1l:=t1.lt;refine zw ?_;refine qdz _ _ rfl (w.heap.size+1) _ _ rfl hown _ _ _ [te] rfl (qe4 _ [te] _ zm _ rfl).drewS (by first|(simp;done)|(split<;>simp)) t1l ?_;intro v2 w2 hown2 hb2 hg2;replace t1:=t1.below hb2 zo;replace B3:=B3.trans (hb2.mono zo);replace hown:=hown2;clear hb2 hg2 hown2;have d36:=(t1.cell 36).trans (HC.o _ _ ((A0.o 1).trans (show _=some (.int .i64 (R.tenant)) from rfl)));rw[teE.o]at d36;have d43:=(t1.cell 43).trans (HC.o _ _ ((A0.o 8).trans (show _=some (.int .u32 R.rate) from rfl)));refine⟨by first|exact(HS.o _).mpr ⟨d36,d43⟩|exact fun _=>(HS.o _).mpr ⟨d36,d43⟩,?_⟩;simp only[Act.put,tA0,tA1,tA2];have t1l:=t1.lt;obtain⟨A9,n9,c9,e9,-,-,hr9⟩:=hown.sl;first|subst e9|(injection e9 with q1 q2 q3;subst q1 q2 q3)
       refine zw ?_;go_simp;refine(qh8 _ _ _ R.rate 4 _ _ hr9 (by first|(simp[qaw];done)|(simp only[tA6,qaw];split<;>simp)) hb43).mono ?_;rintro e w2 ⟨v2,rfl,hown2,hb2⟩;rw[show qb0 4=4 from rfl]at hown2;replace hown:=hown2.mono (show w.heap.size+1≤_ from t1l);replace t1:=t1.below hb2 t1l;replace B3:=B3.trans (hb2.mono B3.size);clear hb2 hr9 hown2;have d36:=(t1.cell 36).trans (HC.o _ _ ((A0.o 1).trans (show _=some (.int .i64 (R.tenant)) from rfl)));rw[teE.o]at d36;have d43:=(t1.cell 43).trans (HC.o _ _ ((A0.o 8).trans (show _=some (.int .u32 R.rate) from rfl)));refine⟨by first|exact(HS.o _).mpr ⟨d36,d43⟩|exact fun _=>(HS.o _).mpr ⟨d36,d43⟩,?_⟩;repeat(refine zrt0 ?_)
       refine qbf ?_;clear HS d36 d43;have c0:=(t1.cell 0).trans (HC.o _ _ R0.o);have hs2:=t1.lt;go_wp2_with fail
       have d44:=(t1.cell 44).trans (HC.o _ _ ((A0.o 9).trans (show _=some (.int .u32 R.burst) from rfl)));have d45:=(t1.cell 45).trans (HC.o _ _ ((A0.o 10).trans (show _=some (.int .u32 R.store) from rfl)));obtain⟨S,HS⟩:=zS fun w'=>w'.cell? ⟨w.heap.size,44,none⟩=some (.int .u32 R.burst)∧w'.cell? ⟨w.heap.size,45,none⟩=some (.int .u32 R.store)
       refine zrs S 10 (zq 0 4 (zq 5 3 [(4,true),(8,true),(9,false)])) ((HS.o _).mpr ⟨d44,d45⟩) ?_;repeat(refine zrt0 ?_)
       replace t1:=t1.drew;replace B3:=B3.drew;replace hown:=hown.drew;have t1l:=t1.lt;obtain⟨A9,n9,c9,e9,-,-,hr9⟩:=hown.sl;first|subst e9|(injection e9 with q1 q2 q3;subst q1 q2 q3)
       refine zw ?_;go_simp;refine(qh8 _ _ _ R.burst 4 _ _ hr9 (by first|(simp[qaw];done)|(simp only[tA6,qaw];split<;>simp)) hb44).mono ?_;rintro e w2 ⟨v2,rfl,hown2,hb2⟩;rw[show qb0 4=4 from rfl]at hown2;replace hown:=hown2.mono (show w.heap.size+1≤_ from t1l);replace t1:=t1.below hb2 t1l;replace B3:=B3.trans (hb2.mono B3.size);clear hb2 hr9 hown2;have d44:=(t1.cell 44).trans (HC.o _ _ ((A0.o 9).trans (show _=some (.int .u32 R.burst) from rfl)));have d45:=(t1.cell 45).trans (HC.o _ _ ((A0.o 10).trans (show _=some (.int .u32 R.store) from rfl)));refine⟨by first|exact(HS.o _).mpr ⟨d44,d45⟩|exact fun _=>(HS.o _).mpr ⟨d44,d45⟩,?_⟩;have t1l:=t1.lt;obtain⟨A9,n9,c9,e9,-,-,hr9⟩:=hown.sl;first|subst e9|(injection e9 with q1 q2 q3;subst q1 q2 q3)
       refine zw ?_;go_simp;refine(qh8 _ _ _ R.store 4 _ _ hr9 (by first|(simp[qaw];done)|(simp only[tA6,qaw];split<;>simp)) hb45).mono ?_;rintro e w2 ⟨v2,rfl,hown2,hb2⟩;rw[show qb0 4=4 from rfl]at hown2;replace hown:=hown2.mono (show w.heap.size+1≤_ from t1l);replace t1:=t1.below hb2 t1l;replace B3:=B3.trans (hb2.mono B3.size);clear hb2 hr9 hown2;have d44:=(t1.cell 44).trans (HC.o _ _ ((A0.o 9).trans (show _=some (.int .u32 R.burst) from rfl)));have d45:=(t1.cell 45).trans (HC.o _ _ ((A0.o 10).trans (show _=some (.int .u32 R.store) from rfl)));refine⟨by first|exact(HS.o _).mpr ⟨d44,d45⟩|exact fun _=>(HS.o _).mpr ⟨d44,d45⟩,?_⟩;repeat(refine zrt0 ?_)
       refine qbf ?_;have H:=zh1 (xco R (by rw[HK.o];decide) (by rw[HK.o];decide) A1.o (fun h=>absurd (HK.symm.trans h) zdc) [(1,1,36),(4,2,43),(4,2,44),(4,2,45)] (by rw[HK.o];rfl));obtain⟨HO,HB⟩:=zh2 ((hown.mono (Nat.le_succ _)).cast (show (qhz R).2=_ by rw[H.o];simp[KE.o,KM.o,A2.o,qhc,fldB,Req.num,qdi,teE.o,tem.o])) B3;clear hown B3;go_wp2
       go_meet
       case rel=>
        obtain⟨As,ns,cs,e9,-,-,-⟩:=HO.sl;exact⟨As,ns,cs,e9,by rw[←e9];exact HO,zh1 (by rw[H.o]),HB⟩
     case rest=>
      obtain⟨As,ns,cs,rfl,HO,H1,HB⟩:=hcut;go_wp2
      go_ret2
      exact⟨_,by rw[H1.o];rfl,HO.o,HB.o⟩
 have H:Hid (qhz R=(1,[])):=by
  unfold Hid qhz fieldsOf;repeat' rw[if_neg zo]
 have r0:(reqv R cav (.slice Al R.leaf.length cl))[0]? =some (.int .i64 R.op):=rfl;obtain⟨L,hL⟩:=xeq (reqv R cav (.slice Al R.leaf.length cl));rw[hL]at r0 ⊢;clear hL;have t1:Blk (w.alloc (.cells L.toArray 34)) w.heap.size 34 L.toArray:=Blk.new w _ _;have c0:=(t1.cell 0).trans (show L.toArray[0]? =some (.int .i64 R.op) by simpa using r0);clear r0;rcases(show R.op<1∨12<R.op by omega) with h|h
 · go_enter Tryz.func39,Tryz.ntmps39
   go_wp2
   go_ret2
   exact⟨_,by rw[H.o];rfl,by rw[H.o];exact OwnB.nil _ _,(tA5 _ _).alloc (tA4 _) _⟩
 have h':¬R.op<1:=zo;go_enter Tryz.func39,Tryz.ntmps39
 go_wp2
 go_ret2
 exact⟨_,by rw[H.o];rfl,by rw[H.o];exact OwnB.nil _ _,(tA5 _ _).alloc (tA4 _) _⟩
theorem xcs(R:Req)(Ac:Option Addr)(cc:Nat)(Al:Option Addr)(cl:Nat)(w:World)(hR:R.Fit)(hleaf:Reads w w.heap.size 1 Al R.leaf.length (byv R.leaf))(hlc:R.leaf.length≤cl)(hc:cl≤maxLen)
 (hcav:Reads w w.heap.size 2 Ac R.cavs.length (cavv R.cavs))(hcc:R.cavs.length≤cc)(hcm:cc≤maxLen)(hid:R.tid<4294967296)(hln:∀x∈R.cavs,x.2<4294967296):
 Zc 92 #[.agg (reqv R (.slice Ac R.cavs.length cc) (.slice Al R.leaf.length cl)).toArray] w fun e w'=>∃v,e=.returned (.tuple #[v,.int .i64 ((qit R).1:Int)])∧OwnB w' w.heap.size v (qit R).2∧Zb w w':=by
 have hbody:=fun w' h=>xcr R (.slice Ac R.cavs.length cc) Al cl w' hR h hlc hc
 have htok:=fun w' h=>qhd R.tid R.cavs Ac cc R.tag w' h hcc hcm hid hln hR.tag
 have hrt:=qiv R (.slice Ac R.cavs.length cc) (.slice Al R.leaf.length cl);have hlen:=qiu R (.slice Ac R.cavs.length cc) (.slice Al R.leaf.length cl) hR.tag;have hlen2:=qdc R.tid (.slice Ac R.cavs.length cc) R.tag hR.tag;obtain⟨L,hL⟩:=xeq (reqv R (.slice Ac R.cavs.length cc) (.slice Al R.leaf.length cl));obtain⟨T,hT⟩:=xeq (tokv R.tid (.slice Ac R.cavs.length cc) R.tag);rw[hL]at hrt hlen ⊢;rw[hT]at hrt hlen2;simp only[hL]at hbody;simp only[hT]at htok;have hi1:(Tryz.prog.info? 34).map (·.size)=some L.length:=by rw[hlen];exact Tryz.req_info
 have hi2:(Tryz.prog.info? 31).map (·.size)=some T.length:=by rw[hlen2];exact Tryz.tok_info
 obtain⟨A3,A4,HB,HT,A5⟩:=zh5 hi1 hi2 hbody htok hrt;clear hi1 hi2 hL hT hlen hlen2 hbody htok hrt;have t0:Blk (w.alloc (.cells L.toArray 34)) w.heap.size 34 L.toArray:=Blk.new w _ _;have hrg:=qap t0 0 L zjq;have A0:=zh1 hrg;clear hrg;go_enter Tryz.func92,Tryz.ntmps92
 go_wp2_with (refine zld A0.o zu34 A3.o ?_)
 refine(HB.o _ (hleaf.laid _)).mono ?_;rintro e w1 ⟨v1,rfl,hown1,hb1⟩;simp only[qar,Zb]at hown1 hb1;have B1:Zb w w1:=((tA5 _ _).alloc (tA4 _) _).trans (hb1.mono zo);have t1:=t0.below hb1 zo;have hcav1:=hcav.call B1;clear hb1 A0 hcav hleaf t0;obtain⟨bw,hbw⟩:=xeq ((qhz R).1);obtain⟨bb,hbb⟩:=xeq ((qhz R).2);rw[hbw];rw[hbb]at hown1;have hbl:=qiw R;rw[hbb]at hbl;obtain⟨A1,A6⟩:=zh2 hbw hbb;clear hbw hbb;by_cases h0:bw=0
 ·
  subst h0;have hrg:=qap t1 1 T A5.o;have A0:=zh1 hrg;clear hrg;go_wp2_with (refine zld A0.o zu31 A4.o ?_)
  refine(HT.o _ hcav1).mono ?_;rintro e w2 ⟨v2,rfl,hown2,hb2⟩;have B2:=B1.trans (hb2.mono B1.size);have hownb:=hown1.kept hb2;have htl:=qe7 R.tid R.cavs R.tag hR.tag;obtain⟨tw,htw⟩:=xeq ((qd7 R.tid R.cavs R.tag).1);obtain⟨tb,htb⟩:=xeq ((qd7 R.tid R.cavs R.tag).2);rw[htw];rw[htb]at hown2 htl;obtain⟨A2,A7⟩:=zh2 htw htb;clear htw htb A0 hown1 hcav1 hb2;by_cases h1:tw=0
  ·
   subst h1;obtain⟨At,nt,ct,rfl,ht1,ht2,hrt⟩:=hown2.sl;obtain⟨Ab,nb,cb,rfl,hb1,hb2,hrb⟩:=hownb.sl;have H:Hid (qit R=(0,txt tb++bb)):=by
    unfold Hid qit;rw[if_pos A1.o,if_pos A2.o,A7.o,A6.o]
   go_wp2_with fail
   refine(qh9 none At 0 nt 0 ct [] tb _ Reads.none_ hrt zm ht1 ht2).mono ?_;rintro e w5 ⟨v5,rfl,hown5,hb5⟩;rw[List.nil_append]at hown5;have hrb5:=hrb.call hb5;have B5:=B2.trans (hb5.mono B2.size);have htx:=qix tb;have hbl5:=qb4 hrb5;clear hrb hrt hown2 hownb;go_wp2_with (at_builtin;refine qdy rfl _ _ rfl w2.heap.size _ _ rfl hown5 Ab nb cb bb rfl hrb5 zo hb5.size ?_)
   intro v6 w6 hown6 hb6 hg6;obtain⟨HO,A8⟩:=zh2 (hown6.mono B2.size) (B5.trans (hb6.mono B2.size));clear hown6 hb6 hg6 hown5 hrb5 hb5;go_wp2
   go_ret2
   exact⟨_,by rw[H.o];rfl,by rw[H.o];exact HO.o,A8.o⟩
  have H:Hid (qit R=(tw,[])):=by
   unfold Hid qit;rw[if_pos A1.o,A2.o,if_neg h1]
  have hn:((tw:Int)==0)=false:=by simpa using h1
  have hn2:((tw:Int) != 0)=true:=by simpa using h1
  go_wp2
  go_ret2
  exact⟨_,by rw[H.o];rfl,by rw[H.o];exact OwnB.nil _ _,B2⟩
 have H:Hid (qit R=(bw,[])):=by
  unfold Hid qit;rw[A1.o,if_neg h0]
 have hn:((bw:Int)==0)=false:=by simpa using h0
 have hn2:((bw:Int) != 0)=true:=by simpa using h0
 go_wp2
 go_ret2
 exact⟨_,by rw[H.o];rfl,by rw[H.o];exact OwnB.nil _ _,B1⟩
instance decTen:DecidableEq Ten:=fun x y=>decidable_of_iff (x.on=y.on∧x.rate=y.rate∧x.burst=y.burst∧x.tok=y.tok∧x.store=y.store∧x.used=y.used) (by cases x;cases y;simp)
instance decGra:DecidableEq Gra:=fun x y=>decidable_of_iff (x.tenant=y.tenant∧x.role=y.role∧x.expires=y.expires∧x.revoked=y.revoked) (by cases x;cases y;simp)
theorem Tryz.bk_size:∀w:World,(sizeOf 90).run Tryz.prog w=.ok 3 w:=fun w=>by kernel_rfl
theorem xd6(d:Nat)(w:World)(a b c a' b' c':Int):
 (Op.equalIn (d+2) 90 (.agg #[.int .u32 a,.int .u32 b,.int .u32 c]) (.agg #[.int .u32 a',.int .u32 b',.int .u32 c'])).run Tryz.prog w=.ok (a==a'&&(b==b'&&(c==c'&&true))) w:=by
 have hf:=qlf (P:=Tryz.prog) Tryz.underlying90;have hp:(Tryz.prog).stoodInHeld 90=false:=by kernel_rfl
 have hu:(Tryz.prog).underlying 90=some (.struct ((Tryz.prog).fieldsOf 90)):=by rw[hf];exact Tryz.underlying90
 rw[run_equalIn_struct w (d+1) 90 _ _ hu hp,hf];have e1:=fun x y=>run_equalIn_int w d 22 .u32 .u32 x y Tryz.underlying22
 have p0:∀x y z:Int,(part 22 #[.int .u32 x,.int .u32 y,.int .u32 z] 0).run Tryz.prog w=.ok (.int .u32 x) w:=fun x y z=>by simp[part,isAgg,run_underlying Tryz.underlying22]
 have p1:∀x y z:Int,(part 22 #[.int .u32 x,.int .u32 y,.int .u32 z] 1).run Tryz.prog w=.ok (.int .u32 y) w:=fun x y z=>by simp[part,isAgg,run_underlying Tryz.underlying22]
 have p2:∀x y z:Int,(part 22 #[.int .u32 x,.int .u32 y,.int .u32 z] 2).run Tryz.prog w=.ok (.int .u32 z) w:=fun x y z=>by simp[part,isAgg,run_underlying Tryz.underlying22]
 exact qlh zdc (p0 _ _ _) (p0 _ _ _) (e1 _ _) (qlh zdc (p1 _ _ _) (p1 _ _ _) (e1 _ _) (qlh zdc (p2 _ _ _) (p2 _ _ _) (e1 _ _) qlg))
theorem xd7(w:World)(x:Ten)(i:Nat)(v:Value)(t:TypeId)(d:TypeDesc)(hu:(Tryz.prog).underlying t=some d)(hd:d.isRow=false)(hv:(tenv x)[i]? =some v)(ha:(isAgg t).run Tryz.prog w=.ok false w):(part t (tenv x).toArray i).run Tryz.prog w=.ok v w:=by
 simp[part,ha,hv]
theorem xd8(d:Nat)(w:World)(x y:Ten):
 (Op.equalIn (d+3) 92 (.agg (tenv x).toArray) (.agg (tenv y).toArray)).run Tryz.prog w=.ok (decide (x=y)) w:=by
 have hf:=qlf (P:=Tryz.prog) Tryz.underlying92;have hp:(Tryz.prog).stoodInHeld 92=false:=by kernel_rfl
 have hu:(Tryz.prog).underlying 92=some (.struct ((Tryz.prog).fieldsOf 92)):=by rw[hf];exact Tryz.underlying92
 rw[run_equalIn_struct w (d+2) 92 _ _ hu hp,hf];have e0:=fun x y=>run_equalIn_bool' (w:=w) (d+1) 4 x y Tryz.underlying4
 have e1:=fun x y=>run_equalIn_int w (d+1) 22 .u32 .u32 x y Tryz.underlying22
 have eb:=xd6 d w x.rate x.burst x.tok y.rate y.burst y.tok;have ab:(isAgg 4).run Tryz.prog w=.ok false w:=by kernel_rfl
 have au:(isAgg 22).run Tryz.prog w=.ok false w:=by kernel_rfl
 have p0:=fun x:Ten=>xd7 w x 0 (.bool x.on) 4 _ Tryz.underlying4 rfl rfl ab
 have p4:=fun x:Ten=>xd7 w x 4 (.int .u32 (x.store:Int)) 22 _ Tryz.underlying22 rfl rfl au
 have p5:=fun x:Ten=>xd7 w x 5 (.int .u32 (x.used:Int)) 22 _ Tryz.underlying22 rfl rfl au
 have p1:∀x:Ten,(part 90 (tenv x).toArray 1).run Tryz.prog w=.ok (.agg #[.int .u32 (x.rate:Int),.int .u32 (x.burst:Int),.int .u32 (x.tok:Int)]) w:=fun x=>by
  simp[part,isAgg,run_underlying Tryz.underlying90,Tryz.bk_size,tenv]
 refine(qlh zdc (p0 x) (p0 y) (e0 _ _) (qlh zdc (p1 x) (p1 y) eb (qlh zdc (p4 x) (p4 y) (e1 _ _) (qlh zdc (p5 x) (p5 y) (e1 _ _) qlg)))).trans ?_;congr 1
 rw[Bool.eq_iff_iff];obtain⟨a,b,c,e,f,g⟩:=x;obtain⟨a',b',c',e',f',g'⟩:=y;simp only[Bool.and_eq_true,beq_iff_eq,decide_eq_true_eq,and_true,Int.natCast_inj,Ten.mk.injEq,and_assoc]
theorem xd9(w:World)(x y:Ten):(binOp .neq 92 (.agg (tenv x).toArray) (.agg (tenv y).toArray)).run Tryz.prog w=.ok (.bool !(decide (x=y))) w:=by
 rw[run_neq_struct,xd8 9997 w x y];rfl
theorem xda(d:Nat)(w:World)(x y:Gra):
 (Op.equalIn (d+2) 66 (.agg (grav x).toArray) (.agg (grav y).toArray)).run Tryz.prog w=.ok (decide (x=y)) w:=by
 have hf:=qlf (P:=Tryz.prog) Tryz.underlying66;have hp:(Tryz.prog).stoodInHeld 66=false:=by kernel_rfl
 have hu:(Tryz.prog).underlying 66=some (.struct ((Tryz.prog).fieldsOf 66)):=by rw[hf];exact Tryz.underlying66
 rw[run_equalIn_struct w (d+1) 66 _ _ hu hp,hf];have e0:=fun x y=>run_equalIn_bool' (w:=w) d 4 x y Tryz.underlying4
 have e1:=fun x y=>run_equalIn_int w d 3 .i64 .i64 x y Tryz.underlying3
 have e2:=fun x y=>run_equalIn_int w d 32 .u64 .u64 x y Tryz.underlying32
 have ab:(isAgg 4).run Tryz.prog w=.ok false w:=by kernel_rfl
 have ai:(isAgg 3).run Tryz.prog w=.ok false w:=by kernel_rfl
 have au:(isAgg 32).run Tryz.prog w=.ok false w:=by kernel_rfl
 have p:∀(x:Gra) (i:Nat) (v:Value) (t:TypeId),(grav x)[i]? =some v→(isAgg t).run Tryz.prog w=.ok false w→(part t (grav x).toArray i).run Tryz.prog w=.ok v w:=fun x i v t hv ha=>by simp[part,ha,hv]
 have q0:=fun x:Gra=>p x 0 (.int .i64 x.tenant) 3 rfl ai
 have q1:=fun x:Gra=>p x 1 (.int .i64 x.role) 3 rfl ai
 have q2:=fun x:Gra=>p x 2 (.int .u64 (x.expires:Int)) 32 rfl au
 have q3:=fun x:Gra=>p x 3 (.bool x.revoked) 4 rfl ab
 refine(qlh zdc (q0 x) (q0 y) (e1 _ _) (qlh zdc (q1 x) (q1 y) (e1 _ _) (qlh zdc (q2 x) (q2 y) (e2 _ _) (qlh zdc (q3 x) (q3 y) (e0 _ _) qlg)))).trans ?_;congr 1
 rw[Bool.eq_iff_iff];obtain⟨a,b,c,e⟩:=x;obtain⟨a',b',c',e'⟩:=y;simp only[Bool.and_eq_true,beq_iff_eq,decide_eq_true_eq,and_true,Int.natCast_inj,Gra.mk.injEq]
theorem xdb(w:World)(x y:Gra):(binOp .neq 66 (.agg (grav x).toArray) (.agg (grav y).toArray)).run Tryz.prog w=.ok (.bool !(decide (x=y))) w:=by
 rw[run_neq_struct,xda 9998 w x y];rfl
theorem xdc{ev:Operand→Value}{op:BinOp}{t r:TypeId}{x y:Operand}{xs ys:Array Value}(ho:o.op=.binOp op t x y r)(hx:ev x=.agg xs)(hy:ev y=.agg ys)(hm:P.eqGuardType P.depth t=false)
 (h:(binOp op t (.agg xs) (.agg ys)).run P w=.ok v w):(execOp ev o).run P w=.ok (.value v) w:=by
 unfold execOp;simp only[ho,hx,hy,Sem.run_bind,run_eqGuard_agg w op t x y xs ys hm,h,Result.andThen_ok,Sem.run_pure]
theorem xdd(A1 A2:Option Addr)(n c m d:Nat)(xs ys:List Ten)(w:World)(h1:Reads w w.heap.size 6 A1 n (xs.flatMap tenv))(h2:Reads w w.heap.size 6 A2 m (ys.flatMap tenv))(hn:n≤1000)(hm:m≤1000):
 Zc 84 #[.slice A1 n c,.slice A2 m d] w fun e w'=>e=.returned (.bool (decide (xs=ys)))∧Zb w w':=by
 have l1:xs.length=n:=by have:=h1.1;rw[qnm]at this;omega
 have l2:ys.length=m:=by have:=h2.1;rw[qnm]at this;omega
 obtain⟨B0,L1,L2,H1,H2⟩:=zh5 (tA5 w.heap.size w) l1 l2 h1 h2;go_enter Tryz.func84,Tryz.ntmps84
 by_cases hnm:n=m
 ·
  subst hnm;clear l1 l2 h1 h2;go_wp2_with fail
  go_loopw [13] (fun i wr=>∃k:Nat,k≤n∧i=.int .i64 k∧Hid (xs.take k=ys.take k)∧Hid (Zb w wr)) (fun i _=>n - (intOf i).toNat)
  case atStart=>exact⟨0,by omega,rfl,zh1 rfl,B0⟩
  case round=>
   obtain⟨k,hk,rfl,ht,hb⟩:=hrel;by_cases hlt:k<n
   ·
    have p1:(k:Int)<n:=zo;obtain⟨x,hx⟩:∃x,xs[k]? =some x:=⟨_,tA7 (by rw[L1.o];exact hlt)⟩;obtain⟨y,hy⟩:∃y,ys[k]? =some y:=⟨_,tA7 (by rw[L2.o];exact hlt)⟩;obtain⟨b1,o1,e1,-,c1⟩:=H1.mid zo zdc;obtain⟨b2,o2,e2,-,c2⟩:=H2.mid zo zdc;subst e1 e2;have r1:w.rangeAt b1 (o1+k*6) (tenv x):=fun j u hu=>by
     obtain⟨hj,-⟩:=tA8 hu;have:=c1 (k*6+j) u ((qnk hx hj).trans hu);rwa[←Nat.add_assoc]at this
    have r2:w.rangeAt b2 (o2+k*6) (tenv y):=fun j u hu=>by
     obtain⟨hj,-⟩:=tA8 hu;have:=c2 (k*6+j) u ((qnk hy hj).trans hu);rwa[←Nat.add_assoc]at this
    have hne:=fun w=>xd9 w x y
    have HE:=zh1 (show decide (x=y)=true→xs.take (k+1)=ys.take (k+1) from fun h=>by
     rw[List.take_add_one,List.take_add_one,hx,hy,ht.o,of_decide_eq_true h])
    have HF:=zh1 (show decide (x=y)=false→decide (xs=ys)=false from fun h=>by
     refine decide_eq_false fun e=>of_decide_eq_false h ?_
     rw[e,hy]at hx;injection hx with hx;exact hx.symm)
    obtain⟨bq,hbq⟩:=xeq (decide (x=y));rw[hbq]at HE HF;simp only[hbq]at hne;have i1:(tenv x).length=6:=rfl;have i2:(tenv y).length=6:=rfl;obtain⟨X,hX⟩:=xeq (tenv x);obtain⟨Y,hY⟩:=xeq (tenv y);rw[hX]at r1 i1;rw[hY]at r2 i2;simp only[hX,hY]at hne;obtain⟨I1,I2,A0,R1,R2⟩:=zh5 (zI 92 i1) (zI 92 i2) hne r1 r2;clear hx hy c1 c2 r1 r2 hne hbq hX hY i1 i2;go_upto_region 6 with(fail)
    obtain⟨S,HS⟩:=zS fun w'=>Zb w w'
    refine zrs S 9 (zq 0 9 []) ((HS.o _).mpr hb.drew) ?_;obtain⟨F1,F2⟩:=zh2 (fun(w':World)(h:S w')=>(show w'.rangeAt b1 (o1+k*6) X from fun j u hu=>qai (R1.o j u hu) ((HS.o w').mp h))) (fun(w':World)(h:S w')=>(show w'.rangeAt b2 (o2+k*6) Y from fun j u hu=>qai (R2.o j u hu) ((HS.o w').mp h)));iterate 3 (refine zre rfl rfl (fun w1 hS=>by clear hS;go_simp;try rfl) ?_)
    refine qo8 rfl rfl 92 (.tmp 18) rfl b1 (o1+k*6) rfl X _ F1.o Tryz.underlying92 rfl I1.o ?_;refine zP ?_;iterate 3 (refine zre rfl rfl (fun w1 hS=>by clear hS;go_simp;try rfl) ?_)
    refine qo8 rfl rfl 92 (.tmp 22) rfl b2 (o2+k*6) rfl Y _ F2.o Tryz.underlying92 rfl I2.o ?_;refine zP ?_;refine qbg rfl rfl ⟨.bool !bq,fun w1 hS=>xdc rfl rfl rfl zk (A0.o w1),?_⟩;refine zP ?_;refine qbf ?_;have HB:=zh1 hb.drew;clear HS F1 F2;cases bq with
    |true=>
     go_wp2
     go_roundw
     case rel=>exact⟨k+1,by omega,by go_num,zh1 (by have:=HE.o;simpa using this),HB⟩
     case measure=>simp[intOf];omega
    |false=>
     go_wp2
     go_ret
     exact⟨by rw[show decide (xs=ys)=false by have:=HF.o;simpa using this];rfl,HB.o⟩
   obtain rfl:k=n:=zo;have HF:=zh1 (show decide (xs=ys)=true from decide_eq_true (by
    have h:=ht.o;rwa[tB5 (by rw[L1.o];exact tA4 _),tB5 (by rw[L2.o];exact tA4 _)]at h))
   have p1:¬(k:Int)<k:=zo;go_wp2
   go_ret
   exact⟨by rw[HF.o];rfl,hb.o⟩
 have HF:=zh1 (show decide (xs=ys)=false from decide_eq_false fun e=>hnm (by rw[←l1,←l2,e]));have p1:¬(n:Int)=m:=zo;have p2:((n:Int)==m)=false:=by simp;omega
 clear l1 l2 h1 h2;go_wp2
 go_ret
 exact⟨by rw[HF.o];rfl,B0.o⟩
theorem xde(A1 A2:Option Addr)(n c m d:Nat)(xs ys:List Gra)(w:World)(h1:Reads w w.heap.size 4 A1 n (xs.flatMap grav))(h2:Reads w w.heap.size 4 A2 m (ys.flatMap grav))(hn:n≤1000)(hm:m≤1000):
 Zc 85 #[.slice A1 n c,.slice A2 m d] w fun e w'=>e=.returned (.bool (decide (xs=ys)))∧Zb w w':=by
 have l1:xs.length=n:=by have:=h1.1;rw[qnn]at this;omega
 have l2:ys.length=m:=by have:=h2.1;rw[qnn]at this;omega
 obtain⟨B0,L1,L2,H1,H2⟩:=zh5 (tA5 w.heap.size w) l1 l2 h1 h2;go_enter Tryz.func85,Tryz.ntmps85
 by_cases hnm:n=m
 ·
  subst hnm;clear l1 l2 h1 h2;go_wp2_with fail
  go_loopw [13] (fun i wr=>∃k:Nat,k≤n∧i=.int .i64 k∧Hid (xs.take k=ys.take k)∧Hid (Zb w wr)) (fun i _=>n - (intOf i).toNat)
  case atStart=>exact⟨0,by omega,rfl,zh1 rfl,B0⟩
  case round=>
   obtain⟨k,hk,rfl,ht,hb⟩:=hrel;by_cases hlt:k<n
   ·
    have p1:(k:Int)<n:=zo;obtain⟨x,hx⟩:∃x,xs[k]? =some x:=⟨_,tA7 (by rw[L1.o];exact hlt)⟩;obtain⟨y,hy⟩:∃y,ys[k]? =some y:=⟨_,tA7 (by rw[L2.o];exact hlt)⟩;obtain⟨b1,o1,e1,-,c1⟩:=H1.mid zo zdc;obtain⟨b2,o2,e2,-,c2⟩:=H2.mid zo zdc;subst e1 e2;have r1:w.rangeAt b1 (o1+k*4) (grav x):=fun j u hu=>by
     obtain⟨hj,-⟩:=tA8 hu;have:=c1 (k*4+j) u ((qnl hx hj).trans hu);rwa[←Nat.add_assoc]at this
    have r2:w.rangeAt b2 (o2+k*4) (grav y):=fun j u hu=>by
     obtain⟨hj,-⟩:=tA8 hu;have:=c2 (k*4+j) u ((qnl hy hj).trans hu);rwa[←Nat.add_assoc]at this
    have hne:=fun w=>xdb w x y
    have HE:=zh1 (show decide (x=y)=true→xs.take (k+1)=ys.take (k+1) from fun h=>by
     rw[List.take_add_one,List.take_add_one,hx,hy,ht.o,of_decide_eq_true h])
    have HF:=zh1 (show decide (x=y)=false→decide (xs=ys)=false from fun h=>by
     refine decide_eq_false fun e=>of_decide_eq_false h ?_
     rw[e,hy]at hx;injection hx with hx;exact hx.symm)
    obtain⟨bq,hbq⟩:=xeq (decide (x=y));rw[hbq]at HE HF;simp only[hbq]at hne;have i1:(grav x).length=4:=rfl;have i2:(grav y).length=4:=rfl;obtain⟨X,hX⟩:=xeq (grav x);obtain⟨Y,hY⟩:=xeq (grav y);rw[hX]at r1 i1;rw[hY]at r2 i2;simp only[hX,hY]at hne;obtain⟨I1,I2,A0,R1,R2⟩:=zh5 (zI 66 i1) (zI 66 i2) hne r1 r2;clear hx hy c1 c2 r1 r2 hne hbq hX hY i1 i2;go_upto_region 6 with(fail)
    obtain⟨S,HS⟩:=zS fun w'=>Zb w w'
    refine zrs S 9 (zq 0 9 []) ((HS.o _).mpr hb.drew) ?_;obtain⟨F1,F2⟩:=zh2 (fun(w':World)(h:S w')=>(show w'.rangeAt b1 (o1+k*4) X from fun j u hu=>qai (R1.o j u hu) ((HS.o w').mp h))) (fun(w':World)(h:S w')=>(show w'.rangeAt b2 (o2+k*4) Y from fun j u hu=>qai (R2.o j u hu) ((HS.o w').mp h)));iterate 3 (refine zre rfl rfl (fun w1 hS=>by clear hS;go_simp;try rfl) ?_)
    refine qo8 rfl rfl 66 (.tmp 18) rfl b1 (o1+k*4) rfl X _ F1.o Tryz.underlying66 rfl I1.o ?_;refine zP ?_;iterate 3 (refine zre rfl rfl (fun w1 hS=>by clear hS;go_simp;try rfl) ?_)
    refine qo8 rfl rfl 66 (.tmp 22) rfl b2 (o2+k*4) rfl Y _ F2.o Tryz.underlying66 rfl I2.o ?_;refine zP ?_;refine qbg rfl rfl ⟨.bool !bq,fun w1 hS=>xdc rfl rfl rfl zk (A0.o w1),?_⟩;refine zP ?_;refine qbf ?_;have HB:=zh1 hb.drew;clear HS F1 F2;cases bq with
    |true=>
     go_wp2
     go_roundw
     case rel=>exact⟨k+1,by omega,by go_num,zh1 (by have:=HE.o;simpa using this),HB⟩
     case measure=>simp[intOf];omega
    |false=>
     go_wp2
     go_ret
     exact⟨by rw[show decide (xs=ys)=false by have:=HF.o;simpa using this];rfl,HB.o⟩
   obtain rfl:k=n:=zo;have HF:=zh1 (show decide (xs=ys)=true from decide_eq_true (by
    have h:=ht.o;rwa[tB5 (by rw[L1.o];exact tA4 _),tB5 (by rw[L2.o];exact tA4 _)]at h))
   have p1:¬(k:Int)<k:=zo;go_wp2
   go_ret
   exact⟨by rw[HF.o];rfl,hb.o⟩
 have HF:=zh1 (show decide (xs=ys)=false from decide_eq_false fun e=>hnm (by rw[←l1,←l2,e]));have p1:¬(n:Int)=m:=zo;have p2:((n:Int)==m)=false:=by simp;omega
 clear l1 l2 h1 h2;go_wp2
 go_ret
 exact⟨by rw[HF.o];rfl,B0.o⟩
end Go.Proofs.YthomgopipiomhaaGreatDoor

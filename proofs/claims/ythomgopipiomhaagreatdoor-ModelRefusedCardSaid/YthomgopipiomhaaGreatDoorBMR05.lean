/- Lemmas. -/
import Derived.Test.YthomgopipiomhaaGreatDoorBMR04
namespace Go.Proofs.YthomgopipiomhaaGreatDoor
open Go.RowKit
set_option linter.unusedVariables false
set_option linter.unusedSimpArgs false
set_option maxRecDepth 100000
set_option maxHeartbeats 32000000
variable {v bv hv cav:Value}{n c' N g k B G:Nat}{A:Option Addr}{w w0 w':World}{x:Int}{R:Req}{bs:List Nat}
theorem xcg(R:Rsp)(Ab:Option Addr)(cb:Nat)(Ah:Option Addr)(ch:Nat)(Ac:Option Addr)(cc:Nat)(w:World)(hR:R.Ok)
 (hrb:Reads w w.heap.size 1 Ab R.bytes.length (byv R.bytes))(hbc:R.bytes.length≤cb)(hbm:cb≤maxLen)
 (hrh:Reads w w.heap.size 32 Ah R.hashes.length (digv R.hashes))(hhc:R.hashes.length≤ch)(hhm:ch≤maxLen)
 (hrc:Reads w w.heap.size 2 Ac R.tok.2.1.length (cavv R.tok.2.1))(hcc:R.tok.2.1.length≤cc)(hcm:cc≤maxLen):
 Zc 78 #[.agg (rspv R (.slice Ab R.bytes.length cb) (.slice Ah R.hashes.length ch) (.slice Ac R.tok.2.1.length cc)).toArray] w fun e w'=>∃v,e=.returned (.tuple #[v,.int .i64 ((qj3 R).1:Int)])∧OwnB w' w.heap.size v (qj3 R).2∧Below w.heap.size w w':=by
 have kenc:=fun w' h=>qdk R.tok.1 R.tok.2.1 Ac cc R.tok.2.2 w' h hcc hcm hR.tok.1 hR.tok.2.1 hR.tok.2.2.1
 have knone:=fun w'=>qms R.tok.1 Ac R.tok.2.1.length cc R.tok.2.2 w' hR.tok.2.2.1 hR.tok.2.2.2
 have kneq:=fun w'=>qmf w' R.hd Hd.zero hR.hd Hd.zero_Ok
 have tl:=qeb R.tok.1 R.tok.2.1 R.tok.2.2 hR.tok.2.2.1;have d0:(rspv R (.slice Ab R.bytes.length cb) (.slice Ah R.hashes.length ch) (.slice Ac R.tok.2.1.length cc))[0]? =some (.int .i64 R.why):=rfl;have d1:(rspv R (.slice Ab R.bytes.length cb) (.slice Ah R.hashes.length ch) (.slice Ac R.tok.2.1.length cc))[1]? =some (.int .u64 (R.n:Int)):=rfl;have d2:(rspv R (.slice Ab R.bytes.length cb) (.slice Ah R.hashes.length ch) (.slice Ac R.tok.2.1.length cc))[2]? =some (.slice Ab R.bytes.length cb):=rfl;have d3:(rspv R (.slice Ab R.bytes.length cb) (.slice Ah R.hashes.length ch) (.slice Ac R.tok.2.1.length cc))[3]? =some (.slice Ah R.hashes.length ch):=rfl;have dh:=qmm R (.slice Ab R.bytes.length cb) (.slice Ah R.hashes.length ch) (.slice Ac R.tok.2.1.length cc) hR;have dt:=qmn R (.slice Ab R.bytes.length cb) (.slice Ah R.hashes.length ch) (.slice Ac R.tok.2.1.length cc) hR;have lT:=qdg R.tok.1 (.slice Ac R.tok.2.1.length cc) R.tok.2.2 hR.tok.2.2.1;have lS:=qm6 R.hd hR.hd;have lH:=qm5 R.hd hR.hd.rootl;have hh:∀j u,(qm3 R.hd)[j]? =some u→(hdv R.hd)[j]? =some u:=fun j u hu=>by rw[qm4];exact qmo j u hu
 have hg:∀j u,(byv R.hd.tag)[j]? =some u→(hdv R.hd)[36+j]? =some u:=fun j u hu=>by rw[qm4];exact qmp 36 lH j u hu
 have hq:∀j u,(byv R.hd.root)[j]? =some u→(qm3 R.hd)[4+j]? =some u:=fun j u hu=>by
  rw[show 4+j=j+1+1+1+1 from by omega];exact hu
 have oneH:=qmq R.hd;have e0:(qm3 R.hd)[0]? =some (.int .i64 R.hd.tree):=rfl;have e1:(qm3 R.hd)[1]? =some (.int .i64 R.hd.epoch):=rfl;have e2:(qm3 R.hd)[2]? =some (.int .u64 (R.hd.size:Int)):=rfl;have e3:(qm3 R.hd)[3]? =some (.int .u64 (R.hd.clock:Int)):=rfl;have gR:(byv R.hd.root).length=32:=by rw[qat,hR.hd.rootl]
 have gT:(byv R.hd.tag).length=32:=by rw[qat,hR.hd.tagl]
 have hans:qj3 R=if 255<R.hashes.length∨(qdb R.tok.1 R.tok.2.1 R.tok.2.2).1=4 then(4,[]) else if 65536≤R.bytes.length then(3,[]) else if R.fits=true∧(qdb R.tok.1 R.tok.2.1 R.tok.2.2).1=0 then(0,ansB R) else(1,[]):=rfl
 have hab:ansB R=be R.why.toNat 1++(be R.n 8++(txt R.bytes++(be R.hashes.length 1++(R.hashes.flatten++(be (flagsOf R) 1++((if R.hd=Hd.zero then [] else hdB R.hd)++(if R.tok=qgu then [] else txt (qdb R.tok.1 R.tok.2.1 R.tok.2.2).2))))))):=rfl;have hfl:flagsOf R=(if R.hd=Hd.zero then 0 else 1)+(if R.tok=qgu then 0 else 2):=rfl;have hhB:hdB R.hd=be R.hd.tree.toNat 1++(be R.hd.epoch.toNat 4++(be R.hd.size 8++(be R.hd.clock 8++(R.hd.root++R.hd.tag)))):=rfl;have hft:R.fits=(decide (0≤R.why∧R.why≤255)&&decide (0≤R.hd.tree∧R.hd.tree≤255)&&decide (0≤R.hd.epoch∧R.hd.epoch≤2147483647)):=rfl;have hzt:(R.tok.1=0∧R.tok.2.1.length=0∧R.tok.2.2=List.replicate 32 0) ↔ R.tok=qgu:=by
  obtain⟨a,b,c⟩:=R.tok;simp[qgu,List.length_eq_zero_iff]
 have knone:∀w',Zc 75 #[.agg (tokv R.tok.1 (.slice Ac R.tok.2.1.length cc) R.tok.2.2).toArray] w' fun e w''=>e=.returned (.bool (decide (R.tok=qgu)))∧Below w'.heap.size w' w'':=fun w'=>by
  have:=knone w';simp only[hzt]at this;exact this
 have hn64:=hR.n;have hs64:=hR.hd.size;have hc64:=hR.hd.clock;have hok:=hR.hashes;obtain⟨L,hL⟩:=xeq (rspv R (.slice Ab R.bytes.length cb) (.slice Ah R.hashes.length ch) (.slice Ac R.tok.2.1.length cc));rw[hL]at d0 d1 d2 d3 dh dt ⊢;obtain⟨T,hT⟩:=xeq (tokv R.tok.1 (.slice Ac R.tok.2.1.length cc) R.tok.2.2);rw[hT]at dt lT;simp only[hT]at kenc knone;obtain⟨S,hS⟩:=xeq (hdv R.hd);rw[hS]at dh hh hg lS;simp only[hS]at kneq;obtain⟨H,hH⟩:=xeq (qm3 R.hd);rw[hH]at hh hq lH oneH e0 e1 e2 e3;obtain⟨y,hy⟩:=xeq R.why;obtain⟨ny,hny⟩:=xeq R.n;obtain⟨kt,hkt⟩:=xeq R.hd.tree;obtain⟨ke,hke⟩:=xeq R.hd.epoch;obtain⟨ks,hks⟩:=xeq R.hd.size;obtain⟨kc,hkc⟩:=xeq R.hd.clock;obtain⟨rt,hrt⟩:=xeq R.hd.root;obtain⟨tg,htg⟩:=xeq R.hd.tag;obtain⟨bs,hbs⟩:=xeq R.bytes;obtain⟨hs,hhs⟩:=xeq R.hashes;obtain⟨nb,hnb⟩:=xeq R.bytes.length;obtain⟨nh,hnh⟩:=xeq R.hashes.length;obtain⟨nc,hnc⟩:=xeq R.tok.2.1.length;obtain⟨zh,hzh⟩:=xeq (decide (R.hd=Hd.zero));obtain⟨zt,hzt2⟩:=xeq (decide (R.tok=qgu));obtain⟨cv,hcv⟩:=xeq R.tok.2.1;obtain⟨⟨tw,tb⟩,htr⟩:∃y,qdb R.tok.1 R.tok.2.1 R.tok.2.2=y:=⟨_,rfl⟩;have ezh:(if R.hd=Hd.zero then 0 else 1)=(if zh then 0 else 1):=by rw[←hzh];simp
 have ezt:(if R.tok=qgu then 0 else 2)=(if zt then 0 else 2):=by rw[←hzt2];simp
 have ezh2:(if R.hd=Hd.zero then [] else hdB R.hd)=(if zh then [] else hdB R.hd):=by rw[←hzh];simp
 have ezt2:(if R.tok=qgu then [] else txt (qdb R.tok.1 R.tok.2.1 R.tok.2.2).2)=(if zt then [] else txt (qdb R.tok.1 R.tok.2.1 R.tok.2.2).2):=by rw[←hzt2];simp
 rw[ezh2,ezt2]at hab;rw[ezh,ezt]at hfl;simp only[hzh]at kneq;simp only[hzt2]at knone;rw[htr]at tl hans;simp only[htr]at kenc hab;rw[hnb]at hans hbc hrb;rw[hnh]at hans hrh hhc hab;rw[hnc,hcv]at hrc;rw[hnc]at hcc;simp only[hnc]at kenc;simp only[hcv]at kenc;rw[hnb]at d2;rw[hnh]at d3;rw[hy]at d0 hft hab;rw[hny]at d1 hab hn64;rw[hkt]at e0 hft hhB;rw[hke]at e1 hft hhB;rw[hks]at e2 hhB hs64;rw[hkc]at e3 hhB hc64;rw[hrt]at hq gR hhB;rw[htg]at hg gT hhB;rw[hbs]at hrb hab;rw[hhs]at hrh hab hok;have hnb':bs.length=nb:=by rw[←hbs];exact hnb
 have hnh':hs.length=nh:=by rw[←hhs];exact hnh
 have lrt:rt.length=32:=by rw[←hrt];exact hR.hd.rootl
 have ltg:tg.length=32:=by rw[←htg];exact hR.hd.tagl
 dsimp only at tl kenc hans hab;have lt60:tb.length≤60:=tl;obtain⟨AC,A8,AD,D0,D1,D2,D3,DH⟩:=zh8 kenc knone kneq d0 d1 d2 d3 dh;obtain⟨DT,IT,IS,IH,IH',LH,OH,IR⟩:=zh8 dt (zI 31 lT) (zI 55 lS) (zI 53 lH) (show (Tryz.prog.info? 53).map (·.size)=some H.toArray.size by rw[tB6,lH];exact Tryz.hd_info) lH oneH (show (Tryz.prog.info? 29).map (·.size)=some (byv rt).length by rw[gR];exact Tryz.digest_info);obtain⟨IG,HH,HG,HQ,E0,E1,E2,E3⟩:=zh8 (show (Tryz.prog.info? 29).map (·.size)=some (byv tg).length by rw[gT];exact Tryz.digest_info) hh hg hq e0 e1 e2 e3;obtain⟨A0,AN,AO,AP,A6,AE,AQ,AH⟩:=zh8 hans hab hfl hhB hft hok hnb' hnh';obtain⟨AR,AS,AT,AU,AV⟩:=zh5 lrt ltg hrb hrh hrc;clear kenc knone kneq d0 d1 d2 d3 dh dt lT lS oneH gR gT hh hg hq e0 e1 e2 e3 hans hab hfl hhB hft hok hnb' hnh' lrt ltg hrb hrh hrc hL hT hS hH hy hny hkt hke hks hkc hrt htg hbs hhs hnb hnh hnc hzh hzt2 hcv htr hzt ezh ezt ezh2 ezt2 tl lH;unfold maxLen at hbm hhm hcm;have t0:Blk (w.alloc (.cells L.toArray 57)) w.heap.size 57 L.toArray:=Blk.new w _ _;obtain⟨B0,T0,AF,AG⟩:=zh4 (show Below w.heap.size w (w.alloc (.cells L.toArray 57)) from qah (tA5 _ _) _) t0 (qap t0 72 T DT.o) (AV.laid (.cells L.toArray 57));clear t0;obtain⟨W0,hW0⟩:=eqx (w.alloc (.cells L.toArray 57));rw[←hW0]at B0 T0 AF AG;have AI:=zh1 hW0;clear hW0;go_enter Tryz.func78,Tryz.ntmps78
 go_upto_region 1 with(fail)
 rw[←AI.o];go_wp2_with (refine zld AF.o zu31 IT.o ?_)
 refine(AC.o W0 AG.o).mono ?_;rintro e w1 ⟨v1,rfl,own1,b1⟩;have own1:OwnB w1 W0.heap.size v1 tb:=own1;have b1':=B0.trans (b1.mono B0.size);have t1:=T0.below b1 T0.lt;obtain⟨rg1,Z1⟩:=zh2 (qap t1 4 H (fun j u hu=>DH.o j u (HH.o j u hu))) (Blk.new w1 53 zLS);have hgw:w.heap.size<w1.heap.size:=t1.lt;obtain⟨T1,B1,A9⟩:=zh3 t1 b1' own1;clear t1 b1' own1 AF AG T0 B0 AI b1;go_upto_region 3 with(first
  |(refine zld rg1.o zu53 IH.o ?_)
  |(refine wpList_store_row rfl 53 (.tmp 6) (.tmp 19) rfl w1.heap.size H.toArray rfl rfl 53 _ Z1.o IH'.o (by simp[LH.o]) (all_oneCell_toArray OH.o) ?_))
 obtain⟨w4,h4⟩:=eqx ((w1.alloc (.cells zLS 53)).setRow w1.heap.size H.toArray);rw[←h4];have u4:Blk w4 w1.heap.size 53 H.toArray:=by rw[h4];exact Z1.setRow _
 have b4:Below w1.heap.size w1 w4:=by rw[h4];exact below_setRow ((tA5 _ _).alloc (tA4 _) _) (tA4 _) _
 have B4:=zh1 (B1.trans (b4.mono B1.size));have t4:=T1.below b4 T1.lt;have own4:=A9.kept b4;obtain⟨At,nt,ct,rfl,nct,mct,rdt⟩:=own4.sl;have hnt:tb.length=nt:=qb5 rdt;obtain⟨gh,hgh⟩:=xeq w1.heap.size;rw[hgh]at u4 hgw ⊢;obtain⟨U4,U4lt,T4,T4lt,AW,AX,AJ,AK⟩:=zh8 u4 u4.lt t4 t4.lt rdt hnt (AT.call B4.o) (AU.call B4.o);have c0:=(t4.cell 0).trans (show L.toArray[0]? =some (.int .i64 y) by simpa using D0.o);have c2:=(t4.cell 2).trans (show L.toArray[2]? =some (.slice Ab nb cb) by simpa using D2.o);have c3:=(t4.cell 3).trans (show L.toArray[3]? =some (.slice Ah nh ch) by simpa using D3.o);have h0:=(u4.cell 0).trans (show H.toArray[0]? =some (.int .i64 kt) by simpa using E0.o);have h1:=(u4.cell 1).trans (show H.toArray[1]? =some (.int .i64 ke) by simpa using E1.o);clear h4 b4 u4 t4 own4 rdt hnt hgh rg1 Z1 T1 B1 A9;by_cases q1:255<nh
 ·
  have q:(255:Int)<nh:=zo;have HN:Hid (qj3 R=(4,[])):=by
   unfold Hid;rw[A0.o,if_pos (.inl q1)]
  go_wp2
  go_ret2
  exact⟨_,by rw[HN.o];rfl,by rw[HN.o];exact OwnB.nil _ _,B4.o⟩
 have p1:¬(255:Int)<nh:=zo;by_cases q2:tw=4
 ·
  subst q2;have HN:Hid (qj3 R=(4,[])):=by
   unfold Hid;rw[A0.o,if_pos (.inr rfl)]
  go_wp2
  go_ret2
  exact⟨_,by rw[HN.o];rfl,by rw[HN.o];exact OwnB.nil _ _,B4.o⟩
 have p2:¬(tw:Int)=4:=zo;have A1:=zh1 (A0.trans (if_neg (fun h=>h.elim q1 q2)));clear A0;by_cases q3:65536≤nb
 ·
  have q:(65536:Int)≤nb:=zo;have HN:Hid (qj3 R=(3,[])):=by
   unfold Hid;rw[A1.o,if_pos q3]
  go_wp2
  go_ret2
  exact⟨_,by rw[HN.o];rfl,by rw[HN.o];exact OwnB.nil _ _,B4.o⟩
 have p3:¬(65536:Int)≤nb:=zo;have A2:=zh1 (A1.trans (if_neg q3));clear A1;by_cases q4:0≤y∧y≤255
 ·
  by_cases q5:0≤kt∧kt≤255
  ·
   by_cases q6:ke<0
   ·
    have HN:Hid (qj3 R=(1,[])):=by
     unfold Hid;rw[A2.o,if_neg];rw[A6.o];simp;omega
    go_wp2_with fail
    refine zca (qi6 _ _) ?_;rw[decide_eq_true q4];go_wp2_with fail
    refine zca (qi6 _ _) ?_;rw[decide_eq_true q5];go_wp2
    go_ret2
    exact⟨_,by rw[HN.o];rfl,by rw[HN.o];exact OwnB.nil _ _,B4.o⟩
   by_cases q7:2147483647<ke
   ·
    have HN:Hid (qj3 R=(1,[])):=by
     unfold Hid;rw[A2.o,if_neg];rw[A6.o];simp;omega
    go_wp2_with fail
    refine zca (qi6 _ _) ?_;rw[decide_eq_true q4];go_wp2_with fail
    refine zca (qi6 _ _) ?_;rw[decide_eq_true q5];go_wp2
    go_ret2
    exact⟨_,by rw[HN.o];rfl,by rw[HN.o];exact OwnB.nil _ _,B4.o⟩
   by_cases q8:tw=0
   ·
    subst q8;have A3:=zh1 (A2.trans (if_pos ⟨by rw[A6.o];simp;omega,rfl⟩));have HX:=zh1 (show qj3 R=(0,ansB R) from A3.o);clear A2 A3 A6;obtain⟨ky,rfl⟩:∃k:Nat,y=k:=⟨y.toNat,by omega⟩;obtain⟨lt,rfl⟩:∃k:Nat,kt=k:=⟨kt.toNat,by omega⟩;obtain⟨le,rfl⟩:∃k:Nat,ke=k:=⟨ke.toNat,by omega⟩;have f1:ky≤255:=zo;have f2:lt≤255:=zo;have f3:le≤2147483647:=zo;have f4:nh≤255:=zo;have f5:nb<65536:=zo;go_wp2_with fail
    refine zca (qi6 _ _) ?_;rw[decide_eq_true q4];go_wp2_with fail
    refine zca (qi6 _ _) ?_;rw[decide_eq_true q5];clear q1 q2 q3 q4 q5 q6 q7 p1 p2 p3;go_wp2_with fail
    refine(qd3 _).mono ?_;rintro e w5 ⟨rfl,hw5,hb5⟩;obtain⟨CC,CH⟩:=zh2 (fun(u:World)(t:Blk u w.heap.size 57 L.toArray)=>And.intro ((t.cell 0).trans (show L.toArray[0]? =some (.int .i64 (ky:Int)) by simpa using D0.o)) (And.intro ((t.cell 1).trans (show L.toArray[1]? =some (.int .u64 (ny:Int)) by simpa using D1.o)) (And.intro ((t.cell 2).trans (show L.toArray[2]? =some (.slice Ab nb cb) by simpa using D2.o)) ((t.cell 3).trans (show L.toArray[3]? =some (.slice Ah nh ch) by simpa using D3.o))))) (fun(u:World)(t:Blk u gh 53 H.toArray)=>And.intro ((t.cell 0).trans (show H.toArray[0]? =some (.int .i64 (lt:Int)) by simpa using E0.o)) (And.intro ((t.cell 1).trans (show H.toArray[1]? =some (.int .i64 (le:Int)) by simpa using E1.o)) (And.intro ((t.cell 2).trans (show H.toArray[2]? =some (.int .u64 (ks:Int)) by simpa using E2.o)) ((t.cell 3).trans (show H.toArray[3]? =some (.int .u64 (kc:Int)) by simpa using E3.o)))));have n1:=T4lt.o;have n2:=U4lt.o;have F5:Hid (Enc w4 w4.heap.size [(w.heap.size,57,L.toArray),(gh,53,H.toArray)] 0 w5 []):=⟨hw5,tA4 _,by
     intro p hp;rcases List.mem_cons.1 hp with rfl|hp
     · exact⟨T4.below hb5 n1,Nat.ne_of_lt n1,(show (57:TypeId)≠5 by decide)⟩
     rw[tBh]at hp;subst hp;exact⟨U4.below hb5 n2,Nat.ne_of_lt n2,(show (53:TypeId)≠5 by decide)⟩,hb5⟩
    obtain⟨G,hG⟩:=xeq w4.heap.size;rw[hG]at F5 ⊢;have HGw:=zh1 hG;have hnt:=AX.o;have hnb:=AQ.o;clear hG c0 c2 c3 h0 h1 hw5 hb5 n1 n2;obtain⟨c0,c1,c2,c3⟩:=CC.o _ F5.at0;go_wp2_with fail
    refine zcb (F5.num ky ky rfl 1 1 rfl zo zdc) fun w6 e9=>?_
    have F6:=zh1 e9;clear e9 F5 c0 c1 c2 c3;obtain⟨c0,c1,c2,c3⟩:=CC.o _ F6.at0;go_wp2_with fail
    refine zcb (F6.num ny ny rfl 8 8 rfl zo zdc) fun w7 e9=>?_
    have F7:=zh1 e9;clear e9 F6 c0 c1 c2 c3;obtain⟨c0,c1,c2,c3⟩:=CC.o _ F7.at0;go_wp2_with fail
    refine(F7.txt (K:=65535) bs Ab nb cb AJ.o zo (by unfold maxLen;omega) zo zdc).mono ?_;rintro e w8 ⟨rfl,e9⟩;have F8:=zh1 e9;clear e9 F7 c0 c1 c2 c3;obtain⟨c0,c1,c2,c3⟩:=CC.o _ F8.at0;go_wp2_with fail
    refine zcb (F8.num nh nh rfl 1 1 rfl zo zdc) fun w9 e9=>?_
    have F9:=zh1 e9;clear e9 F8 c0 c1 c2 c3;obtain⟨c0,c1,c2,c3⟩:=CC.o _ F9.at0;obtain⟨X4,hX4⟩:=xeq ([]++be ky 1++be ny 8++txt bs++be nh 1);rw[hX4]at F9;have AY:=zh1 hX4;clear hX4 AJ c0 c1 c2;go_wp2
    go_loopw [82] (fun i wr=>∃k:Nat,k≤nh∧i=.int .i64 k∧Hid (Enc w4 G [(w.heap.size,57,L.toArray),(gh,53,H.toArray)] (66000+k*32) wr (X4++(hs.take k).flatten))) (fun i _=>nh - (intOf i).toNat)
    case atStart=>exact⟨0,by omega,rfl,zh1 (by simpa using F9.mono zdc)⟩
    case round=>
     clear F9 c3;obtain⟨k,hk,rfl,F⟩:=hrel;by_cases hlt:k<nh
     ·
      obtain⟨d,hd⟩:∃d,hs[k]? =some d:=⟨_,tA7 (by rw[AH.o];exact hlt)⟩;have hdl:=(AE.o d (tB2 hd)).1;obtain⟨b,o,rfl,hab,hcell⟩:=(AK.below F.below).mid zo zo;have RG:=zh1 (show wr.rangeAt b (o+k*32) (byv d) from fun j u hu=>by
       have:=hcell _ u (qmh hs (fun x hx=>(AE.o x hx).1) k d hd j u hu);rwa[←Nat.add_assoc]at this)
      obtain⟨ID,ID',Zr,LD,HD,AZ⟩:=zh6 (show (Tryz.prog.info? 29).map (·.size)=some (byv d).length by rw[qat,hdl];exact Tryz.digest_info) (show (Tryz.prog.info? 29).map (·.size)=some (byv d).toArray.size by rw[tB6,qat,hdl];exact Tryz.digest_info) (Blk.new wr 29 zLD) (show (byv d).length=32 by rw[qat,hdl]) hd hdl;clear hcell hd hdl hab;go_upto_region 17 with(first
       |(refine zld RG.o zu29 ID.o ?_)
       |(refine wpList_store_row rfl 29 (.tmp 9) (.tmp 85) rfl wr.heap.size (byv d).toArray rfl rfl 29 _ Zr.o ID'.o (by simp[LD.o]) (all_oneCell_toArray (qau d)) ?_))
      obtain⟨ws,q,hs1,hq,FS⟩:=F.boxed (Z:=zLD) 29 (byv d).toArray;rw[hs1,hq];have AL:=zh1 (qap FS.at0 0 (byv d) zjq);clear hs1 hq Zr RG F;go_wp2_with (refine zld AL.o zu29 ID.o ?_)
      refine zcb (FS.dig d AZ.o zo) fun wt e9=>?_
      have FT:=zh1 e9;clear e9 FS AL;have FU:=zh1 ((FT.tail.mono (k:=66000+(k+1)*32) zo).cast (cs:=X4++(hs.take (k+1)).flatten) (by rw[List.take_add_one,HD.o];simp[List.append_assoc]));clear FT;go_wp2
      go_roundw
      case rel=>exact⟨k+1,by omega,by go_num,FU.o⟩
      case measure=>simp[intOf];omega
     obtain rfl:nh=k:=zo;have F':=F.mono (k:=75000) zo;rw[tB5 (by rw[AH.o];exact tA4 _)]at F';obtain⟨X5,hX5⟩:=eqx (X4++hs.flatten);rw[←hX5]at F';obtain⟨B2,FR⟩:=zh2 hX5 F';obtain⟨RS,RT⟩:=zh2 (qap FR.at0 4 S DH.o) (qap FR.at0 72 T DT.o);obtain⟨Z0,hZ0⟩:=xeq (hdv Hd.zero);have kneq:=AD.o;have hbz:=qmk;rw[hZ0]at kneq hbz;have BZ:=zh1 hbz;have hlw:w.heap.size<wr.heap.size:=FR.at0.lt;have tr:=FR.at0;have gG1:w.heap.size<G:=HGw.o▸T4lt.o;have gG2:gh<G:=HGw.o▸U4lt.o;have gG3:w.heap.size≤G:=zo;clear hX5 F' F hZ0 hbz AK AE hnb;go_upto_if 93 with(first
      |(refine zld RS.o zu55 IS.o ?_)
      |(refine qbk rfl ⟨.agg Z0.toArray,qgr 55 _ rfl _ _ BZ.o (by simp[Act.eval]),?_⟩))
     clear kneq;obtain⟨f1,hf1⟩:∃f1:Nat,Hid (f1=if zh then 0 else 1):=⟨_,rfl⟩;go_cut [10] (fun s10 wx=>s10=.int .i64 f1∧wx=wr)
     case first=>
      cases zh<;>(have e1:=hf1.o;simp at e1;subst e1;go_wp2;go_meet;case rel=>exact⟨rfl,rfl⟩)
     case rest=>
      obtain⟨rfl,rfl⟩:=hcut;obtain⟨wr,rfl⟩:=eqx wc;go_wp2_with (refine zld RT.o zu31 IT.o ?_)
      refine zcb (A8.o wr) fun wa ba=>?_
      have FA:=zh1 (FR.call ba);clear ba RS RT FR;go_upto_if 99 with(fail)
      obtain⟨f,hf⟩:∃f:Nat,f=(if zh then 0 else 1)+(if zt then 0 else 2):=⟨_,rfl⟩;have hf3:f≤3:=by rw[hf];cases zh<;>cases zt<;>simp
      have AA:=zh1 hf;clear hf;go_cut [10] (fun s10 wx=>s10=.int .i64 f∧wx=wa)
      case first=>
       cases zh<;>cases zt<;>(have e1:=hf1.o;have e2:=AA.o;simp at e1 e2;subst e1;subst e2;go_wp2;go_meet;case rel=>exact⟨rfl,rfl⟩)
      case rest=>
       obtain⟨rfl,rfl⟩:=hcut;obtain⟨wa,rfl⟩:=eqx wc;go_wp2_with fail
       refine zcb (FA.num f f rfl 1 1 rfl zo zdc) fun wb e9=>?_
       have FB:=zh1 e9;clear e9 FA;obtain⟨X6,hX6⟩:=xeq (X5++be f 1);rw[hX6]at FB;have B3:=zh1 hX6;clear hX6;go_upto_region 25 with(fail)
       go_cut [108] (fun s wx=>s=.bool (!zh)∧wx=wb)
       case first=>
        cases zh<;>cases zt<;>(have e2:=AA.o;simp at e2;subst e2;go_wp2;go_meet;case rel=>exact⟨rfl,rfl⟩)
       case rest=>
        obtain⟨rfl,rfl⟩:=hcut;obtain⟨wb,rfl⟩:=eqx wc;go_upto_if 108 with(fail)
        obtain⟨A7,hHB1⟩:=eqx (if zh then [] else hdB R.hd);have A4:=zh1 hHB1;clear hHB1;go_cut [] (fun wx=>Hid (Enc w4 G [(w.heap.size,57,L.toArray),(gh,53,H.toArray)] 76000 wx (X6++A7)))
        case first=>
         cases zh with
         |true=>
          have e:A7=[]:=A4.o;subst e;go_wp2
          go_meet
          case rel=>exact(FB.mono zdc).cast zm
         |false=>
          have e:A7=hdB R.hd:=A4.o;obtain⟨h0,h1,h2,h3⟩:=CH.o _ FB.at1;go_wp2_with fail
          refine zcb (FB.num lt lt rfl 1 1 rfl zo zdc) fun v1 e9=>?_
          have G1:=zh1 e9;clear e9 h0 h1 h2 h3;obtain⟨h0,h1,h2,h3⟩:=CH.o _ G1.at1;go_wp2_with fail
          refine zcb (G1.num le le rfl 4 4 rfl zo zdc) fun v2 e9=>?_
          have G2:=zh1 e9;clear e9 G1 h0 h1 h2 h3;obtain⟨h0,h1,h2,h3⟩:=CH.o _ G2.at1;go_wp2_with fail
          refine zcb (G2.num ks ks rfl 8 8 rfl zo zdc) fun v3 e9=>?_
          have G3:=zh1 e9;clear e9 G2 h0 h1 h2 h3;obtain⟨h0,h1,h2,h3⟩:=CH.o _ G3.at1;go_wp2_with fail
          refine zcb (G3.num kc kc rfl 8 8 rfl zo zdc) fun v4 e9=>?_
          have G4:=zh1 e9;clear e9 G3 h0 h1 h2 h3;have RR:=zh1 (qap G4.at1 4 (byv rt) HQ.o);go_wp2_with (refine zld RR.o zu29 IR.o ?_)
          refine zcb (G4.dig rt AR.o zdc) fun v5 e9=>?_
          have G5:=zh1 e9;clear e9 G4 RR;have AM:=zh1 (qap G5.at0 40 (byv tg) (fun j u hu=>by
           have:=DH.o (36+j) u (HG.o j u hu);rwa[←Nat.add_assoc]at this))
          go_wp2_with (refine zld AM.o zu29 IG.o ?_)
          refine zcb (G5.dig tg AS.o zdc) fun v6 e9=>?_
          have G6:=zh1 e9;clear e9 G5 AM;have G7:=zh1 ((G6.mono (k:=76000) zdc).cast (cs:=X6++A7) (by rw[e,AP.o];simp[List.append_assoc]));clear G6;go_wp2
          go_meet
          case rel=>exact G7.o
        case rest=>
         have FD:=hcut;obtain⟨wd,rfl⟩:=eqx wc;clear FB hcut;go_upto_region 32 with(fail)
         go_cut [138] (fun s wx=>s=.bool (!zt)∧wx=wd)
         case first=>
          cases zh<;>cases zt<;>(have e2:=AA.o;simp at e2;subst e2;go_wp2;go_meet;case rel=>exact⟨rfl,rfl⟩)
         case rest=>
          obtain⟨rfl,rfl⟩:=hcut;obtain⟨wd,rfl⟩:=eqx wc;go_upto_if 138 with(fail)
          obtain⟨AB,hTB1⟩:=eqx (if zt then [] else txt tb);have A5:=zh1 hTB1;clear hTB1;go_cut [] (fun wx=>Hid (Enc w4 G [(w.heap.size,57,L.toArray),(gh,53,H.toArray)] 77000 wx (X6++A7++AB)))
          case first=>
           cases zt with
           |true=>
            have e:AB=[]:=A5.o;subst e;go_wp2
            go_meet
            case rel=>exact(FD.mono zdc).cast zm
           |false=>
            have e:AB=txt tb:=A5.o;subst e;go_wp2_with fail
            refine zcb (FD.txt (K:=60) tb At nt ct AW.o nct mct lt60 zdc) fun we e9=>?_
            have FE:=zh1 e9;clear e9 FD;go_wp2
            go_meet
            case rel=>exact FE.mono zdc
          case rest=>
           have FE:=hcut;obtain⟨we,rfl⟩:=eqx wc;have hAB:X6++A7++AB=ansB R:=by
            rw[AN.o,←B3.o,B2.o,←AY.o,AO.o,←AA.o,A4.o,A5.o,tBe];simp only[List.append_assoc,List.nil_append]
           have FF:=zh1 (FE.cast hAB);have hGe:w.heap.size≤we.heap.size:=tB1 B4.size FF.below.size;clear hAB FD FE hcut;go_wp2_with fail
           refine(qd5 _ G _ we FF.wri (tB1 FF.len zdc)).mono ?_;rintro e wf ⟨vf,rfl,ownf,hbf⟩;obtain⟨HO,B5⟩:=zh2 (show OwnB wf w.heap.size vf (ansB R) from qdf ownf hGe) ((B4.trans (FF.below.mono B4.size)).trans (hbf.mono hGe));clear ownf hbf FF;go_wp2
           go_ret2
           exact⟨_,by rw[HX.o];rfl,by rw[HX.o];exact HO.o,B5.o⟩
   have hn:((tw:Int)==0)=false:=by simpa using q8
   have hn2:((tw:Int) != 0)=true:=by simpa using q8
   have HN:Hid (qj3 R=(1,[])):=by
    unfold Hid;rw[A2.o,if_neg (fun h=>q8 h.2)]
   go_wp2_with fail
   refine zca (qi6 _ _) ?_;rw[decide_eq_true q4];go_wp2_with fail
   refine zca (qi6 _ _) ?_;rw[decide_eq_true q5];go_wp2
   go_ret2
   exact⟨_,by rw[HN.o];rfl,by rw[HN.o];exact OwnB.nil _ _,B4.o⟩
  have HN:Hid (qj3 R=(1,[])):=by
   unfold Hid;rw[A2.o,if_neg];rw[A6.o];simp;omega
  go_wp2_with fail
  refine zca (qi6 _ _) ?_;rw[decide_eq_true q4];go_wp2_with fail
  refine zca (qi6 _ _) ?_;rw[decide_eq_false q5];go_wp2
  go_ret2
  exact⟨_,by rw[HN.o];rfl,by rw[HN.o];exact OwnB.nil _ _,B4.o⟩
 have HN:Hid (qj3 R=(1,[])):=by
  unfold Hid;rw[A2.o,if_neg];rw[A6.o];simp;omega
 go_wp2_with fail
 refine zca (qi6 _ _) ?_;rw[decide_eq_false q4];go_wp2
 go_ret2
 exact⟨_,by rw[HN.o];rfl,by rw[HN.o];exact OwnB.nil _ _,B4.o⟩
theorem xd1(id:Nat)(v:Value)(t tag:List Nat)(h:t.length=32)(h':tag.length=32):(tokv id v t).take 2++(byv tag++(tokv id v t).drop (2+(byv tag).length))=tokv id v tag:=by
 rw[qat,h',List.drop_eq_nil_of_le (by rw[qdg _ _ _ h];omega)];simp[tokv]
structure NInv (B id:Nat)(l:List (Int × Nat))(c:Int × Nat)(D:Nat→Bool)(x21 x24 x26 x27 x28 x8:Value)(w:World):Prop where
 fB:B≤w.heap.size
 f2:D 2=true→D 5=false→OwnC w B x21 []
 f5:D 5=true→D 8=false→OwnC w B x24 l
 f7:D 7=true→D 8=false→∃h,x26=.slice (some ⟨h,0,none⟩) 1 1∧Blk w h 132 #[.int .i64 c.1,.int .u32 (c.2:Int)]∧(D 2=true→D 5=false→x21.ownBlock≠some h)
 f8:D 8=true→OwnC w B x27 (l++[c])
 f58:D 8=true→D 5=true
 f9:D 9=true→D 8=true∧∃A n c',x27=.slice A n c'∧x28=.agg (tokv id x27 (List.replicate 32 0)).toArray
 f10:D 10=true→∃g,x8=.pointer (some ⟨g,0,none⟩)∧Blk w g 31 qgz.toArray∧B≤g
section
variable {B id : Nat} {l : List (Int × Nat)} {c : Int × Nat} {D : Nat → Bool} {x21 x24 x26 x27 x28 x8 : Value} {w w' : World}
theorem NInv.below(h:NInv B id l c D x21 x24 x26 x27 x28 x8 w)(hb:Zb w w'):NInv B id l c D x21 x24 x26 x27 x28 x8 w':=
 ⟨tB1 h.fB hb.size,fun a b=>(h.f2 a b).kept hb,fun a b=>(h.f5 a b).kept hb,fun a b=>by obtain⟨g,h1,h2,h3⟩:=h.f7 a b;exact⟨g,h1,h2.below hb h2.lt,h3⟩,fun a=>(h.f8 a).kept hb,h.f58,h.f9,
  fun a=>by obtain⟨g,h1,h2,h3⟩:=h.f10 a;exact⟨g,h1,h2.below hb h2.lt,h3⟩⟩
theorem NInv.op2(h:NInv B id l c D x21 x24 x26 x27 x28 x8 w)(h2:D 2=false):
 NInv B id l c (fun j=>D j||j==2) (.slice (some ⟨w.heap.size,0,none⟩) 0 0) x24 x26 x27 x28 x8 (w.alloc (.cells #[] 132)):=by
 have k:=h.below (w':=w.alloc (.cells #[] 132)) ((tA5 _ _).alloc (tA4 _) _);refine⟨k.fB,?_,by simpa using k.f5,?_,by simpa using k.f8,by simpa using k.f58,by simpa using k.f9,by simpa using k.f10⟩
 · intro _ _
   exact OwnC.mono (OwnC.made w [] (by simp[maxLen])) h.fB
 intro a b;obtain⟨g,g1,g2,g3⟩:=h.f7 (by simpa using a) (by simpa using b);refine⟨g,g1,g2.alloc _,fun _ _ e=>?_⟩;have:=g2.lt;simp only[Value.ownBlock,Option.some.injEq]at e;omega
theorem NInv.op7(h:NInv B id l c D x21 x24 x26 x27 x28 x8 w)(h7:D 7=false):
 NInv B id l c (fun j=>D j||j==7) x21 x24 (.slice (some ⟨w.heap.size,0,none⟩) 1 1) x27 x28 x8 (w.alloc (.cells #[.int .i64 c.1,.int .u32 (c.2:Int)] 132)):=by
 have k:=h.below (w':=w.alloc (.cells #[.int .i64 c.1,.int .u32 (c.2:Int)] 132)) ((tA5 _ _).alloc (tA4 _) _);refine⟨k.fB,by simpa using k.f2,by simpa using k.f5,?_,by simpa using k.f8,by simpa using k.f58,by simpa using k.f9,by simpa using k.f10⟩;intro _ _;refine⟨w.heap.size,rfl,Blk.new _ _ _,fun a b e=>?_⟩;have:=(World.ownsRow.lt (h.f2 (by simpa using a) (by simpa using b)) _ e).2;omega
theorem NInv.op5(h:NInv B id l c D x21 x24 x26 x27 x28 x8 w)(h5:D 5=false)(h2:D 2=true)(ho:OwnC w' B v l)(hb:Below B w w')(hg:w.grownBy w' x21.ownBlock):
 NInv B id l c (fun j=>D j||j==5) x21 v x26 x27 x28 x8 w':=by
 have h8:D 8=false:=by
  rcases Bool.eq_false_or_eq_true (D 8) with e|e
  · rw[h.f58 e]at h5;cases h5
  exact e
 refine⟨tB1 h.fB hg.size,by simp,fun _ _=>ho,?_,by simp[h8],by simp,?_,?_⟩
 · intro a b
   obtain⟨g,g1,g2,g3⟩:=h.f7 (by simpa using a) h8;exact⟨g,g1,g2.grown hg (fun e=>g3 h2 h5 e.symm),by simp⟩
 · intro a
   have:=(h.f9 (by simpa using a)).1;rw[h8]at this;cases this
 intro a;obtain⟨g,g1,g2,g3⟩:=h.f10 (by simpa using a);exact⟨g,g1,g2.grown hg (fun e=>qa3 (h.f2 h2 h5) g2 zdc e.symm),g3⟩
theorem NInv.op8(h:NInv B id l c D x21 x24 x26 x27 x28 x8 w)(h8:D 8=false)(h5:D 5=true)(ho:OwnC w' B v (l++[c]))(hb:Below B w w')(hg:w.grownBy w' x24.ownBlock):
 NInv B id l c (fun j=>D j||j==8) x21 x24 x26 v x28 x8 w':=by
 refine⟨tB1 h.fB hg.size,by simp[h5],by simp,by simp,fun _=>ho,by simp[h5],?_,?_⟩
 · intro a
   have:=(h.f9 (by simpa using a)).1;rw[h8]at this;cases this
 intro a;obtain⟨g,g1,g2,g3⟩:=h.f10 (by simpa using a);exact⟨g,g1,g2.grown hg (fun e=>qa3 (h.f5 h5 h8) g2 zdc e.symm),g3⟩
theorem NInv.op9(h:NInv B id l c D x21 x24 x26 x27 x28 x8 w)(h8:D 8=true)(e:x27=.slice A n c'):
 NInv B id l c (fun j=>D j||j==9) x21 x24 x26 x27 (.agg (tokv id x27 (List.replicate 32 0)).toArray) x8 w:=by
 exact⟨h.fB,by simpa using h.f2,by simpa using h.f5,by simpa using h.f7,by simpa using h.f8,by simpa using h.f58,fun _=>⟨by simpa using h8,A,n,c',e,rfl⟩,by simpa using h.f10⟩
theorem NInv.op10(h:NInv B id l c D x21 x24 x26 x27 x28 x8 w):
 NInv B id l c (fun j=>D j||j==10) x21 x24 x26 x27 x28 (.pointer (some ⟨w.heap.size,0,none⟩)) (w.alloc (.cells qgz.toArray 31)):=by
 have k:=h.below (w':=w.alloc (.cells qgz.toArray 31)) ((tA5 _ _).alloc (tA4 _) _);exact⟨k.fB,by simpa using k.f2,by simpa using k.f5,by simpa using k.f7,by simpa using k.f8,by simpa using k.f58,by simpa using k.f9,fun _=>⟨_,rfl,Blk.new _ _ _,h.fB⟩⟩
end
def rootb (c:Nat):List Nat:=c::1::2::List.replicate 29 0
theorem xd2(id:Nat)(A:Option Addr)(n c:Nat)(tag:List Nat)(h:tag.length=32):
 ∃L,tokv id (.slice A n c) tag=L∧L.length=34∧(∀u∈L,u.oneCell'=true)∧(Tryz.prog.info? 31).map (·.size)=some L.toArray.size:=by
 refine⟨_,rfl,qdg _ _ _ h,qeh _ _ rfl _,?_⟩;rw[tB6,qdg _ _ _ h];exact Tryz.tok_info
theorem xd3{k:Int}(h:Blk w g 132 #[.int .i64 k,.int .u32 (N:Int)]):Reads w w.heap.size 2 (some ⟨g,0,none⟩) 1 (cavv [(k,N)]):=by
 refine⟨rfl,fun _=>⟨_,rfl,h.lt,fun j u hu=>?_⟩⟩;rw[Addr.add_mid,h.cell (0+j)];simpa [cavv] using hu
theorem xd4(id:Nat)(A:Option Addr)(n c:Nat):Tryz.prog.built 31 [(0,.int .u32 id),(1,.slice A n c)]=some (tokv id (.slice A n c) (List.replicate 32 0)).toArray:=by kernel_rfl
theorem xd5(tb:Nat)(t:Tok)(A:Option Addr)(n c:Nat)(k:Int)(N:Nat)(w:World)(hr:Reads w w.heap.size 2 A n (cavv t.2.1))(hnc:n≤c)(hn:n≤8796093022000)(ht:t.2.2.length=32)(hb:∀x∈t.2.2,x<256)(hN:N<4294967296)(hT:RTab w tb):
 Zc 59 #[.pointer (some ⟨tb,0,none⟩),.agg (tokv t.1 (.slice A n c) t.2.2).toArray,.agg #[.int .i64 k,.int .u32 N]] w fun e w'=>∃v,e=.returned (.tuple #[.agg (tokv (qkl t (k,N)).1.1 v (qkl t (k,N)).1.2.2).toArray,.int .i64 ((qkl t (k,N)).2:Nat)])∧OwnC w' w.heap.size v (qkl t (k,N)).1.2.1∧Zb w w':=by
 have hl:t.2.1.length=n:=by have:=hr.1;rw[qee]at this;omega
 have hlen:=qdg t.1 (.slice A n c) t.2.2 ht;have d0:(tokv t.1 (.slice A n c) t.2.2)[0]? =some (.int .u32 (t.1:Int)):=rfl;have d1:(tokv t.1 (.slice A n c) t.2.2)[1]? =some (.slice A n c):=rfl;have d2:∀j u,(byv t.2.2)[j]? =some u→(tokv t.1 (.slice A n c) t.2.2)[2+j]? =some u:=fun j u h=>by
  unfold tokv;rw[show 2+j=j+1+1 by omega,tBc,tBc];exact h
 obtain⟨D,hD⟩:=xeq (tokv t.1 (.slice A n c) t.2.2);rw[hD]at hlen d0 d1 d2 ⊢;obtain⟨W0,hW0⟩:=eqx (((w.alloc (.cells D.toArray 31)).alloc (.cells #[.int .i64 k,.int .u32 N] 132)).alloc (.cells zLT 31));have t0:=zNd hW0;have v0:=zNe hW0;have z0:=zNf hW0;have b0:=zMc hW0;have tb0:RTab W0 tb:=Blk.below hT b0 (Blk.lt hT);have lW:w.heap.size+1+1<W0.heap.size:=z0.lt;have ltb:tb<w.heap.size:=Blk.lt hT;have ck:=v0.cell 0;have cs:=t0.cell 1;rw[show (#[Value.int .i64 k,.int .u32 N]:Array Value)[0]? =some (.int .i64 k) from rfl]at ck;rw[tA3,d1]at cs;obtain⟨AC,HD,AD,D0,D1,D2,T0,V0⟩:=zh8 hW0 hD hlen d0 d1 d2 t0 v0;obtain⟨Z0,B0,HR,HT,Hl⟩:=zh5 z0 b0 (hr.call b0) tb0 hl;clear hW0 hD hlen d0 d1 d2 t0 v0 z0 b0 hr hT tb0 hl;go_enter Tryz.func59,Tryz.ntmps59
 go_upto_region 1 with(fail)
 rw[←AC.o];by_cases hk:qd9 k=true
 ·
  go_upto_region 3 with((with_reducible refine(qhe k _).mono ?_);(rintro _ _ ⟨rfl,rfl⟩))
  by_cases h4:n<4
  ·
   have hres:qkl t (k,N)=((t.1,t.2.1++[(k,N)],mac t.2.2 (qkk (k,N))),0):=by unfold qkl;rw[if_pos hk,if_pos (by rw[Hl.o];exact h4)]
   have k13:=qda hk;have q4:¬(n:Int) ≥ 4:=zo;have Hres:=zh1 hres;clear hres hk;obtain⟨m,rfl⟩:=Int.eq_ofNat_of_zero_le (by omega:0≤k);have ku:IntKind.u8.wrap (m:Int)=m:=IntWalk.u8_in _ zo;have nu:IntKind.u64.wrap (N:Int)=N:=tBa _ zo;obtain⟨KU,NU⟩:=zh2 ku nu;clear ku nu ck;go_upto_region 5 with(fail)
   obtain⟨S,HS⟩:=zS fun w'=>Zb W0 w'
   have F0:Hid (∀w',S w'→w'.cell? ⟨w.heap.size,0,none⟩=some (.int .u32 (t.1:Int))):=fun w' h=>by
    rw[HS.o]at h;rw[(T0.below h T0.lt).cell,tA3,D0.o]
   have F1:Hid (∀w',S w'→w'.cell? ⟨w.heap.size,1,none⟩=some (.slice A n c)):=fun w' h=>by
    rw[HS.o]at h;rw[(T0.below h T0.lt).cell,tA3,D1.o]
   have F2:Hid (∀w',S w'→w'.cell? ⟨w.heap.size+1,0,none⟩=some (.int .i64 m)):=fun w' h=>by
    rw[HS.o]at h;rw[(V0.below h V0.lt).cell];rfl
   have F3:Hid (∀w',S w'→w'.cell? ⟨w.heap.size+1,1,none⟩=some (.int .u32 N)):=fun w' h=>by
    rw[HS.o]at h;rw[(V0.below h V0.lt).cell];rfl
   have keepS:∀w' w'',S w'→W0.heap.size≤w'.heap.size→Zb w' w''→S w'':=fun w' w'' h hl hb=>by
    rw[HS.o]at h ⊢;exact h.trans (hb.mono hl)
   refine qpg S 11 [21,24,26,27,28,8] [(0,false),(1,false),(3,false),(4,false),(6,false)] 6 [(2,[]),(5,[2]),(7,[]),(8,[5,7]),(9,[8]),(10,[])] [(11,true)] #[true,true,false,true,true,false,true,false,false,false,false,false] #[true,true,true,true,true,true,true,true,true,true,true,false] zk rfl zk zk zk zk zk zk (fun _ _ d _ _ h=>by cases d<;>exact h) ((HS.o _).mpr (tA5 _ W0).drew) ?_;iterate 5 (refine qkb rfl rfl ⟨?_,fun w1 hS=>?_,?_⟩;rotate_left;(focus(have g0:=F0.o w1 hS;have g1:=F1.o w1 hS;have g2:=F2.o w1 hS;have g3:=F3.o w1 hS;go_simp;try rfl));simp only[Act.put,tA0,tA1,tA2])
   refine qka ?_;refine⟨fun Dn vs w'=>∃x21 x24 x26 x27 x28 x8,vs=[x21,x24,x26,x27,x28,x8]∧NInv W0.heap.size t.1 t.2.1 ((m:Int),N) Dn x21 x24 x26 x27 x28 x8 w',⟨[_,_,_,_,_,_],rfl,_,_,_,_,_,_,rfl,?_⟩,⟨?_,?_,?_,?_,?_,?_,trivial⟩,?_⟩
   · exact⟨tA4 _,fun h=>(nomatch h),fun h=>(nomatch h),fun h=>(nomatch h),fun h=>(nomatch h),fun h=>(nomatch h),fun h=>(nomatch h),fun h=>(nomatch h)⟩
   · rintro Dn vs w' hS ⟨x21,x24,x26,x27,x28,x8,rfl,hI⟩ hD hd
     simp only[puts,Act.put,tA0,tA1,tA2];refine qpj fun K hK=>qk6 rfl rfl ?_
     go_simp;exact hK _ _ ⟨keepS _ _ hS (hI.fB) ((tA5 _ _).alloc (tA4 _) _),[_,_,_,_,_,_],rfl,_,_,_,_,_,_,rfl,hI.op2 hD⟩
   ·
    rintro Dn vs w' hS ⟨x21,x24,x26,x27,x28,x8,rfl,hI⟩ hD hd;simp only[puts,Act.put,tA0,tA1,tA2];have h2:=hd 2 zm;refine qpj fun K hK=>qk6 rfl rfl ?_
    have hb':=hS;rw[HS.o]at hb';refine qgw (.tmp 21) (.tmp 23) rfl W0.heap.size _ [] rfl (hI.f2 h2 hD) A n c t.2.1 rfl (HR.call hb') (by simp;omega) hI.fB ?_;intro v5 w5 o5 b5 g5;exact hK _ _ ⟨(HS.o _).mpr (hb'.trans b5),[_,_,_,_,_,_],rfl,_,_,_,_,_,_,rfl,hI.op5 hD h2 (by simpa using o5) b5 g5⟩
   · rintro Dn vs w' hS ⟨x21,x24,x26,x27,x28,x8,rfl,hI⟩ hD hd
     simp only[puts,Act.put,tA0,tA1,tA2];refine qpj fun K hK=>qk6 rfl rfl ?_
     go_simp;exact hK _ _ ⟨keepS _ _ hS (hI.fB) ((tA5 _ _).alloc (tA4 _) _),[_,_,_,_,_,_],rfl,_,_,_,_,_,_,rfl,hI.op7 hD⟩
   ·
    rintro Dn vs w' hS ⟨x21,x24,x26,x27,x28,x8,rfl,hI⟩ hD hd;simp only[puts,Act.put,tA0,tA1,tA2];have h5:=hd 5 zm;have h7:=hd 7 zm;obtain⟨g,rfl,gb,-⟩:=hI.f7 h7 hD;refine qpj fun K hK=>qk6 rfl rfl ?_
    have hb':=hS;rw[HS.o]at hb';refine qgw (.tmp 24) (.tmp 26) rfl W0.heap.size _ t.2.1 rfl (hI.f5 h5 hD) _ 1 1 [((m:Int),N)] rfl (xd3 gb) (by have:=Hl.o;omega) hI.fB ?_;intro v5 w5 o5 b5 g5;exact hK _ _ ⟨(HS.o _).mpr (hb'.trans b5),[_,_,_,_,_,_],rfl,_,_,_,_,_,_,rfl,hI.op8 hD h5 o5 b5 g5⟩
   ·
    rintro Dn vs w' hS ⟨x21,x24,x26,x27,x28,x8,rfl,hI⟩ hD hd;simp only[puts,Act.put,tA0,tA1,tA2];have h8:=hd 8 zm;obtain⟨A0,n27,c27,rfl,-,-,-,-⟩:=(hI.f8 h8).sl;have bT:=xd4 t.1 A0 n27 c27;refine qpj fun K hK=>qk6 rfl rfl ?_
    refine qph (qgr 31 _ rfl _ _ bT (by simp[Act.eval])) ?_;exact hK _ _ ⟨hS,[_,_,_,_,_,_],rfl,_,_,_,_,_,_,rfl,hI.op9 h8 rfl⟩
   · rintro Dn vs w' hS ⟨x21,x24,x26,x27,x28,x8,rfl,hI⟩ hD hd
     simp only[puts,Act.put,tA0,tA1,tA2];refine qpj fun K hK=>qk6 rfl rfl ?_
     go_simp;exact hK _ _ ⟨keepS _ _ hS (hI.fB) ((tA5 _ _).alloc (tA4 _) _),[_,_,_,_,_,_],rfl,_,_,_,_,_,_,rfl,hI.op10⟩
   rintro vs w5 hS5 ⟨x21,x24,x26,x27,x28,x8,rfl,hI⟩;simp only[puts,Act.put,tA0,tA1,tA2];obtain⟨-,A0,n27,c27,rfl,rfl⟩:=hI.f9 rfl;obtain⟨g8,rfl,z8,l8⟩:=hI.f10 rfl;have o27:=hI.f8 rfl;obtain⟨T5,hT5,lT5,oT5,iT5⟩:=xd2 t.1 A0 n27 c27 (List.replicate 32 0) zm;have htt:=xd1 t.1 (.slice A0 n27 c27) (List.replicate 32 0) (mac t.2.2 (qkk (m,N))) zm (qkf _ _);have ltt:=qdg t.1 (.slice A0 n27 c27) (mac t.2.2 (qkk (m,N))) (qkf _ _);have ott:=qeh t.1 (.slice A0 n27 c27) rfl (mac t.2.2 (qkk (m,N)));rw[hT5]at htt ⊢;rw[HS.o]at hS5;have b5:=hS5;clear hT5 hS5 hI F0 F1 F2 F3 keepS HS;refine qbj rfl rfl ?_;refine wp_store_row 31 (.tmp 8) (.tmp 28) rfl g8 T5.toArray rfl rfl 31 _ z8 iT5 (by simp[lT5,qgz,qdg]) (by simpa using oT5) ?_;refine⟨fun h=>absurd h zdc,?_⟩;obtain⟨W6,hW6⟩:=eqx ((w5.setRow g8 T5.toArray).drew);have z6:Blk W6 g8 31 T5.toArray:=by rw[hW6];exact z8.setRow _
   have o6:OwnC W6 W0.heap.size (.slice A0 n27 c27) (t.2.1++[((m:Int),N)]):=by
    rw[hW6];exact OwnC.kept (tB3 o27 (qam _ _ _) (.inr (qa3 o27 z8 zdc))) (tA5 _ _).drew
   have b6:Zb W0 W6:=by rw[hW6];exact(below_setRow b5 l8 _).drew
   have l86:=z6.lt;obtain⟨Z6,O6,B6,A5,AE,AF,AG,L8⟩:=zh8 z6 o6 b6 lT5 htt ltt ott l8;have A6:=zh1 hW6;clear z6 o6 b6 lT5 htt ltt ott oT5 iT5 o27 z8 b5 hW6 l8 l86;refine zP ?_;refine qbg ?_;go_upto_region 6 with(fail)
   obtain⟨S,HS⟩:=zS fun w'=>Zb W6 w'
   have F2:Hid (∀w',S w'→w'.cell? ⟨w.heap.size+1,0,none⟩=some (.int .i64 m)):=fun w' h=>by
    rw[HS.o]at h;have v6:=V0.below B6.o V0.lt;rw[(v6.below h v6.lt).cell];rfl
   have F3:Hid (∀w',S w'→w'.cell? ⟨w.heap.size+1,1,none⟩=some (.int .u32 N)):=fun w' h=>by
    rw[HS.o]at h;have v6:=V0.below B6.o V0.lt;rw[(v6.below h v6.lt).cell];rfl
   refine zrs S 13 (zq 0 6 (zq 7 3 [(6,true),(10,true),(11,true),(12,false),(13,true)])) ((HS.o _).mpr (by rw[A6.o];exact tA5 _ _)) ?_;rw[show (w5.setRow g8 T5.toArray).drew=W6 from A6.symm];iterate 9 (refine zre rfl rfl (fun w1 hS=>by have g2:=F2.o w1 hS;have g3:=F3.o w1 hS;have ku:=KU.o;have nu:=NU.o;go_simp;try rfl) ?_)
   have B6d:=B6.o;have k6:=Z6.o;obtain⟨W7,hW7⟩:=eqx (W6.alloc (.cells #[.int .u8 (m:Int)] 5));have y7:=zNa hW7;have b7:=zMa hW7;have N7:=qhc (some ⟨W6.heap.size,0,none⟩) 1 1 N 4 [m] W7 (qpm y7) zm zo;rw[show qb0 4=4 from rfl,show [m]++be N 4=qkk ((m:Int),N) from by simp only[qkk,tBe];rw[qhg,Nat.mod_eq_of_lt zo]]at N7;obtain⟨AH,AI⟩:=zh2 N7 hW7;clear N7 hW7 y7 k6 B6d;refine qbj rfl rfl ?_;refine qpl (.tmp 34) rfl (m:Int) rfl ?_;rw[show W6.alloc (.cells #[.int .u8 (m:Int)] 5)=W7 from AI.symm];refine⟨fun _=>(HS.o _).mpr b7,?_⟩;refine zP ?_;refine qbj rfl rfl ?_;go_simp;refine AH.o.mono ?_;rintro e w8 ⟨v8,rfl,own8,b8⟩;obtain⟨A8,n8,c8,rfl,nc8,-,r8⟩:=own8.sl;have ln8:=qb5 r8;have lc:(qkk ((m:Int),N)).length=5:=by simp[qkk,qaw]
   rw[lc]at ln8;have b68:=b7.trans (b8.mono b7.size);have t8:=(T0.below B6.o T0.lt).below b68 (tB0 T0.lt B6.size);have rk:=qgx (n:=32) t8 (by rw[qat];exact ht) D2.o;have M8:=xac tb 32 32 n8 c8 _ A8 t.2.2 (qkk ((m:Int),N)) w8 (Blk.below (Blk.below HT.o B6.o (Blk.lt HT.o)) b68 (tB0 (Blk.lt HT.o) B6.size)) rk r8 hb (by intro x hx;rcases List.mem_append.1 hx with h|h<;>exact qaz _ _ x h) zo zo;obtain⟨AJ,A1⟩:=zh2 M8 b68;clear M8 rk t8 ln8 lc own8 r8 b68 b7 b8 nc8;refine⟨(HS.o _).mpr A1.o,?_⟩;refine zP ?_;refine qbj rfl rfl ?_;go_simp;refine zcb AJ.o fun w9 b9=>?_
   have b69:=A1.trans (b9.mono A1.size);have z9:=Z6.below b69 Z6.lt;have o9:=O6.kept b69;have bl9:=B6.trans (b69.mono B6.size);have lV:(byv (mac t.2.2 (qkk ((m:Int),N)))).length=32:=by rw[qat];exact qkf _ _
   have TH:=qel z9 2 32 (by rw[A5.o];decide);have SC:=Blk.setCells (byv (mac t.2.2 (qkk ((m:Int),N)))) 2 w9 _ z9 (by rw[A5.o,lV];decide);rw[AE.o]at SC;have OV:=all_oneCell_toArray (qau (mac t.2.2 (qkk ((m:Int),N))));obtain⟨E,hE⟩:=xeq (byv (mac t.2.2 (qkk ((m:Int),N))));rw[hE]at SC lV OV ⊢;have IV:(Tryz.prog.info? 29).map (·.size)=some E.toArray.size:=by rw[tB6,lV];exact Tryz.dig_info
   have TH':w9.there g8 2 E.toArray.size:=by rw[tB6,lV];exact TH
   obtain⟨T,hTT⟩:=xeq (tokv t.1 (.slice A0 n27 c27) (mac t.2.2 (qkk ((m:Int),N))));have LT:=AF.o;have OT:=AG.o;rw[hTT]at SC LT OT;obtain⟨W9,hW9⟩:=eqx (w9.setCells g8 2 E);rw[←hW9]at SC;have gsc:=qej g8 E 2 w9;rw[←hW9]at gsc;have O9:OwnC W9 W0.heap.size (.slice A0 n27 c27) (t.2.1++[((m:Int),N)]):=tB3 o9 gsc (.inr (qa3 o9 z9 zdc));have A2:Zb W0 W9:=bl9.grown gsc (tB1 B6.size b69.size) (fun k hk=>by injection hk with hk;rw[←hk];exact L8.o);have z2:=Z0.below A2 Z0.lt;obtain⟨AR,A7,A3,AK,AL,AM,A9,AN⟩:=zh8 SC O9 A2 TH' IV OV LT OT;obtain⟨AO,A4,AP⟩:=zh3 hTT z2 hW9;have AA:S w9:=(HS.o _).mpr b69;obtain⟨AB,AQ⟩:=zh2 (zI 31 LT) (qap SC 0 T zjq);clear SC O9 A2 TH TH' IV OV LT OT hTT z2 gsc b69 z9 o9 bl9 lV hE F2 F3 hW9;refine⟨AA,?_⟩;clear AA;refine zP ?_;iterate 1 (refine zrb ?_)
   refine qbj rfl rfl ?_;refine wp_store_mid 29 (.tmp 41) (.tmp 40) rfl g8 2 E.toArray rfl rfl AK.o AL.o AM.o ?_;refine⟨fun h=>absurd h zdc,?_⟩;rw[show w9.setCells g8 2 E.toArray.toList=W9 from AP.symm];refine zP ?_;refine qbg ?_;go_wp2_with (first
    |(refine zld AQ.o zu31 AB.o ?_)
    |(refine zst A4.o AB.o (by simp[A9.o]) AN.o ?_))
   have z8:=A4.setRow T.toArray;have O8:OwnC (W9.setRow (w.heap.size+1+1) T.toArray) W0.heap.size (.slice A0 n27 c27) (t.2.1++[((m:Int),N)]):=
    tB3 A7.o (qam _ _ _) (.inr (qa3 A7.o A4.o zdc))
   refine bodyPost_ret (qgv rfl rfl (qgy z8 A9.o)) rfl ⟨.slice A0 n27 c27,by rw[Hres.o,←AO.o];rfl,by rw[Hres.o];exact O8.mono B0.size,?_⟩;exact below_setRow (B0.trans (A3.mono B0.size)) zo _
  have hres:qkl t (k,N)=(qgu,4):=by unfold qkl;rw[if_pos hk,if_neg (by rw[Hl.o];exact h4)]
  have q4:(n:Int) ≥ 4:=zo;have Hres:=zh1 hres;clear hres hk ck;go_wp2_with (refine wpList_store_row rfl 31 (.tmp 6) (.tmp 18) rfl (w.heap.size+1+1) qgz.toArray rfl rfl 31 _ Z0.o qh1 qh2 qh0 ?_)
  have z8:Blk _ _ 31 qgz.toArray:=Z0.setRow qgz.toArray;refine bodyPost_ret (qgv rfl rfl (qgy z8 rfl)) rfl ⟨.slice none 0 0,by rw[Hres.o];rfl,by rw[Hres.o];exact OwnC.nil _ _,?_⟩;exact below_setRow B0.o zo _
 have hk':qd9 k=false:=by simpa using hk
 have hres:qkl t (k,N)=(qgu,1):=by unfold qkl;rw[if_neg hk]
 have Hres:=zh1 hres;clear hres hk;go_wp2_with (first
  |((with_reducible refine(qhe k _).mono ?_);(rintro _ _ ⟨rfl,rfl⟩))
  |(refine wpList_store_row rfl 31 (.tmp 6) (.tmp 13) rfl (w.heap.size+1+1) qgz.toArray rfl rfl 31 _ Z0.o qh1 qh2 qh0 ?_))
 have z8:Blk _ _ 31 qgz.toArray:=Z0.setRow qgz.toArray;refine bodyPost_ret (qgv rfl rfl (qgy z8 rfl)) rfl ⟨.slice none 0 0,by rw[Hres.o];rfl,by rw[Hres.o];exact OwnC.nil _ _,?_⟩;exact below_setRow B0.o zo _
theorem xdf(R:Req)(l:List Fld)(hl:fieldsOf R.op=some l)(h:∀f∈l,qi7 R f=0):qi9 R=(0,be R.op.toNat 1++l.flatMap (fldB R)):=by
 unfold qi9;rw[hl];simp only;rw[qia R l l.length _ (by rw[List.take_length];exact h),List.drop_length,List.take_length];rfl
theorem xdg(R:Req)(h1:1≤R.op)(h2:R.op≤12)(hs:qlr R=false):qi9 R=(1,[]):=by
 obtain⟨op,tid,cavs,tag,tree,tenant,role,state,weight,id,lo,hi,rate,burst,store,expires,leaf⟩:=R;simp only at h1 h2;have h:op=1∨op=2∨op=3∨op=4∨op=5∨op=6∨op=7∨op=8∨op=9∨op=10∨op=11∨op=12:=zo;rcases h with rfl|rfl|rfl|rfl|rfl|rfl|rfl|rfl|rfl|rfl|rfl|rfl;all_goals
  simp[qlr,qlp,qdm,isByte]at hs;try simp[qi9,fieldsOf,qi8,qi7,Req.num]
  try(repeat' split)
  all_goals first|rfl|omega|(intros;omega)|(exfalso;omega)|simp_all
theorem xdh(R:Req)(h1:1≤R.op)(h2:R.op≤12)(hs:qlr R=true)(hl:R.op=1→R.leaf.length≤256)(l:List Fld)(hf:fieldsOf R.op=some l):qi9 R=(0,be R.op.toNat 1++l.flatMap (fldB R)):=by
 refine xdf R l hf fun f hm=>?_
 obtain⟨op,tid,cavs,tag,tree,tenant,role,state,weight,id,lo,hi,rate,burst,store,expires,leaf⟩:=R;simp only at h1 h2 hl hf;have h:op=1∨op=2∨op=3∨op=4∨op=5∨op=6∨op=7∨op=8∨op=9∨op=10∨op=11∨op=12:=zo;rcases h with rfl|rfl|rfl|rfl|rfl|rfl|rfl|rfl|rfl|rfl|rfl|rfl;all_goals
  simp[qlr,qlp,qdm,isByte]at hs;injection hf with hf;subst hf;simp only[List.mem_cons,List.not_mem_nil,or_false]at hm;first
   |(rcases hm with rfl|rfl|rfl|rfl<;>simp[qi7,Req.num]<;>omega)
   |(rcases hm with rfl|rfl|rfl<;>simp[qi7,Req.num]<;>omega)
   |(rcases hm with rfl|rfl<;>simp[qi7,Req.num]<;>omega)
   |(subst hm;simp[qi7,Req.num]<;>omega)
   |(subst hm;simp[qi7,Req.num])
theorem xdi(h:qlr R=true)(hm:x∈qlp R):∃n:Nat,Hid (x=(n:Int))∧n≤255∧Hid (n % 256=n)∧IntKind.u8.wrap (n:Int)=n:=by
 have hb:=List.all_eq_true.1 h x hm;unfold isByte at hb;have hb:=of_decide_eq_true hb;exact⟨x.toNat,show x=(x.toNat:Int) by omega,by omega,Nat.mod_eq_of_lt zo,IntWalk.u8_in _ zo⟩
theorem xdj(R:Req)(h1:R.op=1)(hs:qlr R=true)(hl:256<R.leaf.length):qi9 R=(3,[]):=by
 obtain⟨op,tid,cavs,tag,tree,tenant,role,state,weight,id,lo,hi,rate,burst,store,expires,leaf⟩:=R;simp only at h1 hl;subst h1;simp[qlr,qlp,qdm,isByte]at hs;simp[qi9,fieldsOf,qi8,qi7,Req.num];simp[hs,hl]
theorem xdk(R:Req)(cav:Value)(Al:Option Addr)(cl:Nat)(w:World)(hR:R.Fit)(hleaf:Reads w w.heap.size 1 Al R.leaf.length (byv R.leaf))(hlc:R.leaf.length≤cl)(hc:cl≤maxLen):
 Zc 39 #[.agg (reqv R cav (.slice Al R.leaf.length cl)).toArray] w fun e w'=>∃v,e=.returned (.tuple #[v,.int .i64 ((qi9 R).1:Int)])∧OwnB w' w.heap.size v (qi9 R).2∧Zb w w':=by
 by_cases hn:1≤R.op∧R.op≤12
 ·
  have hsm:=fun w'=>qlw R cav (.slice Al R.leaf.length cl) w' hR.tag hn.1 hn.2
  have hrr:=qdl R cav (.slice Al R.leaf.length cl) hR.tag;have hlen:=qjd R cav (.slice Al R.leaf.length cl) hR.tag;obtain⟨k,hk⟩:=xeq R.op;have r0:(reqv R cav (.slice Al R.leaf.length cl))[0]? =some (.int .i64 k):=by rw[←hk];rfl
  rw[hk]at hn;obtain⟨h1,h2⟩:=hn;obtain⟨L,hL⟩:=xeq (reqv R cav (.slice Al R.leaf.length cl));rw[hL]at hrr r0 hlen ⊢;simp only[hL]at hsm;obtain⟨kn,hkn⟩:∃n:Nat,(n:Int)=k:=⟨k.toNat,by omega⟩;have t1:Blk (w.alloc (.cells L.toArray 34)) w.heap.size 34 L.toArray:=Blk.new w _ _;have B3:Zb w (w.alloc (.cells L.toArray 34)):=(tA5 _ _).alloc (tA4 _) _;obtain⟨HC,A4,KE,KM,KN⟩:=zh5 (show ∀(i:Nat) (v:Value),L[i]? =some v→L.toArray[i]? =some v from fun i v h=>by simpa using h) (zI 34 hlen) (show R.op.toNat=kn by omega) (show kn % 256=kn by omega) hkn;have kw:IntKind.u8.wrap k=k:=IntWalk.u8_in _ zo;obtain⟨A5,A3,R0,HK⟩:=zh4 hsm hrr r0 hk;obtain⟨FD,A2,A6⟩:=zh3 (show ∀(j i:Nat),j=35+i→∀(W:World),Blk W w.heap.size 34 L.toArray→∀(v:Value),(R.rest (.slice Al R.leaf.length cl))[i]? =some v→W.cell? ⟨w.heap.size,j,none⟩=some v from fun j i e W t v h=>by subst e;exact(t.cell _).trans (HC.o _ _ ((A3.o i).trans h))) (And.intro h1 h2) (qap t1 0 L zjq);have c0:=(t1.cell 0).trans (HC.o _ _ r0);have n1:¬k<1:=zo;have n2:¬12<k:=zo;clear hsm hrr r0 hk hlen hL hkn h1 h2;go_enter Tryz.func39,Tryz.ntmps39
  go_wp2_with (refine zld A6.o zu34 A4.o ?_)
  refine zcb (A5.o _) fun w1 hb1=>?_
  replace t1:=t1.below hb1 (by rw[qar];omega);replace B3:=B3.trans (hb1.mono B3.size);have c0:=(t1.cell 0).trans (HC.o _ _ R0.o);have hs1:w.heap.size+1≤w1.heap.size:=t1.lt;have hs2:w.heap.size<w1.heap.size:=t1.lt;clear hb1;cases hs:qlr R with
  |false=>
   have H:=zh1 (xdg R (by have:=A2.o;have:=HK.o;omega) (by have:=A2.o;have:=HK.o;omega) hs);clear hs;go_wp2
   go_ret2
   exact⟨_,by rw[H.o];rfl,by rw[H.o];exact OwnB.nil _ _,B3⟩
  |true=>
   have A0:=zh1 hs;clear hs;have d47:=(t1.cell 47).trans (HC.o _ _ ((A3.o 12).trans (show _=some (.slice Al R.leaf.length cl) from rfl)));by_cases hlong:k=1∧256<R.leaf.length
   · obtain⟨rfl,hb⟩:=hlong
     have H:=zh1 (xdj R HK.o A0.o hb);go_wp2
     go_ret2
     exact⟨_,by rw[H.o];rfl,by rw[H.o];exact OwnB.nil _ _,B3⟩
   have HL:=zh1 (show k=1→R.leaf.length≤256 from fun h=>Nat.le_of_not_lt fun hb=>hlong ⟨h,hb⟩);clear hlong;go_upto_region 3 with(fail)
   go_cut [26] (fun s26 wx=>s26=.bool false∧wx=w1)
   case first=>
    by_cases h1:k=1
    · have hb:¬(256:Int)<R.leaf.length:=by have:=HL.o h1;omega
      subst h1;go_wp2
      go_meet
      case rel=>exact⟨rfl,rfl⟩
    have hb:(k==1)=false:=by simpa using h1
    go_wp2
    go_meet
    case rel=>exact⟨rfl,rfl⟩
   case rest=>
    obtain⟨rfl,rfl⟩:=hcut;have hown:OwnB (wc.alloc (.cells #[.int .u8 k] 5)) (w.heap.size+1) (.slice (some ⟨wc.heap.size,0,none⟩) 1 1) [kn]:=by
     have h:=(OwnB.made wc [kn] (by simp[maxLen])).mono hs1;rw[show (byv [kn]).toArray=#[.int .u8 k] by rw[←KN.o];rfl]at h;exact h
    clear d47;go_wp2_with fail
    refine(qlo _ _).mono ?_;rintro e w2 ⟨rfl,rfl⟩;replace t1:=t1.alloc (.cells #[.int .u8 k] 5);replace B3:=B3.alloc B3.size (.cells #[.int .u8 k] 5);clear c0;have c0:=(t1.cell 0).trans (HC.o _ _ R0.o);have A1:=zh1 (show qdm k=true→R.tree.toNat % 256=R.tree.toNat from fun hb=>by
     obtain⟨tr,trE,trl,-,-⟩:=xdi A0.o (x:=R.tree) (by simp[qlp,HK.o,hb]);rw[trE.o];omega)
    go_upto_if 33 with(fail)
    go_cut [4] (fun s4 wx=>∃A n c,s4=.slice A n c∧Hid (OwnB wx (w.heap.size+1) (.slice A n c) ([kn]++if qdm k then [R.tree.toNat] else []))∧Hid (Blk wx w.heap.size 34 L.toArray)∧Hid (Zb w wx))
    case first=>
     cases hb:qdm k with
     |false=>
      obtain⟨HX,HO,HT,HB⟩:=zh4 hb hown t1 B3;clear hb hown t1 B3;go_wp2
      go_meet
      case rel=>exact⟨_,_,_,rfl,by rw[HX.o];exact HO,HT,HB⟩
     |true=>
      have HX:=zh1 hb;obtain⟨tr,trE,trl,trm,trw⟩:=xdi A0.o (x:=R.tree) (by simp[qlp,HK.o,hb]);clear hb;have d35:=FD.o 35 0 rfl _ t1 _ rfl;rw[trE.o]at d35;go_wp2_with (at_builtin;refine qe3 rfl _ _ rfl (w.heap.size+1) _ _ rfl (hown.alloc (.cells (byv [tr]).toArray 5)) _ _ _ [tr] rfl (qe8 _ [tr] _ zm _ rfl) (by first|(simp;done)|(split<;>simp)) (by first|(simp only[qar];omega)| (have:=t1.lt;simp only[qar]at*;omega)) ?_)
      intro v2 w2 hown2 hb2 hg2;replace t1:=(t1.alloc (.cells (byv [tr]).toArray 5)).below hb2 zo;replace B3:=(B3.alloc B3.size (.cells (byv [tr]).toArray 5)).trans (hb2.mono zo);replace hown:=hown2;have c0:=(t1.cell 0).trans (HC.o _ _ R0.o);have hs2:w.heap.size<w2.heap.size:=t1.lt;clear hb2 hg2 hown2;obtain⟨HO,HT,HB⟩:=zh3 hown t1 B3;clear hown t1 B3 d35;go_wp2
      go_meet
      case rel=>
       obtain⟨As,ns,cs,rfl,-,-,-⟩:=HO.sl;exact⟨_,_,_,rfl,by rw[HX.o,trE.o];exact HO,HT,HB⟩
    case rest=>
     obtain⟨A,n,c,rfl,ho,Ht,HB⟩:=hcut;clear c0 t1 B3 hown hs1 hs2;have hown:=ho.o;have t1:=Ht.o;have B3:=HB.o;have c0:=(t1.cell 0).trans (HC.o _ _ R0.o);have hs2:w.heap.size<wc.heap.size:=t1.lt;clear ho Ht HB;have h12:=A2.o;clear A2 kw n1 n2;go_upto_block 0 with fail
     go_cut [4] (fun s4 wx=>∃A n c,s4=.slice A n c∧Hid (OwnB wx w.heap.size (.slice A n c) (qi9 R).2)∧Hid ((qi9 R).1=0)∧Hid (Zb w wx))
     case first=>
      have h12':k=1∨(k=2∨k=9)∨k=3∨(k=4∨k=5)∨k=6∨k=7∨k=8∨k=10∨k=11∨k=12:=zo;clear h12;rcases h12' with rfl|h29|rfl|h45|rfl|rfl|rfl|rfl|rfl|rfl
      ·
       have d47:=FD.o 47 12 rfl _ t1 _ rfl;have t1l:=t1.lt;obtain⟨A9,n9,c9,e9,-,-,hr9⟩:=hown.sl;injection e9 with q1 q2 q3;subst q1 q2 q3;go_wp2_with fail
       refine(qhd _ Al _ R.leaf.length _ cl _ R.leaf _ hr9 (hleaf.call B3) (by first|(simp;done)|(split<;>simp)) hlc hc).mono ?_;rintro e w2 ⟨v2,rfl,hown2,hb2⟩;replace hown:=hown2.mono (show w.heap.size+1≤_ from t1l);replace t1:=t1.below hb2 t1l;replace B3:=B3.trans (hb2.mono B3.size);have H:=zh1 (xdh R (by rw[HK.o];decide) (by rw[HK.o];decide) A0.o (fun _=>by have:=HL.o;simpa using this) [(1,1,35),(0,0,0)] (by rw[HK.o];rfl));obtain⟨HO,HB⟩:=zh2 ((hown.mono (Nat.le_succ _)).cast (show (qi9 R).2=_ by rw[H.o];simp[KE.o,KM.o,A1.o rfl,qhg,fldB,Req.num,qdm])) B3;clear hown hown2 hb2 hr9 B3;go_wp2
       go_meet
       case rel=>
        obtain⟨As,ns,cs,e9,-,-,-⟩:=HO.sl;exact⟨As,ns,cs,e9,by rw[←e9];exact HO,zh1 (by rw[H.o]),HB⟩
      · rcases h29 with rfl|rfl
        all_goals
         have H:=zh1 (xdh R (by rw[HK.o];decide) (by rw[HK.o];decide) A0.o (fun h=>absurd (HK.symm.trans h) zdc) [(1,1,35)] (by rw[HK.o];rfl));obtain⟨HO,HB⟩:=zh2 ((hown.mono (Nat.le_succ _)).cast (show (qi9 R).2=_ by rw[H.o];simp[KE.o,KM.o,A1.o,qhg,fldB,Req.num,qdm,A1.o rfl])) B3;clear hown B3;go_wp2
         go_meet
         case rel=>
          obtain⟨As,ns,cs,e9,-,-,-⟩:=HO.sl;exact⟨As,ns,cs,e9,by rw[←e9];exact HO,zh1 (by rw[H.o]),HB⟩
      ·
       have d41:=FD.o 41 6 rfl _ t1 _ rfl;have hb41:R.lo<18446744073709551616:=by have:=hR.num 41;simp[Req.num]at this;omega
       have hw41:IntKind.u64.wrap ((R.lo:Nat):Int)=(R.lo:Nat):=tBa _ zo;have t1l:=t1.lt;go_wp2_with fail
       obtain⟨A9,n9,c9,e9,-,-,hr9⟩:=hown.sl;first|subst e9|(injection e9 with q1 q2 q3;subst q1 q2 q3)
       refine(qhc _ _ _ R.lo 8 _ _ hr9 (by first|(simp[qaw];done)|(simp only[tA6,qaw];split<;>simp)) hb41).mono ?_;rintro e w2 ⟨v2,rfl,hown2,hb2⟩;rw[show qb0 8=8 from rfl]at hown2;replace hown:=hown2.mono (show w.heap.size+1≤_ from t1l);replace t1:=t1.below hb2 t1l;replace B3:=B3.trans (hb2.mono B3.size);clear hb2 hr9 hown2;have H:=zh1 (xdh R (by rw[HK.o];decide) (by rw[HK.o];decide) A0.o (fun h=>absurd (HK.symm.trans h) zdc) [(1,1,35),(8,3,41)] (by rw[HK.o];rfl));obtain⟨HO,HB⟩:=zh2 ((hown.mono (Nat.le_succ _)).cast (show (qi9 R).2=_ by rw[H.o];simp[KE.o,KM.o,A1.o,qhg,fldB,Req.num,qdm,A1.o rfl])) B3;clear hown B3;go_wp2
       go_meet
       case rel=>
        obtain⟨As,ns,cs,e9,-,-,-⟩:=HO.sl;exact⟨As,ns,cs,e9,by rw[←e9];exact HO,zh1 (by rw[H.o]),HB⟩
      ·
       rcases h45 with rfl|rfl;all_goals
        have d41:=FD.o 41 6 rfl _ t1 _ rfl;have d42:=FD.o 42 7 rfl _ t1 _ rfl;have hb41:R.lo<18446744073709551616:=by have:=hR.num 41;simp[Req.num]at this;omega
        have hw41:IntKind.u64.wrap ((R.lo:Nat):Int)=(R.lo:Nat):=tBa _ zo;have hb42:R.hi<18446744073709551616:=by have:=hR.num 42;simp[Req.num]at this;omega
        have hw42:IntKind.u64.wrap ((R.hi:Nat):Int)=(R.hi:Nat):=tBa _ zo;go_wp2_with fail
        obtain⟨S,HS⟩:=zS fun w'=>w'.cell? ⟨w.heap.size,41,none⟩=some (.int .u64 R.lo)∧w'.cell? ⟨w.heap.size,42,none⟩=some (.int .u64 R.hi)
        refine zrs S 8 (zq 0 3 [(4,false),(5,false),(3,true),(6,true),(7,false)]) ((HS.o _).mpr ⟨d41,d42⟩) ?_;repeat(refine zrt0 ?_)
        replace t1:=t1.drew;replace B3:=B3.drew;replace hown:=hown.drew;have t1l:=t1.lt;obtain⟨A9,n9,c9,e9,-,-,hr9⟩:=hown.sl;first|subst e9|(injection e9 with q1 q2 q3;subst q1 q2 q3)
        refine zw ?_;go_simp;refine(qhc _ _ _ R.lo 8 _ _ hr9 (by first|(simp[qaw];done)|(simp only[tA6,qaw];split<;>simp)) hb41).mono ?_;rintro e w2 ⟨v2,rfl,hown2,hb2⟩;rw[show qb0 8=8 from rfl]at hown2;replace hown:=hown2.mono (show w.heap.size+1≤_ from t1l);replace t1:=t1.below hb2 t1l;replace B3:=B3.trans (hb2.mono B3.size);clear hb2 hr9 hown2;have d41:=FD.o 41 6 rfl _ t1 _ rfl;have d42:=FD.o 42 7 rfl _ t1 _ rfl;refine⟨by first|exact(HS.o _).mpr ⟨d41,d42⟩|exact fun _=>(HS.o _).mpr ⟨d41,d42⟩,?_⟩;have t1l:=t1.lt;obtain⟨A9,n9,c9,e9,-,-,hr9⟩:=hown.sl;first|subst e9|(injection e9 with q1 q2 q3;subst q1 q2 q3)
        refine zw ?_;go_simp;refine(qhc _ _ _ R.hi 8 _ _ hr9 (by first|(simp[qaw];done)|(simp only[tA6,qaw];split<;>simp)) hb42).mono ?_;rintro e w2 ⟨v2,rfl,hown2,hb2⟩;rw[show qb0 8=8 from rfl]at hown2;replace hown:=hown2.mono (show w.heap.size+1≤_ from t1l);replace t1:=t1.below hb2 t1l;replace B3:=B3.trans (hb2.mono B3.size);clear hb2 hr9 hown2;have d41:=FD.o 41 6 rfl _ t1 _ rfl;have d42:=FD.o 42 7 rfl _ t1 _ rfl;refine⟨by first|exact(HS.o _).mpr ⟨d41,d42⟩|exact fun _=>(HS.o _).mpr ⟨d41,d42⟩,?_⟩;repeat(refine zrt0 ?_)
        refine qbg ?_;have H:=zh1 (xdh R (by rw[HK.o];decide) (by rw[HK.o];decide) A0.o (fun h=>absurd (HK.symm.trans h) zdc) [(1,1,35),(8,3,41),(8,3,42)] (by rw[HK.o];rfl));obtain⟨HO,HB⟩:=zh2 ((hown.mono (Nat.le_succ _)).cast (show (qi9 R).2=_ by rw[H.o];simp[KE.o,KM.o,A1.o,qhg,fldB,Req.num,qdm,A1.o rfl])) B3;clear hown B3;go_wp2
        go_meet
        case rel=>
         obtain⟨As,ns,cs,e9,-,-,-⟩:=HO.sl;exact⟨As,ns,cs,e9,by rw[←e9];exact HO,zh1 (by rw[H.o]),HB⟩
      ·
       obtain⟨te,teE,tel,tem,tew⟩:=xdi A0.o (x:=R.tenant) (by simp[qlp,HK.o]);obtain⟨we,weE,wel,wem,wew⟩:=xdi A0.o (x:=R.weight) (by simp[qlp,HK.o]);have d36:=FD.o 36 1 rfl _ t1 _ rfl;rw[teE.o]at d36;have d39:=FD.o 39 4 rfl _ t1 _ rfl;rw[weE.o]at d39;go_wp2_with (at_builtin;refine qe3 rfl _ _ rfl (w.heap.size+1) _ _ rfl (hown.alloc (.cells (byv [te,we]).toArray 5)) _ _ _ [te,we] rfl (qe8 _ [te,we] _ zm _ rfl) (by first|(simp;done)|(split<;>simp)) (by first|(simp only[qar];omega)| (have:=t1.lt;simp only[qar]at*;omega)) ?_)
       intro v2 w2 hown2 hb2 hg2;replace t1:=(t1.alloc (.cells (byv [te,we]).toArray 5)).below hb2 zo;replace B3:=(B3.alloc B3.size (.cells (byv [te,we]).toArray 5)).trans (hb2.mono zo);replace hown:=hown2;have c0:=(t1.cell 0).trans (HC.o _ _ R0.o);have hs2:w.heap.size<w2.heap.size:=t1.lt;clear hb2 hg2 hown2;have H:=zh1 (xdh R (by rw[HK.o];decide) (by rw[HK.o];decide) A0.o (fun h=>absurd (HK.symm.trans h) zdc) [(1,1,35),(1,1,36),(1,1,39)] (by rw[HK.o];rfl));obtain⟨HO,HB⟩:=zh2 ((hown.mono (Nat.le_succ _)).cast (show (qi9 R).2=_ by rw[H.o];simp[KE.o,KM.o,A1.o,qhg,fldB,Req.num,qdm,A1.o rfl,teE.o,tem.o,weE.o,wem.o])) B3;clear hown B3;go_wp2
       go_meet
       case rel=>
        obtain⟨As,ns,cs,e9,-,-,-⟩:=HO.sl;exact⟨As,ns,cs,e9,by rw[←e9];exact HO,zh1 (by rw[H.o]),HB⟩
      ·
       obtain⟨st,stE,stl,stm,stw⟩:=xdi A0.o (x:=R.state) (by simp[qlp,HK.o]);have d38:=FD.o 38 3 rfl _ t1 _ rfl;rw[stE.o]at d38;go_wp2_with (at_builtin;refine qe3 rfl _ _ rfl (w.heap.size+1) _ _ rfl (hown.alloc (.cells (byv [st]).toArray 5)) _ _ _ [st] rfl (qe8 _ [st] _ zm _ rfl) (by first|(simp;done)|(split<;>simp)) (by first|(simp only[qar];omega)| (have:=t1.lt;simp only[qar]at*;omega)) ?_)
       intro v2 w2 hown2 hb2 hg2;replace t1:=(t1.alloc (.cells (byv [st]).toArray 5)).below hb2 zo;replace B3:=(B3.alloc B3.size (.cells (byv [st]).toArray 5)).trans (hb2.mono zo);replace hown:=hown2;have c0:=(t1.cell 0).trans (HC.o _ _ R0.o);have hs2:w.heap.size<w2.heap.size:=t1.lt;clear hb2 hg2 hown2;have H:=zh1 (xdh R (by rw[HK.o];decide) (by rw[HK.o];decide) A0.o (fun h=>absurd (HK.symm.trans h) zdc) [(1,1,35),(1,1,38)] (by rw[HK.o];rfl));obtain⟨HO,HB⟩:=zh2 ((hown.mono (Nat.le_succ _)).cast (show (qi9 R).2=_ by rw[H.o];simp[KE.o,KM.o,A1.o,qhg,fldB,Req.num,qdm,A1.o rfl,stE.o,stm.o])) B3;clear hown B3;go_wp2
       go_meet
       case rel=>
        obtain⟨As,ns,cs,e9,-,-,-⟩:=HO.sl;exact⟨As,ns,cs,e9,by rw[←e9];exact HO,zh1 (by rw[H.o]),HB⟩
      ·
       obtain⟨we,weE,wel,wem,wew⟩:=xdi A0.o (x:=R.weight) (by simp[qlp,HK.o]);have d39:=FD.o 39 4 rfl _ t1 _ rfl;rw[weE.o]at d39;go_wp2_with (at_builtin;refine qe3 rfl _ _ rfl (w.heap.size+1) _ _ rfl (hown.alloc (.cells (byv [we]).toArray 5)) _ _ _ [we] rfl (qe8 _ [we] _ zm _ rfl) (by first|(simp;done)|(split<;>simp)) (by first|(simp only[qar];omega)| (have:=t1.lt;simp only[qar]at*;omega)) ?_)
       intro v2 w2 hown2 hb2 hg2;replace t1:=(t1.alloc (.cells (byv [we]).toArray 5)).below hb2 zo;replace B3:=(B3.alloc B3.size (.cells (byv [we]).toArray 5)).trans (hb2.mono zo);replace hown:=hown2;have c0:=(t1.cell 0).trans (HC.o _ _ R0.o);have hs2:w.heap.size<w2.heap.size:=t1.lt;clear hb2 hg2 hown2;have H:=zh1 (xdh R (by rw[HK.o];decide) (by rw[HK.o];decide) A0.o (fun h=>absurd (HK.symm.trans h) zdc) [(1,1,35),(1,1,39)] (by rw[HK.o];rfl));obtain⟨HO,HB⟩:=zh2 ((hown.mono (Nat.le_succ _)).cast (show (qi9 R).2=_ by rw[H.o];simp[KE.o,KM.o,A1.o,qhg,fldB,Req.num,qdm,A1.o rfl,weE.o,wem.o])) B3;clear hown B3;go_wp2
       go_meet
       case rel=>
        obtain⟨As,ns,cs,e9,-,-,-⟩:=HO.sl;exact⟨As,ns,cs,e9,by rw[←e9];exact HO,zh1 (by rw[H.o]),HB⟩
      ·
       obtain⟨te,teE,tel,tem,tew⟩:=xdi A0.o (x:=R.tenant) (by simp[qlp,HK.o]);obtain⟨ro,roE,rol,rom,row⟩:=xdi A0.o (x:=R.role) (by simp[qlp,HK.o]);have d36:=FD.o 36 1 rfl _ t1 _ rfl;rw[teE.o]at d36;have d37:=FD.o 37 2 rfl _ t1 _ rfl;rw[roE.o]at d37;have d46:=FD.o 46 11 rfl _ t1 _ rfl;have hb46:R.expires<18446744073709551616:=by have:=hR.num 46;simp[Req.num]at this;omega
       have hw46:IntKind.u64.wrap ((R.expires:Nat):Int)=(R.expires:Nat):=tBa _ zo;go_wp2_with fail
       obtain⟨S,HS⟩:=zS fun w'=>w'.cell? ⟨w.heap.size,36,none⟩=some (.int .i64 (te:Int))∧w'.cell? ⟨w.heap.size,37,none⟩=some (.int .i64 (ro:Int))∧w'.cell? ⟨w.heap.size,46,none⟩=some (.int .u64 R.expires)
       refine zrs S 13 (zq 0 7 [(9,false),(10,false),(7,true),(8,true),(11,true),(12,false)]) ((HS.o _).mpr ⟨d36,d37,d46⟩) ?_;repeat(refine zrt0 ?_)
       refine zw ?_;go_simp;replace t1:=(t1.alloc (.cells (byv [te,ro]).toArray 5)).drew;replace B3:=(B3.alloc B3.size (.cells (byv [te,ro]).toArray 5)).drew;replace hown:=(hown.alloc (.cells (byv [te,ro]).toArray 5)).drew;have d36:=FD.o 36 1 rfl _ t1 _ rfl;rw[teE.o]at d36;have d37:=FD.o 37 2 rfl _ t1 _ rfl;rw[roE.o]at d37;have d46:=FD.o 46 11 rfl _ t1 _ rfl;refine⟨by first|exact(HS.o _).mpr ⟨d36,d37,d46⟩|exact fun _=>(HS.o _).mpr ⟨d36,d37,d46⟩,?_⟩;have t1l:=t1.lt;refine zw ?_;refine qe4 _ _ rfl (w.heap.size+1) _ _ rfl hown _ _ _ [te,ro] rfl (qe8 _ [te,ro] _ zm _ rfl).drewS (by first|(simp;done)|(split<;>simp)) t1l ?_;intro v2 w2 hown2 hb2 hg2;replace t1:=t1.below hb2 zo;replace B3:=B3.trans (hb2.mono zo);replace hown:=hown2;clear hb2 hg2 hown2;have d36:=FD.o 36 1 rfl _ t1 _ rfl;rw[teE.o]at d36;have d37:=FD.o 37 2 rfl _ t1 _ rfl;rw[roE.o]at d37;have d46:=FD.o 46 11 rfl _ t1 _ rfl;refine⟨by first|exact(HS.o _).mpr ⟨d36,d37,d46⟩|exact fun _=>(HS.o _).mpr ⟨d36,d37,d46⟩,?_⟩;simp only[Act.put,tA0,tA1,tA2];have t1l:=t1.lt;obtain⟨A9,n9,c9,e9,-,-,hr9⟩:=hown.sl;first|subst e9|(injection e9 with q1 q2 q3;subst q1 q2 q3)
       refine zw ?_;go_simp;refine(qhc _ _ _ R.expires 8 _ _ hr9 (by first|(simp[qaw];done)|(simp only[tA6,qaw];split<;>simp)) hb46).mono ?_;rintro e w2 ⟨v2,rfl,hown2,hb2⟩;rw[show qb0 8=8 from rfl]at hown2;replace hown:=hown2.mono (show w.heap.size+1≤_ from t1l);replace t1:=t1.below hb2 t1l;replace B3:=B3.trans (hb2.mono B3.size);clear hb2 hr9 hown2;have d36:=FD.o 36 1 rfl _ t1 _ rfl;rw[teE.o]at d36;have d37:=FD.o 37 2 rfl _ t1 _ rfl;rw[roE.o]at d37;have d46:=FD.o 46 11 rfl _ t1 _ rfl;refine⟨by first|exact(HS.o _).mpr ⟨d36,d37,d46⟩|exact fun _=>(HS.o _).mpr ⟨d36,d37,d46⟩,?_⟩;repeat(refine zrt0 ?_)
       refine qbg ?_;have H:=zh1 (xdh R (by rw[HK.o];decide) (by rw[HK.o];decide) A0.o (fun h=>absurd (HK.symm.trans h) zdc) [(1,1,36),(1,1,37),(8,3,46)] (by rw[HK.o];rfl));obtain⟨HO,HB⟩:=zh2 ((hown.mono (Nat.le_succ _)).cast (show (qi9 R).2=_ by rw[H.o];simp[KE.o,KM.o,A1.o,qhg,fldB,Req.num,qdm,teE.o,tem.o,roE.o,rom.o])) B3;clear hown B3;go_wp2
       go_meet
       case rel=>
        obtain⟨As,ns,cs,e9,-,-,-⟩:=HO.sl;exact⟨As,ns,cs,e9,by rw[←e9];exact HO,zh1 (by rw[H.o]),HB⟩
      ·
       have d40:=FD.o 40 5 rfl _ t1 _ rfl;have hb40:R.id<18446744073709551616:=by have:=hR.num 40;simp[Req.num]at this;omega
       have hw40:IntKind.u64.wrap ((R.id:Nat):Int)=(R.id:Nat):=tBa _ zo;have t1l:=t1.lt;go_wp2_with fail
       obtain⟨A9,n9,c9,e9,-,-,hr9⟩:=hown.sl;first|subst e9|(injection e9 with q1 q2 q3;subst q1 q2 q3)
       refine(qhc _ _ _ R.id 4 _ _ hr9 (by first|(simp[qaw];done)|(simp only[tA6,qaw];split<;>simp)) hb40).mono ?_;rintro e w2 ⟨v2,rfl,hown2,hb2⟩;rw[show qb0 4=4 from rfl]at hown2;replace hown:=hown2.mono (show w.heap.size+1≤_ from t1l);replace t1:=t1.below hb2 t1l;replace B3:=B3.trans (hb2.mono B3.size);clear hb2 hr9 hown2;have H:=zh1 (xdh R (by rw[HK.o];decide) (by rw[HK.o];decide) A0.o (fun h=>absurd (HK.symm.trans h) zdc) [(4,2,40)] (by rw[HK.o];rfl));obtain⟨HO,HB⟩:=zh2 ((hown.mono (Nat.le_succ _)).cast (show (qi9 R).2=_ by rw[H.o];simp[KE.o,KM.o,A1.o,qhg,fldB,Req.num,qdm,KM.o])) B3;clear hown B3;go_wp2
       go_meet
       case rel=>
        obtain⟨As,ns,cs,e9,-,-,-⟩:=HO.sl;exact⟨As,ns,cs,e9,by rw[←e9];exact HO,zh1 (by rw[H.o]),HB⟩
      ·
       obtain⟨te,teE,tel,tem,tew⟩:=xdi A0.o (x:=R.tenant) (by simp[qlp,HK.o]);have d36:=FD.o 36 1 rfl _ t1 _ rfl;rw[teE.o]at d36;have d43:=FD.o 43 8 rfl _ t1 _ rfl;have hb43:R.rate<18446744073709551616:=by have:=hR.num 43;simp[Req.num]at this;omega
       have hw43:IntKind.u64.wrap ((R.rate:Nat):Int)=(R.rate:Nat):=tBa _ zo;have hb44:R.burst<18446744073709551616:=by have:=hR.num 44;simp[Req.num]at this;omega
       have hw44:IntKind.u64.wrap ((R.burst:Nat):Int)=(R.burst:Nat):=tBa _ zo;have hb45:R.store<18446744073709551616:=by have:=hR.num 45;simp[Req.num]at this;omega
       have hw45:IntKind.u64.wrap ((R.store:Nat):Int)=(R.store:Nat):=tBa _ zo;go_wp2_with fail
       obtain⟨S,HS⟩:=zS fun w'=>w'.cell? ⟨w.heap.size,36,none⟩=some (.int .i64 (te:Int))∧w'.cell? ⟨w.heap.size,43,none⟩=some (.int .u32 R.rate)
       refine zrs S 11 (zq 0 4 (zq 6 3 [(4,true),(5,true),(9,true),(10,false)])) ((HS.o _).mpr ⟨d36,d43⟩) ?_;repeat(refine zrt0 ?_)
       refine zw ?_;go_simp;replace t1:=(t1.alloc (.cells (byv [te]).toArray 5)).drew;replace B3:=(B3.alloc B3.size (.cells (byv [te]).toArray 5)).drew;replace hown:=(hown.alloc (.cells (byv [te]).toArray 5)).drew;have d36:=FD.o 36 1 rfl _ t1 _ rfl;rw[teE.o]at d36;have d43:=FD.o 43 8 rfl _ t1 _ rfl;refine⟨by first|exact(HS.o _).mpr ⟨d36,d43⟩|exact fun _=>(HS.o _).mpr ⟨d36,d43⟩,?_⟩;have t1l:=t1.lt;refine zw ?_;refine qe4 _ _ rfl (w.heap.size+1) _ _ rfl hown _ _ _ [te] rfl (qe8 _ [te] _ zm _ rfl).drewS (by first|(simp;done)|(split<;>simp)) t1l ?_;intro v2 w2 hown2 hb2 hg2;replace t1:=t1.below hb2 zo;replace B3:=B3.trans (hb2.mono zo);replace hown:=hown2;clear hb2 hg2 hown2;have d36:=FD.o 36 1 rfl _ t1 _ rfl;rw[teE.o]at d36;have d43:=FD.o 43 8 rfl _ t1 _ rfl;refine⟨by first|exact(HS.o _).mpr ⟨d36,d43⟩|exact fun _=>(HS.o _).mpr ⟨d36,d43⟩,?_⟩;simp only[Act.put,tA0,tA1,tA2];have t1l:=t1.lt;obtain⟨A9,n9,c9,e9,-,-,hr9⟩:=hown.sl;first|subst e9|(injection e9 with q1 q2 q3;subst q1 q2 q3)
       refine zw ?_;go_simp;refine(qhc _ _ _ R.rate 4 _ _ hr9 (by first|(simp[qaw];done)|(simp only[tA6,qaw];split<;>simp)) hb43).mono ?_;rintro e w2 ⟨v2,rfl,hown2,hb2⟩;rw[show qb0 4=4 from rfl]at hown2;replace hown:=hown2.mono (show w.heap.size+1≤_ from t1l);replace t1:=t1.below hb2 t1l;replace B3:=B3.trans (hb2.mono B3.size);clear hb2 hr9 hown2;have d36:=FD.o 36 1 rfl _ t1 _ rfl;rw[teE.o]at d36;have d43:=FD.o 43 8 rfl _ t1 _ rfl;refine⟨by first|exact(HS.o _).mpr ⟨d36,d43⟩|exact fun _=>(HS.o _).mpr ⟨d36,d43⟩,?_⟩;repeat(refine zrt0 ?_)
       refine qbg ?_;clear HS d36 d43;have c0:=(t1.cell 0).trans (HC.o _ _ R0.o);have hs2:=t1.lt;go_wp2_with fail
       have d44:=FD.o 44 9 rfl _ t1 _ rfl;have d45:=FD.o 45 10 rfl _ t1 _ rfl;obtain⟨S,HS⟩:=zS fun w'=>w'.cell? ⟨w.heap.size,44,none⟩=some (.int .u32 R.burst)∧w'.cell? ⟨w.heap.size,45,none⟩=some (.int .u32 R.store)
       refine zrs S 10 (zq 0 4 (zq 5 3 [(4,true),(8,true),(9,false)])) ((HS.o _).mpr ⟨d44,d45⟩) ?_;repeat(refine zrt0 ?_)
       replace t1:=t1.drew;replace B3:=B3.drew;replace hown:=hown.drew;have t1l:=t1.lt;obtain⟨A9,n9,c9,e9,-,-,hr9⟩:=hown.sl;first|subst e9|(injection e9 with q1 q2 q3;subst q1 q2 q3)
       refine zw ?_;go_simp;refine(qhc _ _ _ R.burst 4 _ _ hr9 (by first|(simp[qaw];done)|(simp only[tA6,qaw];split<;>simp)) hb44).mono ?_;rintro e w2 ⟨v2,rfl,hown2,hb2⟩;rw[show qb0 4=4 from rfl]at hown2;replace hown:=hown2.mono (show w.heap.size+1≤_ from t1l);replace t1:=t1.below hb2 t1l;replace B3:=B3.trans (hb2.mono B3.size);clear hb2 hr9 hown2;have d44:=FD.o 44 9 rfl _ t1 _ rfl;have d45:=FD.o 45 10 rfl _ t1 _ rfl;refine⟨by first|exact(HS.o _).mpr ⟨d44,d45⟩|exact fun _=>(HS.o _).mpr ⟨d44,d45⟩,?_⟩;have t1l:=t1.lt;obtain⟨A9,n9,c9,e9,-,-,hr9⟩:=hown.sl;first|subst e9|(injection e9 with q1 q2 q3;subst q1 q2 q3)
       refine zw ?_;go_simp;refine(qhc _ _ _ R.store 4 _ _ hr9 (by first|(simp[qaw];done)|(simp only[tA6,qaw];split<;>simp)) hb45).mono ?_;rintro e w2 ⟨v2,rfl,hown2,hb2⟩;rw[show qb0 4=4 from rfl]at hown2;replace hown:=hown2.mono (show w.heap.size+1≤_ from t1l);replace t1:=t1.below hb2 t1l;replace B3:=B3.trans (hb2.mono B3.size);clear hb2 hr9 hown2;have d44:=FD.o 44 9 rfl _ t1 _ rfl;have d45:=FD.o 45 10 rfl _ t1 _ rfl;refine⟨by first|exact(HS.o _).mpr ⟨d44,d45⟩|exact fun _=>(HS.o _).mpr ⟨d44,d45⟩,?_⟩;repeat(refine zrt0 ?_)
       refine qbg ?_;have H:=zh1 (xdh R (by rw[HK.o];decide) (by rw[HK.o];decide) A0.o (fun h=>absurd (HK.symm.trans h) zdc) [(1,1,36),(4,2,43),(4,2,44),(4,2,45)] (by rw[HK.o];rfl));obtain⟨HO,HB⟩:=zh2 ((hown.mono (Nat.le_succ _)).cast (show (qi9 R).2=_ by rw[H.o];simp[KE.o,KM.o,A1.o,qhg,fldB,Req.num,qdm,teE.o,tem.o])) B3;clear hown B3;go_wp2
       go_meet
       case rel=>
        obtain⟨As,ns,cs,e9,-,-,-⟩:=HO.sl;exact⟨As,ns,cs,e9,by rw[←e9];exact HO,zh1 (by rw[H.o]),HB⟩
     case rest=>
      obtain⟨As,ns,cs,rfl,HO,H1,HB⟩:=hcut;go_wp2
      go_ret2
      exact⟨_,by rw[H1.o];rfl,HO.o,HB.o⟩
 have H:Hid (qi9 R=(1,[])):=by
  unfold Hid qi9 fieldsOf;repeat' rw[if_neg zo]
 have r0:(reqv R cav (.slice Al R.leaf.length cl))[0]? =some (.int .i64 R.op):=rfl;obtain⟨L,hL⟩:=xeq (reqv R cav (.slice Al R.leaf.length cl));rw[hL]at r0 ⊢;clear hL;have t1:Blk (w.alloc (.cells L.toArray 34)) w.heap.size 34 L.toArray:=Blk.new w _ _;have c0:=(t1.cell 0).trans (show L.toArray[0]? =some (.int .i64 R.op) by simpa using r0);clear r0;rcases(show R.op<1∨12<R.op by omega) with h|h
 · go_enter Tryz.func39,Tryz.ntmps39
   go_wp2
   go_ret2
   exact⟨_,by rw[H.o];rfl,by rw[H.o];exact OwnB.nil _ _,(tA5 _ _).alloc (tA4 _) _⟩
 have h':¬R.op<1:=zo;go_enter Tryz.func39,Tryz.ntmps39
 go_wp2
 go_ret2
 exact⟨_,by rw[H.o];rfl,by rw[H.o];exact OwnB.nil _ _,(tA5 _ _).alloc (tA4 _) _⟩
theorem xdl(R:Req)(Ac:Option Addr)(cc:Nat)(Al:Option Addr)(cl:Nat)(w:World)(hR:R.Fit)(hleaf:Reads w w.heap.size 1 Al R.leaf.length (byv R.leaf))(hlc:R.leaf.length≤cl)(hc:cl≤maxLen)
 (hcav:Reads w w.heap.size 2 Ac R.cavs.length (cavv R.cavs))(hcc:R.cavs.length≤cc)(hcm:cc≤maxLen)(hid:R.tid<4294967296)(hln:∀x∈R.cavs,x.2<4294967296):
 Zc 92 #[.agg (reqv R (.slice Ac R.cavs.length cc) (.slice Al R.leaf.length cl)).toArray] w fun e w'=>∃v,e=.returned (.tuple #[v,.int .i64 ((qjc R).1:Int)])∧OwnB w' w.heap.size v (qjc R).2∧Zb w w':=by
 have hbody:=fun w' h=>xdk R (.slice Ac R.cavs.length cc) Al cl w' hR h hlc hc
 have htok:=fun w' h=>qhh R.tid R.cavs Ac cc R.tag w' h hcc hcm hid hln hR.tag
 have hrt:=qje R (.slice Ac R.cavs.length cc) (.slice Al R.leaf.length cl);have hlen:=qjd R (.slice Ac R.cavs.length cc) (.slice Al R.leaf.length cl) hR.tag;have hlen2:=qdg R.tid (.slice Ac R.cavs.length cc) R.tag hR.tag;obtain⟨L,hL⟩:=xeq (reqv R (.slice Ac R.cavs.length cc) (.slice Al R.leaf.length cl));obtain⟨T,hT⟩:=xeq (tokv R.tid (.slice Ac R.cavs.length cc) R.tag);rw[hL]at hrt hlen ⊢;rw[hT]at hrt hlen2;simp only[hL]at hbody;simp only[hT]at htok;have hi1:(Tryz.prog.info? 34).map (·.size)=some L.length:=by rw[hlen];exact Tryz.req_info
 have hi2:(Tryz.prog.info? 31).map (·.size)=some T.length:=by rw[hlen2];exact Tryz.tok_info
 obtain⟨A3,A4,HB,HT,A5⟩:=zh5 hi1 hi2 hbody htok hrt;clear hi1 hi2 hL hT hlen hlen2 hbody htok hrt;have t0:Blk (w.alloc (.cells L.toArray 34)) w.heap.size 34 L.toArray:=Blk.new w _ _;have hrg:=qap t0 0 L zjq;have A0:=zh1 hrg;clear hrg;go_enter Tryz.func92,Tryz.ntmps92
 go_wp2_with (refine zld A0.o zu34 A3.o ?_)
 refine(HB.o _ (hleaf.laid _)).mono ?_;rintro e w1 ⟨v1,rfl,hown1,hb1⟩;simp only[qar,Zb]at hown1 hb1;have B1:Zb w w1:=((tA5 _ _).alloc (tA4 _) _).trans (hb1.mono zo);have t1:=t0.below hb1 zo;have hcav1:=hcav.call B1;clear hb1 A0 hcav hleaf t0;obtain⟨bw,hbw⟩:=xeq ((qi9 R).1);obtain⟨bb,hbb⟩:=xeq ((qi9 R).2);rw[hbw];rw[hbb]at hown1;have hbl:=qjf R;rw[hbb]at hbl;obtain⟨A1,A6⟩:=zh2 hbw hbb;clear hbw hbb;by_cases h0:bw=0
 ·
  subst h0;have hrg:=qap t1 1 T A5.o;have A0:=zh1 hrg;clear hrg;go_wp2_with (refine zld A0.o zu31 A4.o ?_)
  refine(HT.o _ hcav1).mono ?_;rintro e w2 ⟨v2,rfl,hown2,hb2⟩;have B2:=B1.trans (hb2.mono B1.size);have hownb:=hown1.kept hb2;have htl:=qeb R.tid R.cavs R.tag hR.tag;obtain⟨tw,htw⟩:=xeq ((qdb R.tid R.cavs R.tag).1);obtain⟨tb,htb⟩:=xeq ((qdb R.tid R.cavs R.tag).2);rw[htw];rw[htb]at hown2 htl;obtain⟨A2,A7⟩:=zh2 htw htb;clear htw htb A0 hown1 hcav1 hb2;by_cases h1:tw=0
  ·
   subst h1;obtain⟨At,nt,ct,rfl,ht1,ht2,hrt⟩:=hown2.sl;obtain⟨Ab,nb,cb,rfl,hb1,hb2,hrb⟩:=hownb.sl;have H:Hid (qjc R=(0,txt tb++bb)):=by
    unfold Hid qjc;rw[if_pos A1.o,if_pos A2.o,A7.o,A6.o]
   go_wp2_with fail
   refine(qhd none At 0 nt 0 ct [] tb _ Reads.none_ hrt zm ht1 ht2).mono ?_;rintro e w5 ⟨v5,rfl,hown5,hb5⟩;rw[List.nil_append]at hown5;have hrb5:=hrb.call hb5;have B5:=B2.trans (hb5.mono B2.size);have htx:=qjg tb;have hbl5:=qb5 hrb5;clear hrb hrt hown2 hownb;go_wp2_with (at_builtin;refine qe3 rfl _ _ rfl w2.heap.size _ _ rfl hown5 Ab nb cb bb rfl hrb5 zo hb5.size ?_)
   intro v6 w6 hown6 hb6 hg6;obtain⟨HO,A8⟩:=zh2 (hown6.mono B2.size) (B5.trans (hb6.mono B2.size));clear hown6 hb6 hg6 hown5 hrb5 hb5;go_wp2
   go_ret2
   exact⟨_,by rw[H.o];rfl,by rw[H.o];exact HO.o,A8.o⟩
  have H:Hid (qjc R=(tw,[])):=by
   unfold Hid qjc;rw[if_pos A1.o,A2.o,if_neg h1]
  have hn:((tw:Int)==0)=false:=by simpa using h1
  have hn2:((tw:Int) != 0)=true:=by simpa using h1
  go_wp2
  go_ret2
  exact⟨_,by rw[H.o];rfl,by rw[H.o];exact OwnB.nil _ _,B2⟩
 have H:Hid (qjc R=(bw,[])):=by
  unfold Hid qjc;rw[A1.o,if_neg h0]
 have hn:((bw:Int)==0)=false:=by simpa using h0
 have hn2:((bw:Int) != 0)=true:=by simpa using h0
 go_wp2
 go_ret2
 exact⟨_,by rw[H.o];rfl,by rw[H.o];exact OwnB.nil _ _,B1⟩
instance decTen:DecidableEq Ten:=fun x y=>decidable_of_iff (x.on=y.on∧x.rate=y.rate∧x.burst=y.burst∧x.tok=y.tok∧x.store=y.store∧x.used=y.used) (by cases x;cases y;simp)
instance decGra:DecidableEq Gra:=fun x y=>decidable_of_iff (x.tenant=y.tenant∧x.role=y.role∧x.expires=y.expires∧x.revoked=y.revoked) (by cases x;cases y;simp)
theorem xe0(t:List Nat)(h:t.length≤65535):txt t=be t.length 2++t:=by
 unfold txt;rw[Nat.mod_eq_of_lt zo,tB5 (tA4 _)]
theorem xe1(bs x rest:List Nat)(p k:Nat)(hk:x.length=k)(h:bs.drop p=x++rest)(hp:p≤bs.length):qg7 bs (p,none) k=((p+k,none),x)∧bs.drop (p+k)=rest∧p+k≤bs.length:=by
 have hl:bs.length - p=k+rest.length:=by
  have:=congrArg List.length h;simp only[tBk,tA6,hk]at this;exact this
 refine⟨?_,?_,by omega⟩
 · unfold qg7
   simp only;rw[if_pos zo,h,←hk,List.take_left' rfl]
 rw[←List.drop_drop,h,←hk,List.drop_left' rfl]
theorem xe2(bs rest:List Nat)(p n k:Nat)(hn:n<256^k)(h:bs.drop p=be n k++rest)(hp:p≤bs.length):rNum bs (p,none) k=((p+k,none),n)∧bs.drop (p+k)=rest∧p+k≤bs.length:=by
 obtain⟨h1,h2,h3⟩:=xe1 bs (be n k) rest p k (qaw n k) h hp;refine⟨?_,h2,h3⟩;unfold rNum;rw[h1];simp only;rw[qhs,Nat.mod_eq_of_lt hn]
theorem xe3(bs x rest:List Nat)(p:Nat)(hx:x.length=32)(h:bs.drop p=x++rest)(hp:p≤bs.length):rDig bs (p,none)=((p+32,none),x)∧bs.drop (p+32)=rest∧p+32≤bs.length:=by
 obtain⟨h1,h2,h3⟩:=xe1 bs x rest p 32 hx h hp;refine⟨?_,h2,h3⟩;unfold rDig;rw[h1];simp[hx]
theorem xe4(bs x rest:List Nat)(p m:Nat)(hm:x.length≤m)(hx:x.length≤65535)(h:bs.drop p=txt x++rest)(hp:p≤bs.length):qho bs (p,none) m=((p+2+x.length,none),x)∧bs.drop (p+2+x.length)=rest∧p+2+x.length≤bs.length:=by
 rw[xe0 x hx,List.append_assoc]at h;obtain⟨h1,h2,h3⟩:=xe2 bs (x++rest) p x.length 2 (Nat.lt_of_lt_of_eq (show x.length<65536 by omega) zdc) h hp;obtain⟨k1,k2,k3⟩:=xe1 bs x rest (p+2) x.length rfl h2 h3;refine⟨?_,k2,k3⟩;unfold qho;rw[h1];simp only;rw[if_neg (fun e=>by omega)];exact k1
theorem xe5 (bs:List Nat):∀(l acc:List (List Nat)) (rest:List Nat) (p:Nat),(∀d∈l,d.length=32)→bs.drop p=l.flatten++rest→p≤bs.length→
 ∃q,qj4 bs l.length (p,none) acc=((q,none),acc++l)∧bs.drop q=rest∧q≤bs.length
 |[],acc,rest,p,_,h,hp=>⟨p,by simp[qj4],by simpa using h,hp⟩
 |d::l,acc,rest,p,hl,h,hp=>by
  rw[List.flatten_cons,List.append_assoc]at h;obtain⟨h1,h2,h3⟩:=xe3 bs d (l.flatten++rest) p (hl d zm) h hp;obtain⟨q,k1,k2,k3⟩:=xe5 bs l (acc++[d]) rest (p+32) (fun x hx=>hl x (List.mem_cons_of_mem _ hx)) h2 h3;refine⟨q,?_,k2,k3⟩;rw[tBi];unfold qj4;rw[h1];simp only;rw[k1];simp
theorem xe6(bs rest:List Nat)(h:Hd)(hok:h.Ok)(h0:h≠Hd.zero)(t1:0≤h.tree∧h.tree≤255)(t2:0≤h.epoch∧h.epoch≤2147483647)(p:Nat)(hd:bs.drop p=hdB h++rest)(hp:p≤bs.length):
 ∃q,qj5 bs (p,none)=((q,none),h)∧bs.drop q=rest∧q≤bs.length:=by
 unfold hdB at hd;simp only[List.append_assoc]at hd;obtain⟨e1,hd,hp⟩:=xe2 bs _ p h.tree.toNat 1 zo hd hp;have e1:rh1 bs (p,none)=((p+1,none),h.tree.toNat):=e1;obtain⟨e2,hd,hp⟩:=xe2 bs _ (p+1) h.epoch.toNat 4 (Nat.lt_of_lt_of_eq (show h.epoch.toNat<4294967296 by omega) zdc) hd hp;have e2:rh2 bs (p,none)=((p+1+4,none),h.epoch.toNat):=by unfold rh2;rw[e1];exact e2
 have e3:rh3 bs (p,none)=(p+1+4,none):=by
  unfold rh3;rw[e2];simp only;rw[if_neg zo]
 obtain⟨e4,hd,hp⟩:=xe2 bs _ (p+1+4) h.size 8 (Nat.lt_of_lt_of_eq hok.size zdc) hd hp;have e4:rh4 bs (p,none)=((p+1+4+8,none),h.size):=by unfold rh4;rw[e3];exact e4
 obtain⟨e5,hd,hp⟩:=xe2 bs _ (p+1+4+8) h.clock 8 (Nat.lt_of_lt_of_eq hok.clock zdc) hd hp;have e5:rh5 bs (p,none)=((p+1+4+8+8,none),h.clock):=by unfold rh5;rw[e4];exact e5
 obtain⟨e6,hd,hp⟩:=xe3 bs _ _ (p+1+4+8+8) hok.rootl hd hp;have e6:rh6 bs (p,none)=((p+1+4+8+8+32,none),h.root):=by unfold rh6;rw[e5];exact e6
 obtain⟨e7,hd,hp⟩:=xe3 bs _ _ (p+1+4+8+8+32) hok.tagl hd hp;have e7:rh7 bs (p,none)=((p+1+4+8+8+32+32,none),h.tag):=by unfold rh7;rw[e6];exact e7
 have eH:rhH bs (p,none)=h:=by
  unfold rhH;rw[e1,e2,e4,e5,e6,e7];obtain⟨a,b,c,d,e,f⟩:=h;simp only at t1 t2 ⊢;congr 1<;>omega
 refine⟨_,?_,hd,hp⟩;unfold qj5;rw[eH,if_neg h0,e7]
theorem xe7(t:Tok)(ht:t.Ok):(tokR t).2.length≤60:=qeb _ _ _ ht.2.2.1
theorem xe8(bs rest:List Nat)(t:Tok)(ht:t.Ok)(h0:t≠qgu)(hr:(tokR t).1=0)(p:Nat)(hd:bs.drop p=txt (tokR t).2++rest)(hp:p≤bs.length):
 ∃q,qj6 bs (p,none)=((q,none),t)∧bs.drop q=rest∧q≤bs.length:=by
 have hl:=xe7 t ht;obtain⟨e1,hd,hp⟩:=xe4 bs _ rest p 65536 zo zo hd hp;have e2:qh5 (tokR t).2=(none,t):=(qhz t.1 t.2.1 t.2.2 ht.1 ht.2.1 ht.2.2.1 hr).1;refine⟨_,?_,hd,hp⟩;unfold qj6;rw[e1];simp only;rw[e2];simp[h0]
theorem xe9(bs:List Nat)(q:Nat)(h:bs.drop q=[]):rEnd bs (q,none)=none:=by
 unfold rEnd;simp only;have:=congrArg List.length h;simp only[tBk,List.length_nil]at this;rw[if_neg zo]
theorem xea(R:Rsp):flagsOf R≤3:=by unfold flagsOf;split<;>split<;>omega
theorem xeb(R:Rsp)(x:List Nat)(hR:R.Ok)(h:qj3 R=(0,x)):qj7 x=(none,R):=by
 unfold qj3 at h;split at h
 · cases h
 rename_i h1
 split at h
 · cases h
 rename_i h2
 split at h
 case isFalse=>cases h
 rename_i h3
 obtain⟨hf,ht⟩:=h3;injection h with _ hx;subst hx;unfold Rsp.fits at hf;simp only[Bool.and_eq_true,decide_eq_true_eq]at hf;obtain⟨⟨f1,f2⟩,f3⟩:=hf;have hn:R.hashes.length≤255:=zo;obtain⟨X,hX⟩:=xeq (ansB R);rw[hX];have hp0:0≤X.length:=Nat.zero_le _;have hd1:X.drop 0=be R.why.toNat 1++(be R.n 8++(txt R.bytes++(be R.hashes.length 1++(R.hashes.flatten++(be (flagsOf R) 1++((if R.hd=Hd.zero then [] else hdB R.hd)++(if R.tok=qgu then [] else txt (tokR R.tok).2))))))):=by
  rw[List.drop_zero,←hX];rfl
 clear hX;obtain⟨e1,hd,hp⟩:=xe2 X _ 0 R.why.toNat 1 zo hd1 hp0;clear hd1 hp0;have e1:rp1 X=((0+1,none),R.why.toNat):=e1;obtain⟨e2,hd,hp⟩:=xe2 X _ (0+1) R.n 8 (Nat.lt_of_lt_of_eq hR.n zdc) hd hp;have e2:rp2 X=((0+1+8,none),R.n):=by unfold rp2;rw[e1];exact e2
 obtain⟨e3,hd,hp⟩:=xe4 X R.bytes _ (0+1+8) 65536 zo zo hd hp;have e3:rp3 X=((0+1+8+2+R.bytes.length,none),R.bytes):=by unfold rp3;rw[e2];exact e3
 obtain⟨p3,hp3⟩:=xeq (0+1+8+2+R.bytes.length);rw[hp3]at e3 hd hp;obtain⟨e4,hd,hp⟩:=xe2 X _ p3 R.hashes.length 1 zo hd hp;have e4:rp4 X=((p3+1,none),R.hashes.length):=by unfold rp4;rw[e3];exact e4
 obtain⟨p5,e5,hd,hp⟩:=xe5 X R.hashes [] _ (p3+1) (fun d hd=>(hR.hashes d hd).1) hd hp;have e5:rp5 X=((p5,none),R.hashes):=by unfold rp5;rw[e4];exact e5
 have hfl:=xea R;obtain⟨e6,hd,hp⟩:=xe2 X _ p5 (flagsOf R) 1 zo hd hp;have e6:rp6 X=((p5+1,none),flagsOf R):=by unfold rp6;rw[e5];exact e6
 have e7:rp7 X=(p5+1,none):=by unfold rp7;rw[e6];simp only;rw[if_neg zo]
 have h8:∃q,rp8 X=((q,none),R.hd)∧X.drop q=(if R.tok=qgu then [] else txt (tokR R.tok).2)∧q≤X.length:=by
  unfold rp8;rw[e6,e7];simp only;by_cases hz:R.hd=Hd.zero
  · rw[if_pos hz,List.nil_append]at hd
    rw[if_neg (by unfold flagsOf;rw[if_pos hz];split<;>omega)];exact⟨_,by rw[hz],hd,hp⟩
  rw[if_neg hz]at hd;rw[if_pos (by unfold flagsOf;rw[if_neg hz];split<;>omega)];exact xe6 X _ R.hd hR.hd hz f2 f3 (p5+1) hd hp
 obtain⟨p8,e8,hd,hp⟩:=h8;have h9:∃q,rp9 X=((q,none),R.tok)∧X.drop q=[]∧q≤X.length:=by
  unfold rp9;rw[e6,e8];simp only;by_cases hz:R.tok=qgu
  · rw[if_pos hz]at hd
    rw[if_neg (by unfold flagsOf;rw[if_pos hz];split<;>omega)];exact⟨_,by rw[hz],hd,hp⟩
  rw[if_neg hz,←List.append_nil (txt _)]at hd;rw[if_pos (by unfold flagsOf;rw[if_neg hz];split<;>omega)];exact xe8 X [] R.tok hR.tok hz ht p8 hd hp
 obtain⟨p9,e9,hd,hp⟩:=h9;unfold qj7;rw[e9];simp only;rw[xe9 X p9 hd];simp only;congr 1
 unfold rpR;rw[e1,e2,e3,e5,e8,e9];obtain⟨a,b,c,d,e,f⟩:=R;simp only at f1 ⊢;congr 1
 omega
def xek (l:List (List Nat)):List Nat:=be l.length 2++l.flatMap txt
def xel (x:Ten):List Nat:=be (if x.on then 1 else 0) 1++[x.rate,x.burst,x.tok,x.store,x.used].flatMap fun n=>be n 4
def xem (t:Tre):List Nat:=
 be t.state.toNat 1++be t.tenant.toNat 1++be t.weight.toNat 1++be t.deficit.toNat 4++be t.draws.length 2++(t.draws.flatMap fun n=>be n 4)++xek t.leaves++xek t.queue++
  be t.hd.tree.toNat 1++be t.hd.epoch.toNat 4++be t.hd.size 8++be t.hd.clock 8++t.hd.root++t.hd.tag
def xen (g:Gra):List Nat:=be g.tenant.toNat 1++be g.role.toNat 1++be g.expires 8++be (if g.revoked then 1 else 0) 1
def xeo (s:Sta):List Nat:=be s.clock 8++be s.draw 4++be s.lane.toNat 4++be 16 2++be 16 2++be s.gras.length 2
def encS (s:Sta):List Nat:=xeo s++s.tens.flatMap xel++s.tres.flatMap xem++s.gras.flatMap xen
theorem xep{α:Type}(f:α→List Nat){l:List α}{x:α}(h:l[k]? =some x)(p:List Nat):p++(l.take (k+1)).flatMap f=p++(l.take k).flatMap f++f x:=by
 obtain⟨hk,e⟩:=tA8 h;rw[List.take_succ_eq_append_getElem hk,e,List.flatMap_append,List.append_assoc];simp
theorem x_q{α:Type}(f:α→List Nat){l:List α}(h:l.length≤k)(p:List Nat):p++(l.take k).flatMap f=p++l.flatMap f:=by rw[tB5 h]
theorem xey(h:Hd)(x:Int):(hdv h).toArray.setIfInBounds 0 (.int .i64 x)=(hdv {h with tree:=x}).toArray:=by simp[hdv]
theorem xez(h:Hd)(x:Int):(hdv h).toArray.setIfInBounds 1 (.int .i64 x)=(hdv {h with epoch:=x}).toArray:=by simp[hdv]
theorem xf0(h:Hd)(x:Nat):(hdv h).toArray.setIfInBounds 2 (.int .u64 (x:Int))=(hdv {h with size:=x}).toArray:=by simp[hdv]
theorem xf1(h:Hd)(x:Nat):(hdv h).toArray.setIfInBounds 3 (.int .u64 (x:Int))=(hdv {h with clock:=x}).toArray:=by simp[hdv]
theorem xf2(h:Hd)(d:List Nat)(hd:d.length=32)(hr:h.root.length=32):(hdv h).take 4++(byv d++(hdv h).drop (4+(byv d).length))=hdv {h with root:=d}:=by
 rw[qat,hd];have e:(hdv h).drop (4+32)=byv h.tag:=by rw[qm4];exact List.drop_left' (qm5 h hr)
 rw[e];simp[hdv]
theorem xf3(h:Hd)(d:List Nat)(hd:d.length=32)(hr:h.root.length=32)(ht:h.tag.length=32):(hdv h).take 36++(byv d++(hdv h).drop (36+(byv d).length))=hdv {h with tag:=d}:=by
 rw[qat,hd];have e:(hdv h).drop (36+32)=[]:=List.drop_eq_nil_of_le (by rw[qm4,tA6,qm5 h hr,qat,ht];omega);have e2:(hdv h).take 36=qm3 h:=by rw[qm4];exact List.take_left' (qm5 h hr)
 rw[e,e2,List.append_nil,qm4];rfl
theorem xf4(h:Hd)(hr:h.root.length=32)(ht:h.tag.length=32):(hdv h).length=68:=by rw[qm4,tA6,qm5 h hr,qat,ht]
theorem xf5:Tryz.zeroCells55=(hdv Hd.zero).toArray:=by kernel_rfl
theorem xf6(B g:Nat)(bs:List Nat)(s:RSt)(w:World)(h:Rd w B g bs s)(hb:∀x∈bs,x<256):
 Zc 73 #[.pointer (some ⟨g,0,none⟩)] w fun e w'=>e=.returned (.agg (hdv (qj5 bs s).2).toArray)∧Rd w' B g bs (qj5 bs s).1∧w.grownBy w' (some g):=by
 have HB:=zh1 hb;have hgw:=h.lt;obtain⟨W0,hW0⟩:=eqx ((w.alloc (.cells Tryz.zeroCells55 55)).alloc (.cells Tryz.zeroCells55 55));have r0:Blk W0 w.heap.size 55 (hdv Hd.zero).toArray:=by rw[hW0,←xf5];exact(Blk.new w _ _).alloc _
 have q0:Blk W0 (w.heap.size+1) 55 (hdv Hd.zero).toArray:=by
  have h:=Blk.new (w.alloc (.cells Tryz.zeroCells55 55)) 55 Tryz.zeroCells55;rw[qar]at h;rw[hW0,←xf5];exact h
 have b0:=zMb hW0;obtain⟨H0,A6,R0,A7⟩:=zh4 (h.below b0) (qad b0 (some g)) r0 hW0;have hG3w:w.heap.size≤w.heap.size+1:=zo;clear hb h r0 b0 hW0;go_enter Tryz.func73,Tryz.ntmps73
 go_upto_region 2 with(fail)
 rw[←A7.o];obtain⟨G3,hG3⟩:=xeq (w.heap.size+1);obtain⟨G2,hG2⟩:=xeq w.heap.size;have hgG2:g<G2:=zo;have hgG3:g<G3:=zo;have hG23:G2<G3:=zo;rw[hG3]at q0 hG3w ⊢;have hG2w:w.heap.size≤G2:=zo;rw[hG2]at R0 ⊢;have Q0:=zh1 q0;clear q0 hG3 hG2 A7 hgw;go_wp2_with fail
 refine(qgi B g bs s 1 W0 H0.o HB.o).mono ?_;rintro e w1 ⟨rfl,hw1,gw1⟩;have hlk1:=qgh bs s 1 HB.o;rw[show qb0 1=1 from rfl]at hw1 ⊢;obtain⟨⟨s1,k1⟩,hkk1⟩:∃x,rNum bs s 1=x:=⟨_,rfl⟩;rw[hkk1]at hw1 hlk1 ⊢;dsimp only at hw1 hlk1 ⊢;have Kk1:=zh1 hkk1;clear hkk1;have qw1:=Q0.grown gw1 (by simp;omega);have rw1:=R0.grown gw1 (by simp;omega);have k1b:k1<256:=Nat.lt_of_lt_of_eq hlk1 zdc;clear hlk1 H0 Q0 R0;have kw:IntKind.i64.wrap (k1:Int)=k1:=tBb _ zo;have cw1:=(qw1.cell 0).trans (show _=some (.int .i64 0) from rfl);have fw1:=qw1.frozen 0;have qw2:=qw1.set_ 0 (.int .i64 (k1:Int));rw[xey]at qw2;have hsetw2:=qab (p:=⟨G3,0,none⟩) (tB9 w1 (some G3)) (.inl rfl) (.int .i64 (k1:Int));obtain⟨Hw2,Rw2,Qw2,A1⟩:=zh4 (hw1.kept hsetw2 qw1 zdc zdc zo) (rw1.grown hsetw2 (by simp;omega)) qw2 (qac (qac A6.o gw1 zm) hsetw2 (by intro d e;injection e with e;subst e;exact .inr hG3w));clear qw2 hsetw2 hw1 rw1 gw1;go_upto_region 3 with(fail)
 obtain⟨w2,hww2⟩:=eqx (w1.setCell ⟨G3,0,none⟩ (.int .i64 (k1:Int)));rw[←hww2]at Hw2 Rw2 Qw2 A1 ⊢;clear hww2 cw1 fw1 qw1;clear A6 kw;go_wp2_with fail
 refine(qgi B g bs s1 4 w2 Hw2.o HB.o).mono ?_;rintro e w3 ⟨rfl,hw3,gw3⟩;have hlk2:=qgh bs s1 4 HB.o;rw[show qb0 4=4 from rfl]at hw3 ⊢;obtain⟨⟨s2,k2⟩,hkk2⟩:∃x,rNum bs s1 4=x:=⟨_,rfl⟩;rw[hkk2]at hw3 hlk2 ⊢;dsimp only at hw3 hlk2 ⊢;have Kk2:=zh1 hkk2;clear hkk2;have qw3:=Qw2.grown gw3 (by simp;omega);have rw3:=Rw2.grown gw3 (by simp;omega);have k2b:k2<4294967296:=Nat.lt_of_lt_of_eq hlk2 zdc;obtain⟨s3,hs3⟩:=eqx (if 2147483647<k2 then qg6 s2 s2.1 12 else s2);obtain⟨A0,H3,Q3,R3,A2⟩:=zh5 hs3 hw3 qw3 rw3 (qac A1.o gw3 zm);clear hlk2 hs3 hw3 qw3 rw3 gw3 Hw2 Qw2 Rw2 A1;go_upto_if 13 with(fail)
 go_cut [] (fun wx=>Hid (Rd wx B g bs s3)∧Hid (Blk wx G3 55 (hdv {Hd.zero with tree:=(k1:Int)}).toArray)∧Hid (Blk wx G2 55 (hdv Hd.zero).toArray)∧Hid (w.grownBy wx (some g)))
 case first=>
  by_cases hk:2147483647<k2
  ·
   have q:(2147483647:Int)<k2:=zo;have e3:=A0.o;rw[if_pos hk]at e3;subst e3;go_wp2_with fail
   refine(qgb B g bs s2 12 w3 H3.o zdc).mono ?_;rintro e wa ⟨rfl,ha,ga⟩;obtain⟨Ha,Qa,Ra,Ga⟩:=zh4 ha (Q3.grown ga (by simp;omega)) (R3.grown ga (by simp;omega)) (qac A2.o ga zm);clear ha ga;go_wp2
   go_meet
   case rel=>exact⟨Ha,Qa,Ra,Ga⟩
  have q:¬(2147483647:Int)<k2:=zo;have e3:=A0.o;rw[if_neg hk]at e3;subst e3;go_wp2
  go_meet
  case rel=>exact⟨H3,Q3,R3,A2⟩
 case rest=>
  obtain⟨H4,Q4,R4,A8⟩:=hcut;obtain⟨w4,rfl⟩:=eqx wc;clear H3 Q3 R3 A2;have kw:IntKind.i64.wrap (k2:Int)=k2:=tBb _ zo;have hw4:=H4.o;have qw4:=Q4.o;have rw4:=R4.o;have gw4:=tB9 w4 (some g);have cw4:=(qw4.cell 1).trans (show _=some (.int .i64 0) from rfl);have fw4:=qw4.frozen 1;have qw5:=qw4.set_ 1 (.int .i64 (k2:Int));rw[xez]at qw5;have hsetw5:=qab (p:=⟨G3,1,none⟩) (tB9 w4 (some G3)) (.inl rfl) (.int .i64 (k2:Int));obtain⟨Hw5,Rw5,Qw5,A3⟩:=zh4 (hw4.kept hsetw5 qw4 zdc zdc zo) (rw4.grown hsetw5 (by simp;omega)) qw5 (qac (qac A8.o gw4 zm) hsetw5 (by intro d e;injection e with e;subst e;exact .inr hG3w));clear qw5 hsetw5 hw4 rw4 gw4;go_upto_region 7 with(fail)
  obtain⟨w5,hww5⟩:=eqx (w4.setCell ⟨G3,1,none⟩ (.int .i64 (k2:Int)));rw[←hww5]at Hw5 Rw5 Qw5 A3 ⊢;clear hww5 cw4 fw4 qw4;clear A8 kw H4 Q4 R4;go_wp2_with fail
  refine(qgi B g bs s3 8 w5 Hw5.o HB.o).mono ?_;rintro e w6 ⟨rfl,hw6,gw6⟩;have hlk4:=qgh bs s3 8 HB.o;rw[show qb0 8=8 from rfl]at hw6 ⊢;obtain⟨⟨s4,k4⟩,hkk4⟩:∃x,rNum bs s3 8=x:=⟨_,rfl⟩;rw[hkk4]at hw6 hlk4 ⊢;dsimp only at hw6 hlk4 ⊢;have Kk4:=zh1 hkk4;clear hkk4;have qw6:=Qw5.grown gw6 (by simp;omega);have rw6:=Rw5.grown gw6 (by simp;omega);have k4b:k4<18446744073709551616:=Nat.lt_of_lt_of_eq hlk4 zdc;clear hlk4 Hw5 Qw5 Rw5;have cw6:=(qw6.cell 2).trans (show _=some (.int .u64 0) from rfl);have fw6:=qw6.frozen 2;have qw7:=qw6.set_ 2 (.int .u64 (k4:Int));rw[xf0]at qw7;have hsetw7:=qab (p:=⟨G3,2,none⟩) (tB9 w6 (some G3)) (.inl rfl) (.int .u64 (k4:Int));obtain⟨Hw7,Rw7,Qw7,A4⟩:=zh4 (hw6.kept hsetw7 qw6 zdc zdc zo) (rw6.grown hsetw7 (by simp;omega)) qw7 (qac (qac A3.o gw6 zm) hsetw7 (by intro d e;injection e with e;subst e;exact .inr hG3w));clear qw7 hsetw7 hw6 rw6 gw6;go_upto_region 8 with(fail)
  obtain⟨w7,hww7⟩:=eqx (w6.setCell ⟨G3,2,none⟩ (.int .u64 (k4:Int)));rw[←hww7]at Hw7 Rw7 Qw7 A4 ⊢;clear hww7 cw6 fw6 qw6;clear A3;go_wp2_with fail
  refine(qgi B g bs s4 8 w7 Hw7.o HB.o).mono ?_;rintro e w8 ⟨rfl,hw8,gw8⟩;have hlk5:=qgh bs s4 8 HB.o;rw[show qb0 8=8 from rfl]at hw8 ⊢;obtain⟨⟨s5,k5⟩,hkk5⟩:∃x,rNum bs s4 8=x:=⟨_,rfl⟩;rw[hkk5]at hw8 hlk5 ⊢;dsimp only at hw8 hlk5 ⊢;have Kk5:=zh1 hkk5;clear hkk5;have qw8:=Qw7.grown gw8 (by simp;omega);have rw8:=Rw7.grown gw8 (by simp;omega);have k5b:k5<18446744073709551616:=Nat.lt_of_lt_of_eq hlk5 zdc;clear hlk5 Hw7 Qw7 Rw7;have cw8:=(qw8.cell 3).trans (show _=some (.int .u64 0) from rfl);have fw8:=qw8.frozen 3;have qw9:=qw8.set_ 3 (.int .u64 (k5:Int));rw[xf1]at qw9;have hsetw9:=qab (p:=⟨G3,3,none⟩) (tB9 w8 (some G3)) (.inl rfl) (.int .u64 (k5:Int));obtain⟨Hw9,Rw9,Qw9,A5⟩:=zh4 (hw8.kept hsetw9 qw8 zdc zdc zo) (rw8.grown hsetw9 (by simp;omega)) qw9 (qac (qac A4.o gw8 zm) hsetw9 (by intro d e;injection e with e;subst e;exact .inr hG3w));clear qw9 hsetw9 hw8 rw8 gw8;go_upto_region 9 with(fail)
  obtain⟨w9,hww9⟩:=eqx (w8.setCell ⟨G3,3,none⟩ (.int .u64 (k5:Int)));rw[←hww9]at Hw9 Rw9 Qw9 A5 ⊢;clear hww9 cw8 fw8 qw8;clear A4;go_wp2_with fail
  refine(qgl B g bs s5 w9 Hw9.o).mono ?_;rintro e wa ⟨rfl,hwa,gwa⟩;have ldd6:=qgj bs s5;have lbd6:=qgk bs s5 HB.o;obtain⟨⟨s6,d6⟩,hkd6⟩:∃x,rDig bs s5=x:=⟨_,rfl⟩;rw[hkd6]at hwa ldd6 lbd6 ⊢;dsimp only at hwa ldd6 lbd6 ⊢;have Kd6:=zh1 hkd6;clear hkd6;have qwa:=Qw9.grown gwa (by simp;omega);have rwa:=Rw9.grown gwa (by simp;omega);clear Hw9 Qw9 Rw9;obtain⟨h9,hh9⟩:∃x:Hd,x={Hd.zero with tree:=(k1:Int),epoch:=(k2:Int),size:=k4,clock:=k5}:=⟨_,rfl⟩;have rl9:h9.root.length=32:=by rw[hh9];rfl
  have tl9:h9.tag.length=32:=by rw[hh9];rfl
  have qwa:Blk wa G3 55 (hdv h9).toArray:=by rw[hh9];exact qwa
  have lenx:(hdv h9).length=68:=xf4 h9 rl9 tl9;have thwb:=zh1 (show wa.there G3 4 (byv d6).toArray.size by rw[tB6,qat,ldd6];exact qel qwa 4 32 (by rw[lenx];omega));have scwb:=Blk.setCells (byv d6) 4 wa _ qwa (by rw[lenx,qat,ldd6];omega);rw[xf2 h9 d6 ldd6 rl9]at scwb;obtain⟨ivwb,ovwb⟩:=zh2 (show (Tryz.prog.info? 29).map (·.size)=some (byv d6).toArray.size by rw[tB6,qat,ldd6];exact Tryz.digest_info) (all_oneCell_toArray (qau d6));have gswb:=qej G3 (byv d6) 4 wa;obtain⟨Hwb,Rwb,Qwb,GBwb⟩:=zh4 (hwa.kept gswb qwa zdc zdc zo) (rwa.grown gswb (by simp;omega)) scwb (qac (qac A5.o gwa zm) gswb (by intro d e;injection e with e;subst e;exact .inr hG3w));clear scwb gswb hwa rwa gwa qwa lenx;go_upto_region 10 with(refine wpList_store_mid rfl 29 (.tmp 31) (.tmp 29) rfl G3 4 (byv d6).toArray rfl rfl thwb.o ivwb.o ovwb.o ?_)
  obtain⟨wb,hwwb⟩:=eqx (wa.setCells G3 4 (byv d6));rw[←hwwb]at Hwb Rwb Qwb GBwb ⊢;clear hwwb thwb ivwb ovwb;clear A5;go_wp2_with fail
  refine(qgl B g bs s6 wb Hwb.o).mono ?_;rintro e wd ⟨rfl,hwd,gwd⟩;have ldd7:=qgj bs s6;have lbd7:=qgk bs s6 HB.o;obtain⟨⟨s7,d7⟩,hkd7⟩:∃x,rDig bs s6=x:=⟨_,rfl⟩;rw[hkd7]at hwd ldd7 lbd7 ⊢;dsimp only at hwd ldd7 lbd7 ⊢;have Kd7:=zh1 hkd7;clear hkd7;have qwd:=Qwb.grown gwd (by simp;omega);have rwd:=Rwb.grown gwd (by simp;omega);clear Hwb Qwb Rwb;have lenx:(hdv {h9 with root:=d6}).length=68:=xf4 _ ldd6 tl9;have thwe:=zh1 (show wd.there G3 36 (byv d7).toArray.size by rw[tB6,qat,ldd7];exact qel qwd 36 32 (by rw[lenx];omega));have scwe:=Blk.setCells (byv d7) 36 wd _ qwd (by rw[lenx,qat,ldd7];omega);rw[xf3 {h9 with root:=d6} d7 ldd7 ldd6 tl9]at scwe;obtain⟨ivwe,ovwe⟩:=zh2 (show (Tryz.prog.info? 29).map (·.size)=some (byv d7).toArray.size by rw[tB6,qat,ldd7];exact Tryz.digest_info) (all_oneCell_toArray (qau d7));have gswe:=qej G3 (byv d7) 36 wd;obtain⟨Hwe,Rwe,Qwe,GBwe⟩:=zh4 (hwd.kept gswe qwd zdc zdc zo) (rwd.grown gswe (by simp;omega)) scwe (qac (qac GBwb.o gwd zm) gswe (by intro d e;injection e with e;subst e;exact .inr hG3w));clear scwe gswe hwd rwd gwd qwd lenx;go_upto_region 11 with(refine wpList_store_mid rfl 29 (.tmp 34) (.tmp 33) rfl G3 36 (byv d7).toArray rfl rfl thwe.o ivwe.o ovwe.o ?_)
  obtain⟨we,hwwe⟩:=eqx (wd.setCells G3 36 (byv d7));rw[←hwwe]at Hwe Rwe Qwe GBwe ⊢;clear hwwe thwe ivwe ovwe;clear GBwb;have hrh:qj5 bs s=(if (⟨(k1:Int),(k2:Int),k4,k5,d6,d7⟩:Hd)=Hd.zero then qg6 s7 s7.1 12 else s7,⟨(k1:Int),(k2:Int),k4,k5,d6,d7⟩):=by
   have e1:rh1 bs s=(s1,k1):=Kk1.o;have e2:rh2 bs s=(s2,k2):=by unfold rh2;rw[e1];exact Kk2.o
   have e3:rh3 bs s=s3:=by unfold rh3;rw[e2];exact A0.symm
   have e4:rh4 bs s=(s4,k4):=by unfold rh4;rw[e3];exact Kk4.o
   have e5:rh5 bs s=(s5,k5):=by unfold rh5;rw[e4];exact Kk5.o
   have e6:rh6 bs s=(s6,d6):=by unfold rh6;rw[e5];exact Kd6.o
   have e7:rh7 bs s=(s7,d7):=by unfold rh7;rw[e6];exact Kd7.o
   unfold qj5 rhH;rw[e1,e2,e4,e5,e6,e7]
  have hok:(⟨(k1:Int),(k2:Int),k4,k5,d6,d7⟩:Hd).Ok:=⟨k4b,k5b,ldd6,lbd6,ldd7,lbd7⟩;have Qe:Hid (Blk we G3 55 (hdv (⟨(k1:Int),(k2:Int),k4,k5,d6,d7⟩:Hd)).toArray):=by rw[hh9]at Qwe;exact Qwe
  obtain⟨hf,hhf⟩:=eqx (⟨(k1:Int),(k2:Int),k4,k5,d6,d7⟩:Hd);rw[←hhf]at hrh hok Qe;have keq:=fun w'=>qme w' hf Hd.zero hok Hd.zero_Ok
  have lS:=qm6 hf hok;have oS:=qmr hf;have hbz:=qmk;obtain⟨zb,hzb⟩:=xeq (decide (hf=Hd.zero));have hz2:(if hf=Hd.zero then qg6 s7 s7.1 12 else s7)=(if zb then qg6 s7 s7.1 12 else s7):=by rw[←hzb];simp
  rw[hz2]at hrh;simp only[hzb]at keq;obtain⟨s8,hs8⟩:=eqx (if zb then qg6 s7 s7.1 12 else s7);rw[←hs8]at hrh;have A9:=zh1 hrh;obtain⟨S,hS⟩:=xeq (hdv hf);rw[hS]at Qe lS oS;have AB:=zh1 hS;simp only[hS]at keq;obtain⟨Z0,hZ0⟩:=xeq (hdv Hd.zero);rw[hZ0]at hbz Rwe;simp only[hZ0]at keq;obtain⟨BZ,IS,IS',LS,OS,LZ,AA,RG⟩:=zh8 hbz (zI 55 lS) (show (Tryz.prog.info? 55).map (·.size)=some S.toArray.size by rw[tB6,lS];exact Tryz.sig_info) lS oS (show Z0.length=68 by rw[←hZ0];exact qm6 _ Hd.zero_Ok) hs8 (qap Qe.o 0 S zjq);clear hbz lS oS hs8 hZ0 hS hzb hz2 hrh hok hhf k1b k2b k4b k5b ldd6 ldd7 lbd6 lbd7 rl9 tl9 hh9 Kk1 Kk2 Kk4 Kk5 Kd6 Kd7 A0 Qwe;go_upto_if 37 with(first
   |(refine zld RG.o zu55 IS.o ?_)
   |(refine qbk rfl ⟨.agg Z0.toArray,qgr 55 _ rfl _ _ BZ.o (by simp[Act.eval]),?_⟩))
  clear keq RG;go_cut [] (fun wx=>Hid (Rd wx B g bs s8)∧Hid (Blk wx G3 55 S.toArray)∧Hid (Blk wx G2 55 Z0.toArray)∧Hid (w.grownBy wx (some g)))
  case first=>
   cases zb with
   |true=>
    have e8:s8=qg6 s7 s7.1 12:=AA.o;subst e8;go_wp2_with fail
    refine(qgb B g bs s7 12 we Hwe.o zdc).mono ?_;rintro e wf ⟨rfl,ha,ga⟩;obtain⟨Ha,Qa,Ra,Ga⟩:=zh4 ha (Qe.grown ga (by simp;omega)) (Rwe.grown ga (by simp;omega)) (qac GBwe.o ga zm);clear ha ga;go_wp2
    go_meet
    case rel=>exact⟨Ha,Qa,Ra,Ga⟩
   |false=>
    have e8:s8=s7:=AA.o;subst e8;go_wp2
    go_meet
    case rel=>exact⟨Hwe,Qe,Rwe,GBwe⟩
  case rest=>
   obtain⟨Hf,Qf,Rf,GBf⟩:=hcut;obtain⟨wf,rfl⟩:=eqx wc;clear Hwe Qe Rwe GBwe;have RG:=zh1 (qap Qf.o 0 S zjq);go_wp2_with (first
    |(refine zld RG.o zu55 IS.o ?_)
    |(refine wpList_store_row rfl 55 (.tmp 2) (.tmp 40) rfl G2 S.toArray rfl rfl 55 _ Rf.o IS'.o (by simp[LS.o,LZ.o]) (by simpa using OS.o) ?_))
   have z8:=Rf.setRow S.toArray;have AC:=qap z8 0 S zjq;refine bodyPost_ret (v:=.agg S.toArray) (qao rfl rfl (run_loadVar_mid _ _ 0 _ S _ AC Tryz.underlying55 rfl (by simpa using IS.o))) rfl ⟨by rw[A9.o,AB.o],?_,?_⟩
   · rw[A9.o]
     exact Hf.kept (qam _ _ _) Rf.o zdc zdc zo
   exact qac GBf.o (qam wf G2 _) (by intro d e;injection e with e;subst e;exact .inr hG2w)
theorem Rd.blk{s:RSt}(h:Rd w B g bs s):∃cs,Blk w g 239 cs:=by
 obtain⟨A,n,c,p,hg,-⟩:=h;exact⟨_,hg⟩
theorem RspAt.read{s:RSt}{R:Rsp}(h:RspAt w0 w G R bv hv cav)(hg:w.grownBy w' (some g))(hr:Rd w B g bs s)(hne:g<G)(hlt:w0.heap.size<g):RspAt w0 w' G R bv hv cav:=by
 obtain⟨cs,hb⟩:=hr.blk;exact h.grown hg hb zdc zdc zdc zo hlt
theorem xf7(bs:List Nat)(A:Option Addr)(n c:Nat)(w:World)(hr:Reads w w.heap.size 1 A n (byv bs))(hn:n≤140737488355328)(hb:∀x∈bs,x<256)(hE:w.cell? ⟨0,0,none⟩=some (.iface 327 (.agg #[.pointer (some ⟨3,81,none⟩)]))):
 Zc 29 #[.slice A n c] w fun e w'=>∃bv hv cav r,e=.returned (.tuple #[.agg (rspv (qj7 bs).2 bv hv cav).toArray,r])∧OwnB w' w.heap.size bv (qj7 bs).2.bytes∧OwnD w' w.heap.size hv (qj7 bs).2.hashes∧OwnC w' w.heap.size cav (qj7 bs).2.tok.2.1∧RErr w' w.heap.size r (qj7 bs).1∧Below w.heap.size w w':=by
 obtain⟨HB,HE,HR,R0⟩:=zh4 hb hE (hr.laid (.cells Tryz.zeroCells57 57)) (Blk.new w 57 Tryz.zeroCells57);have A5:Below w.heap.size w (w.alloc (.cells Tryz.zeroCells57 57)):=(tA5 _ _).alloc (tA4 _) _;obtain⟨W0,hW0⟩:=eqx (w.alloc (.cells Tryz.zeroCells57 57));rw[←hW0]at R0 HR A5;obtain⟨AJ,B0⟩:=zh2 hW0 A5;clear hE hr hW0 A5 hb;go_enter Tryz.func29,Tryz.ntmps29
 go_upto_region 1 with(fail)
 rw[←AJ.o];go_wp2_with fail
 refine(qg9 bs A n c W0 HR.o hn).mono ?_;rintro e w1 ⟨g,rfl,h1,b1⟩;obtain⟨B,hB⟩:=xeq W0.heap.size;have hBw:w.heap.size<B:=by rw[←hB];exact R0.lt
 rw[hB]at h1;have r1:=R0.below b1 R0.lt;have bl1:Below w.heap.size w w1:=B0.trans (b1.mono zo);have hBg:=h1.le;have hwg:w.heap.size<g:=zo;obtain⟨H1,Z1,AK⟩:=zh3 h1 r1 bl1;clear h1 r1 bl1 b1 hB R0 HR AJ B0;go_wp2_with fail
 refine(qgi B g bs (0,none) 1 w1 H1.o HB.o).mono ?_;rintro e w2 ⟨rfl,h2,g2⟩;have hl1:=qgh bs (0,none) 1 HB.o;rw[show qb0 1=1 from rfl]at h2 ⊢;obtain⟨⟨s1,k1⟩,hk1⟩:∃x,rNum bs (0,none) 1=x:=⟨_,rfl⟩;rw[hk1]at h2 hl1 ⊢;dsimp only at h2 hl1 ⊢;have k1b:k1<256:=Nat.lt_of_lt_of_eq hl1 zdc;have kw:IntKind.i64.wrap (k1:Int)=k1:=tBb _ zo;obtain⟨K1,H2,Z2,AL⟩:=zh4 (show rp1 bs=(s1,k1) from hk1) h2 (Z1.grown g2 (by simp;omega)) (adv AK.o g2 zo H1.lt);clear hk1 hl1 h2 g2 H1 Z1 AK;go_wp2_with fail
 refine(qgi B g bs s1 8 w2 H2.o HB.o).mono ?_;rintro e w3 ⟨rfl,h3,g3⟩;have hl2:=qgh bs s1 8 HB.o;rw[show qb0 8=8 from rfl]at h3 ⊢;obtain⟨⟨s2,k2⟩,hk2⟩:∃x,rNum bs s1 8=x:=⟨_,rfl⟩;rw[hk2]at h3 hl2 ⊢;dsimp only at h3 hl2 ⊢;have k2b:k2<18446744073709551616:=Nat.lt_of_lt_of_eq hl2 zdc;obtain⟨K2,H3,Z3,A6⟩:=zh4 (show rp2 bs=(s2,k2) by unfold rp2;rw[K1.o];exact hk2) h3 (Z2.grown g3 (by simp;omega)) (adv AL.o g3 zo H2.lt);clear hk2 hl2 h3 g3 H2 Z2 AL;go_wp2_with fail
 refine(qhq B g bs s2 65536 w3 H3.o HB.o zo).mono ?_;rintro e w4 ⟨v4,rfl,own4,h4,g4⟩;have hl3:=qhp bs s2 65536 HB.o;obtain⟨A4,n4,c4,rfl,-,-,-⟩:=own4.sl;obtain⟨⟨s3,k3⟩,hk3⟩:∃x,qho bs s2 65536=x:=⟨_,rfl⟩;rw[hk3]at h4 own4 hl3;dsimp only at h4 own4 hl3;obtain⟨K3,H4,O4,Z4,A7,N4⟩:=zh6 (show rp3 bs=(s3,k3) by unfold rp3;rw[K2.o];exact hk3) h4 (own4.mono A6.size) (Z3.grown g4 (by simp;omega)) (adv A6.o g4 zo H3.lt) (Blk.new w4 57 Tryz.zeroCells57);clear hk3 h4 g4 own4 H3 Z3 A6;have bD:=qql (k1:Int) (k2:Int) A4 n4 c4;have eD:rspv ⟨(k1:Int),k2,k3,[],Hd.zero,qgu⟩ (.slice A4 n4 c4) (.slice none 0 0) (.slice none 0 0)=Value.int .i64 (k1:Int)::.int .u64 (k2:Int)::.slice A4 n4 c4::.slice none 0 0::(hdv Hd.zero++tokv qgu.1 (.slice none 0 0) qgu.2.2):=rfl;rw[←eD]at bD;have lD:=qqj ⟨(k1:Int),k2,k3,[],Hd.zero,qgu⟩ (.slice A4 n4 c4) (.slice none 0 0) (.slice none 0 0) (qm6 _ Hd.zero_Ok) (by simp[qgu]);have oD:=qqk ⟨(k1:Int),k2,k3,[],Hd.zero,qgu⟩ (.slice A4 n4 c4) (.slice none 0 0) (.slice none 0 0) rfl rfl rfl;clear eD;obtain⟨D,hD⟩:=xeq (rspv ⟨(k1:Int),k2,k3,[],Hd.zero,qgu⟩ (.slice A4 n4 c4) (.slice none 0 0) (.slice none 0 0));rw[hD]at bD lD oD;obtain⟨ID,BD,LD,OD,HD⟩:=zh5 (show (Tryz.prog.info? 57).map (·.size)=some D.toArray.size by rw[tB6,lD];exact Tryz.rsp_info) bD lD oD hD;clear bD lD oD hD;go_upto_region 3 with(first
  |(refine qbk rfl ⟨.agg D.toArray,qgr 57 _ rfl _ _ BD.o (by simp[Act.eval]),?_⟩)
  |(refine wpList_store_row rfl 57 (.tmp 5) (.tmp 19) rfl w4.heap.size D.toArray rfl rfl 57 _ N4.o ID.o (by simp[LD.o]) (by simpa using OD.o) ?_))
 obtain⟨w5,h5⟩:=eqx ((w4.alloc (.cells Tryz.zeroCells57 57)).setRow w4.heap.size D.toArray);rw[←h5];have b5:Below w4.heap.size w4 w5:=by rw[h5];exact below_setRow ((tA5 _ _).alloc (tA4 _) _) (tA4 _) _
 have q5:Blk w5 w4.heap.size 57 D.toArray:=by rw[h5];exact N4.setRow _
 have hgG:=H4.lt;obtain⟨G5,hG5⟩:=xeq w4.heap.size;rw[hG5]at q5 hgG ⊢;have H5:=zh1 (H4.below b5);have Q5:Hid (RspAt w w5 G5 ⟨(k1:Int),k2,k3,[],Hd.zero,qgu⟩ (.slice A4 n4 c4) (.slice none 0 0) (.slice none 0 0)):=⟨by rw[HD.o];exact q5,O4.kept b5,OwnD.nil _ _,OwnC.nil _ _,Z4.below b5 Z4.lt,A7.trans (b5.mono A7.size)⟩;have hwG:w.heap.size<G5:=zo;clear h5 b5 q5 hG5 N4 Z4 A7 H4 O4 ID BD LD OD HD kw;go_wp2_with fail
 refine(qgi B g bs s3 1 w5 H5.o HB.o).mono ?_;rintro e w6 ⟨rfl,hw6,gw6⟩;have hlk4:=qgh bs s3 1 HB.o;rw[show qb0 1=1 from rfl]at hw6 ⊢;obtain⟨⟨s4,k4⟩,hkk4⟩:∃x,rNum bs s3 1=x:=⟨_,rfl⟩;rw[hkk4]at hw6 hlk4 ⊢;dsimp only at hw6 hlk4 ⊢;obtain⟨Kk4,Hw6,Qw6⟩:=zh3 hkk4 hw6 (Q5.read gw6 H5.o hgG hwg);clear hkk4 hw6 gw6;have k4b:k4<256:=Nat.lt_of_lt_of_eq hlk4 zdc;have K4:=zh1 (show rp4 bs=(s4,k4) by unfold rp4;rw[K3.o];exact Kk4.o);clear hlk4 Kk4 H5 Q5;go_wp2_with fail
 go_loopw [22] (fun i wr=>∃(j:Nat) (s:RSt) (l:List (List Nat)) (hv:Value),j≤k4∧i=.int .u64 j∧l.length=j∧Hid (qj4 bs (k4 - j) s l=qj4 bs k4 s4 [])∧Hid (∀d∈l,d.length=32∧∀x∈d,x<256)∧Hid (Rd wr B g bs s)∧Hid (RspAt w wr G5 ⟨(k1:Int),k2,k3,l,Hd.zero,qgu⟩ (.slice A4 n4 c4) hv (.slice none 0 0))) (fun i _=>k4 - (intOf i).toNat)
 case atStart=>exact⟨0,s4,[],.slice none 0 0,by omega,rfl,rfl,rfl,fun d hd=>(nomatch hd),Hw6.o,Qw6.o⟩
 case round=>
  clear Hw6 Qw6;obtain⟨j,s,l,hv,hj,rfl,hl,hdec,hdl,hrd,hq⟩:=hrel;by_cases hjm:j<k4
  ·
   have qk:(j:Int)<k4:=zo;go_upto_region 5 with(fail)
   obtain⟨Ah,nh,ch,rfl,-,-,-,-⟩:=hq.ho.sl;have q3:=hq.q.cell 3;rw[show (rspv ⟨(k1:Int),k2,k3,l,Hd.zero,qgu⟩ (.slice A4 n4 c4) (.slice Ah nh ch) (.slice none 0 0)).toArray[3]? =some (.slice Ah nh ch) from rfl]at q3;have RN:=fun w h=>qgl B g bs s w h
   have ldg:=qgj bs s;have lbg:=qgk bs s HB.o;obtain⟨⟨s',d⟩,hd⟩:∃x,rDig bs s=x:=⟨_,rfl⟩;simp only[hd]at RN ldg lbg;obtain⟨AP,KD,A2,AQ⟩:=zh4 RN hd ldg lbg;clear RN hd ldg lbg;obtain⟨S,HS⟩:=zS fun w'=>w'.cell? ⟨G5,3,none⟩=some (.slice Ah nh ch)
   refine zrs S 7 (zq 0 3 [(3,true),(4,true),(5,true),(6,false),(7,true)]) ((HS.o _).mpr q3) ?_;repeat(refine zrt0 ?_)
   refine zw ?_;go_simp;refine(AP.o wr.drew (show Rd wr.drew B g bs s from hrd.o)).mono ?_;rintro e wb ⟨rfl,hbb,gb⟩;have Qb:=(hq.drew).read gb (show Rd wr.drew B g bs s from hrd.o) hgG hwg;have qb3:=Qb.q.cell 3;rw[show (rspv ⟨(k1:Int),k2,k3,l,Hd.zero,qgu⟩ (.slice A4 n4 c4) (.slice Ah nh ch) (.slice none 0 0)).toArray[3]? =some (.slice Ah nh ch) from rfl]at qb3;refine⟨(HS.o _).mpr qb3,zput ?_⟩;repeat(refine zrt0 ?_)
   refine zw ?_;refine qsi (.tmp 27) rfl d A2.o rfl ?_;refine⟨fun _=>(HS.o _).mpr (qaj qb3 _),zput ?_⟩;have rc:=qsk wb d A2.o;refine zw ?_;refine qqf (.tmp 25) (.tmp 28) rfl w.heap.size (.slice Ah nh ch) l rfl (Qb.ho.alloc _) _ 1 1 [d] rfl rfl (by simp[A2.o]) rc zo (by rw[qar];have:=Qb.z.lt;omega) ?_;intro v9 wd od bd gd;obtain⟨A9,n9,c9,rfl,-,-,-,-⟩:=od.sl;have neo:=qa3 Qb.ho.2 Qb.q zdc;have nez:=qa3 Qb.ho.2 Qb.z zdc;have td:=(Qb.q.alloc (.cells (byv d).toArray 29)).grown gd (Ne.symm neo);have zd:=(Qb.z.alloc (.cells (byv d).toArray 29)).grown gd (Ne.symm nez);have td3:=td.cell 3;rw[show (rspv ⟨(k1:Int),k2,k3,l,Hd.zero,qgu⟩ (.slice A4 n4 c4) (.slice Ah nh ch) (.slice none 0 0)).toArray[3]? =some (.slice Ah nh ch) from rfl]at td3;refine⟨fun _=>(HS.o _).mpr td3,zput ?_⟩;repeat(refine zrt0 ?_)
   have td3f:=td.frozen 3;have hdd:=(hbb.below ((tA5 _ _).alloc (tA4 _) (.cells (byv d).toArray 29))).grownD (Qb.ho.alloc _) gd;have bld:Below w.heap.size w wd:=(qah Qb.bl _).trans bd;have bod:OwnB wd w.heap.size (.slice A4 n4 c4) k3:=tB3 (Qb.bo.alloc (.cells (byv d).toArray 29)) gd (qsl (Qb.bo.alloc (.cells (byv d).toArray 29)) (Qb.ho.alloc (.cells (byv d).toArray 29)).2 zdc);refine zw ?_;go_simp;refine qbg ?_;have gs:=qab (p:=⟨G5,3,none⟩) (tB9 wd (some G5)) (.inl rfl) (.slice A9 n9 c9);have AR:=zh1 (hdd.kept gs td zdc zdc zo);have AS:Hid (RspAt w (wd.setCell ⟨G5,3,none⟩ (.slice A9 n9 c9)) G5 ⟨(k1:Int),k2,k3,l++[d],Hd.zero,qgu⟩ (.slice A4 n4 c4) (.slice A9 n9 c9) (.slice none 0 0)):=by
    refine⟨?_,tB3 bod gs (.inr (qa3 bod td zdc)),od.grown gs td zdc,OwnC.nil _ _,zd.grown gs (fun e=>by injection e;omega),adv bld gs zo td.lt⟩;have:=td.set_ 3 (.slice A9 n9 c9);rw[qqg _ _ _ _ _ (l++[d])]at this;exact this
   have AT:Hid (qj4 bs (k4 - (j+1)) s' (l++[d])=qj4 bs k4 s4 []):=by
    show _=_;rw[←hdec.o,show k4 - j=(k4 - (j+1))+1 by omega];show _=qj4 bs (k4 - (j+1)) (rDig bs s).1 (l++[(rDig bs s).2]);rw[KD.o]
   have A8:Hid (∀x∈l++[d],x.length=32∧∀y∈x,y<256):=by
    intro x hx;rcases List.mem_append.1 hx with hx|hx
    · exact hdl.o x hx
    obtain rfl:=List.mem_singleton.1 hx;exact⟨A2.o,AQ.o⟩
   clear hdd bld bod gs td zd td3 td3f neo nez od bd gd Qb qb3 hbb gb rc q3;go_wp2
   go_roundw
   case rel=>exact⟨j+1,s',l++[d],.slice A9 n9 c9,by omega,by go_num,by rw[tA6];simp;omega,AT,A8,AR,AS⟩
   case measure=>simp[intOf];omega
  have qk:¬(j:Int)<k4:=zo;obtain rfl:j=k4:=zo;have hd:=hdec.o;rw[Nat.sub_self]at hd;have K5:=zh1 (show rp5 bs=(s,l) by unfold rp5;rw[K4.o];exact hd.symm);have AX:=hdl;clear hd hdec;go_wp2_with fail
  refine(qgi B g bs s 1 wr hrd.o HB.o).mono ?_;rintro e w7 ⟨rfl,hw7,gw7⟩;have hlk6:=qgh bs s 1 HB.o;rw[show qb0 1=1 from rfl]at hw7 ⊢;obtain⟨⟨s6,k6⟩,hkk6⟩:∃x,rNum bs s 1=x:=⟨_,rfl⟩;rw[hkk6]at hw7 hlk6 ⊢;dsimp only at hw7 hlk6 ⊢;obtain⟨Kk6,Hw7,Qw7⟩:=zh3 hkk6 hw7 (hq.read gw7 hrd.o hgG hwg);clear hkk6 hw7 gw7;have k6b:k6<256:=Nat.lt_of_lt_of_eq hlk6 zdc;have K6:=zh1 (show rp6 bs=(s6,k6) by unfold rp6;rw[K5.o];exact Kk6.o);clear hlk6 Kk6 hrd hq;obtain⟨s7,hs7⟩:=eqx (if 3<k6 then qg6 s6 s6.1 12 else s6);obtain⟨AA,K7⟩:=zh2 hs7 (show rp7 bs=s7 by unfold rp7;rw[K6.o];exact hs7.symm);clear hs7;go_upto_if 35 with(fail)
  go_cut [] (fun wx=>Hid (Rd wx B g bs s7)∧Hid (RspAt w wx G5 ⟨(k1:Int),k2,k3,l,Hd.zero,qgu⟩ (.slice A4 n4 c4) hv (.slice none 0 0)))
  case first=>
   by_cases h3:3<k6
   ·
    have q:(3:Int)<k6:=zo;have e7:=AA.o;rw[if_pos h3]at e7;subst e7;go_wp2_with fail
    refine(qgb B g bs s6 12 w7 Hw7.o zdc).mono ?_;rintro e wa ⟨rfl,ha,ga⟩;obtain⟨Ha,Qa⟩:=zh2 ha (Qw7.read ga Hw7.o hgG hwg);clear ha ga;go_wp2
    go_meet
    case rel=>exact⟨Ha,Qa⟩
   have q:¬(3:Int)<k6:=zo;have e7:=AA.o;rw[if_neg h3]at e7;subst e7;go_wp2
   go_meet
   case rel=>exact⟨Hw7,Qw7⟩
  case rest=>
   obtain⟨H8,Q8⟩:=hcut;obtain⟨w8,rfl⟩:=eqx wc;clear Hw7 Qw7 AA;obtain⟨b1,hb1⟩:=xeq (decide (k6 % 2=1));obtain⟨b2,hb2⟩:=xeq (decide (k6 / 2 % 2=1));obtain⟨AB,AC⟩:=zh2 hb1 hb2;clear hb1 hb2;obtain⟨⟨s8,hd8⟩,h8⟩:∃x:RSt × Hd,x=(if b1 then qj5 bs s7 else(s7,Hd.zero)):=⟨_,rfl⟩;obtain⟨AD,K8⟩:=zh2 h8 (show rp8 bs=(s8,hd8) by unfold rp8;rw[K6.o,K7.o,h8,←AB.o];simp);have AE:Hid ((hdv hd8).length=68):=by
    show _=_;have e:=congrArg Prod.snd h8;cases b1 with
    |true=>
     have e2:hd8=rhH bs s7:=e;rw[e2];exact qm6 _ (qj9 bs HB.o s7)
    |false=>
     have e2:hd8=Hd.zero:=e;rw[e2];exact qm6 _ Hd.zero_Ok
   clear h8;go_upto_region 10 with(fail)
   go_cut [40] (fun s wx=>s=.bool b1∧wx=w8)
   case first=>
    by_cases h1:k6 % 2=1
    · have eb:b1=true:=by rw[←AB.o];simp[h1]
      subst eb;have e1:bits .and .u64 (k6:Int) 1=1:=by rw[qqo k6 zo,h1];rfl
      go_wp2
      go_meet
      case rel=>exact⟨rfl,rfl⟩
    have eb:b1=false:=by rw[←AB.o];simp[h1]
    subst eb;have e1:bits .and .u64 (k6:Int) 1=0:=by rw[qqo k6 zo,show k6 % 2=0 from by omega];rfl
    go_wp2
    go_meet
    case rel=>exact⟨rfl,rfl⟩
   case rest=>
    obtain⟨rfl,rfl⟩:=hcut;obtain⟨w8,rfl⟩:=eqx wc;go_upto_if 40 with(fail)
    go_cut [] (fun wx=>Hid (Rd wx B g bs s8)∧Hid (RspAt w wx G5 ⟨(k1:Int),k2,k3,l,hd8,qgu⟩ (.slice A4 n4 c4) hv (.slice none 0 0)))
    case first=>
     cases b1 with
     |true=>
      have e8:=AD.o;simp only[if_true]at e8;go_wp2_with fail
      refine(xf6 B g bs s7 w8 H8.o HB.o).mono ?_;rintro e w9 ⟨rfl,h9,g9⟩;have ok8:=qj9 bs HB.o s7;rw[show rhH bs s7=(qj5 bs s7).2 from rfl]at ok8;rw[←e8]at h9 ok8 ⊢;dsimp only at h9 ok8 ⊢;have q9:=Q8.read g9 H8.o hgG hwg;have lV:=qm6 hd8 ok8;have lR:=qqj ⟨(k1:Int),k2,k3,l,Hd.zero,qgu⟩ (.slice A4 n4 c4) hv (.slice none 0 0) (qm6 _ Hd.zero_Ok) (by simp[qgu]);have qn:=RspAt.laid 4 (hdv hd8) hwG q9 (by rw[lR,lV];decide) (qqh _ _ _ _ hd8 (qm6 _ Hd.zero_Ok) lV) q9.bo q9.ho q9.co;have gs:=qej G5 (hdv hd8) 4 w9;obtain⟨H9,TH⟩:=zh2 (h9.kept gs q9.q zdc zdc zo) (qel q9.q 4 68 (by rw[lR];decide));have oV:=qmr hd8;obtain⟨V,hV⟩:=xeq (hdv hd8);rw[hV]at lV qn gs H9 oV ⊢;obtain⟨QN,TH',IV,OV⟩:=zh4 qn (show w9.there G5 4 V.toArray.size by rw[tB6,lV];exact TH.o) (show (Tryz.prog.info? 55).map (·.size)=some V.toArray.size by rw[tB6,lV];exact Tryz.sig_info) (all_oneCell_toArray oV);clear e8 h9 g9 ok8 q9 lV lR qn gs TH oV hV;go_wp2_with (refine wpList_store_mid rfl 55 (.tmp 43) (.tmp 42) rfl G5 4 V.toArray rfl rfl TH'.o IV.o OV.o ?_)
      go_meet
      case rel=>exact⟨H9,QN⟩
     |false=>
      have e8:=AD.o;simp only[Bool.false_eq_true,if_false]at e8;injection e8 with e81 e82;subst e81;subst e82;go_wp2
      go_meet
      case rel=>exact⟨H8,Q8⟩
    case rest=>
     obtain⟨H9,Q9⟩:=hcut;obtain⟨w9,rfl⟩:=eqx wc;clear H8 Q8 AD;obtain⟨⟨s9,t9⟩,h9⟩:∃x:RSt × Tok,x=(if b2 then qj6 bs s8 else(s8,qgu)):=⟨_,rfl⟩;obtain⟨AF,K9⟩:=zh2 h9 (show rp9 bs=(s9,t9) by unfold rp9;rw[K6.o,K8.o,h9,←AC.o];simp);clear h9;go_upto_region 12 with(fail)
     go_cut [46] (fun s wx=>s=.bool b2∧wx=w9)
     case first=>
      by_cases h2:k6 / 2 % 2=1
      · have eb:b2=true:=by rw[←AC.o];simp[h2]
        subst eb;have e2:bits .and .u64 (k6:Int) 2=2:=by rw[qqp k6 zo,h2];rfl
        go_wp2
        go_meet
        case rel=>exact⟨rfl,rfl⟩
      have eb:b2=false:=by rw[←AC.o];simp[h2]
      subst eb;have e2:bits .and .u64 (k6:Int) 2=0:=by rw[qqp k6 zo,show k6 / 2 % 2=0 from by omega];rfl
      go_wp2
      go_meet
      case rel=>exact⟨rfl,rfl⟩
     case rest=>
      obtain⟨rfl,rfl⟩:=hcut;obtain⟨w9,rfl⟩:=eqx wc;go_upto_if 46 with(fail)
      go_cut [] (fun wx=>∃cav:Value,Hid (Rd wx B g bs s9)∧Hid (RspAt w wx G5 ⟨(k1:Int),k2,k3,l,hd8,t9⟩ (.slice A4 n4 c4) hv cav))
      case first=>
       cases b2 with
       |false=>
        have e9:=AF.o;simp only[Bool.false_eq_true,if_false]at e9;injection e9 with e91 e92;subst e91;subst e92;go_wp2
        go_meet
        case rel=>exact⟨_,H9,Q9⟩
       |true=>
        have e9:=AF.o;simp only[if_true]at e9;go_wp2_with fail
        refine(qhq B g bs s8 65536 w9 H9.o HB.o zo).mono ?_;rintro e wa ⟨va,rfl,owna,ha,ga⟩;obtain⟨Aa,na,ca,rfl,nca,mca,rda⟩:=owna.sl;have raw:=qhp bs s8 65536 HB.o;have hle:=qip bs s8 65536 HB.o;have hln:=qb5 rda;have qa:=Q9.read ga H9.o hgG hwg;have hDE:=qha (qho bs s8 65536).2 Aa na ca wa rda zo raw ((qa.bl.cell (p:=⟨0,0,none⟩) (World.block_lt_of_cell? _ _ HE.o)).trans HE.o);have hrt:qj6 bs s8=(if (qh5 (qho bs s8 65536).2).1=none∧(qh5 (qho bs s8 65536).2).2≠qgu then(qho bs s8 65536).1 else qg6 (qho bs s8 65536).1 (qho bs s8 65536).1.1 12,(qh5 (qho bs s8 65536).2).2):=rfl;rw[←e9]at hrt;have hok:=(qi5 (qho bs s8 65536).2 raw).1;obtain⟨⟨E,T⟩,hET⟩:∃x,qh5 (qho bs s8 65536).2=x:=⟨_,rfl⟩;rw[hET]at hDE hrt hok;dsimp only at hDE hrt hok;obtain⟨sa,hsa⟩:=xeq ((qho bs s8 65536).1);rw[hsa]at ha hrt;injection hrt with hr1 hr2;rw[←hr2]at hDE hok hr1;obtain⟨AM,A3,AG,HA,QA⟩:=zh5 hDE hok hr1 ha qa;clear e9 raw hle hln hDE hok hET hsa hr1 hr2 ha ga qa rda owna;go_wp2_with fail
        refine AM.o.mono ?_;rintro e wb ⟨cav,er,rfl,ownb,her,bb⟩;obtain⟨Ac,nc,cc,rfl,enc,ncc,mcc,rdc⟩:=OwnC.sl ownb;have hb:=HA.below bb;have qb:=QA.below bb;have ownb':OwnC wb w.heap.size (.slice Ac nc cc) t9.2.1:=OwnC.mono ownb QA.bl.size;have lV:=qdg t9.1 (.slice Ac nc cc) t9.2.2 A3.o.2.2.1;have oV:=qeh t9.1 (.slice Ac nc cc) rfl t9.2.2;have knone:∀w',Zc 75 #[.agg (tokv t9.1 (.slice Ac nc cc) t9.2.2).toArray] w' fun e w''=>e=.returned (.bool (decide (t9=qgu)))∧Below w'.heap.size w' w'':=fun w'=>by
         have:=qms t9.1 Ac nc cc t9.2.2 w' A3.o.2.2.1 A3.o.2.2.2;have hzt:(t9.1=0∧nc=0∧t9.2.2=List.replicate 32 0) ↔ t9=qgu:=by
          rw[enc];obtain⟨a,b,c⟩:=t9;simp[qgu,List.length_eq_zero_iff]
         simp only[hzt]at this;exact this
        have hst:=fun R bv hv (h1:(hdv R.hd).length=68) (h2:R.tok.2.2.length=32)=>qqi R bv hv (.slice none 0 0) t9 (.slice Ac nc cc) h1 h2 A3.o.2.2.1
        obtain⟨V,hV⟩:=xeq (tokv t9.1 (.slice Ac nc cc) t9.2.2);rw[hV]at lV oV ⊢;simp only[hV]at knone hst;obtain⟨KN,AU,Z,IV,IV',OV,LV,AH⟩:=zh8 knone hst (Blk.new wb 31 zLT) (zI 31 lV) (show (Tryz.prog.info? 31).map (·.size)=some V.toArray.size by rw[tB6,lV];exact Tryz.tok_info) (all_oneCell_toArray oV) lV her;obtain⟨HB',QB,AN⟩:=zh3 hb qb ownb';clear knone hst lV oV hV her hb qb ownb ownb' rdc enc ncc mcc bb;go_upto_region 14 with(refine wpList_store_row rfl 31 (.tmp 7) (.tmp 51) rfl wb.heap.size V.toArray rfl rfl 31 _ Z.o IV'.o (by simp[LV.o]) OV.o ?_)
        obtain⟨wd,hwd⟩:=eqx ((wb.alloc (.cells zLT 31)).setRow wb.heap.size V.toArray);rw[←hwd];have td:Blk wd wb.heap.size 31 V.toArray:=by rw[hwd];exact Z.setRow _
        have bd:Below wb.heap.size wb wd:=by rw[hwd];exact below_setRow ((tA5 _ _).alloc (tA4 _) _) (tA4 _) _
        obtain⟨g7,hg7⟩:=xeq wb.heap.size;obtain⟨HD',QD,AI⟩:=zh3 (HB'.below bd) (QB.below bd) (AN.kept bd);have hg7w:w.heap.size<g7:=by have:=QB.z.lt;omega
        have hg7g:g<g7:=by have:=HB'.lt;omega
        rw[hg7]at td ⊢;obtain⟨TD,RG⟩:=zh2 td (qap td 0 V zjq);clear hwd bd hg7 td Z HB' QB AN;obtain⟨b3,hb3⟩:=xeq (E.isSome||decide (t9=qgu));have A1:=zh1 hb3;clear hb3;go_cut [58] (fun s wx=>s=.bool b3∧Hid (Rd wx B g bs sa)∧Hid (RspAt w wx G5 ⟨(k1:Int),k2,k3,l,hd8,qgu⟩ (.slice A4 n4 c4) hv (.slice none 0 0))∧Hid (Blk wx g7 31 V.toArray)∧Hid (OwnC wx w.heap.size (.slice Ac nc cc) t9.2.1))
        case first=>
         cases E with
         |none=>
          have he:er=.nilIface:=AH.o;subst he;have e3:=A1.o;simp only[Option.isSome_none,Bool.false_or]at e3;have AV:=zh1 e3;clear e3;go_wp2_with (refine zld RG.o zu31 IV.o ?_)
          refine zcb (KN.o wd) fun we be=>?_
          rw[AV.o];obtain⟨HE',QE,TE,OE⟩:=zh4 (HD'.below be) (QD.below be) (TD.below be TD.lt) (AI.kept be);clear be;go_wp2
          go_meet
          case rel=>exact⟨rfl,HE',QE,TE,OE⟩
         |some x=>
          obtain⟨hh,he,-,-⟩:=AH.o;subst he;have e3:=A1.o;simp only[Option.isSome_some,Bool.true_or]at e3;subst e3;go_wp2
          go_meet
          case rel=>exact⟨rfl,HD',QD,TD,AI⟩
        case rest=>
         obtain⟨rfl,H1,Q1,T1,O1⟩:=hcut;obtain⟨we,rfl⟩:=eqx wc;clear HD' QD TD AI AH RG KN AM HA QA;go_upto_if 58 with(fail)
         go_cut [] (fun wx=>Hid (Rd wx B g bs s9)∧Hid (RspAt w wx G5 ⟨(k1:Int),k2,k3,l,hd8,qgu⟩ (.slice A4 n4 c4) hv (.slice none 0 0))∧Hid (Blk wx g7 31 V.toArray)∧Hid (OwnC wx w.heap.size (.slice Ac nc cc) t9.2.1))
         case first=>
          cases b3 with
          |true=>
           have e1:=AG.o;rw[if_neg (by
            intro h;have:=A1.o;rw[h.1]at this;simp[h.2]at this)]at e1
           subst e1;go_wp2_with fail
           refine(qgb B g bs sa 12 we H1.o zdc).mono ?_;rintro e wf ⟨rfl,hf,gf⟩;obtain⟨HF,QF,TF⟩:=zh3 hf (Q1.read gf H1.o hgG hwg) (T1.grown gf (by simp;omega));have OF:=zh1 (show OwnC wf w.heap.size (.slice Ac nc cc) t9.2.1 from tB3 O1.o gf (.inr (fun e=>by
            obtain⟨A',n',c',p',hgb,-⟩:=H1.o;exact qa3 O1.o hgb zdc e)))
           clear hf gf;go_wp2
           go_meet
           case rel=>exact⟨HF,QF,TF,OF⟩
          |false=>
           have e1:=AG.o;rw[if_pos (by
            have:=A1.o;simp only[Bool.or_eq_false_iff,Option.isSome_eq_false_iff,Option.isNone_iff_eq_none,decide_eq_false_iff_not]at this;exact this)]at e1
           subst e1;go_wp2
           go_meet
           case rel=>exact⟨H1,Q1,T1,O1⟩
         case rest=>
          obtain⟨HF,QF,TF,OF⟩:=hcut;obtain⟨wf,rfl⟩:=eqx wc;clear H1 Q1 T1 O1 AG A1;have AW:=zh1 (qap TF.o 0 V zjq);have lR:=qqj ⟨(k1:Int),k2,k3,l,hd8,qgu⟩ (.slice A4 n4 c4) hv (.slice none 0 0) AE.o (by simp[qgu]);obtain⟨TH,QN,HN⟩:=zh3 (show wf.there G5 72 V.toArray.size by rw[tB6,LV.o];exact qel QF.q 72 34 (by rw[lR];decide)) (RspAt.laid 72 V hwG QF.o (by rw[lR,LV.o];decide) (AU.o ⟨(k1:Int),k2,k3,l,hd8,qgu⟩ (.slice A4 n4 c4) hv AE.o (by simp[qgu])) QF.bo QF.ho OF.o) (HF.kept (qej G5 V 72 wf) QF.q zdc zdc zo);clear lR;go_wp2_with (first
           |(refine zld AW.o zu31 IV.o ?_)
           |(refine wpList_store_mid rfl 31 (.tmp 62) (.tmp 61) rfl G5 72 V.toArray rfl rfl TH.o IV'.o OV.o ?_))
          go_meet
          case rel=>exact⟨_,HN,QN⟩
      case rest=>
       obtain⟨cav,HA,QA⟩:=hcut;obtain⟨wa,rfl⟩:=eqx wc;clear H9 Q9 AF AE;have AO:Hid (rpR bs=⟨(k1:Int),k2,k3,l,hd8,t9⟩):=by
        show _=_;unfold rpR;rw[K1.o,K2.o,K3.o,K5.o,K8.o,K9.o]
       have EC:=zh1 (qhr B g bs s9 wa HA.o ((QA.bl.cell (p:=⟨0,0,none⟩) (World.block_lt_of_cell? _ _ HE.o)).trans HE.o));go_wp2_with fail
       refine EC.o.mono ?_;rintro e wd ⟨er2,rfl,hed,bd⟩;have QD:=zh1 (QA.below bd);have hsz:=QA.bl.size;have hzl:=QA.z.lt;clear bd HA QA EC;cases hend:rEnd bs s9 with
       |none=>
        rw[hend]at hed;have e0:er2=.nilIface:=hed;subst e0;have A0:Hid (qj7 bs=(none,⟨(k1:Int),k2,k3,l,hd8,t9⟩)):=by
         show _=_;unfold qj7;rw[K9.o];dsimp only;rw[hend];dsimp only;rw[AO.o]
        have hok:=qja bs HB.o;rw[AO.o]at hok;obtain⟨Ah,nh,ch,rfl,-,-,-,-⟩:=QD.ho.sl;obtain⟨Ac,nc,cc,rfl,-,-,-,-⟩:=OwnC.sl QD.co;have qd:=QD.q;have lR:=qml ⟨(k1:Int),k2,k3,l,hd8,t9⟩ (.slice A4 n4 c4) (.slice Ah nh ch) (.slice Ac nc cc) hok;have oR:=qqk ⟨(k1:Int),k2,k3,l,hd8,t9⟩ (.slice A4 n4 c4) (.slice Ah nh ch) (.slice Ac nc cc) rfl rfl rfl;obtain⟨M,hM⟩:=xeq (rspv ⟨(k1:Int),k2,k3,l,hd8,t9⟩ (.slice A4 n4 c4) (.slice Ah nh ch) (.slice Ac nc cc));rw[hM]at qd oR lR;obtain⟨RG,IM,IM',LM,OM,EM⟩:=zh6 (qap qd 0 M zjq) (zI 57 lR) (show (Tryz.prog.info? 57).map (·.size)=some M.toArray.size by rw[tB6,lR];exact Tryz.rsp_info) lR oR hM;clear lR oR hM hend hok qd hed;go_wp2_with (first
         |(refine zld RG.o zu57 IM.o ?_)
         |(refine wpList_store_row rfl 57 (.tmp 2) (.tmp 69) rfl w.heap.size M.toArray rfl rfl 57 _ QD.z IM'.o (by simp[LM.o]) (by simpa using OM.o) ?_))
        have z:=QD.z.setRow M.toArray;refine bodyPost_ret (qgv rfl rfl (qqn z LM.o)) rfl ⟨.slice A4 n4 c4,.slice Ah nh ch,.slice Ac nc cc,.nilIface,?_,?_,?_,?_,?_,?_⟩
        · rw[A0.o,EM.o]
          rfl
        · rw[A0.o]
          exact tB3 QD.bo (qam _ _ _) (.inr (qa3 QD.bo QD.z zdc))
        · rw[A0.o]
          exact QD.ho.grown (qam _ _ _) QD.z zdc
        · rw[A0.o]
          exact tB3 QD.co (qam _ _ _) (.inr (qa3 QD.co QD.z zdc))
        · rw[A0.o]
          rfl
        exact below_setRow QD.bl (tA4 _) _
       |some x=>
        rw[hend]at hed;obtain⟨hh,rfl,hhB,hkb⟩:=hed;have A0:Hid (qj7 bs=(some x,qj2)):=by
         show _=_;unfold qj7;rw[K9.o];dsimp only;rw[hend]
        have HK:=zh1 hkb;have bz:=qqm;have lZ:=qml qj2 (.slice none 0 0) (.slice none 0 0) (.slice none 0 0) qjb;have oZ:=qqk qj2 (.slice none 0 0) (.slice none 0 0) (.slice none 0 0) rfl rfl rfl;obtain⟨M,hM⟩:=xeq (rspv qj2 (.slice none 0 0) (.slice none 0 0) (.slice none 0 0));rw[hM]at bz lZ oZ;obtain⟨IM',LM,OM,EM,BZ⟩:=zh5 (show (Tryz.prog.info? 57).map (·.size)=some M.toArray.size by rw[tB6,lZ];exact Tryz.rsp_info) lZ oZ hM bz;clear hend hkb bz lZ oZ hM;go_wp2_with (first
         |(refine qbk rfl ⟨.agg M.toArray,qgr 57 _ rfl _ _ BZ.o (by simp[Act.eval]),?_⟩)
         |(refine wpList_store_row rfl 57 (.tmp 2) (.tmp 67) rfl w.heap.size M.toArray rfl rfl 57 _ QD.z IM'.o (by simp[LM.o]) (by simpa using OM.o) ?_))
        have z:=QD.z.setRow M.toArray;have hne:hh≠w.heap.size:=zo;refine bodyPost_ret (qgv rfl rfl (qqn z LM.o)) rfl ⟨.slice none 0 0,.slice none 0 0,.slice none 0 0,.iface 237 (.pointer (some ⟨hh,0,none⟩)),?_,?_,?_,?_,?_,?_⟩
        · rw[A0.o,EM.o]
          rfl
        · rw[A0.o]
          exact OwnB.nil _ _
        · rw[A0.o]
          exact OwnD.nil _ _
        · rw[A0.o]
          exact OwnC.nil _ _
        · rw[A0.o]
          exact⟨hh,rfl,tB1 hsz hhB,HK.setRow_far hne _⟩
        exact below_setRow QD.bl (tA4 _) _
theorem xf8(A B:Option Addr)(n c d:Nat)(bs:List Nat)(w:World)(ha:Reads w w.heap.size 1 A n (byv bs))(hb:Reads w w.heap.size 1 B n (byv bs))(hn:n≤9223372036854775807):
 Zc 117 #[.slice A n c,.slice B n d] w fun e w'=>e=.returned (.bool true)∧Zb w w':=by
 have hl:=qb5 ha;have HL:=zh1 hl;clear hl;go_enter Tryz.func117,Tryz.ntmps117
 go_wp2
 go_loopw [5] (fun i wr=>∃k:Nat,k≤n∧i=.int .i64 k∧Zb w wr) (fun i _=>n - (intOf i).toNat)
 case atStart=>exact⟨0,by omega,rfl,tA5 _ _⟩
 case round=>
  obtain⟨k,hk,rfl,hbr⟩:=hrel;by_cases hlt:k<n
  ·
   obtain⟨b1,o1,rfl,-,hc1⟩:=(ha.below hbr).mid zo zo;obtain⟨b2,o2,rfl,-,hc2⟩:=(hb.below hbr).mid zo zo;have hx:bs[k]? =some (bs[k]'(by rw[HL.o];exact hlt)):=tA7 _;obtain⟨x,hxe⟩:=xeq (bs[k]'(by rw[HL.o];exact hlt));rw[hxe]at hx;have m1:=hc1 k (.int .u8 (x:Int)) (by simp[byv,hx]);have m2:=hc2 k (.int .u8 (x:Int)) (by simp[byv,hx]);clear hc1 hc2 hx hxe ha hb;go_wp2_with fail
   obtain⟨S,HS⟩:=zS fun w'=>w'.cell? ⟨b1,o1+k,none⟩=some (.int .u8 (x:Int))∧w'.cell? ⟨b2,o2+k,none⟩=some (.int .u8 (x:Int))
   refine zrs S 9 (zq 0 9 []) ((HS.o _).mpr ⟨m1,m2⟩) ?_;repeat(refine zrt0 ?_)
   refine qbg ?_;have HB:=zh1 hbr.drew;clear hbr m1 m2 HS;go_wp2
   go_roundw
   case rel=>exact⟨k+1,by omega,by go_num,HB.o⟩
   case measure=>simp[intOf];omega
  obtain rfl:k=n:=zo;go_wp2
  go_ret
  exact⟨rfl,hbr⟩
theorem xf9(A B:Option Addr)(n c d:Nat)(l:List (Int × Nat))(w:World)(ha:Reads w w.heap.size 2 A n (cavv l))(hb:Reads w w.heap.size 2 B n (cavv l))(hn:n≤4611686018427387903):
 Zc 173 #[.slice A n c,.slice B n d] w fun e w'=>e=.returned (.bool true)∧Zb w w':=by
 have hl:l.length=n:=by have:=ha.1;rw[qee]at this;omega
 have HL:=zh1 hl;clear hl;go_enter Tryz.func173,Tryz.ntmps173
 go_wp2
 go_loopw [5] (fun i wr=>∃k:Nat,k≤n∧i=.int .i64 k∧Zb w wr) (fun i _=>n - (intOf i).toNat)
 case atStart=>exact⟨0,by omega,rfl,tA5 _ _⟩
 case round=>
  obtain⟨k,hk,rfl,hbr⟩:=hrel;by_cases hlt:k<n
  ·
   obtain⟨b1,o1,rfl,-,hc1⟩:=(ha.below hbr).mid zo zo;obtain⟨b2,o2,rfl,-,hc2⟩:=(hb.below hbr).mid zo zo;have hx:l[k]? =some (l[k]'(by rw[HL.o];exact hlt)):=tA7 _;obtain⟨x,hxe⟩:=xeq (l[k]'(by rw[HL.o];exact hlt));rw[hxe]at hx;obtain⟨q0,q1⟩:=qdj l k x hx;have m1:=hc1 _ _ q0;have m2:=hc2 _ _ q0;have p1:=hc1 _ _ q1;have p2:=hc2 _ _ q1;rw[←Nat.add_assoc]at p1 p2;clear hc1 hc2 hx hxe ha hb q0 q1;go_wp2_with fail
   obtain⟨S,HS⟩:=zS fun w'=>w'.cell? ⟨b1,o1+k*2,none⟩=some (.int .i64 x.1)∧w'.cell? ⟨b2,o2+k*2,none⟩=some (.int .i64 x.1)∧w'.cell? ⟨b1,o1+k*2+1,none⟩=some (.int .u32 (x.2:Int))∧w'.cell? ⟨b2,o2+k*2+1,none⟩=some (.int .u32 (x.2:Int))
   refine zrs S 9 (zq 0 9 []) ((HS.o _).mpr ⟨m1,m2,p1,p2⟩) ?_;repeat(refine zrt0 ?_)
   refine qbg ?_;have HB:=zh1 hbr.drew;clear hbr m1 m2 p1 p2 HS;go_wp2
   go_roundw
   case rel=>exact⟨k+1,by omega,by go_num,HB.o⟩
   case measure=>simp[intOf];omega
  obtain rfl:k=n:=zo;go_wp2
  go_ret
  exact⟨rfl,hbr⟩
theorem xfa(id:Nat)(A B:Option Addr)(n c d:Nat)(l:List (Int × Nat))(tag:List Nat)(w:World)(ht:tag.length=32)(htb:∀b∈tag,b<256)(ha:Reads w w.heap.size 2 A n (cavv l))(hb:Reads w w.heap.size 2 B n (cavv l))(hn:n≤4611686018427387903):
 Zc 119 #[.agg (tokv id (.slice A n c) tag).toArray,.agg (tokv id (.slice B n d) tag).toArray] w fun e w'=>e=.returned (.bool true)∧Zb w w':=by
 have hdig:=fun w=>qeg w tag tag ht ht htb htb
 simp only[beq_self_eq_true]at hdig;have d0:(tokv id (.slice A n c) tag)[0]? =some (.int .u32 (id:Int)):=rfl;have d1:(tokv id (.slice A n c) tag)[1]? =some (.slice A n c):=rfl;have e0:(tokv id (.slice B n d) tag)[0]? =some (.int .u32 (id:Int)):=rfl;have e1:(tokv id (.slice B n d) tag)[1]? =some (.slice B n d):=rfl;have dt:∀s j u,(byv tag)[j]? =some u→(tokv id s tag)[2+j]? =some u:=by
  intro s j u h;rw[tokv,show 2+j=(j+1)+1 from by omega,tBc,tBc];exact h
 have dA:=dt (.slice A n c);have dB:=dt (.slice B n d);obtain⟨L,hL⟩:=xeq (tokv id (.slice A n c) tag);obtain⟨M,hM⟩:=xeq (tokv id (.slice B n d) tag);rw[hL]at d0 d1 dA ⊢;rw[hM]at e0 e1 dB ⊢;have hgl:(byv tag).length=32:=by rw[qat,ht]
 obtain⟨G,hG⟩:=xeq (byv tag);rw[hG]at dA dB hgl;simp only[hG]at hdig;have HI:=zh1 (zI 29 hgl);have t0:Blk ((w.alloc (.cells L.toArray 31)).alloc (.cells M.toArray 31)) w.heap.size 31 L.toArray:=(Blk.new w _ _).alloc _;have s0:Blk ((w.alloc (.cells L.toArray 31)).alloc (.cells M.toArray 31)) (w.heap.size+1) 31 M.toArray:=by
  have:=Blk.new (w.alloc (.cells L.toArray 31)) 31 M.toArray;rwa[qar]at this
 obtain⟨R1,R2⟩:=zh2 (qap t0 2 G dA) (qap s0 2 G dB);have c0:=(t0.cell 0).trans (show L.toArray[0]? =_ by simpa using d0);have c1:=(t0.cell 1).trans (show L.toArray[1]? =_ by simpa using d1);have c2:=(s0.cell 0).trans (show M.toArray[0]? =_ by simpa using e0);have c3:=(s0.cell 1).trans (show M.toArray[1]? =_ by simpa using e1);have ha1:=(ha.laid (.cells L.toArray 31)).laid (.cells M.toArray 31);have hb1:=(hb.laid (.cells L.toArray 31)).laid (.cells M.toArray 31);have B1:Zb w ((w.alloc (.cells L.toArray 31)).alloc (.cells M.toArray 31)):=qah (qah (tA5 _ _) _) _;clear hL hM hG d0 d1 e0 e1 dt dA dB hgl ha hb t0 s0;go_enter Tryz.func119,Tryz.ntmps119
 go_wp2_with (first
  |(refine zld R1.o zu29 HI.o ?_)
  |(refine zld R2.o zu29 HI.o ?_))
 refine zcb (xf9 A B n c d l _ ha1 hb1 hn) fun w1 hb2=>?_
 have HB:=zh1 (B1.trans (hb2.mono B1.size));clear c0 c1 c2 c3 ha1 hb1 B1 R1 R2 hb2;go_wp2
 go_ret
 exact⟨rfl,HB.o⟩
section
variable {P : Program} {Q : Exit → Act → World → Prop} {S : World → Prop} {n : Nat}
end
theorem xfb(w:World)(a b:List Nat)(ha:a.length=32)(hb:b.length=32)(ha':∀x∈a,x<256)(hb':∀x∈b,x<256):(binOp .neq 29 (.agg (byv a).toArray) (.agg (byv b).toArray)).run Tryz.prog w=.ok (.bool !(a==b)) w:=by
 rw[run_neq_struct,qmb 9998 w a b ha hb ha' hb'];rfl
theorem xfc(A B:Option Addr)(n c d:Nat)(l:List (List Nat))(w:World)(ha:Reads w w.heap.size 32 A n (digv l))(hb:Reads w w.heap.size 32 B n (digv l))(hn:n≤1000000)(hok:∀x∈l,x.length=32∧∀y∈x,y<256):
 Zc 118 #[.slice A n c,.slice B n d] w fun e w'=>e=.returned (.bool true)∧Zb w w':=by
 have hl:l.length=n:=by have:=ha.1;rw[qmg l (fun x hx=>(hok x hx).1)]at this;omega
 obtain⟨HL,A0,HA,HB⟩:=zh4 hl hok ha hb;clear hl hok ha hb;go_enter Tryz.func118,Tryz.ntmps118
 go_wp2
 go_loopw [5] (fun i wr=>∃k:Nat,k≤n∧i=.int .i64 k∧Hid (Zb w wr)) (fun i _=>n - (intOf i).toNat)
 case atStart=>exact⟨0,by omega,rfl,tA5 _ _⟩
 case round=>
  obtain⟨k,hk,rfl,hbr⟩:=hrel;by_cases hlt:k<n
  ·
   obtain⟨b1,o1,rfl,-,hc1⟩:=(HA.below hbr.o).mid zo zo;obtain⟨b2,o2,rfl,-,hc2⟩:=(HB.below hbr.o).mid zo zo;have hx:∃x,l[k]? =some x:=⟨_,tA7 (by rw[HL.o];exact hlt)⟩;obtain⟨x,hx⟩:=hx;obtain⟨x1,x2⟩:=A0.o x (tB2 hx);have q1:(k:Int)<n:=zo;have A1:=zh1 (show wr.rangeAt b1 (o1+k*32) (byv x) from fun j u hu=>by
    have:=hc1 _ u (qmh l (fun x hx=>(A0.o x hx).1) k x hx j u hu);rwa[←Nat.add_assoc]at this)
   have A2:=zh1 (show wr.rangeAt b2 (o2+k*32) (byv x) from fun j u hu=>by
    have:=hc2 _ u (qmh l (fun x hx=>(A0.o x hx).1) k x hx j u hu);rwa[←Nat.add_assoc]at this)
   have hne:=fun w=>xfb w x x x1 x1 x2 x2
   simp only[beq_self_eq_true,Bool.not_true]at hne;have ID:=zh1 (show (Tryz.prog.info? 29).map (·.size)=some (byv x).length by rw[qat,x1];exact Tryz.digest_info);obtain⟨V,hV⟩:=xeq (byv x);rw[hV]at A1 A2 ID;simp only[hV]at hne;clear hc1 hc2 hx x1 x2 hV;go_wp2_with fail
   obtain⟨S,HS⟩:=zS fun w'=>w'.rangeAt b1 (o1+k*32) V∧w'.rangeAt b2 (o2+k*32) V
   refine zrs S 9 (zq 0 9 []) ((HS.o _).mpr ⟨A1.o,A2.o⟩) ?_;iterate 3 (refine zrb ?_)
   refine qos rfl rfl 29 (.tmp 19) rfl b1 (o1+k*32) rfl V _ (fun w hS=>by rw[HS.o]at hS;exact hS.1) Tryz.underlying29 rfl ID.o ?_;refine zP ?_;iterate 3 (refine zrb ?_)
   refine qos rfl rfl 29 (.tmp 23) rfl b2 (o2+k*32) rfl V _ (fun w hS=>by rw[HS.o]at hS;exact hS.2) Tryz.underlying29 rfl ID.o ?_;refine zP ?_;iterate 1 (refine zrb ?_)
   refine qbg ?_;have A3:=zh1 hbr.drew;clear hbr A1 A2 HS hne;go_wp2
   go_roundw
   case rel=>exact⟨k+1,by omega,by go_num,A3.o⟩
   case measure=>simp[intOf];omega
  obtain rfl:k=n:=zo;go_wp2
  go_ret
  exact⟨rfl,hbr.o⟩
theorem xfd(R:Rsp)(Ab Bb:Option Addr)(nb cb db:Nat)(Ah Bh:Option Addr)(nh ch dh:Nat)(Ac Bc:Option Addr)(nc cc dc:Nat)(w:World)(hR:R.Ok)
 (hb1:Reads w w.heap.size 1 Ab nb (byv R.bytes))(hb2:Reads w w.heap.size 1 Bb nb (byv R.bytes))(hbn:nb≤1000000)
 (hh1:Reads w w.heap.size 32 Ah nh (digv R.hashes))(hh2:Reads w w.heap.size 32 Bh nh (digv R.hashes))(hhn:nh≤1000000)
 (hc1:Reads w w.heap.size 2 Ac nc (cavv R.tok.2.1))(hc2:Reads w w.heap.size 2 Bc nc (cavv R.tok.2.1))(hcn:nc≤4611686018427387903):
 Zc 45 #[.agg (rspv R (.slice Ab nb cb) (.slice Ah nh ch) (.slice Ac nc cc)).toArray,.agg (rspv R (.slice Bb nb db) (.slice Bh nh dh) (.slice Bc nc dc)).toArray] w fun e w'=>e=.returned (.bool true)∧Zb w w':=by
 have hst:=fun w' h1 h2=>xfa R.tok.1 Ac Bc nc cc dc R.tok.2.1 R.tok.2.2 w' hR.tok.2.2.1 hR.tok.2.2.2 h1 h2 hcn
 have heq:=fun w'=>qme w' R.hd R.hd hR.hd hR.hd
 simp only[decide_true]at heq;have hok:=hR.hashes;have d0:(rspv R (.slice Ab nb cb) (.slice Ah nh ch) (.slice Ac nc cc))[0]? =some (.int .i64 R.why):=rfl;have d1:(rspv R (.slice Ab nb cb) (.slice Ah nh ch) (.slice Ac nc cc))[1]? =some (.int .u64 (R.n:Int)):=rfl;have d2:(rspv R (.slice Ab nb cb) (.slice Ah nh ch) (.slice Ac nc cc))[2]? =some (.slice Ab nb cb):=rfl;have d3:(rspv R (.slice Ab nb cb) (.slice Ah nh ch) (.slice Ac nc cc))[3]? =some (.slice Ah nh ch):=rfl;have dh':=qmm R (.slice Ab nb cb) (.slice Ah nh ch) (.slice Ac nc cc) hR;have dt:=qmn R (.slice Ab nb cb) (.slice Ah nh ch) (.slice Ac nc cc) hR;have e0:(rspv R (.slice Bb nb db) (.slice Bh nh dh) (.slice Bc nc dc))[0]? =some (.int .i64 R.why):=rfl;have e1:(rspv R (.slice Bb nb db) (.slice Bh nh dh) (.slice Bc nc dc))[1]? =some (.int .u64 (R.n:Int)):=rfl;have e2:(rspv R (.slice Bb nb db) (.slice Bh nh dh) (.slice Bc nc dc))[2]? =some (.slice Bb nb db):=rfl;have e3:(rspv R (.slice Bb nb db) (.slice Bh nh dh) (.slice Bc nc dc))[3]? =some (.slice Bh nh dh):=rfl;have eh:=qmm R (.slice Bb nb db) (.slice Bh nh dh) (.slice Bc nc dc) hR;have et:=qmn R (.slice Bb nb db) (.slice Bh nh dh) (.slice Bc nc dc) hR;have lS:=qm6 R.hd hR.hd;have lT:=qdg R.tok.1 (.slice Ac nc cc) R.tok.2.2 hR.tok.2.2.1;have lU:=qdg R.tok.1 (.slice Bc nc dc) R.tok.2.2 hR.tok.2.2.1;obtain⟨y,hy⟩:=xeq R.why;obtain⟨ny,hny⟩:=xeq R.n;rw[hy]at d0 e0;rw[hny]at d1 e1;obtain⟨L,hL⟩:=xeq (rspv R (.slice Ab nb cb) (.slice Ah nh ch) (.slice Ac nc cc));obtain⟨M,hM⟩:=xeq (rspv R (.slice Bb nb db) (.slice Bh nh dh) (.slice Bc nc dc));rw[hL]at d0 d1 d2 d3 dh' dt ⊢;rw[hM]at e0 e1 e2 e3 eh et ⊢;obtain⟨V,hV⟩:=xeq (hdv R.hd);rw[hV]at dh' eh lS;simp only[hV]at heq;obtain⟨T,hT⟩:=xeq (tokv R.tok.1 (.slice Ac nc cc) R.tok.2.2);obtain⟨U,hU⟩:=xeq (tokv R.tok.1 (.slice Bc nc dc) R.tok.2.2);rw[hT]at dt lT;rw[hU]at et lU;simp only[hT,hU]at hst;have t0:Blk ((w.alloc (.cells L.toArray 57)).alloc (.cells M.toArray 57)) w.heap.size 57 L.toArray:=(Blk.new w _ _).alloc _;have s0:Blk ((w.alloc (.cells L.toArray 57)).alloc (.cells M.toArray 57)) (w.heap.size+1) 57 M.toArray:=by
  have:=Blk.new (w.alloc (.cells L.toArray 57)) 57 M.toArray;rwa[qar]at this
 have b0:Zb w ((w.alloc (.cells L.toArray 57)).alloc (.cells M.toArray 57)):=qah (qah (tA5 _ _) _) _;obtain⟨W0,hW0⟩:=eqx ((w.alloc (.cells L.toArray 57)).alloc (.cells M.toArray 57));rw[←hW0]at t0 s0 b0;obtain⟨g2,hg2⟩:=xeq (w.heap.size+1);rw[hg2]at s0;obtain⟨B1a,B2a,H1a,H2a,C1a,C2a,A4,A5⟩:=zh8 (hb1.call b0) (hb2.call b0) (hh1.call b0) (hh2.call b0) (hc1.call b0) (hc2.call b0) hst heq;obtain⟨A6,D0,D1,D2,D3,DH,DT,E0⟩:=zh8 hok d0 d1 d2 d3 dh' dt e0;obtain⟨E1,E2,E3,EH,ET,IS,IT,IU⟩:=zh8 e1 e2 e3 eh et (zI 55 lS) (zI 31 lT) (zI 31 lU);obtain⟨T0,S0,B0,A7,A8,BR⟩:=zh6 t0 s0 b0 hW0 hg2 (tA5 W0.heap.size W0);clear hst heq hok d0 d1 d2 d3 dh' dt e0 e1 e2 e3 eh et lS lT lU hy hny hL hM hV hT hU t0 s0 b0 hW0 hg2 hb1 hb2 hh1 hh2 hc1 hc2;go_enter Tryz.func45,Tryz.ntmps45
 go_upto_region 1 with(fail)
 rw[←A7.o,A8.o];have t0:=T0.below BR.o T0.lt;have s0:=S0.below BR.o S0.lt;have c0:=(t0.cell 0).trans (show L.toArray[0]? =_ by simpa using D0.o);have c1:=(t0.cell 1).trans (show L.toArray[1]? =_ by simpa using D1.o);have c2:=(t0.cell 2).trans (show L.toArray[2]? =_ by simpa using D2.o);have c3:=(t0.cell 3).trans (show L.toArray[3]? =_ by simpa using D3.o);have e0:=(s0.cell 0).trans (show M.toArray[0]? =_ by simpa using E0.o);have e1:=(s0.cell 1).trans (show M.toArray[1]? =_ by simpa using E1.o);have e2:=(s0.cell 2).trans (show M.toArray[2]? =_ by simpa using E2.o);have e3:=(s0.cell 3).trans (show M.toArray[3]? =_ by simpa using E3.o);go_wp2_with fail
 refine zcb (xf8 Ab Bb nb cb db R.bytes W0 B1a.o B2a.o zo) fun w1 b1=>?_
 have B1:=zh1 b1;clear b1 c0 c1 c2 c3 e0 e1 e2 e3 t0 s0;have t1:=T0.below B1.o T0.lt;have s1:=S0.below B1.o S0.lt;have c0:=(t1.cell 0).trans (show L.toArray[0]? =_ by simpa using D0.o);have c1:=(t1.cell 1).trans (show L.toArray[1]? =_ by simpa using D1.o);have c2:=(t1.cell 2).trans (show L.toArray[2]? =_ by simpa using D2.o);have c3:=(t1.cell 3).trans (show L.toArray[3]? =_ by simpa using D3.o);have e0:=(s1.cell 0).trans (show M.toArray[0]? =_ by simpa using E0.o);have e1:=(s1.cell 1).trans (show M.toArray[1]? =_ by simpa using E1.o);have e2:=(s1.cell 2).trans (show M.toArray[2]? =_ by simpa using E2.o);have e3:=(s1.cell 3).trans (show M.toArray[3]? =_ by simpa using E3.o);go_wp2_with fail
 refine zcb (xfc Ah Bh nh ch dh R.hashes w1 (H1a.call B1.o) (H2a.call B1.o) hhn A6.o) fun w2 b2=>?_
 have B2:=zh1 (B1.trans (b2.mono B1.size));clear b2 c0 c1 c2 c3 e0 e1 e2 e3 t1 s1;have t2:=T0.below B2.o T0.lt;have s2:=S0.below B2.o S0.lt;have c0:=(t2.cell 0).trans (show L.toArray[0]? =_ by simpa using D0.o);have c1:=(t2.cell 1).trans (show L.toArray[1]? =_ by simpa using D1.o);have c2:=(t2.cell 2).trans (show L.toArray[2]? =_ by simpa using D2.o);have c3:=(t2.cell 3).trans (show L.toArray[3]? =_ by simpa using D3.o);have e0:=(s2.cell 0).trans (show M.toArray[0]? =_ by simpa using E0.o);have e1:=(s2.cell 1).trans (show M.toArray[1]? =_ by simpa using E1.o);have e2:=(s2.cell 2).trans (show M.toArray[2]? =_ by simpa using E2.o);have e3:=(s2.cell 3).trans (show M.toArray[3]? =_ by simpa using E3.o);obtain⟨A0,A1,A2,A3⟩:=zh4 (qap t2 4 V DH.o) (qap s2 4 V EH.o) (qap t2 72 T DT.o) (qap s2 72 U ET.o);have heq:=A5.o;go_wp2_with (first
  |(refine zld A0.o zu55 IS.o ?_)
  |(refine zld A1.o zu55 IS.o ?_)
  |(refine zld A2.o zu31 IT.o ?_)
  |(refine zld A3.o zu31 IU.o ?_))
 refine zcb (A4.o w2 (C1a.call B2.o) (C2a.call B2.o)) fun w3 b3=>?_
 have B3:=zh1 (B0.trans ((B2.trans (b3.mono B2.size)).mono B0.size));clear b3 c0 c1 c2 c3 e0 e1 e2 e3 t2 s2 A0 A1 A2 A3 heq;go_wp2
 go_ret
 exact⟨rfl,B3.o⟩
end Go.Proofs.YthomgopipiomhaaGreatDoor

/- Lemmas. -/
import Derived.Test.YthomgopipiomhaaGreatDoorBML12
namespace Go.Proofs.YthomgopipiomhaaGreatDoor
open Go.RowKit
set_option linter.unusedVariables false
set_option linter.unusedSimpArgs false
set_option maxRecDepth 100000
set_option maxHeartbeats 32000000
variable {s:Sta}{x:Ten}{k i n j g size base G kk:Nat}{q:Int}{t:Tre}{c:Cfg}{xs cs vs2 vs:List Value}{e:TypeId}{col col':Col}{w w':World}{A:Option Addr}{v v' vd vl vq:Value}{P:Program}{Q:Exit→Act→World→Prop}{K:Act→World→Prop}{a:Act}{o:Oper}{css:List (List Value)}{L:Loc}
theorem qvt(c:Cfg)(s:Sta)(L:Loc)(col:Col)(g:Nat)(css:List (List Value))(R:Req)(Ac:Option Addr)(cc:Nat)(Al:Option Addr)(cl:Nat)(w:World)(hc:c.Ok)(hs:s.Ok)(h:Mdl w col 2 g c s L css)
 (hr:Asked w col R Ac cc Al cl)(hT:Tabs w)(hE:w.cell? ⟨0,0,none⟩=some (.iface 327 (.agg #[.pointer (some ⟨3,81,none⟩)]))):
 Zc 17 #[.pointer (some ⟨g,0,none⟩),.agg (reqv R (.slice Ac R.cavs.length cc) (.slice Al R.leaf.length cl)).toArray] w fun e w'=>∃v col' L' css',e=.returned v∧RspV w' col' w.heap.size v (doS c s R).2∧Mdl w' col' 2 g c (doS c s R).1 L' css'∧Rest w col w' col':=by
 have hk:Kind 2:=.inl rfl;have CM:=fun(w':World)(hb:Zb w w')=>qu9 c s L col 2 g css R Ac cc Al cl w' hk hc hs (h.call hb) (hr.call hb) (hT.below hb hT.size) (qai hE hb)
 have CD:=fun (w':World) (col':Col) (L6:Loc) (hM:Mdl w' col' 6 g c s L6 css) (hA:Asked w' col' R Ac cc Al cl) (hT':Tabs w') (he:(qit R).1=0)=>quk c s L6 col' 6 g css R Ac cc Al cl w' (.inr rfl) hc hs hM hA hT' he
 have CN:=fun (w':World) (col':Col) (s2:Sta) (L6:Loc) (css2:List (List Value)) (hs2:s2.Ok) (hM:Mdl w' col' 6 g c s2 L6 css2) (hA:Asked w' col' R Ac cc Al cl) (hT':Tabs w') (ha:ql4 R.op=true) (hl:∀t,s2.tres[0]? =some t→t.leaves.length<1024)=>quo c s2 L6 col' 6 g css2 R Ac cc Al cl w' (.inr rfl) hc hs2 hM hA hT' ha hl
 obtain⟨Q,hQ,rlen,rest,W0,hW0,q0,z0,b0⟩:=qr4 R Ac cc Al cl w hr.good.tag;rw[hQ];have hG0:=h.fin.none (b:=w.heap.size+1) zo;have D0:=Did.same (css:=css) h b0;obtain⟨H,DC,Q0,Z0,B0,DD,DX,HK⟩:=zh8 h hW0 q0 z0 b0 hG0 D0 hk;obtain⟨HS,HR,RL,BK,HQ⟩:=zh5 hs hr rlen rest hQ;clear h hW0 q0 z0 b0 hG0 D0 hk hs hr rlen rest hQ;rw[HQ.o]at CM CD CN;obtain⟨DE,DF,DG,HC,TT⟩:=zh5 CM CD CN hc hT;have B4:=DD;obtain⟨DH,BL,B5⟩:=zh3 (qap Q0.o 0 Q zjq) (zI 34 RL.o) (show Q.toArray[0]? =some (.int .i64 R.op) by rw[tA3,←HQ.o];rfl);obtain⟨wy,hwy⟩:=xeq (qmj c s R);have AD:=zh1 hwy;clear hc hT hE hwy CM CD CN;go_enter Tryz.func17,Tryz.ntmps17
 go_upto_region 1 with(fail)
 rw[←DC.o];go_wp2_with (refine zld DH.o zu34 BL.o ?_)
 refine(DE.o W0 B0.o).mono ?_;rintro e w1 ⟨y,cost,rfl,hy,b1⟩;rw[AD.o]at hy ⊢;obtain⟨tn,htn⟩:=xeq y.tenant;obtain⟨X,hX⟩:=xeq (grav y);rw[show (#[.int .i64 y.tenant,.int .i64 y.role,.int .u64 (y.expires:Int),.bool y.revoked]:Array Value)=X.toArray by rw[←hX];rfl];have lX:X.length=4:=by rw[←hX];rfl
 have oX:∀u∈X,u.oneCell'=true:=by
  rw[←hX];intro u hu;unfold grav at hu;simp only[List.mem_cons,List.not_mem_nil,or_false]at hu;rcases hu with rfl|rfl|rfl|rfl<;>rfl
 obtain⟨X0,LX,OX,HY,B6,DI,B1,GN⟩:=zh8 (show X.toArray[0]? =some (.int .i64 tn) by rw[←hX,←htn];rfl) lX oX hy htn (zI 66 lX) b1 (Blk.new w1 66 #[.int .i64 0,.int .i64 0,.int .u64 0,.bool false]);clear hX lX oX hy htn b1;go_upto_region 2 with(refine zst GN.o DI.o (by simp[LX.o]) OX.o ?_)
 obtain⟨W1,hW1⟩:=eqx ((w1.alloc (.cells #[.int .i64 0,.int .i64 0,.int .u64 0,.bool false] 66)).setRow w1.heap.size X.toArray);rw[←hW1];obtain⟨G,hG⟩:=eqx w1.heap.size;rw[←hG];have g1:Blk W1 G 66 X.toArray:=by rw[hW1,hG];exact(Blk.new _ _ _).setRow _
 have b01:Zb W0 W1:=by rw[hW1];exact below_setRow (B1.alloc B1.size _) B1.size _
 obtain⟨G1,DY,AE,Z1,Q1,GS⟩:=zh6 g1 b01 (B0.trans (b01.mono B0.size)) (Z0.below b01 Z0.lt) (Q0.below b01 Q0.lt) (show W0.heap.size≤G by rw[hG];exact B1.size);clear hW1 hG g1 b01;by_cases hw0:wy=0
 ·
  subst hw0;obtain⟨hyg,rfl⟩:=HY.o rfl;have CH:=zh1 hyg;have henc:=qtl AD.o;have CI:=zh1 henc;have hyo:=HS.gra hyg;obtain⟨tn,rfl⟩:∃m:Nat,tn=m:=⟨tn.toNat,by have:=hyo.tenant;rw[B6.o]at this;omega⟩;have tn16:tn<16:=by have:=hyo.tenant;rw[B6.o]at this;omega
  obtain⟨cost,hcost⟩:=xeq (qmi R.op R.leaf.length);have costb:=qu4 R.op R.leaf.length;rw[hcost]at costb ⊢;obtain⟨CJ,AK,CK⟩:=zh3 hcost tn16 costb;obtain⟨SV,hSV⟩:=xeq (stav s L);have lSV:SV.length=6:=by rw[←hSV];rfl
  have oSV:∀u∈SV,u.oneCell'=true:=by rw[←hSV];exact qvp s L
  obtain⟨S3,S4,S5,SR,BM,BN,BO,AH⟩:=zh8 (show SV.toArray[3]? =some (.slice (some ⟨L.tg,0,none⟩) 16 L.tc) by rw[←hSV];rfl) (show SV.toArray[4]? =some (.slice (some ⟨L.rg,0,none⟩) 16 L.rc) by rw[←hSV];rfl) (show SV.toArray[5]? =some (.slice (some ⟨L.gg,0,none⟩) s.gras.length L.gc) by rw[←hSV];rfl) (show W1.rangeAt g 4 SV by rw[←hSV];exact(H.call AE.o).stRange) hSV lSV oSV (zI 49 lSV);have SN:=zh1 (Blk.new W1 49 #[.int .u64 0,.int .u32 0,.int .i64 0,.slice none 0 0,.slice none 0 0,.slice none 0 0]);clear hyg henc hyo tn16 hcost costb hSV lSV oSV;go_upto_region 5 with(first
   |(refine zld SR.o zu49 AH.o ?_)
   |(refine zst SN.o AH.o (by simp[BN.o]) BO.o ?_))
  obtain⟨W2,hW2⟩:=eqx ((W1.alloc (.cells #[.int .u64 0,.int .u32 0,.int .i64 0,.slice none 0 0,.slice none 0 0,.slice none 0 0] 49)).setRow W1.heap.size SV.toArray);rw[←hW2];obtain⟨B8,hB8⟩:=eqx W1.heap.size;rw[←hB8];have s2:Blk W2 B8 49 SV.toArray:=by rw[hW2,hB8];exact(Blk.new _ _ _).setRow _
  have b12:Zb W1 W2:=by rw[hW2];exact below_setRow ((tA5 _ _).alloc (tA4 _) _) (tA4 _) _
  obtain⟨A3,DZ,CL,Z2,Q2,G2,BP⟩:=zh7 s2 b12 (AE.trans (b12.mono AE.size)) (Z1.below b12 Z1.lt) (Q1.below b12 Q1.lt) (G1.below b12 G1.lt) (show W1.heap.size≤B8 by omega);clear hW2 hB8 s2 b12;obtain⟨S,HS9⟩:=zS fun w'=>Blk w' B8 49 SV.toArray
  refine zrs S 23 (zq 0 5 ((6,false)::(7,false)::(9,false)::(10,false)::(5,true)::(8,true)::(11,true)::zq 12 3 ((15,true)::zq 16 3 ((19,true)::zq 20 3 [(23,true)])))) ((HS9.o _).mpr (A3.o)) ?_;obtain⟨F3,F4,F5⟩:=zh3 (fun(w':World)(h:S w')=>(((HS9.o w').mp h).cell 3).trans S3.o) (fun(w':World)(h:S w')=>(((HS9.o w').mp h).cell 4).trans S4.o) (fun(w':World)(h:S w')=>(((HS9.o w').mp h).cell 5).trans S5.o);iterate 9 (refine zre rfl rfl (fun w1 hS=>by have g3:=F3.o w1 hS;have g4:=F4.o w1 hS;have g5:=F5.o w1 hS;clear hS;go_simp;try rfl) ?_)
  obtain⟨Wd,hWd,BD⟩:=zdr W2;rw[←hWd];clear hWd;have CO:=zh1 (CL.trans (BD.mono CL.size));have HD:=zh1 (H.call CO.o);have gl:=HS.grasn;refine zw ?_;go_simp;refine(qrf (some ⟨L.tg,0,none⟩) 16 L.tc (s.tens.flatMap tenv) Wd HD.st.tens.reads zdc (qvm _)).mono ?_;rintro e wa ⟨va,rfl,oa,ba⟩;obtain⟨BA,OA⟩:=zh2 ba oa;clear oa ba;refine⟨(HS9.o _).mpr (A3.below (BD.trans (BA.mono BD.size)) A3.lt),zput ?_⟩;refine zw ?_;go_simp;refine(qrg (some ⟨L.rg,0,none⟩) 16 L.rc css.flatten wa ((HD.call BA.o).st.tres.reads) zdc (qvl H.st.trs)).mono ?_;rintro e wb ⟨vb,rfl,ob,bb⟩;obtain⟨BB,OB,AN⟩:=zh3 bb ob (BA.trans (bb.mono BA.size));clear ob bb;refine⟨(HS9.o _).mpr (A3.below (BD.trans (AN.mono BD.size)) A3.lt),zput ?_⟩;refine zw ?_;go_simp;refine(qrh (some ⟨L.gg,0,none⟩) s.gras.length L.gc (s.gras.flatMap grav) wb ((HD.call AN.o).st.gras.reads) zo (qvn _)).mono ?_;rintro e wc ⟨vc,rfl,oc,bc⟩;obtain⟨BC,OC,B7⟩:=zh3 bc oc (AN.trans (bc.mono AN.size));clear oc bc;refine⟨(HS9.o _).mpr (A3.below (BD.trans (B7.mono BD.size)) A3.lt),zput ?_⟩;obtain⟨L6,col4,e1,e2,e3,M4,CP,T4⟩:=HD.fork HS.o B7.o (qr3 (qr3 OA.o BB.o) BC.o) (qdb (qr3 OB.o BC.o) BA.size) (qdb OC.o AN.size);subst e1 e2 e3;have AL:=HD.call B7.o;have c7:=AL.c7;have c8:=AL.c8;have c9:=AL.c9;have f7:=AL.blk.frozen 7;obtain⟨CR,CS,BQ,CT,AA,A8⟩:=zh6 (A3.below (BD.trans (B7.mono BD.size)) A3.lt) AL.blk (show B8≠g by have h1:=H.blk.lt;have h2:=BP.o;have h3:=AE.size;omega) M4 CP T4;clear M4 CP T4 AL;iterate 3 (refine zre rfl rfl (fun w1 hS=>by clear hS;go_simp;try rfl) ?_)
  refine zw ?_;go_simp;refine⟨(HS9.o _).mpr (CR.far (p:=⟨g,7,none⟩) BQ.o _),zput ?_⟩;iterate 3 (refine zre rfl rfl (fun w1 hS=>by clear hS;go_simp;try rfl) ?_)
  refine zw ?_;have f8:=CS.frozen 8;have f9:=CS.frozen 9;go_simp;refine⟨(HS9.o _).mpr ((CR.far (p:=⟨g,7,none⟩) BQ.o _).far (p:=⟨g,8,none⟩) BQ.o _),zput ?_⟩;iterate 3 (refine zre rfl rfl (fun w1 hS=>by clear hS;go_simp;try rfl) ?_)
  refine zw ?_;go_simp;refine zP ?_;refine qbf ?_;clear HS9 F3 F4 F5 c7 c8 c9 f7 f8 f9 gl;obtain⟨W4,hW4⟩:=eqx (((wc.setCell ⟨g,7,none⟩ (.slice (some ⟨L6.tg,0,none⟩) 16 L6.tc)).setCell ⟨g,8,none⟩ (.slice (some ⟨L6.rg,0,none⟩) 16 L6.rc)).setCell ⟨g,9,none⟩ (.slice (some ⟨L6.gg,0,none⟩) s.gras.length L6.gc));rw[←hW4]at CT AA A8 ⊢;clear hW4;have hcz:∀b,w.heap.size≤b→col b=0:=fun b hb=>by
   by_cases e:col b=0
   · exact e
   have:=H.fin b e;omega
  have q4:=Q2.below BD.o Q2.lt;have g4:=G2.below BD.o G2.lt;have s4:=A3.below BD.o A3.lt;have z4:=Z2.below BD.o Z2.lt;have cQ:col4 w.heap.size=0:=(A8.same _ q4.lt).trans (hcz _ (tA4 _));have cG:col4 G=0:=(A8.same _ g4.lt).trans (hcz _ (by have:=GS.o;have:=B0.size;omega));have cB:col4 B8=0:=(A8.same _ s4.lt).trans (hcz _ (by have:=BP.o;have:=AE.size;omega));have cZ:col4 (w.heap.size+1)=0:=(A8.same _ z4.lt).trans (hcz _ zo);obtain⟨Q4,G4,BR,Z4,R4,CQ,CG,CB⟩:=zh8 (show Blk W4 w.heap.size 34 Q.toArray from(A8.block _ q4.lt (by rw[hcz _ (tA4 _)];rfl)).trans q4) (show Blk W4 G 66 X.toArray from(A8.block _ g4.lt (by rw[hcz _ (by have:=GS.o;have:=B0.size;omega)];rfl)).trans g4) (show Blk W4 B8 49 SV.toArray from(A8.block _ s4.lt (by rw[hcz _ (by have:=BP.o;have:=AE.size;omega)];rfl)).trans s4) (show Blk W4 (w.heap.size+1) 57 Tryz.zeroCells57 from(A8.block _ z4.lt (by rw[hcz _ zo];rfl)).trans z4) ((Rest.of_below (col:=col) CO.o).step A8.o rfl) cQ cG cB;have CZ:=zh1 cZ;clear q4 g4 s4 z4 cQ cG cB cZ hcz;have BS:=zh1 (qap Q4.o 0 Q zjq);go_wp2_with (refine zld BS.o zu34 BL.o ?_)
  refine(DF.o W4 col4 L6 CT.o (HR.rest R4.o) (TT.rest R4.o H.base) CI.o).mono ?_;rintro e w5 ⟨v5,col5,rfl,r5,d5⟩;have hsh:=que (c:=c) (R:=R) HS.o;have sok1:=qti (c:=c) HS.o HR.good (qt5 CI.o);have hnn:=qve c s R;have ws:W4.heap.size≤w5.heap.size:=d5.turns.size;obtain⟨s1,hs1⟩:=xeq ((qmv c s R).1);obtain⟨a,haa⟩:=xeq ((qmv c s R).2);rw[hs1]at d5 sok1;rw[haa]at r5 hsh hnn;obtain⟨X5,rfl,lX5,oX5⟩:=r5.cells hsh;obtain⟨aw,haw⟩:∃n:Nat,a.why=n:=⟨a.why.toNat,by omega⟩;have x50:=r5.cell0;rw[haw]at x50;obtain⟨BU,AO,CU,A2,CV,A9,BV,AP⟩:=zh8 hs1 haa hsh sok1 haw lX5 oX5 x50;obtain⟨DJ,BE,N5,D5,R5,Q5,G5,BW⟩:=zh8 (zI 57 lX5) qqb (Blk.new w5 57 Tryz.zeroCells57) d5 r5 (show Blk w5 w.heap.size 34 Q.toArray from(d5.turns.block _ Q4.lt (by rw[CQ.o];rfl)).trans Q4.o) (show Blk w5 G 66 X.toArray from(d5.turns.block _ G4.lt (by rw[CG.o];rfl)).trans G4.o) (show Blk w5 B8 49 SV.toArray from(d5.turns.block _ BR.lt (by rw[CB.o];rfl)).trans BR.o);obtain⟨Z5,E0,E1,AF,BX,BY⟩:=zh6 (show Blk w5 (w.heap.size+1) 57 Tryz.zeroCells57 from(d5.turns.block _ Z4.lt (by rw[CZ.o];rfl)).trans Z4.o) ((d5.turns.same _ G4.lt).trans CG.o) ((d5.turns.same _ BR.lt).trans CB.o) ((d5.turns.same _ Z4.lt).trans CZ.o) ((d5.turns.same _ Q4.lt).trans CQ.o) (R4.step d5.turns rfl);have hw5:w.heap.size+1<w5.heap.size:=Z5.lt;clear hsh sok1 hnn hs1 haa haw lX5 oX5 x50 d5 r5;go_upto_region 7 with(refine zst N5.o DJ.o (by simp[A9.o,BE.o]) BV.o ?_)
  obtain⟨W6,hW6⟩:=eqx ((w5.alloc (.cells Tryz.zeroCells57 57)).setRow w5.heap.size X5.toArray);rw[←hW6];obtain⟨B9,hB9⟩:=eqx w5.heap.size;rw[←hB9];have n6:Blk W6 B9 57 X5.toArray:=by rw[hW6,hB9];exact(Blk.new _ _ _).setRow _
  have b56:Zb w5 W6:=by rw[hW6];exact below_setRow ((tA5 _ _).alloc (tA4 _) _) (tA4 _) _
  obtain⟨E2,N6,CW⟩:=zh3 b56 n6 (show w5.heap.size≤B9 by omega);have AB:=zh1 (show col5 B9=0 by
   by_cases e:col5 B9=0
   · exact e
   obtain⟨Lx,cx,mx⟩:=D5.mdl;have:=mx.fin B9 e;omega)
  obtain⟨Q6,G6,BF,Z6,D6,CX,BZ,C0⟩:=zh8 (Q5.below b56 Q5.lt) (G5.below b56 G5.lt) (BW.below b56 BW.lt) (Z5.below b56 Z5.lt) (D5.call b56) (R5.call b56) (BY.trans (Rest.of_below b56)) (show StAt 92 74 66 W6 col5 2 L css s from StAt.call ⟨AA.tens.keep (D5.turns.keeps rfl),AA.tres.keep (D5.turns.keeps rfl),AA.gras.keep (D5.turns.keeps rfl),D5.old⟩ b56);obtain⟨L1,css1,m6⟩:=D6.mdl;have M6:=zh1 m6;have B4:=AF;obtain⟨CY,DK,DL,DM,E3⟩:=zh5 (show B9≠w.heap.size+1 by omega) (show B9≠B8 by have:=BW.lt;omega) (show B9≠G by have:=G5.lt;omega) (show B9≠w.heap.size by omega) (show B9≠g by intro e;have h1:=AB.o;rw[e,m6.own]at h1;cases h1);clear hW6 hB9 n6 b56 m6;have n0:=(N6.cell 0).trans AP.o;by_cases ha0:aw=0
  ·
   subst ha0;have hw:=CV.o;have hwhy:(qmv c s R).2.why=0:=by rw[AO.o];exact hw
   have A4:=zh1 hwhy;have kop:=(Q6.cell 0).trans B5.o;clear hw hwhy;go_upto_region 7 with(fail)
   go_wp2_with fail
   refine zca (ql5 R.op W6) ?_;cases hadm:ql4 R.op with
   |false=>
    have A0:=zh1 hadm;clear hadm kop;have N7:=N6;have G7:=G6;have Q7:=Q6;have Z7:=Z6;have M7:=M6;have AM:=BZ;have C1:=CX;have sokx:=A2.o;obtain⟨x1,hx1⟩:∃x,s1.tens[tn]? =some x:=⟨_,tA7 (by rw[sokx.tensn];exact AK.o)⟩;obtain⟨tk,htk⟩:=xeq x1.tok;have tkb:tk<4294967296:=by have h1:=(sokx.ten hx1).tok;have h2:=(sokx.ten hx1).burst;omega
    have cob:=CK.o;obtain⟨AQ,AR⟩:=zh2 hx1 htk;have q16:(tn:Int)<16:=by have:=AK.o;omega
    have q16n:=AK.o;have q0:(0:Int)≤tn:=zo;clear sokx hx1 htk;go_upto_region 12 with(fail)
    obtain⟨S,HS9⟩:=zS fun w'=>Zb (W6) w'
    refine zrs S 10 (zq 0 10 []) ((HS9.o _).mpr ((tA5 _ _).drew)) ?_;obtain⟨F7,F0⟩:=zh2 (fun(w':World)(h:S w')=>(M7.call ((HS9.o w').mp h)).c7) (fun(w':World)(h:S w')=>((G7.below ((HS9.o w').mp h) G7.lt).cell 0).trans X0.o);iterate 10 (refine zre rfl rfl (fun w1 hS=>by have g7:=F7.o w1 hS;have g0:=F0.o w1 hS;clear hS;go_simp;try rfl) ?_)
    refine qbf ?_;clear HS9 F7 F0;obtain⟨W8,hW8⟩:=eqx ((W6).drew);have AC:=zh1 (show Zb (W6) W8 by rw[hW8];exact(tA5 _ _).drew);rw[←hW8];clear hW8;have C3:=zh1 (fun (w':World) (hb:Zb (W6) w')=>(show w'.cell? ⟨L1.tg,tn*6+3,none⟩=some (.int .u32 (tk:Int)) from(M7.call hb).st.tens.cell ((qnk AQ.o zo).trans (by rw[←AR.o];rfl))));go_upto_region 13 with(fail)
    obtain⟨S,HS9⟩:=zS fun w'=>Zb W8 w'
    refine zrs S 13 (zq 0 13 [(13,true)]) ((HS9.o _).mpr ((tA5 _ _).drew)) ?_;have F3:=zh1 (fun(w':World)(h:S w')=>C3.o w' (AC.trans (((HS9.o w').mp h).mono AC.size)));have wv:(tk:Int) - min (cost:Int) (tk:Int)=((tk - cost:Nat):Int):=zo;obtain⟨v,hv⟩:=xeq (tk - cost);rw[hv]at wv;have wv2:IntKind.u32.wrap ((tk:Int) - min (cost:Int) (tk:Int))=(v:Int):=by rw[tBf _ zo];exact wv
    have wv3:IntKind.u32.wrap (v:Int)=(v:Int):=tBf _ zo;have HV:=zh1 hv;clear hv;iterate 13 (refine zre rfl rfl (fun w1 hS=>by have g3:=F3.o w1 hS;clear hS;go_simp;try rfl) ?_)
    obtain⟨Wt,hWt⟩:=eqx W8.drew;have B7t:=zh1 (show Zb (W6) Wt by rw[hWt];exact AC.trans (((tA5 _ _).drew).mono AC.size));rw[←hWt];clear hWt;have c3:=C3.o Wt B7t.o;have Mt:=M7.call B7t.o;have f3:=Mt.st.tens.frozen (tn*6+3);have m9:=Mt.tenOver (.inr rfl) A2.o AQ.o (j:=3) (cs:=[.int .u32 (v:Int)]) (fun x=>{x with tok:=x.tok - cost}) zm (by rw[←HV.o,←AR.o];simp[over,tenv]);rw[show Wt.setCells L1.tg (tn*6+3) [.int .u32 (v:Int)]=Wt.setCell ⟨L1.tg,tn*6+3,none⟩ (.int .u32 (v:Int)) from rfl]at m9;have t9:Turns (· ==6) Wt col5 (Wt.setCell ⟨L1.tg,tn*6+3,none⟩ (.int .u32 (v:Int))) col5:=Turns.setCell _ (by simp[Mt.st.tens.1]);obtain⟨M9,T9⟩:=zh2 m9 t9;clear m9 t9 Mt;refine zw ?_;go_simp;refine zP ?_;refine qbf ?_;rw[show tn*6+1+2=tn*6+3 from rfl];try rw[wv3]
    clear HS9 F3 c3 f3 wv wv2 wv3;obtain⟨W9,hW9⟩:=eqx (Wt.setCell ⟨L1.tg,tn*6+3,none⟩ (.int .u32 (v:Int)));rw[←hW9]at M9 T9 ⊢;clear hW9;have n9:=N7.below B7t.o N7.lt;have q9:=Q7.below B7t.o Q7.lt;have z9:=Z7.below B7t.o Z7.lt;obtain⟨N9,Q9,Z9,AS,C2,AI⟩:=zh6 (show Blk W9 B9 57 X5.toArray from(T9.block _ n9.lt (by rw[AB.o];rfl)).trans n9) (show Blk W9 w.heap.size 34 Q.toArray from(T9.block _ q9.lt (by rw[BX.o];rfl)).trans q9) (show Blk W9 (w.heap.size+1) 57 Tryz.zeroCells57 from(T9.block _ z9.lt (by rw[AF.o];rfl)).trans z9) ((AM.trans (Rest.of_below B7t.o)).step T9.o rfl) ((C1.call B7t.o).turns T9.o rfl) (A2.setX (n:=tn) (f:=fun x=>{x with tok:=x.tok - cost}) (fun x _ o=>{o with tok:=by have:=o.tok;show x.tok - cost≤x.burst;omega}));clear n9 q9 z9;have hs2:quu c s R=s1.setX tn fun x=>{x with tok:=x.tok - cost}:=by
     unfold quu;rw[CH.o,Option.getD_some,B6.o,tBe,CJ.o,BU.o]
    have A1:=zh1 (show doS c s R=(s1.setX tn fun x=>{x with tok:=x.tok - cost},a) by rw[quw AD.o A4.o A0.o,hs2,AO.o]);clear hs2;have kop:=(Q9.cell 0).trans B5.o;go_wp2_with fail
    refine zca (ql5 R.op W9) ?_;rw[A0.o];have BG:=AF;obtain⟨AT,A5⟩:=zh2 (qap (N9.o) 0 X5 zjq) (show (Tryz.prog.info? 57).map (·.size)=some (X5).length by rw[(A9).o];kernel_rfl);go_wp2_with (first
     |(refine zld AT.o zu57 A5.o ?_)
     |(refine wpList_store_row rfl 57 (.tmp 4) (.tmp 114) rfl (w.heap.size+1) (X5).toArray rfl rfl 57 _ (Z9.o) (by simpa using A5.o) (by simp[(A9).o,BE.o]) (by simpa using (BV).o) ?_))
    have A6:=qap ((Z9.o).setRow (X5).toArray) 0 X5 zjq;refine zrt A6 zu57 A5.o ⟨_,Col.back col5,?_,?_,rfl,?_,?_,((AS.o).newer (qam _ (w.heap.size+1) (X5).toArray) zo).back⟩;rotate_left 2
    · rw[A1.o]
      exact(((C2.o).grown (Z9.o) (qam _ (w.heap.size+1) (X5).toArray)).base (by have:=R4.size;omega)).back
    rw[A1.o];exact((M9.o).grown0 (.inr rfl) (qam _ (w.heap.size+1) (X5).toArray) (BG.o)).back
   |true=>
    obtain⟨A0,AU⟩:=zh2 hadm (qap BF.o 0 SV zjq);have cf:=qun c s s1 L L1 col5 g css css1 W6 HC.o HS.o M6.o C0.o;rw[BM.o]at cf;obtain⟨fw,hfw⟩:=xeq (qum c s);rw[hfw]at cf;obtain⟨CF,C4⟩:=zh2 cf hfw;clear hadm kop cf hfw n0;go_wp2_with (refine zld AU.o zu49 AH.o ?_)
    refine zcb CF.o fun w7 b7=>?_
    have n6:=N6.below b7 N6.lt;have n0:=(n6.cell 0).trans AP.o;have f0:=n6.frozen 0;have gr:=qab (tB9 w7 (some B9)) (p:=⟨B9,0,none⟩) (.inl rfl) (.int .i64 (fw:Int));have n7:=n6.set_ 0 (.int .i64 (fw:Int));have z7:=(Z6.below b7 Z6.lt).grown gr (by intro e;injection e with e;exact CY.o e.symm);have q7:=(Q6.below b7 Q6.lt).grown gr (by intro e;injection e with e;exact DM.o e.symm);have g7:=(G6.below b7 G6.lt).grown gr (by intro e;injection e with e;exact DL.o e.symm);have sb7:=(BF.below b7 BF.lt).grown gr (by intro e;injection e with e;exact DK.o e.symm);have m7:=(M6.call b7).grown0 (.inr rfl) gr AB.o;have st7:=(C0.call b7).grown0 (.inl rfl) gr AB.o;have r7:=(BZ.trans (Rest.of_below b7)).newer gr (by have:=BY.size;have:=CW.o;omega);have rv7:=(CX.call b7).grown n6 gr;go_upto_region 9 with(fail)
    obtain⟨W7,hW7⟩:=eqx (w7.setCell ⟨B9,0,none⟩ (.int .i64 (fw:Int)));rw[←hW7]at n7 z7 q7 g7 sb7 m7 st7 r7 rv7 ⊢;obtain⟨N7a,Z7,Q7,G7,DN,M7,DO,AM⟩:=zh8 n7 z7 q7 g7 sb7 m7 st7 r7;have C1:=zh1 rv7;clear hW7 n6 n0 f0 gr n7 z7 q7 g7 sb7 m7 st7 r7 rv7 b7;by_cases hf0:fw=0
    ·
     subst hf0;have N7:=zh1 (show Blk W7 B9 57 X5.toArray by have h:=N7a.o;rwa[qvr AP.o]at h);have n0:=(N7.cell 0).trans AP.o;have sokx:=A2.o;obtain⟨x1,hx1⟩:∃x,s1.tens[tn]? =some x:=⟨_,tA7 (by rw[sokx.tensn];exact AK.o)⟩;obtain⟨tk,htk⟩:=xeq x1.tok;have tkb:tk<4294967296:=by have h1:=(sokx.ten hx1).tok;have h2:=(sokx.ten hx1).burst;omega
     have cob:=CK.o;obtain⟨AQ,AR⟩:=zh2 hx1 htk;have q16:(tn:Int)<16:=by have:=AK.o;omega
     have q16n:=AK.o;have q0:(0:Int)≤tn:=zo;clear sokx hx1 htk;go_upto_region 12 with(fail)
     obtain⟨S,HS9⟩:=zS fun w'=>Zb (W7) w'
     refine zrs S 10 (zq 0 10 []) ((HS9.o _).mpr ((tA5 _ _).drew)) ?_;obtain⟨F7,F0⟩:=zh2 (fun(w':World)(h:S w')=>(M7.call ((HS9.o w').mp h)).c7) (fun(w':World)(h:S w')=>((G7.below ((HS9.o w').mp h) G7.lt).cell 0).trans X0.o);iterate 10 (refine zre rfl rfl (fun w1 hS=>by have g7:=F7.o w1 hS;have g0:=F0.o w1 hS;clear hS;go_simp;try rfl) ?_)
     refine qbf ?_;clear HS9 F7 F0;obtain⟨W8,hW8⟩:=eqx ((W7).drew);have AC:=zh1 (show Zb (W7) W8 by rw[hW8];exact(tA5 _ _).drew);rw[←hW8];clear hW8;have C3:=zh1 (fun (w':World) (hb:Zb (W7) w')=>(show w'.cell? ⟨L1.tg,tn*6+3,none⟩=some (.int .u32 (tk:Int)) from(M7.call hb).st.tens.cell ((qnk AQ.o zo).trans (by rw[←AR.o];rfl))));go_upto_region 13 with(fail)
     obtain⟨S,HS9⟩:=zS fun w'=>Zb W8 w'
     refine zrs S 13 (zq 0 13 [(13,true)]) ((HS9.o _).mpr ((tA5 _ _).drew)) ?_;have F3:=zh1 (fun(w':World)(h:S w')=>C3.o w' (AC.trans (((HS9.o w').mp h).mono AC.size)));have wv:(tk:Int) - min (cost:Int) (tk:Int)=((tk - cost:Nat):Int):=zo;obtain⟨v,hv⟩:=xeq (tk - cost);rw[hv]at wv;have wv2:IntKind.u32.wrap ((tk:Int) - min (cost:Int) (tk:Int))=(v:Int):=by rw[tBf _ zo];exact wv
     have wv3:IntKind.u32.wrap (v:Int)=(v:Int):=tBf _ zo;have HV:=zh1 hv;clear hv;iterate 13 (refine zre rfl rfl (fun w1 hS=>by have g3:=F3.o w1 hS;clear hS;go_simp;try rfl) ?_)
     obtain⟨Wt,hWt⟩:=eqx W8.drew;have B7t:=zh1 (show Zb (W7) Wt by rw[hWt];exact AC.trans (((tA5 _ _).drew).mono AC.size));rw[←hWt];clear hWt;have c3:=C3.o Wt B7t.o;have Mt:=M7.call B7t.o;have f3:=Mt.st.tens.frozen (tn*6+3);have m9:=Mt.tenOver (.inr rfl) A2.o AQ.o (j:=3) (cs:=[.int .u32 (v:Int)]) (fun x=>{x with tok:=x.tok - cost}) zm (by rw[←HV.o,←AR.o];simp[over,tenv]);rw[show Wt.setCells L1.tg (tn*6+3) [.int .u32 (v:Int)]=Wt.setCell ⟨L1.tg,tn*6+3,none⟩ (.int .u32 (v:Int)) from rfl]at m9;have t9:Turns (· ==6) Wt col5 (Wt.setCell ⟨L1.tg,tn*6+3,none⟩ (.int .u32 (v:Int))) col5:=Turns.setCell _ (by simp[Mt.st.tens.1]);obtain⟨M9,T9⟩:=zh2 m9 t9;clear m9 t9 Mt;refine zw ?_;go_simp;refine zP ?_;refine qbf ?_;rw[show tn*6+1+2=tn*6+3 from rfl];try rw[wv3]
     clear HS9 F3 c3 f3 wv wv2 wv3;obtain⟨W9,hW9⟩:=eqx (Wt.setCell ⟨L1.tg,tn*6+3,none⟩ (.int .u32 (v:Int)));rw[←hW9]at M9 T9 ⊢;clear hW9;have n9:=N7.below B7t.o N7.lt;have q9:=Q7.below B7t.o Q7.lt;have z9:=Z7.below B7t.o Z7.lt;obtain⟨N9,Q9,Z9,AS,C2,AI⟩:=zh6 (show Blk W9 B9 57 X5.toArray from(T9.block _ n9.lt (by rw[AB.o];rfl)).trans n9) (show Blk W9 w.heap.size 34 Q.toArray from(T9.block _ q9.lt (by rw[BX.o];rfl)).trans q9) (show Blk W9 (w.heap.size+1) 57 Tryz.zeroCells57 from(T9.block _ z9.lt (by rw[AF.o];rfl)).trans z9) ((AM.trans (Rest.of_below B7t.o)).step T9.o rfl) ((C1.call B7t.o).turns T9.o rfl) (A2.setX (n:=tn) (f:=fun x=>{x with tok:=x.tok - cost}) (fun x _ o=>{o with tok:=by have:=o.tok;show x.tok - cost≤x.burst;omega}));clear n9 q9 z9;clear n0;have hs3:qut c s R=((s1.setX tn fun x=>{x with tok:=x.tok - cost}).setT 0 fun t=>{t with leaves:=t.leaves++[qmw (s1.setX tn fun x=>{x with tok:=x.tok - cost}) R]}).pub c 0:=by
      unfold qut;rw[CH.o,Option.getD_some,B6.o,tBe,CJ.o,BU.o]
     obtain⟨hl1,hl2⟩:=qvi C4.o;have hle:=qtn (s:=s) (s':=s1.setX tn fun x=>{x with tok:=x.tok - cost}) (by have h:=qtk (c:=c) (s:=s) A0.o;rw[BU.o]at h;exact h) hl1;have CN:=zh1 (DG.o W9 col5 _ L1 _ AI.o M9.o (HR.rest AS.o) (TT.rest AS.o H.base) A0.o hle);have sok3:=(qtm AI.o HR.good A0.o hle (s1.setX tn fun x=>{x with tok:=x.tok - cost})).pub c (n:=0) zdc;obtain⟨s3,h3⟩:=xeq (((s1.setX tn fun x=>{x with tok:=x.tok - cost}).setT 0 fun t=>{t with leaves:=t.leaves++[qmw (s1.setX tn fun x=>{x with tok:=x.tok - cost}) R]}).pub c 0);rw[h3]at hs3 sok3 CN;obtain⟨D1,AJ,C5⟩:=zh3 hs3 sok3 (qap Q9.o 0 Q zjq);have kop:=(Q9.cell 0).trans B5.o;obtain⟨DP,DQ⟩:=zh2 hl1 hl2;clear hs3 sok3 h3 hle hl1 hl2;go_wp2_with fail
     refine zca (ql5 R.op W9) ?_;rw[A0.o];clear kop;go_wp2_with (refine zld C5.o zu34 BL.o ?_)
     refine CN.o.mono ?_;rintro e w11 ⟨col6,rfl,d11⟩;obtain⟨L3,css3,m11⟩:=d11.mdl;obtain⟨C6,C7,AV,BG,C8,AW,AX,BI⟩:=zh8 (show Blk w11 B9 57 X5.toArray from(d11.turns.block _ N9.lt (by rw[AB.o];rfl)).trans N9.o) (show Blk w11 w.heap.size 34 Q.toArray from(d11.turns.block _ Q9.lt (by rw[BX.o];rfl)).trans Q9.o) (show Blk w11 (w.heap.size+1) 57 Tryz.zeroCells57 from(d11.turns.block _ Z9.lt (by rw[AF.o];rfl)).trans Z9.o) ((d11.turns.same _ Z9.lt).trans AF.o) ((d11.turns.same _ N9.lt).trans AB.o) (AS.step d11.turns rfl) (C2.turns d11.turns rfl) m11;clear m11 d11;have kop:=(C7.cell 0).trans B5.o;by_cases h9:R.op=9
     ·
      have q9:(R.op==9)=true:=by simpa using h9
      have A1:=zh1 (show doS c s R=(s3,{a with hd:=(s3.tres[R.tree.toNat]?.getD Tre.zero).hd}) by rw[qvj AD.o A4.o A0.o C4.o h9,D1.o,AO.o]);obtain⟨t0,ht0⟩:=qvs h9 A4.o;obtain⟨hp,ht1,-,-⟩:=Sta.tree_some ht0;obtain⟨n,hn⟩:∃n:Nat,R.tree=n:=⟨R.tree.toNat,by omega⟩;have hn16:n<16:=by
       obtain⟨h1,_⟩:=tA8 ht1;rw[HS.tresn]at h1;omega
      obtain⟨t3,ht3⟩:∃t,s3.tres[n]? =some t:=⟨_,tA7 (by rw[AJ.tresn];exact hn16)⟩;rw[hn,tBe,ht3,Option.getD_some]at A1;have k35:Q.toArray[35]? =some (.int .i64 (n:Int)):=by rw[tA3,←hn];exact BK.o 0
      have DR:=zh1 k35;have h3o:=(AJ.tre ht3).hd;have DS:=zh1 ht3;have q16:(n:Int)<16:=zo;have q0:(0:Int)≤n:=zo;clear ht0 hp ht1 hn ht3 k35 h9;obtain⟨HV,hHV⟩:=xeq (hdv t3.hd);have lHV:HV.length=68:=by rw[←hHV];exact qni h3o
      have oHV:∀u∈HV,u.oneCell'=true:=by rw[←hHV];exact qm7 _
      have DT:=zh1 (fun(w':World)(hb:Zb w11 w')=>(show w'.rangeAt L3.rg (n*75+7) HV from by
       obtain⟨-,Ad,cd,Al',cl',Aq,cq,-,hcell,-,-,-⟩:=(BI.call hb).st.tree AJ.o DS.o;intro j u hu;have h7:=hcell (7+j) u ((quh _ _ _ _ j).trans (by rw[hHV];exact hu));rw[←Nat.add_assoc]at h7;exact h7))
      obtain⟨D2,DU,C9,DV,D3⟩:=zh5 (zI 55 lHV) hHV lHV oHV h3o;clear hHV lHV oHV h3o;go_upto_region 17 with(fail)
      clear kop;obtain⟨S,HS9⟩:=zS fun w'=>Zb w11 w'
      refine zrs S 11 (zq 0 11 [(11,true)]) ((HS9.o _).mpr ((tA5 _ _).drew)) ?_;obtain⟨F8,D4,FH⟩:=zh3 (fun(w':World)(h:S w')=>(BI.call ((HS9.o w').mp h)).c8) (fun(w':World)(h:S w')=>((C7.below ((HS9.o w').mp h) C7.lt).cell 35).trans DR.o) (fun(w':World)(h:S w')=>DT.o w' ((HS9.o w').mp h));iterate 9 (refine zre rfl rfl (fun w1 hS=>by have g8:=F8.o w1 hS;have g35:=D4.o w1 hS;clear hS;go_simp;try rfl) ?_)
      refine qo8 rfl rfl 55 (.tmp 111) rfl L3.rg (n*75+7) rfl HV _ FH.o Tryz.underlying55 rfl D2.o ?_;refine zP ?_;iterate 1 (refine zrb ?_)
      obtain⟨Wh,hWh,BH⟩:=zdr w11;rw[←hWh];clear hWh;have nh:=C6.below BH.o C6.lt;refine zw ?_;refine wp_store_mid 55 (.tmp 113) (.tmp 112) rfl B9 4 HV.toArray rfl rfl (fun j hj=>⟨by rw[nh.cell,tA3,tA7 (by have h0:HV.toArray.size=68:=List.size_toArray.trans C9.o;rw[A9.o];omega)];simp,nh.frozen _⟩) (by have h0:HV.toArray.size=HV.length:=tB6;rw[h0];exact D2.o) (by simpa using DV.o) ?_;have gr:=qn5 B9 HV 4 Wh;have n12:=qn4 HV 4 Wh X5 nh (by rw[A9.o,C9.o];decide);have z12:=(AV.below BH.o AV.lt).grown gr (by intro e;injection e with e;exact CY.o e.symm);have m12:=(BI.call BH.o).grown0 (.inr rfl) gr C8.o;have r12:=(AW.trans (Rest.of_below BH.o)).newer gr (by have:=BY.size;have:=CW.o;omega);have rv12:=((AX.call BH.o).grown nh gr).head CU.o.1 D3.o;rw[DU.o]at rv12;obtain⟨X6,hX6⟩:=xeq (over X5 4 HV);have lX6:X6.length=106:=by rw[←hX6,qn3 (by rw[A9.o,C9.o];decide)];exact A9.o
      rw[hX6]at n12 rv12;obtain⟨X7,e7,lX7,oX7⟩:=rv12.cells ⟨D3.o,CU.o.2⟩;have e67:X6=X7:=by injection e7 with e7;simpa using e7
      rw[←e67]at oX7;clear e7 e67 lX7;obtain⟨D7,DW,D8,BJ,D9,DA,AY⟩:=zh7 lX6 oX7 n12 z12 m12 r12 rv12;clear nh gr n12 z12 m12 r12 rv12 lX6 oX7 hX6;refine⟨fun h=>absurd h zdc,zput ?_⟩;refine qbf ?_;clear HS9 F8 D4 FH;obtain⟨E4,hW12⟩:=eqx (Wh.setCells B9 4 HV);try rw[show HV.toArray.toList=HV from rfl]
      rw[←hW12]at D8 BJ D9 DA AY ⊢;clear hW12;obtain⟨AT,A5⟩:=zh2 (qap (D8.o) 0 X6 zjq) (show (Tryz.prog.info? 57).map (·.size)=some (X6).length by rw[(D7).o];kernel_rfl);go_wp2_with (first
       |(refine zld AT.o zu57 A5.o ?_)
       |(refine wpList_store_row rfl 57 (.tmp 4) (.tmp 114) rfl (w.heap.size+1) (X6).toArray rfl rfl 57 _ (BJ.o) (by simpa using A5.o) (by simp[(D7).o,BE.o]) (by simpa using (DW).o) ?_))
      have A6:=qap ((BJ.o).setRow (X6).toArray) 0 X6 zjq;refine zrt A6 zu57 A5.o ⟨_,Col.back col6,?_,?_,rfl,?_,?_,((DA.o).newer (qam _ (w.heap.size+1) (X6).toArray) zo).back⟩;rotate_left 2
      · rw[A1.o]
        exact(((AY.o).grown (BJ.o) (qam _ (w.heap.size+1) (X6).toArray)).base (by have:=R4.size;omega)).back
      rw[A1.o];exact((D9.o).grown0 (.inr rfl) (qam _ (w.heap.size+1) (X6).toArray) (BG.o)).back
     have q9:(R.op==9)=false:=by simpa using h9
     have A1:=zh1 (show doS c s R=(s3,a) by rw[quv AD.o A4.o A0.o DP.o DQ.o h9,D1.o,AO.o]);clear h9;go_upto_region 18 with(fail)
     clear kop;obtain⟨AT,A5⟩:=zh2 (qap (C6.o) 0 X5 zjq) (show (Tryz.prog.info? 57).map (·.size)=some (X5).length by rw[(A9).o];kernel_rfl);go_wp2_with (first
      |(refine zld AT.o zu57 A5.o ?_)
      |(refine wpList_store_row rfl 57 (.tmp 4) (.tmp 114) rfl (w.heap.size+1) (X5).toArray rfl rfl 57 _ (AV.o) (by simpa using A5.o) (by simp[(A9).o,BE.o]) (by simpa using (BV).o) ?_))
     have A6:=qap ((AV.o).setRow (X5).toArray) 0 X5 zjq;refine zrt A6 zu57 A5.o ⟨_,Col.back col6,?_,?_,rfl,?_,?_,((AW.o).newer (qam _ (w.heap.size+1) (X5).toArray) zo).back⟩;rotate_left 2
     · rw[A1.o]
       exact(((AX.o).grown (AV.o) (qam _ (w.heap.size+1) (X5).toArray)).base (by have:=R4.size;omega)).back
     rw[A1.o];exact((BI.o).grown0 (.inr rfl) (qam _ (w.heap.size+1) (X5).toArray) (BG.o)).back
    have qa:((fw:Int)==0)=false:=by simp;omega
    have A1:=zh1 (qvh (s:=s) AD.o A4.o A0.o C4.o hf0);obtain⟨Lu,mu,tu⟩:=M7.unfork DO.o;rw[BM.o]at mu tu;obtain⟨MU,TU,AU⟩:=zh3 mu tu (qap DN.o 0 SV zjq);have CA:=zh1 (show W7.there g 4 SV.toArray.size from by
     have h0:SV.toArray.size=6:=List.size_toArray.trans BN.o;rw[h0];exact M7.there4)
    have CC:=zh1 (show (Tryz.prog.info? 49).map (·.size)=some SV.toArray.size from by
     have h0:SV.toArray.size=SV.length:=tB6;rw[h0];exact AH.o)
    obtain⟨CE,DB⟩:=zh2 (show SV.toArray.all (·.oneCell')=true by simpa using BO.o) (show (X5.toArray.setIfInBounds 0 (.int .i64 (fw:Int)))[0]? =some (.int .i64 (fw:Int)) by rw[Array.getElem?_setIfInBounds_self_of_lt (by rw[tB6,A9.o];decide)]);have n0:=(N7a.cell 0).trans DB.o;clear mu tu hf0;go_upto_region 11 with(first
     |(refine zld AU.o zu49 AH.o ?_)
     |(refine wpList_store_mid rfl 49 (.tmp 68) (.tmp 66) rfl g 4 SV.toArray rfl rfl CA.o CC.o CE.o ?_))
    clear n0;obtain⟨Wu,hWu⟩:=eqx (W7.setCells g 4 SV);try rw[show SV.toArray.toList=SV from rfl]
    rw[←hWu]at MU TU ⊢;clear hWu;have n7:=(TU.block _ N7a.lt (by rw[AB.o];rfl)).trans N7a.o;have z7:Blk Wu (w.heap.size+1) 57 Tryz.zeroCells57:=(TU.block _ Z7.lt (by rw[AF.o];rfl)).trans Z7.o;obtain⟨Z7u,R7u⟩:=zh2 z7 (AM.step TU.o rfl);have n0:=(Blk.cell (w:=Wu) n7 0).trans DB.o;clear n7 z7;obtain⟨X9,hX9⟩:=xeq (qq8 (rWhy fw));have lX9:X9.length=106:=by rw[←hX9];exact qq9 _ Hd.zero_Ok (by simp[rWhy,qir,qgq])
    have oX9:∀u∈X9,u.oneCell'=true:=by rw[←hX9];exact qqa _
    obtain⟨BT,AZ,B2,B3,AG,A7⟩:=zh6 (show Tryz.prog.built 57 [(0,.int .i64 ((fw:Nat):Int))]=some X9.toArray by rw[←hX9];exact qq7 _) hX9 lX9 oX9 (zI 57 lX9) qqb;clear hX9 lX9 oX9;go_wp2_with (first
     |(refine qbj rfl ⟨.agg X9.toArray,qgn 57 _ rfl _ _ BT.o (by simp[Act.eval,Act.put]),?_⟩)
     |(refine zst (Z7u.o) AG.o (by simp[B2.o,A7.o]) B3.o ?_))
    have A6:=qap ((Z7u.o).setRow X9.toArray) 0 X9 zjq;refine zrt A6 zu57 AG.o ⟨_,col5,?_,?_,rfl,?_,?_,(R7u.o).newer (qam _ (w.heap.size+1) X9.toArray) zo⟩;rotate_left 2
    · rw[(A1.o),←AZ.o]
      exact RspV.plain _ _ _ _ rfl rfl rfl
    rw[(A1.o)];exact(MU.o).grown0 (.inl rfl) (qam _ (w.heap.size+1) X9.toArray) B4.o
  ·
   have qa:((aw:Int)==0)=false:=by simp;omega
   have A1:=zh1 (quy (s:=s) AD.o (show (qmv c s R).2.why=(aw:Int) by rw[AO.o];exact CV.o) ha0);obtain⟨Lu,mu,tu⟩:=M6.unfork C0.o;rw[BM.o]at mu tu;obtain⟨MU,TU,AU⟩:=zh3 mu tu (qap BF.o 0 SV zjq);have CA:=zh1 (show W6.there g 4 SV.toArray.size from by
    have h0:SV.toArray.size=6:=List.size_toArray.trans BN.o;rw[h0];exact M6.there4)
   have CC:=zh1 (show (Tryz.prog.info? 49).map (·.size)=some SV.toArray.size from by
    have h0:SV.toArray.size=SV.length:=tB6;rw[h0];exact AH.o)
   have CE:=zh1 (show SV.toArray.all (·.oneCell')=true by simpa using BO.o);clear mu tu ha0;go_upto_region 11 with(first
    |(refine zld AU.o zu49 AH.o ?_)
    |(refine wpList_store_mid rfl 49 (.tmp 68) (.tmp 66) rfl g 4 SV.toArray rfl rfl CA.o CC.o CE.o ?_))
   clear n0;obtain⟨W7,hW7⟩:=eqx (W6.setCells g 4 SV);try rw[show SV.toArray.toList=SV from rfl]
   rw[←hW7]at MU TU ⊢;clear hW7;have n7:Blk W7 B9 57 X5.toArray:=(TU.block _ N6.lt (by rw[AB.o];rfl)).trans N6.o;have z7:Blk W7 (w.heap.size+1) 57 Tryz.zeroCells57:=(TU.block _ Z6.lt (by rw[AF.o];rfl)).trans Z6.o;obtain⟨Z7,AM⟩:=zh2 z7 (BZ.step TU.o rfl);have n0:=(n7.cell 0).trans AP.o;clear n7 z7;obtain⟨X9,hX9⟩:=xeq (qq8 (rWhy aw));have lX9:X9.length=106:=by rw[←hX9];exact qq9 _ Hd.zero_Ok (by simp[rWhy,qir,qgq])
   have oX9:∀u∈X9,u.oneCell'=true:=by rw[←hX9];exact qqa _
   obtain⟨BT,AZ,B2,B3,AG,A7⟩:=zh6 (show Tryz.prog.built 57 [(0,.int .i64 ((aw:Nat):Int))]=some X9.toArray by rw[←hX9];exact qq7 _) hX9 lX9 oX9 (zI 57 lX9) qqb;clear hX9 lX9 oX9;go_wp2_with (first
    |(refine qbj rfl ⟨.agg X9.toArray,qgn 57 _ rfl _ _ BT.o (by simp[Act.eval,Act.put]),?_⟩)
    |(refine zst (Z7.o) AG.o (by simp[B2.o,A7.o]) B3.o ?_))
   have A6:=qap ((Z7.o).setRow X9.toArray) 0 X9 zjq;refine zrt A6 zu57 AG.o ⟨_,col5,?_,?_,rfl,?_,?_,(AM.o).newer (qam _ (w.heap.size+1) X9.toArray) zo⟩;rotate_left 2
   · rw[(A1.o),←AZ.o]
     exact RspV.plain _ _ _ _ rfl rfl rfl
   rw[(A1.o)];exact(MU.o).grown0 (.inl rfl) (qam _ (w.heap.size+1) X9.toArray) B4.o
 have A1:=zh1 (qux AD.o hw0);have qn:((wy:Int)==0)=false:=by simp;omega
 obtain⟨M1,R1⟩:=zh2 (H.call AE.o) (Rest.of_below (col:=col) AE.o);clear hw0;obtain⟨X9,hX9⟩:=xeq (qq8 (rWhy wy));have lX9:X9.length=106:=by rw[←hX9];exact qq9 _ Hd.zero_Ok (by simp[rWhy,qir,qgq])
 have oX9:∀u∈X9,u.oneCell'=true:=by rw[←hX9];exact qqa _
 obtain⟨BT,AZ,B2,B3,AG,A7⟩:=zh6 (show Tryz.prog.built 57 [(0,.int .i64 ((wy:Nat):Int))]=some X9.toArray by rw[←hX9];exact qq7 _) hX9 lX9 oX9 (zI 57 lX9) qqb;clear hX9 lX9 oX9;go_wp2_with (first
  |(refine qbj rfl ⟨.agg X9.toArray,qgn 57 _ rfl _ _ BT.o (by simp[Act.eval,Act.put]),?_⟩)
  |(refine zst (Z1.o) AG.o (by simp[B2.o,A7.o]) B3.o ?_))
 have A6:=qap ((Z1.o).setRow X9.toArray) 0 X9 zjq;refine zrt A6 zu57 AG.o ⟨_,col,?_,?_,rfl,?_,?_,(R1.o).newer (qam _ (w.heap.size+1) X9.toArray) zo⟩;rotate_left 2
 · rw[(A1.o),←AZ.o]
   exact RspV.plain _ _ _ _ rfl rfl rfl
 rw[(A1.o)];exact(M1.o).grown0 (.inl rfl) (qam _ (w.heap.size+1) X9.toArray) B4.o
def qvu (s:Sta)(k:Nat):Sta:={s with clock:=if s.clock<18446744073709551615 then s.clock+1 else s.clock,tens:=s.tens.mapIdx fun i x=>if i<k∧x.on=true then {x with tok:=if x.burst<x.tok+x.rate then x.burst else x.tok+x.rate} else x}
theorem qvv(s:Sta):qvu s 0={s with clock:=if s.clock<18446744073709551615 then s.clock+1 else s.clock}:=by
 unfold qvu;congr 1
 apply List.ext_getElem?;intro i;rw[List.getElem?_mapIdx];cases s.tens[i]? <;>simp
theorem qvw(h:s.tens.length=16):qvu s 16=qmx s:=by
 unfold qvu qmx;congr 1
 apply List.ext_getElem?;intro i;rw[List.getElem?_mapIdx,tBj];cases hi:s.tens[i]? with
 |none=>rfl
 |some x=>
  obtain⟨h1,_⟩:=tA8 hi;simp[show i<16 by omega]
theorem qvx(h:s.tens[i]? =some x):(qvu s k).tens[i]? =some (if i<k∧x.on=true then {x with tok:=if x.burst<x.tok+x.rate then x.burst else x.tok+x.rate} else x):=by
 show (s.tens.mapIdx _)[i]? =_;rw[List.getElem?_mapIdx,h];rfl
theorem qvy(h:s.tens[k]? =some x)(ho:x.on=false):qvu s (k+1)=qvu s k:=by
 unfold qvu;congr 1
 apply List.ext_getElem?;intro i;rw[List.getElem?_mapIdx,List.getElem?_mapIdx];by_cases e:i=k
 · subst e
   rw[h];simp[ho]
 cases s.tens[i]? with
 |none=>rfl
 |some y=>
  have e2:i<k+1 ↔ i<k:=zo;simp only[Option.map_some,e2]
theorem qvz(h:s.tens[k]? =some x)(ho:x.on=true):qvu s (k+1)=(qvu s k).setX k fun y=>{y with tok:=if y.burst<y.tok+y.rate then y.burst else y.tok+y.rate}:=by
 unfold qvu Sta.setX;congr 1
 apply List.ext_getElem?;intro i;by_cases e:i=k
 ·
  subst e;rw[qo5 (x:=x)]
  · rw[List.getElem?_mapIdx,h]
    simp[ho]
  dsimp only;rw[List.getElem?_mapIdx,h];simp
 rw[qo6 _ _ (Ne.symm e)];dsimp only;rw[List.getElem?_mapIdx,List.getElem?_mapIdx];cases s.tens[i]? with
 |none=>rfl
 |some y=>
  have e2:i<k+1 ↔ i<k:=zo;simp only[Option.map_some,e2]
theorem qw0(hs:s.Ok)(k:Nat):(qvu s k).Ok:=by
 have hc:(if s.clock<18446744073709551615 then s.clock+1 else s.clock)<18446744073709551616:=by have:=hs.clock;split<;>omega
 refine {hs with clock:=hc,tensn:=by simpa [qvu] using hs.tensn,tens:=fun x hx=>?_};obtain⟨i,hi,rfl⟩:=List.mem_mapIdx.1 hx;have o:=hs.tens _ (List.getElem_mem hi);split
 · exact {o with tok:=by have:=o.tok;dsimp only;split<;>omega}
 exact o
theorem qw1(c:Cfg)(s:Sta)(L:Loc)(col:Col)(g:Nat)(css:List (List Value))(w:World)(hs:s.Ok)(h:Mdl w col 2 g c s L css):
 Zc 34 #[.pointer (some ⟨g,0,none⟩)] w fun e w'=>e=.returned (.tuple #[])∧Mdl w' col 2 g c (qmx s) L css∧Rest w col w' col:=by
 have clb:=hs.clock;obtain⟨clk,hclk⟩:=xeq s.clock;have c4:=h.c4;have f4:=h.blk.frozen 4;rw[hclk]at c4 clb;obtain⟨cl2,hcl2⟩:∃n:Nat,(if clk<18446744073709551615 then clk+1 else clk)=n:=⟨_,rfl⟩;have hsum:sumI (clk:Int) 1=(cl2:Int):=by
  unfold sumI;rw[←hcl2];split<;>split<;>omega
 have m1:=h.own1 (.inl rfl) 4 (.int .u64 (cl2:Int)) (s':=qvu s 0) (by rw[qvv];simp only[hclk,hcl2];rfl) (by rw[qvv]) (by rw[qvv]) (by rw[qvv]);have t1:Turns (· ==1) w col (w.setCell ⟨g,4,none⟩ (.int .u64 (cl2:Int))) col:=Turns.setCell _ (by simp[h.own]);have r1:=Rest.of_turns t1 rfl;obtain⟨HS,A0,A4,A1⟩:=zh4 hs m1 r1 hsum;clear hs h hclk hcl2 hsum m1 t1 r1;go_enter Tryz.func34,Tryz.ntmps34
 go_wp2_with fail
 refine zca (qpy (clk:Int) 1 w zo zo zo zo) ?_;rw[A1.o];go_upto_region 1 with(fail)
 obtain⟨W1,hW1⟩:=eqx (w.setCell ⟨g,4,none⟩ (.int .u64 (cl2:Int)));rw[←hW1]at A0 A4 ⊢;clear hW1 c4 f4;have c7:=A0.c7;go_wp2_with fail
 clear c7;go_loopw [20] (fun i wr=>∃j:Nat,j≤16∧i=.int .i64 j∧Hid (Mdl wr col 2 g c (qvu s j) L css∧Rest w col wr col)) (fun i _=>16 - (intOf i).toNat)
 case atStart=>exact⟨0,by omega,rfl,zh1 ⟨A0.o,A4.o⟩⟩
 case round=>
  obtain⟨j,hj,rfl,hl⟩:=hrel;by_cases hjn:j<16
  ·
   have qj:(j:Int)<16:=zo;have qj0:(0:Int)≤j:=zo;obtain⟨x,hx⟩:∃x,s.tens[j]? =some x:=⟨_,tA7 (by rw[HS.tensn];exact hjn)⟩;have hxo:=HS.ten hx;have hxj:(qvu s j).tens[j]? =some x:=by rw[qvx hx];simp
   have c7:=hl.o.1.c7;have tc:∀i u,i<6→(tenv x)[i]? =some u→wr.cell? ⟨L.tg,j*6+i,none⟩=some u:=fun i u hi hu=>hl.o.1.st.tens.cell ((qnk hxj hi).trans hu)
   have t0:=tc 0 (.bool x.on) zo rfl;rw[Nat.add_zero]at t0;obtain⟨on,hon⟩:=xeq x.on;rw[hon]at t0;obtain⟨HL,HX,A2,A6,A5,A7⟩:=zh6 hl.o hx hxo hxj hon tc;clear hl hx hxo hxj hon tc;cases on with
   |false=>
    go_wp2
    go_roundw
    case rel=>exact⟨j+1,by omega,by go_num,zh1 (by rw[qvy HX.o A5.o];exact HL.o)⟩
    case measure=>simp[intOf];omega
   |true=>
    obtain⟨ra,hra⟩:=xeq x.rate;obtain⟨bu,hbu⟩:=xeq x.burst;obtain⟨tk,htk⟩:=xeq x.tok;obtain⟨tk2,htk2⟩:∃n:Nat,(if bu<tk+ra then bu else tk+ra)=n:=⟨_,rfl⟩;have b1:=A2.rate;have b2:=A2.burst;have b3:=A2.tok;rw[hra]at b1;rw[hbu]at b2;rw[htk,hbu]at b3;have hti:qpx (ra:Int) bu tk 1=(tk2:Int):=by
     unfold qpx;rw[←htk2];split<;>split<;>omega
    have A8:=zh1 (show wr.rangeAt L.tg (j*6+1) [.int .u32 (ra:Int),.int .u32 (bu:Int),.int .u32 (tk:Int)] from fun i u hu=>by
     obtain⟨hi,_⟩:=tA8 hu;have hi3:i<3:=by simpa using hi
     rw[Nat.add_assoc];refine A7.o (1+i) u zo ?_;rw[←hu,←hra,←hbu,←htk];unfold tenv;match i,hi3 with
     |0,_=>rfl
     |1,_=>rfl
     |2,_=>rfl)
    obtain⟨A9,AA,AB,AC,A3⟩:=zh5 hti hra hbu htk htk2;clear hti hra hbu htk htk2;go_wp2_with (first
     |(refine qaq rfl 90 (.tmp 37) rfl L.tg (j*6+1) rfl [.int .u32 (ra:Int),.int .u32 (bu:Int),.int .u32 (tk:Int)] _ A8.o Tryz.underlying90 rfl zk ?_)
     |((with_reducible refine(qq1 (ra:Int) bu tk 1 wr zo zo zo zo zo zo zo zo).mono ?_);rintro e w5 ⟨rfl,hb5⟩;have hth:=(HL.o.1.call hb5).st.tens.there (o:=j*6+1) (m:=3) (by rw[qnm,show (qvu s j).tens.length=16 from(qw0 HS.o j).tensn];omega);rw[A9.o])
     |(refine wpList_store_mid rfl 90 (.tmp 41) (.tmp 39) rfl L.tg (j*6+1) #[.int .u32 (ra:Int),.int .u32 (bu:Int),.int .u32 (tk2:Int)] rfl rfl hth zk (by simp[Value.oneCell']) ?_))
    obtain⟨M5,R5⟩:=zh2 (HL.o.1.call hb5) (HL.o.2.trans (Rest.of_below hb5));have m6:=M5.tenOver (.inl rfl) (qw0 HS.o j) A6.o (j:=1) (cs:=[.int .u32 (ra:Int),.int .u32 (bu:Int),.int .u32 (tk2:Int)]) (fun y=>{y with tok:=if y.burst<y.tok+y.rate then y.burst else y.tok+y.rate}) zm (by simp[over,tenv,AA.o,AB.o,AC.o,A3.o]);have t6:Turns (· ==2) w5 col (w5.setCells L.tg (j*6+1) [.int .u32 (ra:Int),.int .u32 (bu:Int),.int .u32 (tk2:Int)]) col:=Turns.setCells _ (by simp[M5.st.tens.1]);obtain⟨M6,R6⟩:=zh2 m6 (R5.step t6 rfl);clear m6 t6 hb5 t0 c7;try go_wp2
    go_roundw
    case rel=>
     have MR:=zh1 (And.intro M6.o R6.o);rw[←qvz HX.o A5.o]at MR;exact⟨j+1,by omega,by go_num,MR⟩
    case measure=>simp[intOf];omega
  obtain rfl:j=16:=zo;have HL:=zh1 hl.o;clear hl;go_wp2
  go_end0
  exact⟨rfl,by rw[←qvw HS.tensn];exact HL.o.1,HL.o.2⟩
abbrev LaneI:=Int × Int × Int
def qw2 (x:LaneI):List Value:=[.int .i64 x.1,.int .i64 x.2.1,.int .i64 x.2.2]
def qw3 (l:List LaneI):List Value:=l.flatMap qw2
theorem qw4(l:List LaneI):(qw3 l).length=l.length*3:=by
 unfold qw3;rw[List.flatMap_def,qnd (sz:=3) (fun c hc=>by obtain⟨y,_,rfl⟩:=List.mem_map.1 hc;rfl),tBl]
theorem qw5{l:List LaneI}{x:LaneI}(h:l[n]? =some x)(hj:j<3):(qw3 l)[n*3+j]? =(qw2 x)[j]? :=by
 unfold qw3;rw[List.flatMap_def];exact qnc (fun c hc=>by obtain⟨y,_,rfl⟩:=List.mem_map.1 hc;rfl) (by rw[tBj,h];rfl) hj
theorem qw6(l:List LaneI):∀u∈qw3 l,u.oneCell'=true:=by
 intro u hu;obtain⟨x,_,hx⟩:=List.mem_flatMap.1 hu;unfold qw2 at hx;simp only[List.mem_cons,List.not_mem_nil,or_false]at hx;rcases hx with rfl|rfl|rfl<;>rfl
theorem qw7{ws:List Int}{a:Nat}(hk:k<ws.length)(hb:∀j,j<k→ws.getD ((a+j) % ws.length) 0<1)(h:1≤ws.getD ((a+k) % ws.length) 0):qmz ws a=some ((a+k) % ws.length):=by
 unfold qmz;rw[List.find?_map,(List.find?_range_eq_some (i:=k)).2 ⟨by simpa using h,List.mem_range.2 hk,fun j hj=>by
  have:=hb j hj;simp only[Function.comp];rw[decide_eq_false zo];rfl⟩]
 rfl
theorem qw8{ws:List Int}{a:Nat}(hb:∀j,j<ws.length→ws.getD ((a+j) % ws.length) 0<1):qmz ws a=none:=by
 unfold qmz;rw[List.find?_map,(List.find?_range_eq_none).2 fun j hj=>by
  have:=hb j hj;simp only[Function.comp];rw[decide_eq_false zo];rfl]
 rfl
def qw9 (l:List LaneI)(a:Nat)(q:Int):LaneI × List LaneI:=
 match qmz (l.map (·.1)) a with
 |none=>((-1,0,(a:Int)),l)
 |some k=>
  let x:=l.getD k (0,0,0)
  let d:=x.2.2+min x.1 4*min (max q 1) 2
  let take:=max (min d x.2.1) 0
  (((k:Int),take,(((k+1) % l.length:Nat):Int)),l.set k (x.1,x.2.1 - take,if x.2.1 - take=0 then 0 else d - take))
def LanesOk (l:List LaneI):Prop:=∀x∈l,(0≤x.1∧x.1≤4)∧(0≤x.2.1∧x.2.1≤1048576)∧(0≤x.2.2∧x.2.2≤1048576)
theorem qwa{l:List LaneI}{a:Nat}(h:qmz (l.map (·.1)) a=none):qw9 l a q=((-1,0,(a:Int)),l):=by
 unfold qw9;rw[h]
theorem qwb{l:List LaneI}{a:Nat}{x:LaneI}(h:qmz (l.map (·.1)) a=some k)(hx:l[k]? =some x):
 qw9 l a q=(((k:Int),max (min (x.2.2+min x.1 4*min (max q 1) 2) x.2.1) 0,(((k+1) % l.length:Nat):Int)),
  l.set k (x.1,x.2.1 - max (min (x.2.2+min x.1 4*min (max q 1) 2) x.2.1) 0,if x.2.1 - max (min (x.2.2+min x.1 4*min (max q 1) 2) x.2.1) 0=0 then 0 else x.2.2+min x.1 4*min (max q 1) 2 - max (min (x.2.2+min x.1 4*min (max q 1) 2) x.2.1) 0)):=by
 unfold qw9;rw[h];simp only[tB4,hx,Option.getD_some]
def qwc (s:Sta):List LaneI:=s.tres.mapIdx fun i t=>(qn1 i t,(t.queue.length:Int),t.deficit)
theorem qwd(s:Sta):(qwc s).map (·.1)=s.tres.mapIdx fun i t=>qn1 i t:=by
 unfold qwc;apply List.ext_getElem?;intro i;rw[tBj,List.getElem?_mapIdx,List.getElem?_mapIdx];cases s.tres[i]? <;>rfl
theorem qwe(h:s.tres[n]? =some t):(qwc s)[n]? =some (qn1 n t,(t.queue.length:Int),t.deficit):=by
 unfold qwc;rw[List.getElem?_mapIdx,h];rfl
theorem qwf(hs:s.Ok):LanesOk (qwc s):=by
 intro x hx;unfold qwc at hx;obtain⟨i,hi,rfl⟩:=List.mem_mapIdx.1 hx;have o:=hs.tres (s.tres[i]) (List.getElem_mem hi);have hw:=o.weight;have hq:=o.queue;have hd:=o.deficit;refine⟨?_,by dsimp only;omega,by dsimp only;omega⟩;dsimp only;unfold qn1;split<;>omega
theorem qwg(hs:s.Ok)(h:qmz (s.tres.mapIdx fun i t=>qn1 i t) s.lane.toNat=some k)(ht:s.tres[k]? =some t):
 qw9 (qwc s) s.lane.toNat c.quantum=(((k:Int),(takeN c t:Int),(((k+1) % 16:Nat):Int)),(qwc s).set k (qn1 k t,(t.queue.length:Int) - takeN c t,(seqT c t).deficit)):=by
 obtain⟨h0,t1,ht1,hr,hw⟩:=qtv h;have e:t1=t:=by
  rw[ht]at ht1;injection ht1 with h;exact h.symm
 subst e;have hlw:qn1 k t1=t1.weight:=by
  unfold qn1;rw[if_neg (by rw[hr];simp;exact h0)]
 have hlen:(qwc s).length=16:=by unfold qwc;rw[List.length_mapIdx,hs.tresn]
 rw[qwb (by rw[qwd];exact h) (qwe ht),hlen];dsimp only;rw[hlw];have ht0:((takeN c t1:Nat):Int)=max (min (t1.deficit+min t1.weight 4*min (max c.quantum 1) 2) t1.queue.length) 0:=by
  unfold takeN;rw[Int.toNat_of_nonneg zo]
 rw[←ht0];have hle:takeN c t1≤t1.queue.length:=by unfold takeN;omega
 have hdf:(seqT c t1).deficit=if (t1.queue.length:Int) - takeN c t1=0 then 0 else t1.deficit+min t1.weight 4*min (max c.quantum 1) 2 - takeN c t1:=by
  unfold seqT;dsimp only;by_cases hz:takeN c t1=t1.queue.length
  · rw[if_pos (List.drop_of_length_le zo),if_pos zo]
  rw[if_neg (by
   intro e;have:=congrArg List.length e;rw[tBk]at this;simp at this;omega),if_neg zo]
 rw[hdf]
theorem qwh{c:Nat}(h:TopAt w col k e g c size n xs)(hb:base≤g):w.ownsRow base e size (.slice (some ⟨g,0,none⟩) n c) n xs:=by
 obtain⟨_,sp,hk,h1,h2,h3,h4⟩:=h;refine⟨h1,.inr ⟨g,c,(xs++sp).toArray,rfl,hb,hk,h2,h3,?_,?_⟩⟩
 · rw[tB6,tA6]
   exact h4
 rw[←h1];simp
theorem qwi:∀{l:List LaneI} {k:Nat} {x:LaneI} (y:LaneI),l[k]? =some x→y.1=x.1→qw3 (l.set k y)=((qw3 l).set (k*3+1) (.int .i64 y.2.1)).set (k*3+2) (.int .i64 y.2.2)
 |[],k,x,y,h,_=>by simp at h
 |a::l,0,x,y,h,e=>by
  simp only[List.getElem?_cons_zero,Option.some.injEq]at h;subst h;show qw2 y++qw3 l=((qw2 a++qw3 l).set 1 _).set 2 _;unfold qw2;rw[e];rfl
 |a::l,k+1,x,y,h,e=>by
  rw[tBc]at h;show qw2 a++qw3 (l.set k y)=((qw2 a++qw3 l).set ((k+1)*3+1) _).set ((k+1)*3+2) _;rw[qwi y h e,show (k+1)*3+1=k*3+1+1+1+1 by omega,show (k+1)*3+2=k*3+2+1+1+1 by omega];rfl
theorem TopAt.row{c:Nat}(h:TopAt w col k e g c size n xs)(hne:g≠G)(X:Array Value):TopAt (w.setRow G X) col k e g c size n xs:=by
 obtain⟨hc,sp,hb,h1⟩:=h;exact⟨hc,sp,((qam w G X).block g hb.lt (by intro e;injection e with e;exact hne e)).trans hb,h1⟩
theorem qwj(l:List LaneI)(a q:Nat)(A:Option Addr)(c:Nat)(w:World)(hr:Reads w w.heap.size 3 A l.length (qw3 l))(hl:LanesOk l)(hn:l.length≤1000)(ha:a<l.length)(hq:1≤q∧q≤2)(hc:l.length≤c):
 Zc 63 #[.slice A l.length c,.int .i64 (a:Int),.int .i64 (q:Int)] w fun e w'=>∃v,e=.returned (.tuple #[.agg #[.int .i64 (qw9 l a q).1.1,.int .i64 (qw9 l a q).1.2.1,.int .i64 (qw9 l a q).1.2.2],v])∧w'.ownsRow w.heap.size 136 3 v l.length (qw3 (qw9 l a q).2)∧Zb w w':=by
 obtain⟨S1,hS1⟩:=xeq (qw9 l a q);rw[hS1];obtain⟨⟨r0,r1,r2⟩,lo⟩:=S1;dsimp only;obtain⟨n,hln⟩:=xeq l.length;rw[hln]at hr hn ha hc ⊢;obtain⟨b0,o0,eA,-,hc0⟩:=hr.mid zo zdc;subst eA;obtain⟨W0,hW0⟩:=eqx (w.alloc (.cells #[.int .i64 0,.int .i64 0,.int .i64 0] 138));have z0:=zNa hW0;obtain⟨B0,A3,A0,HL,Z0⟩:=zh5 (show Zb w W0 by rw[hW0];exact qah (tA5 _ _) _) hS1 hln hl z0;obtain⟨CL,A5⟩:=zh2 (qri (some ⟨b0,o0,none⟩) n c (qw3 l) W0 (hr.call B0.o) zo (qw6 l)) (show ∀w',Zb w w'→∀j u,(qw3 l)[j]? =some u→w'.cell? ⟨b0,o0+j,none⟩=some u from fun w' hb j u hu=>qai (hc0 j u hu) hb);clear hS1 hln hl z0 hr hc0;have qa:(a:Int)<n:=zo;have qa0:¬(a:Int)<0:=zo;have qan:¬(n:Int)≤a:=zo;have A6:=zh1 (show ∀(j:Nat) (x:LaneI),l[j]? =some x→(0≤x.1∧x.1≤4)∧(0≤x.2.1∧x.2.1≤1048576)∧(0≤x.2.2∧x.2.2≤1048576) from fun j x h=>HL.o x (tB2 h));go_enter Tryz.func63,Tryz.ntmps63
 go_upto_region 1 with(fail)
 rw[←hW0];clear hW0;go_step3
 go_wp2_with ((with_reducible refine CL.o.mono ?_);rintro e w1 ⟨v1,rfl,o1,b1⟩;obtain⟨g1,c1,hv1,t1,t2,⟨tcs,t3⟩,t4⟩:=qul o1 zo;subst hv1)
 obtain⟨B1,Z1,T1,GS⟩:=zh4 (B0.trans (b1.mono B0.size)) (Z0.below b1 Z0.lt) (t4 (fun b=>if b=g1 then 1 else 0) 1 zm) (tB1 (show w.heap.size+1≤W0.heap.size from Nat.succ_le_of_lt Z0.lt) t1);clear o1 b1 t2 t3 t4 t1 CL;go_step3
 go_wp2_with fail
 go_loopw [9,27] (fun v i wr=>∃j:Nat,j≤n∧i=.int .i64 j∧v=.int .i64 (-1)∧Hid (∀m,m<j→(l.map (·.1)).getD ((a+m) % n) 0<1)∧wr=w1) (fun v i _=>n - (intOf i).toNat)
 case atStart=>exact⟨0,by omega,rfl,rfl,zh1 fun m hm=>absurd hm zo,rfl⟩
 case round=>
  obtain⟨j,hj,rfl,rfl,hb,rfl⟩:=hrel;by_cases hjn:j<n
  ·
   have qj:(j:Int)<n:=zo;obtain⟨k,hk⟩:=xeq ((a+j) % n);have hkn:k<n:=by rw[←hk];exact Nat.mod_lt _ zo
   have qm:((a:Int)+j).tmod n=(k:Int):=by
    rw[←hk,Int.tmod_eq_emod_of_nonneg zo];simp
   have qk:(k:Int)<n:=zo;obtain⟨⟨wt,qu,de⟩,hx⟩:∃x,l[k]? =some x:=⟨_,tA7 (by rw[A0.o];exact hkn)⟩;have c0:wr.cell? ⟨b0,o0+k*3,none⟩=some (.int .i64 wt):=by
    have:=A5.o wr B1.o (k*3+0) (.int .i64 wt) ((qw5 hx zo).trans rfl);rwa[Nat.add_zero]at this
   obtain⟨HX,HK⟩:=zh2 hx hk;clear hx hk;by_cases hw1:wt<1
   ·
    go_wp2
    go_roundw
    case rel=>exact⟨j+1,by omega,by go_num,rfl,zh1 fun m hm=>(by
     rcases Nat.lt_or_ge m j with h|h
     · exact hb.o m h
     obtain rfl:m=j:=zo;rw[HK.o,tB4,tBj,HX.o];exact hw1),trivial⟩
    case measure=>simp[intOf];omega
   have hlo:qmz (l.map (·.1)) a=some k:=by
    have:=qw7 (ws:=l.map (·.1)) (a:=a) (k:=j) (by rw[tBl,A0.o];exact hjn) (by rw[tBl,A0.o];exact hb.o) (by
     rw[tBl,A0.o,HK.o,tB4,tBj,HX.o];show 1≤wt;omega)
    rwa[tBl,A0.o,HK.o]at this
   have hsv:=qwb (q:=(q:Int)) hlo HX.o;rw[A3.o]at hsv;dsimp only at hsv;obtain⟨⟨w0,w4⟩,⟨q0,q1⟩,⟨d0,d1⟩⟩:=A6.o k (wt,qu,de) HX.o;dsimp only at w0 w4 q0 q1 d0 d1;have A7:=zh1 hsv;clear hlo hsv;have qk0:¬(k:Int)<0:=zo;have e0:wr.cell? ⟨g1,k*3,none⟩=some (.int .i64 wt):=by
    have:=T1.cell (i:=k*3+0) ((qw5 HX.o zo).trans rfl);rwa[Nat.add_zero]at this
   have e1:wr.cell? ⟨g1,k*3+1,none⟩=some (.int .i64 qu):=T1.cell ((qw5 HX.o zo).trans rfl);have e2:wr.cell? ⟨g1,k*3+2,none⟩=some (.int .i64 de):=T1.cell ((qw5 HX.o zo).trans rfl);go_upto_region 16 with(fail)
   obtain⟨D,hD⟩:∃D:Int,min wt 4*min (max (q:Int) 1) 2=D:=⟨_,rfl⟩;have hD8:0≤D∧D≤8:=by
    rw[←hD];rcases(by omega:q=1∨q=2) with h|h
    · subst h
      rw[show min (max ((1:Nat):Int) 1) 2=1 by decide];omega
    subst h;rw[show min (max ((2:Nat):Int) 1) 2=2 by decide];omega
   obtain⟨D0,D8⟩:=hD8;obtain⟨tk,htk⟩:∃tk:Int,max (min (de+D) qu) 0=tk:=⟨_,rfl⟩;have htk3:0≤tk∧tk≤qu∧tk≤de+D:=zo;obtain⟨tk0,tk1,tk2⟩:=htk3;rw[hD,show wrap64 D=D from IntWalk.wrap64_in _ zo];have hs2:=A7.o;rw[hD,htk,A0.o]at hs2;injection hs2 with h1 h2;injection h1 with h3 h4;injection h4 with h4 h5;obtain⟨A4,A8⟩:=zh2 h2 htk;have h4:=h4.symm;subst h3 h4 h5;have q16:¬(9223372036854775807 - D<de):=zo;have f2:=T1.frozen (k*3+2);have hl3:(qw3 l).length=n*3:=by rw[qw4,A0.o]
   have A1:=zh1 hl3;clear hD h2 htk hl3;go_upto_region 19 with(fail)
   obtain⟨W2,hW2⟩:=eqx (wr.setCell ⟨g1,k*3+2,none⟩ (.int .i64 (de+D)));rw[←hW2];obtain⟨B2,Z2,T2⟩:=zh3 (show Zb w W2 by rw[hW2];exact B1.setCell (by have:=GS.o;show w.heap.size≤g1;omega) _) (show Blk W2 w.heap.size 138 #[.int .i64 0,.int .i64 0,.int .i64 0] by rw[hW2];exact Z1.far (by have:=GS.o;show w.heap.size≠g1;omega) _) (show TopAt W2 _ _ _ _ _ _ _ _ by rw[hW2];exact T1.set1 (o:=k*3+2) (.int .i64 (de+D)) (by rw[A1.o];omega));clear hW2 f2 e0 e1 e2;have e1:W2.cell? ⟨g1,k*3+1,none⟩=some (.int .i64 qu):=T2.cell (by rw[List.getElem?_set_ne zo];exact(qw5 HX.o zo).trans rfl);have e2:W2.cell? ⟨g1,k*3+2,none⟩=some (.int .i64 (de+D)):=T2.cell (by rw[List.getElem?_set_self (by rw[A1.o];omega)]);obtain⟨S,HS9⟩:=zS fun w'=>w'.cell? ⟨g1,k*3+2,none⟩=some (.int .i64 (de+D))∧w'.cell? ⟨g1,k*3+1,none⟩=some (.int .i64 qu)
   refine zrs S 11 (zq 0 11 []) ((HS9.o _).mpr (⟨e2,e1⟩)) ?_;have F0:=zh1 (fun(w':World)(h:S w')=>(HS9.o w').mp h);repeat(refine zre rfl rfl (fun w1 hS=>by have g0:=(F0.o w1 hS).1;have g3:=(F0.o w1 hS).2;clear hS;go_simp;try rfl) ?_)
   refine qbf ?_;rw[A8.o];clear F0 HS9;obtain⟨W3,hW3⟩:=eqx W2.drew;rw[←hW3];have bd:Zb W2 W3:=by rw[hW3];exact(tA5 _ _).drew
   obtain⟨B3,Z3,T3⟩:=zh3 (B2.trans (bd.mono B2.size)) (Z2.below bd Z2.lt) (T2.keep ((Turns.of_below (fun _=>false) bd).keeps rfl));clear hW3 bd e1 e2;have e1:W3.cell? ⟨g1,k*3+1,none⟩=some (.int .i64 qu):=T3.cell (by rw[List.getElem?_set_ne zo];exact(qw5 HX.o zo).trans rfl);have e2:W3.cell? ⟨g1,k*3+2,none⟩=some (.int .i64 (de+D)):=T3.cell (by rw[List.getElem?_set_self (by rw[A1.o];omega)]);have f2:=T3.frozen (k*3+2);go_upto_region 21 with(fail)
   obtain⟨W4,hW4⟩:=eqx (W3.setCell ⟨g1,k*3+2,none⟩ (.int .i64 (de+D - tk)));rw[←hW4];obtain⟨B4,Z4,T4⟩:=zh3 (show Zb w W4 by rw[hW4];exact B3.setCell (by have:=GS.o;show w.heap.size≤g1;omega) _) (show Blk W4 w.heap.size 138 #[.int .i64 0,.int .i64 0,.int .i64 0] by rw[hW4];exact Z3.far (by have:=GS.o;show w.heap.size≠g1;omega) _) (show TopAt W4 (fun b=>if b=g1 then 1 else 0) 1 136 g1 c1 3 n ((qw3 l).set (k*3+2) (.int .i64 (de+D - tk))) by rw[hW4,←List.set_set (a:=Value.int .i64 (de+D))];exact T3.set1 (o:=k*3+2) (.int .i64 (de+D - tk)) (by rw[List.length_set,A1.o];omega));clear hW4 f2 e1 e2;have e1:W4.cell? ⟨g1,k*3+1,none⟩=some (.int .i64 qu):=T4.cell (by rw[List.getElem?_set_ne zo];exact(qw5 HX.o zo).trans rfl);have f1:=T4.frozen (k*3+1);go_upto_region 22 with(fail)
   obtain⟨W5,hW5⟩:=eqx (W4.setCell ⟨g1,k*3+1,none⟩ (.int .i64 (qu - tk)));rw[←hW5];obtain⟨B5,Z5,T5⟩:=zh3 (show Zb w W5 by rw[hW5];exact B4.setCell (by have:=GS.o;show w.heap.size≤g1;omega) _) (show Blk W5 w.heap.size 138 #[.int .i64 0,.int .i64 0,.int .i64 0] by rw[hW5];exact Z4.far (by have:=GS.o;show w.heap.size≠g1;omega) _) (show TopAt W5 (fun b=>if b=g1 then 1 else 0) 1 136 g1 c1 3 n (((qw3 l).set (k*3+1) (.int .i64 (qu - tk))).set (k*3+2) (.int .i64 (de+D - tk))) by rw[hW5,List.set_comm _ _ zo];exact T4.set1 (o:=k*3+1) (.int .i64 (qu - tk)) (by rw[List.length_set,A1.o];omega));clear hW5 f1 e1;have e1:W5.cell? ⟨g1,k*3+1,none⟩=some (.int .i64 (qu - tk)):=T5.cell (by rw[List.getElem?_set_ne zo,List.getElem?_set_self (by rw[A1.o];omega)]);have f2:=T5.frozen (k*3+2);have e2:W5.cell? ⟨g1,k*3+2,none⟩=some (.int .i64 (de+D - tk)):=T5.cell (by rw[List.getElem?_set_self (by rw[List.length_set,A1.o];omega)]);have qm2:((k:Int)+1).tmod n=(((k+1) % n:Nat):Int):=by
    rw[Int.tmod_eq_emod_of_nonneg zo];simp
   by_cases hz:qu - tk=0
   ·
    have hlo:qw3 lo=((qw3 l).set (k*3+1) (.int .i64 (qu - tk))).set (k*3+2) (.int .i64 0):=by
     rw[A4.o,qwi (wt,qu - tk,if qu - tk=0 then 0 else de+D - tk) HX.o rfl];dsimp only;rw[if_pos hz]
    have A9:=zh1 hlo;clear hlo;rw[hz]at e1;go_upto_region 24 with(fail)
    obtain⟨W6,hW6⟩:=eqx (W5.setCell ⟨g1,k*3+2,none⟩ (.int .i64 0));rw[←hW6];obtain⟨B6,Z6,T6⟩:=zh3 (show Zb w W6 by rw[hW6];exact B5.setCell (by have:=GS.o;show w.heap.size≤g1;omega) _) (show Blk W6 w.heap.size 138 #[.int .i64 0,.int .i64 0,.int .i64 0] by rw[hW6];exact Z5.far (by have:=GS.o;show w.heap.size≠g1;omega) _) (show TopAt W6 (fun b=>if b=g1 then 1 else 0) 1 136 g1 c1 3 n (qw3 lo) by rw[hW6,A9.o,←List.set_set (a:=Value.int .i64 (de+D - tk))];exact T5.set1 (o:=k*3+2) (.int .i64 0) (by rw[List.length_set,List.length_set,A1.o];omega));clear hW6 f2 e1 e2 hz;go_wp2_with (refine wpList_store_row rfl 138 (.tmp 6) (.tmp 120) rfl w.heap.size #[.int .i64 (k:Int),.int .i64 tk,.int .i64 (((k+1) % n:Nat):Int)] rfl rfl 138 _ Z6.o zk zm (by simp[Value.oneCell']) ?_)
    try rw[Exit.noGoto_ret]
    have A2:=qap (Z6.setRow #[.int .i64 (k:Int),.int .i64 tk,.int .i64 (((k+1) % n:Nat):Int)]) 0 [.int .i64 (k:Int),.int .i64 tk,.int .i64 (((k+1) % n:Nat):Int)] zjq;refine bodyPost_ret (qgr rfl rfl (run_loadVar_mid _ _ 0 _ [.int .i64 (k:Int),.int .i64 tk,.int .i64 (((k+1) % n:Nat):Int)] _ A2 Tryz.underlying138 rfl zk)) rfl ⟨_,rfl,qwh (T6.row (by have:=GS.o;omega) _) (by have:=GS.o;omega),below_setRow B6.o (tA4 _) _⟩
   have hlo:qw3 lo=((qw3 l).set (k*3+1) (.int .i64 (qu - tk))).set (k*3+2) (.int .i64 (de+D - tk)):=by
    rw[A4.o,qwi (wt,qu - tk,if qu - tk=0 then 0 else de+D - tk) HX.o rfl];dsimp only;rw[if_neg hz]
   rw[←hlo]at T5;clear hlo f2 e2;go_wp2_with (refine wpList_store_row rfl 138 (.tmp 6) (.tmp 120) rfl w.heap.size #[.int .i64 (k:Int),.int .i64 tk,.int .i64 (((k+1) % n:Nat):Int)] rfl rfl 138 _ Z5.o zk zm (by simp[Value.oneCell']) ?_)
   try rw[Exit.noGoto_ret]
   have A2:=qap (Z5.setRow #[.int .i64 (k:Int),.int .i64 tk,.int .i64 (((k+1) % n:Nat):Int)]) 0 [.int .i64 (k:Int),.int .i64 tk,.int .i64 (((k+1) % n:Nat):Int)] zjq;refine bodyPost_ret (qgr rfl rfl (run_loadVar_mid _ _ 0 _ [.int .i64 (k:Int),.int .i64 tk,.int .i64 (((k+1) % n:Nat):Int)] _ A2 Tryz.underlying138 rfl zk)) rfl ⟨_,rfl,qwh (T5.row (by have:=GS.o;omega) _) (by have:=GS.o;omega),below_setRow B5.o (tA4 _) _⟩
  have hlo:qmz (l.map (·.1)) a=none:=qw8 (by
   rw[tBl,A0.o];intro m hm;exact hb.o m zo)
  have hsv:=qwa (q:=(q:Int)) hlo;rw[A3.o]at hsv;injection hsv with h1 h2;injection h1 with h3 h4;injection h4 with h4 h5;subst h2 h3 h4 h5;clear hlo;obtain rfl:j=n:=zo;go_wp2_with (refine wpList_store_row rfl 138 (.tmp 6) (.tmp 47) rfl w.heap.size #[.int .i64 (-1),.int .i64 0,.int .i64 (a:Int)] rfl rfl 138 _ Z1.o zk zm (by simp[Value.oneCell']) ?_)
  try rw[Exit.noGoto_ret]
  have A2:=qap (Z1.setRow #[.int .i64 (-1),.int .i64 0,.int .i64 (a:Int)]) 0 [.int .i64 (-1),.int .i64 0,.int .i64 (a:Int)] zjq;refine bodyPost_ret (qgr rfl rfl (run_loadVar_mid _ _ 0 _ [.int .i64 (-1),.int .i64 0,.int .i64 (a:Int)] _ A2 Tryz.underlying138 rfl zk)) rfl ⟨_,rfl,qwh (T1.row (by have:=GS.o;omega) _) (by have:=GS.o;omega),below_setRow B1.o (tA4 _) _⟩
theorem RowC.clip{c:Nat}(h:RowC w col k (.slice A n c) e size n xs):RowC w col k (.slice A n n) e size n xs:=by
 refine⟨h.1,?_⟩;rcases h.2 with⟨rfl,h0|⟨g,o,h0⟩⟩|⟨g,o,c',cur,hv,hk,hb,hn,hc,hl,ht⟩
 · injection h0 with h1 h2 h3
   subst h1;exact .inl ⟨rfl,.inl rfl⟩
 · injection h0 with h1 h2 h3
   subst h1;exact .inl ⟨rfl,.inr ⟨g,o,rfl⟩⟩
 injection hv with h1 h2 h3;subst h1 h3;exact .inr ⟨g,o,n,cur,rfl,hk,hb,tA4 _,by omega,by have:=Nat.mul_le_mul_right size hn;omega,ht⟩
theorem qwl(ho:w'.ownsRow base e size v n xs)(hb:w.heap.size≤base)(hs:w.heap.size≤w'.heap.size)(hf:Fin_ col w):
 ∃col1:Col,(∀b,b<base→col1 b=col b)∧RowC w' col1 k v e size n xs∧Fin_ col1 w':=by
 refine⟨fun b=>if v.ownBlock=some b then k else col b,fun b hb'=>?_,RowC.of_own ho fun g hg=>?_,fun b hb'=>?_⟩
 · show (if v.ownBlock=some b then k else col b)=col b
   rw[if_neg];intro e;have:=(World.ownsRow.lt ho b e).1;omega
 · simp[hg]
 by_cases e:v.ownBlock=some b
 · exact(World.ownsRow.lt ho b e).2
 change (if v.ownBlock=some b then k else col b)≠0 at hb';rw[if_neg e]at hb';exact tB0 (hf b hb') hs
theorem qwm(w:World)(col:Col)(k:Nat)(t tx ty e:TypeId)(i:TypeInfo)(z:Value)(size bytes:Nat)(ht:P.underlying t=some (.slice e))(hi:P.info? e=some i)(hz:i.zero=some z)
 (hsize:i.size=size)(hby:i.bytes=bytes)(hzs:z.cells.size=size)
 (A:Option Addr)(n:Nat)(xs:List Value)(hrow:RowC w col k (.slice A n n) e size n xs)(x:Value)(m:Nat)(news:List Value)(hsrc:Src P size tx x m news w)
 (h63:n+m≤maxLen)(hbytes:(n+m)*bytes≤140737488355328)(hf:Fin_ col w):
 ∃v' w' col',(Builtin.append_ #[t,tx] ty #[.slice A n n,x]).run P w=.ok v' w'∧RowC w' col' k v' e size (n+m) (xs++news)∧Turns (fun _=>false) w col w' col'∧Fin_ col' w'∧Zb w w':=by
 have hl:=hsrc.newsLen;subst hsize;subst hby;by_cases hm:m=0
 ·
  subst hm;have hn:news=[]:=tB8 (by simpa using hl);subst hn;have hr0:RowC w col k (.slice A n n) e i.size (n+0) (xs++[]):=by simpa using hrow
  rcases hrow.2 with⟨rfl,h0|⟨g,o,h0⟩⟩|⟨g,o,c',cur,hv,hk,hb,hn,hc,hol,htk⟩
  · injection h0 with h1
    subst h1;refine⟨_,w,col,?_,hr0,Turns.refl _ _ _,hf,tA5 _ _⟩;have hc:=hsrc.cells;have hlo:=hsrc.len w;rcases hsrc.kind with⟨e',hk⟩|hk<;>simp[Builtin.append_,run_underlying ht,run_underlying hk,sizeOf,typeInfo,hi,hlo,hc,storeCells]
  · injection h0 with h1
    subst h1;exact⟨_,w,col,run_append_room_src (P:=P) w t tx ty e i ht hi g o 0 0 x 0 [] hsrc zo (fun j hj=>absurd hj zm) (fun j hj=>absurd hj zm),hr0,Turns.refl _ _ _,hf,tA5 _ _⟩
  injection hv with h1 h2 h3;subst h1;exact⟨_,w,col,run_append_room_src (P:=P) w t tx ty e i ht hi g o n n x 0 [] hsrc zo (fun j hj=>absurd hj zm) (fun j hj=>absurd hj zm),hr0,Turns.refl _ _ _,hf,tA5 _ _⟩
 have hge:=grownCap_ge w (n+m) n e;have hcm:grownCap w (n+m) n e≤maxLen:=grownCap_le_maxLen w (n+m) n e h63;have hlen:(xs++news).length=(n+m)*i.size:=by rw[tA6,hrow.1,hl,Nat.add_mul]
 have old:(Builtin.firstCells i.size n (.slice A n n)).run P w.drew=.ok xs.toArray w.drew:=by
  rcases hrow.2 with⟨rfl,h0|⟨g,o,h0⟩⟩|⟨g,o,c',cur,hv,hk,hb,hn,hc,hol,htk⟩
  · injection h0 with h1
    subst h1;have hx:xs=[]:=tB8 (by simpa using hrow.1);subst hx;exact run_firstCells_none w.drew i.size 0 0 0
  · injection h0 with h1
    subst h1;have hx:xs=[]:=tB8 (by simpa using hrow.1);subst hx;exact run_firstCells_some w.drew i.size 0 ⟨g,o,none⟩ 0 0 [] zm (fun j u hu=>by simp at hu)
  injection hv with h1 h2 h3;subst h1;refine run_firstCells_some w.drew i.size n ⟨g,o,none⟩ n n xs hrow.1 (fun j u hu=>?_);rw[World.cell?_drew,Addr.add_mid,hb.cell,tA3];rw[←htk,List.getElem?_take]at hu;split at hu
  · rwa[List.getElem?_drop]at hu
  cases hu
 have hr:=run_append_grow_src (P:=P) w t tx ty e i z ht hi hz A n n xs old x m news hsrc zo (by simp only[maxLen]at h63;omega) (growslice_fits zo hbytes);obtain⟨Z,hZ⟩:∃Z:List Value,Z.toArray=Builtin.zeroCells z.cells (grownCap w (n+m) n e - (n+m)):=⟨_,Array.toArray_toList⟩;have hZl:Z.length=(grownCap w (n+m) n e - (n+m))*i.size:=by
  have:=congrArg Array.size hZ;rw[size_zeroCells,hzs,tB6]at this;exact this
 rw[←hZ,List.append_toArray]at hr;have hcl:(xs++news++Z).length=grownCap w (n+m) n e*i.size:=by
  rw[tA6,hlen,hZl,←Nat.add_mul];congr 1
  omega
 have htk:(xs++news++Z).take ((n+m)*i.size)=xs++news:=by rw[←hlen];exact List.take_left
 have hb:Zb w (w.drew.alloc (.cells (xs++news++Z).toArray e)):=⟨rfl,rfl,rfl,by simp,fun b hb=>Below.heap_alloc w.drew _ b hb⟩;have ho:(w.drew.alloc (.cells (xs++news++Z).toArray e)).ownsRow w.heap.size e i.size (.slice (some ⟨w.heap.size,0,none⟩) (n+m) (grownCap w (n+m) n e)) (n+m) (xs++news):=by
  refine⟨hlen,.inr ⟨w.heap.size,_,(xs++news++Z).toArray,rfl,tA4 _,heap_alloc_new _ _,hge,hcm,by rw[tB6];exact hcl,by simpa using htk⟩⟩
 obtain⟨col1,h1,h2,h3⟩:=qwl (w:=w) (col:=col) (k:=k) ho (tA4 _) hb.size hf;exact⟨_,_,col1,hr,h2,(Turns.of_below _ hb).recolour h1,h3,hb⟩
theorem qwn(w:World)(s x:Operand)(t tx:TypeId)
 (ho:o.op=.call {callee:=.builtin .append,args:=#[s,x],argTypes:=#[t,tx]})
 (col:Col)(k:Nat)(e:TypeId)(i:TypeInfo)(z:Value)(size bytes:Nat)(ht:P.underlying t=some (.slice e))(hi:P.info? e=some i)(hz:i.zero=some z)
 (hsize:i.size=size)(hby:i.bytes=bytes)(hzs:z.cells.size=size)
 (A:Option Addr)(n:Nat)(xs:List Value)(hs:a.eval s=.slice A n n)(hrow:RowC w col k (.slice A n n) e size n xs)(xv:Value)(m:Nat)(news:List Value)(hx:a.eval x=xv)(hsrc:Src P size tx xv m news w)
 (h63:n+m≤maxLen)(hbytes:(n+m)*bytes≤140737488355328)(hf:Fin_ col w)
 (h:∀v' w' col',RowC w' col' k v' e size (n+m) (xs++news)→Turns (fun _=>false) w col w' col'→Fin_ col' w'→Zb w w'→K (a.put o.dst v') w'):o.wp P a w K Q:=by
 obtain⟨v',w',col',hrun,h2,h3,h4,h5⟩:=qwm (P:=P) w col k t tx o.type e i z size bytes ht hi hz hsize hby hzs A n xs hrow xv m news hsrc h63 hbytes hf;unfold Oper.wp execOp;simp only[ho,resolve,invoke,builtin,Sem.run_bind,Sem.run_pure,Result.andThen_ok,List.map_toArray,List.map_cons,List.map_nil,hs,hx,hrun];exact h v' w' col' h2 h3 h4 h5
theorem Mdl.treRowW(h:Mdl w col k g c s L css)(hk:Kind k)(h16:s.tres.length=16)(hh:∀t∈s.tres,t.hd.Ok)(ht:s.tres[n]? =some t)(hcs:css[n]? =some cs)(hkk:kk=10+3*n∨kk=11+3*n∨kk=12+3*n)
 (hT:Turns (· ==kk) w col w' col')(hf:Fin_ col' w')(f:Tre→Tre)(v':Value)(hj:j<75)(hold:TreAt w' col' n cs t)(hnew:TreAt w' col' n (cs.set j v') (f t)):
 Mdl (w'.setCell ⟨L.rg,n*75+j,none⟩ v') col' k g c (s.setT n f) L (css.modify n fun x=>x.set j v')∧TrsAt (w'.setCell ⟨L.rg,n*75+j,none⟩ v') col' css s.tres∧Turns (inP k) w col (w'.setCell ⟨L.rg,n*75+j,none⟩ v') col':=by
 have hn:n<s.tres.length:=by obtain⟨h,_⟩:=tA8 ht;exact h
 have hn16:n<16:=by rw[←h16];exact hn
 have hlen:=h.st.trs.lens (fun t ht=>hh t ht);have hcl:css.length=16:=by rw[h.st.trs.1,h16]
 have hfl:css.flatten.length=1200:=by rw[qnd hlen,hcl]
 have keepA:∀i,i≠kk→KeepsCol i w col w' col':=fun i hi=>hT.keeps (by simpa using hi)
 have mA:Mdl w' col' k g c s L css:=by
  refine⟨(hT.block g h.blk.lt (by rw[h.own];simp;omega)).trans h.blk,(hT.same g h.blk.lt).trans h.own,⟨tB1 h.base.1 hT.size,fun b hb=>(hT.same b (tB0 hb h.base.1)).trans (h.base.2 b hb)⟩,hf,h.seed.keep (keepA 5 zo),?_⟩;refine⟨h.st.tens.keep (keepA k (by rcases hk with rfl|rfl<;>omega)),h.st.tres.keep (keepA (k+1) (by rcases hk with rfl|rfl<;>omega)),h.st.gras.keep (keepA (k+2) (by rcases hk with rfl|rfl<;>omega)),h.st.trs.1,fun i t' ht'=>?_⟩;by_cases e:n=i
  · subst e
    rw[ht]at ht';injection ht' with ht';subst ht';exact⟨cs,hcs,hold⟩
  obtain⟨c0,h1,vd,vl,vq,e1,r1,r2,r3⟩:=h.st.trs.2 i t' ht';exact⟨c0,h1,vd,vl,vq,e1,r1.keep (keepA _ zo),r2.keep (keepA _ zo) (keepA 5 zo),r3.keep (keepA _ zo) (keepA 5 zo)⟩
 have hT2:Turns (· ==k+1) w' col' (w'.setCell ⟨L.rg,n*75+j,none⟩ v') col':=Turns.setCell v' (by simp[mA.st.tres.1]);have keepB:∀i,i≠k+1→KeepsCol i w' col' (w'.setCell ⟨L.rg,n*75+j,none⟩ v') col':=fun i hi=>hT2.keeps (by simpa using hi)
 have hbig:∀i,i=5∨10≤i→i≠k+1:=fun i hi=>by rcases hk with rfl|rfl<;>omega
 have hne:g≠L.rg:=by
  intro e;have a:=mA.own;rw[e,mA.st.tres.1]at a;rcases hk with rfl|rfl<;>cases a
 refine⟨⟨?_,mA.own,⟨tB1 mA.base.1 hT2.size,mA.base.2⟩,mA.fin.mono hT2.size,mA.seed.keep (keepB 5 (hbig 5 (.inl rfl))),?_⟩,mA.st.trs.keep fun i hi=>keepB i (hbig i hi),?_⟩
 · exact(mA.blk.far (p:=⟨L.rg,n*75+j,none⟩) hne v')
 ·
  refine⟨mA.st.tens.keep (keepB k zo),?_,mA.st.gras.keep (keepB (k+2) zo),?_⟩
  · have h1:=mA.st.tres.set1 (o:=n*75+j) v' (by rw[hfl];omega)
    rw[←qnf _ _ _ (by rw[hfl];omega),qne [v'] hlen (by rw[hcl];exact hn16) (by simp;omega)]at h1;have e:(css.modify n fun x=>over x j [v'])=css.modify n fun x=>x.set j v':=qr6 fun x hx=>qnf x j v' (by rw[hlen x (tB2 hx)];exact hj)
    rwa[e]at h1
  refine⟨by rw[List.length_modify,h.st.trs.1];simp[Sta.setT],fun i t' ht'=>?_⟩;by_cases e:n=i
  · subst e
    rw[show (s.setT n f).tres=s.tres.modify n f from rfl,qo5 f ht]at ht';injection ht' with ht';subst ht';exact⟨cs.set j v',qo5 _ hcs,hnew.keep fun i hi=>keepB i (hbig i hi)⟩
  rw[show (s.setT n f).tres=s.tres.modify n f from rfl,qo6 _ f e]at ht';obtain⟨c0,h1,h2⟩:=mA.st.trs.2 i t' ht';exact⟨c0,by rw[qo6 _ _ e];exact h1,h2.keep fun i hi=>keepB i (hbig i hi)⟩
 refine(hT.mono (q:=inP k) fun i hi=>?_).trans (hT2.mono (q:=inP k) fun i hi=>?_)
 · obtain rfl:i=kk:=by simpa using hi
   unfold inP;simp;omega
 obtain rfl:i=k+1:=by simpa using hi
 unfold inP;simp
theorem qwo{l2:List (List Nat)}(hr:RowC w' col' k v' 23 1 l2.length vs2)
 (h2:∀(i:Nat) (bs:List Nat),l2[i]? =some bs→∃u,vs2[i]? =some u∧TextC w col u bs)(h5:KeepsCol 5 w col w' col'):TextsC w' col' k v' l2:=
 ⟨vs2,hr,fun i bs hi=>by
  obtain⟨u,hu,ht⟩:=h2 i bs hi;exact⟨u,hu,ht.keep h5⟩⟩
theorem qwp{ls l2:List (List Nat)}(hvl:vs.length=ls.length)
 (h1:∀(i:Nat) (bs:List Nat),ls[i]? =some bs→∃u,vs[i]? =some u∧TextC w col u bs)(h2:∀(i:Nat) (bs:List Nat),l2[i]? =some bs→∃u,vs2[i]? =some u∧TextC w col u bs):
 ∀(i:Nat) (bs:List Nat),(ls++l2)[i]? =some bs→∃u,(vs++vs2)[i]? =some u∧TextC w col u bs:=by
 intro i bs hi;rw[List.getElem?_append]at hi;split at hi
 · obtain⟨u,hu,ht⟩:=h1 i bs hi
   exact⟨u,by rw[tBm zo];exact hu,ht⟩
 rename_i hge
 obtain⟨u,hu,ht⟩:=h2 (i - ls.length) bs hi;exact⟨u,by rw[tBn zo,hvl];exact hu,ht⟩
theorem qwq{ls:List (List Nat)}(k:Nat)(h1:∀(i:Nat) (bs:List Nat),ls[i]? =some bs→∃u,vs[i]? =some u∧TextC w col u bs):
 ∀(i:Nat) (bs:List Nat),(ls.take k)[i]? =some bs→∃u,(vs.take k)[i]? =some u∧TextC w col u bs:=by
 intro i bs hi;rw[List.getElem?_take]at hi;split at hi
 · rename_i hk
   obtain⟨u,hu,ht⟩:=h1 i bs hi;exact⟨u,by rw[List.getElem?_take,if_pos hk];exact hu,ht⟩
 cases hi
theorem qwr{ls:List (List Nat)}(k:Nat)(h1:∀(i:Nat) (bs:List Nat),ls[i]? =some bs→∃u,vs[i]? =some u∧TextC w col u bs):
 ∀(i:Nat) (bs:List Nat),(ls.drop k)[i]? =some bs→∃u,(vs.drop k)[i]? =some u∧TextC w col u bs:=by
 intro i bs hi;rw[List.getElem?_drop]at hi;obtain⟨u,hu,ht⟩:=h1 _ bs hi;exact⟨u,by rw[List.getElem?_drop];exact hu,ht⟩
theorem Mdl.leavesNew(h:Mdl w col k g c s L css)(hk:Kind k)(h16:s.tres.length=16)(hh:∀t∈s.tres,t.hd.Ok)(ht:s.tres[n]? =some t)(hcs:css[n]? =some (trev t vd vl vq))
 (hT:Turns (fun _=>false) w col w' col')(hf:Fin_ col' w'){ls:List (List Nat)}(hl:TextsC w' col' (11+3*n) v' ls):
 ∃css',css'[n]? =some (trev {t with leaves:=ls} vd v' vq)∧Mdl (w'.setCell ⟨L.rg,n*75+5,none⟩ v') col' k g c (s.setT n fun t=>{t with leaves:=ls}) L css'∧Turns (inP k) w col (w'.setCell ⟨L.rg,n*75+5,none⟩ v') col':=by
 obtain⟨r1,r2,r3⟩:=h.rows ht hcs;have kp:∀i,KeepsCol i w col w' col':=fun i=>hT.keeps rfl
 obtain⟨m,-,tt⟩:=h.treRowW (j:=5) hk h16 hh ht hcs (.inr (.inl rfl)) (hT.mono fun i h=>by cases h) hf (fun t=>{t with leaves:=ls}) v' zo
  ⟨vd,vl,vq,rfl,r1.keep (kp _),r2.keep (kp _) (kp 5),r3.keep (kp _) (kp 5)⟩
  ⟨vd,v',vq,rfl,r1.keep (kp _),hl,r3.keep (kp _) (kp 5)⟩
 exact⟨_,(qo5 (fun x=>x.set 5 v') hcs).trans rfl,m,tt⟩
theorem Mdl.queueNew(h:Mdl w col k g c s L css)(hk:Kind k)(h16:s.tres.length=16)(hh:∀t∈s.tres,t.hd.Ok)(ht:s.tres[n]? =some t)(hcs:css[n]? =some (trev t vd vl vq))
 (hT:Turns (fun _=>false) w col w' col')(hf:Fin_ col' w'){ls:List (List Nat)}(hl:TextsC w' col' (12+3*n) v' ls):
 ∃css',Mdl (w'.setCell ⟨L.rg,n*75+6,none⟩ v') col' k g c (s.setT n fun t=>{t with queue:=ls}) L css'∧Turns (inP k) w col (w'.setCell ⟨L.rg,n*75+6,none⟩ v') col':=by
 obtain⟨r1,r2,r3⟩:=h.rows ht hcs;have kp:∀i,KeepsCol i w col w' col':=fun i=>hT.keeps rfl
 obtain⟨m,-,tt⟩:=h.treRowW (j:=6) hk h16 hh ht hcs (.inr (.inr rfl)) (hT.mono fun i h=>by cases h) hf (fun t=>{t with queue:=ls}) v' zo
  ⟨vd,vl,vq,rfl,r1.keep (kp _),r2.keep (kp _) (kp 5),r3.keep (kp _) (kp 5)⟩
  ⟨vd,vl,v',rfl,r1.keep (kp _),r2.keep (kp _) (kp 5),hl⟩
 exact⟨_,m,tt⟩
end Go.Proofs.YthomgopipiomhaaGreatDoor

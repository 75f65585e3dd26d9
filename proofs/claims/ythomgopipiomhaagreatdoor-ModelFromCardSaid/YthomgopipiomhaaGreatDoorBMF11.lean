/- Lemmas. -/
import Derived.Test.YthomgopipiomhaaGreatDoorBMF06
import Derived.Test.YthomgopipiomhaaGreatDoorBMF10
namespace Go.Proofs.YthomgopipiomhaaGreatDoor
open Go.RowKit
set_option linter.unusedVariables false
set_option linter.unusedSimpArgs false
set_option maxRecDepth 100000
set_option maxHeartbeats 32000000
variable {s s0:Sta}{c:Cfg}{B g gw tb base n k b size:Nat}{col col' cc c1 c2:Col}{W w w' w1 w2 w4:World}{bs:List Nat}{A:Option Addr}{x:Int}{R:Req}{X xs V:List Value}{T v21 v25 v6:Value}{css css1 css2:List (List Value)}{L L1 L2:Loc}{t:Tre}
theorem xb9(s:Sta)(L:Loc)(col:Col)(k:Nat)(css:List (List Value))(w:World)(hs:s.Ok)(hst:StAt 92 74 66 w col k L css s):
 Zc 32 #[.agg (stav s L).toArray] w fun e w'=>∃col' L' css',e=.returned (.agg (stav s L').toArray)∧StAt 92 74 66 w' col' 2 L' css' s∧(∀b,col' b≠0→w.heap.size≤b∧b<w'.heap.size)∧Zb w w':=by
 obtain⟨W0,hW0⟩:=eqx ((w.alloc (.cells (stav s L).toArray 49)).alloc (.cells #[.int .u64 0,.int .u32 0,.int .i64 0,.slice none 0 0,.slice none 0 0,.slice none 0 0] 49));have a0:=zNb hW0;have z0:=zNc hW0;have b0:=zMb hW0;have sg:0<s.gras.length:=by obtain⟨h,_⟩:=tA8 hs.owner;exact h
 obtain⟨SV,hSV⟩:=xeq (stav s L);rw[hSV]at a0 hW0 ⊢;obtain⟨S3,S4,S5,A8,HS,A0,Z0,B0⟩:=zh8 (show SV.toArray[3]? =some (.slice (some ⟨L.tg,0,none⟩) 16 L.tc) by rw[←hSV];rfl) (show SV.toArray[4]? =some (.slice (some ⟨L.rg,0,none⟩) 16 L.rc) by rw[←hSV];rfl) (show SV.toArray[5]? =some (.slice (some ⟨L.gg,0,none⟩) s.gras.length L.gc) by rw[←hSV];rfl) hst hs a0 z0 b0;obtain⟨SG,AL,AM,AV⟩:=zh4 sg hSV hW0 (show W0.heap.size=w.heap.size+1+1 by rw[hW0,qar,qar]);clear hst hs a0 z0 b0 sg hSV hW0;go_enter Tryz.func32,Tryz.ntmps32
 go_upto_region 2 with(fail)
 rw[←AM.o];obtain⟨S,HS9⟩:=zS fun w'=>Blk w' w.heap.size 49 SV.toArray
 refine xb0 S [0,1,2,3,4,5,6,7,8,9,11,13] [(0,none),(1,some false),(3,none),(4,some false),(6,none),(7,some false),(2,some true),(9,none),(5,some true),(8,some true),(10,some true),(11,none),(12,some true),(13,none),(14,some true)] zk rfl zk zk (fun _ _ d _ _ h=>by cases d<;>exact h) ((HS9.o _).mpr (A0.o)) ?_;obtain⟨F3,F4,F5⟩:=zh3 (fun(w':World)(h:S w')=>(((HS9.o w').mp h).cell 3).trans S3.o) (fun(w':World)(h:S w')=>(((HS9.o w').mp h).cell 4).trans S4.o) (fun(w':World)(h:S w')=>(((HS9.o w').mp h).cell 5).trans S5.o);iterate 6 (first
  |(refine xb2 rfl rfl ⟨?_,fun w1=>?_,?_⟩;rotate_left;(focus(go_simp;try rfl));simp only[Act.put,tA0,tA1,tA2])
  |(refine xb3 rfl rfl ⟨?_,fun w1 hS=>?_,?_⟩;rotate_left;(focus(have g3:=F3.o w1 hS;have g4:=F4.o w1 hS;have g5:=F5.o w1 hS;clear hS;go_simp;try rfl));simp only[Act.put,tA0,tA1,tA2]))
 obtain⟨Wd,hWd⟩:=eqx W0.drew;obtain⟨BD,AD,ZD⟩:=zh3 (show Zb w Wd by rw[hWd];exact B0.drew) (show Blk Wd w.heap.size 49 SV.toArray by rw[hWd];exact A0.o) (show Blk Wd (w.heap.size+1) 49 #[.int .u64 0,.int .u32 0,.int .i64 0,.slice none 0 0,.slice none 0 0,.slice none 0 0] by rw[hWd];exact Z0.o);rw[←hWd];clear hWd;have gl:=HS.grasn;refine xb4 rfl rfl ?_;go_simp;refine(qrk (some ⟨L.tg,0,none⟩) 16 L.tc (s.tens.flatMap tenv) Wd (A8.tens.reads.call BD.o) zdc (qvm _)).mono ?_;rintro e wa ⟨va,rfl,oa,ba⟩;obtain⟨BA,OA⟩:=zh2 ba oa;clear oa ba;refine⟨(HS9.o _).mpr (AD.below BA.o AD.lt),?_⟩;refine zP ?_;iterate 1 (refine xb2 rfl rfl ⟨?_,fun w1=>?_,?_⟩;rotate_left;(focus(go_simp;try rfl));simp only[Act.put,tA0,tA1,tA2])
 refine xb4 rfl rfl ?_;go_simp;refine(qrm (some ⟨L.gg,0,none⟩) s.gras.length L.gc (s.gras.flatMap grav) wa (A8.gras.reads.call (BD.trans (BA.mono BD.size))) zo (qvn _)).mono ?_;rintro e wb ⟨vb,rfl,ob,bb⟩;obtain⟨BB,OB,AA⟩:=zh3 bb ob (BA.trans (bb.mono BA.size));clear ob bb;refine⟨(HS9.o _).mpr (AD.below AA.o AD.lt),?_⟩;refine zP ?_;refine xb4 rfl rfl ?_;go_simp;refine(qrl (some ⟨L.rg,0,none⟩) 16 L.rc css.flatten wb (A8.tres.reads.call (BD.trans (AA.mono BD.size))) zdc (qvl A8.trs)).mono ?_;rintro e wc ⟨vc,rfl,oc,bc⟩;obtain⟨BC,OC,AB⟩:=zh3 bc oc (AA.trans (bc.mono AA.size));clear oc bc;refine⟨(HS9.o _).mpr (AD.below AB.o AD.lt),?_⟩;refine zP ?_;have c16:css.length=16:=A8.trs.1.trans HS.tresn;have c75:=A8.trs.lens (fun t ht=>(HS.tres t ht).hd);obtain⟨col2,L2,e1,e2,e3,C0⟩:=Cpy.start (w0:=w) (lo:=Wd.heap.size) HS.o c16 c75 (qr8 (qr8 OA.o BB.o) BC.o) (qde OC.o AA.size) (qde (qr8 OB.o BC.o) BA.size) BD.size AB.size (BD.trans (AB.mono BD.size));subst e1 e2 e3;obtain⟨CC,AC,ZC⟩:=zh3 C0 (AD.below AB.o AD.lt) (ZD.below AB.o ZD.lt);clear C0 c16 c75 gl;have q3:=AC.frozen 3;have q4:=AC.frozen 4;have q5:=AC.frozen 5;have u3:=(AC.cell 3).trans S3.o;have u4:=(AC.cell 4).trans S4.o;have u5:=(AC.cell 5).trans S5.o;refine xb4 rfl rfl ?_;go_simp;refine zP ?_;iterate 1 (refine xb2 rfl rfl ⟨?_,fun w1=>?_,?_⟩;rotate_left;(focus(go_simp;try rfl));simp only[Act.put,tA0,tA1,tA2])
 refine xb4 rfl rfl ?_;go_simp;refine zP ?_;iterate 1 (refine xb2 rfl rfl ⟨?_,fun w1=>?_,?_⟩;rotate_left;(focus(go_simp;try rfl));simp only[Act.put,tA0,tA1,tA2])
 refine xb4 rfl rfl ?_;go_simp;refine zP ?_;refine xb1 ?_;obtain⟨W3,hW3⟩:=eqx (((wc.setCell ⟨w.heap.size,3,none⟩ (.slice (some ⟨L2.tg,0,none⟩) 16 L2.tc)).setCell ⟨w.heap.size,5,none⟩ (.slice (some ⟨L2.gg,0,none⟩) s.gras.length L2.gc)).setCell ⟨w.heap.size,4,none⟩ (.slice (some ⟨L2.rg,0,none⟩) 16 L2.rc));rw[←hW3];obtain⟨A2,hSV2⟩:=xeq (stav s L2);have a3:Blk W3 w.heap.size 49 A2.toArray:=by
  have h:=((AC.set_ 3 (.slice (some ⟨L2.tg,0,none⟩) 16 L2.tc)).set_ 5 (.slice (some ⟨L2.gg,0,none⟩) s.gras.length L2.gc)).set_ 4 (.slice (some ⟨L2.rg,0,none⟩) 16 L2.rc);rw[←hW3,←AL.o]at h;rw[←hSV2];exact h
 have g1:=qab (tB9 wc (some w.heap.size)) (p:=⟨w.heap.size,3,none⟩) (.inl rfl) (.slice (some ⟨L2.tg,0,none⟩) 16 L2.tc);have g2:=qab g1 (p:=⟨w.heap.size,5,none⟩) (.inl rfl) (.slice (some ⟨L2.gg,0,none⟩) s.gras.length L2.gc);have g3:=qab g2 (p:=⟨w.heap.size,4,none⟩) (.inl rfl) (.slice (some ⟨L2.rg,0,none⟩) 16 L2.rc);rw[←hW3]at g3;obtain⟨C3,Z3,A3,A9,AJ⟩:=zh5 (CC.box g3 (tA4 _) (by have:=AD.lt;omega)) (ZC.grown g3 (by intro e;injection e with e;omega)) a3 hSV2 (show A2.toArray[4]? =some (.slice (some ⟨L2.rg,0,none⟩) 16 L2.rc) by rw[←hSV2];rfl);obtain⟨lo,hlo⟩:=xeq Wd.heap.size;rw[hlo]at C3;have AE:=zh1 (show w.heap.size+1<lo by rw[←hlo];exact ZD.lt);have u4':=(a3.cell 4).trans AJ.o;clear hW3 a3 g1 g2 g3 hSV2 hlo q3 q4 q5 u3 u4 u5 HS9 F3 F4 F5;go_wp2_with fail
 clear u4';go_loopw [21] (fun i wr=>∃j:Nat,j≤16∧i=.int .i64 j∧Hid (∃col' cssj,Cpy w lo wr col' L2 css cssj j s)∧Hid (Blk wr w.heap.size 49 A2.toArray)∧Hid (Blk wr (w.heap.size+1) 49 #[.int .u64 0,.int .u32 0,.int .i64 0,.slice none 0 0,.slice none 0 0,.slice none 0 0])) (fun i _=>16 - (intOf i).toNat)
 case atStart=>exact⟨0,by omega,rfl,zh1 ⟨_,_,C3.o⟩,A3,Z3⟩
 case round=>
  obtain⟨j,hj,rfl,hc,ha,hz⟩:=hrel;by_cases hjn:j<16
  ·
   have qj:(j:Int)<16:=zo;have qj0:(0:Int)≤j:=zo;obtain⟨colj,cssj,cj⟩:=hc.o;obtain⟨t,ht⟩:∃t,s.tres[j]? =some t:=⟨_,tA7 (by rw[HS.tresn];exact hjn)⟩;obtain⟨-,Ad,cd,Al,cl,Aq,cq,hcs,-,hrd,hrl,hrq⟩:=A8.tree HS.o ht;have hto:=HS.tre ht;have hcj:=(cj.rest j (tA4 _)).trans hcs;have cell:∀i u,i<75→(trev t (.slice Ad t.draws.length cd) (.slice Al t.leaves.length cl) (.slice Aq t.queue.length cq))[i]? =some u→wr.cell? ⟨L2.rg,j*75+i,none⟩=some u:=fun i u hi hu=>cj.tres.cell ((qng cj.lens hcj hi).trans hu)
   have x4:=cell 4 _ zo rfl;have x5:=cell 5 _ zo rfl;have x6:=cell 6 _ zo rfl;obtain⟨A',c',ev,hdc,hdm,hDR,-⟩:=hrd.sl;injection ev with ev1 _ ev3;subst ev1 ev3;obtain⟨A',c',ev,hlc,hlm,hLR⟩:=hrl.reads;injection ev with ev1 _ ev3;subst ev1 ev3;obtain⟨A',c',ev,hqc,hqm,hQR⟩:=hrq.reads;injection ev with ev1 _ ev3;subst ev1 ev3;obtain⟨nd,hnd⟩:=xeq t.draws.length;obtain⟨nl,hnl⟩:=xeq t.leaves.length;obtain⟨nq,hnq⟩:=xeq t.queue.length;have b1:=hto.draws;have b2:=hto.leaves;have b3:=hto.queue;rw[hnd]at x4 hDR b1;rw[hnl]at x5 hLR b2;rw[hnq]at x6 hQR b2 b3;have a4:=(ha.cell 4).trans AJ.o;obtain⟨A1,AN,AK,AO,AP,AW,AX,AQ⟩:=zh8 cj ht hto hcs hnd hnl hnq hDR;obtain⟨AR,AS,BN,X4,X5,X6⟩:=zh6 hLR hQR (show nd≤32∧nl≤1024∧nq≤64 by omega) x4 x5 x6;clear cj ht hto hcs hcj cell hnd hnl hnq hDR hLR hQR b1 b2 b3 hrd hrl hrq hdc hdm hlc hlm hqc hqm x4 x5 x6 hc;go_upto_region 7 with(fail)
   clear a4;obtain⟨S,HS9⟩:=zS fun w'=>w'.cell? ⟨L2.rg,j*75+4,none⟩=some (.slice Ad nd cd)∧w'.cell? ⟨L2.rg,j*75+5,none⟩=some (.slice Al nl cl)∧w'.cell? ⟨L2.rg,j*75+6,none⟩=some (.slice Aq nq cq)
   refine xb0 S [0,1,2,3,4,5,6,7,8,9,10,11,12,13,14,15,16,17,18,19,20,21,23,24,26,27] [(0,none),(1,none),(2,none),(3,none),(4,none),(5,none),(6,some false),(8,none),(9,none),(10,none),(11,none),(12,some false),(14,none),(15,none),(16,none),(17,none),(18,some false),(7,some true),(13,some true),(19,some true),(20,none),(21,none),(22,some true),(23,none),(24,none),(25,some true),(26,none),(27,none),(28,some true)] zk rfl zk zk (fun _ _ d _ _ h=>by cases d<;>exact h) ((HS9.o _).mpr (⟨X4.o,X5.o,X6.o⟩)) ?_;have F4:=zh1 (fun(w':World)(h:S w')=>(HS9.o w').mp h);iterate 17 (first
    |(refine xb2 rfl rfl ⟨?_,fun w1=>?_,?_⟩;rotate_left;(focus(go_simp;try rfl));simp only[Act.put,tA0,tA1,tA2])
    |(refine xb3 rfl rfl ⟨?_,fun w1 hS=>?_,?_⟩;rotate_left;(focus(have g4:=(F4.o w1 hS).1;have g5:=(F4.o w1 hS).2.1;have g6:=(F4.o w1 hS).2.2;clear hS;go_simp;try rfl));simp only[Act.put,tA0,tA1,tA2]))
   obtain⟨Wr,hWr,BR⟩:=zdr wr;rw[←hWr];clear hWr;obtain⟨keepS,AF⟩:=zh2 (fun(w':World)(hb:Zb wr w')=>(HS9.o w').mpr ⟨qai X4.o hb,qai X5.o hb,qai X6.o hb⟩) (A1.below.trans (BR.mono A1.below.size));refine xb4 rfl rfl ?_;go_simp;refine(qri Ad nd cd (drwv t.draws) Wr (AQ.call AF.o) (by have:=BN.o;omega) (by intro u hu;obtain⟨n,-,rfl⟩:=List.mem_map.1 hu;rfl)).mono ?_;rintro e w4 ⟨v4,rfl,o4,b4⟩;obtain⟨A4,c4,rfl,-,-,-⟩:=qaf o4;obtain⟨O4,B4,AG,B4'⟩:=zh4 o4 (BR.trans (b4.mono BR.size)) (AF.trans (b4.mono AF.size)) b4;clear o4 b4;refine⟨keepS.o _ B4.o,?_⟩;refine zP ?_;refine xb4 rfl rfl ?_;go_simp;refine(xb8 Al nl cl t.leaves w4 (AR.call AG.o) (by have:=BN.o;omega) (fun b hb=>(AK.leafb b hb).1)).mono ?_;rintro e w5 ⟨v5,rfl,o5,b5⟩;obtain⟨A5,n5,c5,rfl⟩:∃A n c,v5=.slice A n c:=by obtain⟨_,h,_⟩:=o5;obtain⟨A,c,h,_⟩:=qaf h;exact⟨A,_,c,h⟩
   obtain⟨O5,B5,AH,B5'⟩:=zh4 o5 (B4.trans (b5.mono B4.size)) (AG.trans (b5.mono AG.size)) b5;clear o5 b5;refine⟨keepS.o _ B5.o,?_⟩;refine zP ?_;refine xb4 rfl rfl ?_;go_simp;refine(xb8 Aq nq cq t.queue w5 (AS.call AH.o) (by have:=BN.o;omega) (fun b hb=>(AK.queueb b hb).1)).mono ?_;rintro e w6 ⟨v6,rfl,o6,b6⟩;obtain⟨A6,n6,c6,rfl⟩:∃A n c,v6=.slice A n c:=by obtain⟨_,h,_⟩:=o6;obtain⟨A,c,h,_⟩:=qaf h;exact⟨A,_,c,h⟩
   obtain⟨O6,B6,AY,B6'⟩:=zh4 o6 (B5.trans (b6.mono B5.size)) (AH.trans (b6.mono AH.size)) b6;clear o6 b6;refine⟨keepS.o _ B6.o,?_⟩;refine zP ?_;have y4:=qai X4.o B6.o;have y5:=qai X5.o B6.o;have y6:=qai X6.o B6.o;have f4:=(A1.call B6.o).tres.frozen (j*75+4);have f5:=(A1.call B6.o).tres.frozen (j*75+5);have f6:=(A1.call B6.o).tres.frozen (j*75+6);iterate 2 (refine xb2 rfl rfl ⟨?_,fun w1=>?_,?_⟩;rotate_left;(focus(go_simp;try rfl));simp only[Act.put,tA0,tA1,tA2])
   refine xb4 rfl rfl ?_;go_simp;refine zP ?_;iterate 2 (refine xb2 rfl rfl ⟨?_,fun w1=>?_,?_⟩;rotate_left;(focus(go_simp;try rfl));simp only[Act.put,tA0,tA1,tA2])
   refine xb4 rfl rfl ?_;go_simp;refine zP ?_;iterate 2 (refine xb2 rfl rfl ⟨?_,fun w1=>?_,?_⟩;rotate_left;(focus(go_simp;try rfl));simp only[Act.put,tA0,tA1,tA2])
   refine xb4 rfl rfl ?_;go_simp;refine zP ?_;refine xb1 ?_;clear HS9 F4 keepS y4 y5 y6 f4 f5 f6;obtain⟨W7,hW7⟩:=eqx (((w6.setCell ⟨L2.rg,j*75+4,none⟩ (.slice A4 nd c4)).setCell ⟨L2.rg,j*75+5,none⟩ (.slice A5 n5 c5)).setCell ⟨L2.rg,j*75+6,none⟩ (.slice A6 n6 c6));rw[←hW7];have hW7':W7=w6.setCells L2.rg (j*75+4) [.slice A4 nd c4,.slice A5 n5 c5,.slice A6 n6 c6]:=by rw[hW7];rfl
   have cs7:∃col' cssj',Cpy w lo W7 col' L2 css cssj' (j+1) s:=by
    obtain⟨col',h⟩:=(A1.call BR.o).step AN.o HS.tresn AO.o (by rw[AP.o];exact O4.o) B4'.o O5.o B5'.o O6.o B6'.o;rw[←hW7']at h;exact⟨col',_,h⟩
   have g7:w6.grownBy W7 (some L2.rg):=by rw[hW7'];exact qn9 _ _ _ _
   have lrg:lo≤L2.rg:=(A1.new _ (by rw[A1.tres.1];decide)).1;have a7:=(ha.below B6.o ha.lt).grown g7 (by intro e;injection e with e;have:=AE.o;omega);have z7:=(hz.below B6.o hz.lt).grown g7 (by intro e;injection e with e;have:=AE.o;omega);obtain⟨AT,A7,Z7⟩:=zh3 cs7 a7 z7;clear hW7 hW7' cs7 g7 lrg a7 z7;go_wp2
   go_roundw
   case rel=>exact⟨j+1,by omega,by go_num,AT,A7,Z7⟩
   case measure=>simp[intOf];omega
  have qj:¬(j:Int)<16:=zo;obtain rfl:j=16:=zo;obtain⟨colj,cssj,cj⟩:=hc.o;have A1:=zh1 cj;have l2:A2.length=6:=by rw[←A9.o];rfl
  have o2:∀u∈A2,u.oneCell'=true:=by rw[←A9.o];exact qvp s L2
  obtain⟨AI,L2',O2',RA⟩:=zh4 (zI 49 l2) l2 o2 (qap ha.o 0 A2 zjq);clear l2 o2 cj hc;go_wp2_with (first
   |(refine zld RA.o zu49 AI.o ?_)
   |(refine zst hz.o AI.o (by simp[L2'.o]) O2'.o ?_))
  have z9:=hz.setRow A2.toArray;have AU:=qap z9 0 A2 zjq;have g9:=qam wr (w.heap.size+1) A2.toArray;have c9:=A1.box g9 zo AE.o;refine zrt AU zu49 AI.o ⟨colj,L2,by rw[A9.o],⟨cssj,c9.stAt HS.tresn⟩,fun b hb=>?_,c9.below⟩;have h1:=c9.new b hb;have h2:=c9.low.1;omega
theorem xba(c:Cfg)(s:Sta)(L:Loc)(col:Col)(g:Nat)(css:List (List Value))(w:World)(hs:s.Ok)(h:Mdl w col 2 g c s L css):
 Zc 16 #[.pointer (some ⟨g,0,none⟩)] w fun e w'=>∃col' L' css',e=.returned (.agg (stav s L').toArray)∧StAt 92 74 66 w' col' 2 L' css' s∧(∀b,col' b≠0→w.heap.size≤b∧b<w'.heap.size)∧Zb w w':=by
 obtain⟨W0,hW0⟩:=eqx (w.alloc (.cells #[.int .u64 0,.int .u32 0,.int .i64 0,.slice none 0 0,.slice none 0 0,.slice none 0 0] 49));have z0:=zNa hW0;have b0:=zMa hW0;have h0:=h.call b0;have CC:=xb9 s L col 2 css W0 hs h0.st;have rs:W0.rangeAt g 4 (stav s L):=h0.stRange;obtain⟨SV,hSV⟩:=xeq (stav s L);have lSV:SV.length=6:=by rw[←hSV];rfl
 rw[hSV]at CC rs;obtain⟨A4,A5,RS,Z0,B0,A6,A2⟩:=zh7 (zI 49 lSV) CC rs z0 b0 hW0 (show W0.heap.size=w.heap.size+1 by rw[hW0,qar]);clear CC rs hSV lSV z0 b0 hW0 h0 h hs;go_enter Tryz.func16,Tryz.ntmps16
 go_upto_region 1 with(fail)
 rw[←A6.o];go_wp2_with (refine zld RS.o zu49 A4.o ?_)
 refine A5.o.mono ?_;rintro e w1 ⟨col',L',css',rfl,st,nw,b1⟩;obtain⟨A0,hSV2⟩:=xeq (stav s L');have l2:A0.length=6:=by rw[←hSV2];rfl
 have o2:∀u∈A0,u.oneCell'=true:=by rw[←hSV2];exact qvp s L'
 rw[hSV2];obtain⟨A3,L2',O2',ST,NW,B1,A1,Z1⟩:=zh8 (zI 49 l2) l2 o2 st nw b1 hSV2 (Z0.below b1 Z0.lt);clear l2 o2 st nw b1 hSV2;go_wp2_with (refine zst Z1.o A3.o (by simp[L2'.o]) O2'.o ?_)
 have z9:=Z1.setRow A0.toArray;have A7:=qap z9 0 A0 zjq;have g9:=qam w1 w.heap.size A0.toArray;have h9:Turns (· ==0) w1 col' (w1.setRow w.heap.size A0.toArray) col':=Turns.of_grown g9 (fun k e=>by
  injection e with e;by_cases h0:col' k=0
  · rw[h0];rfl
  have:=(NW.o k h0).1;have:=A2.o;omega) (fun _ _=>rfl)
 refine zrt A7 zu49 A3.o ⟨col',L',css',by rw[A1.o],?_,fun b hb=>?_,?_⟩
 · exact ST.keep (h9.keeps rfl) (h9.keeps rfl) (h9.keeps rfl) (fun k hk=>h9.keeps (by simp;omega))
 · have h1:=NW.o b hb
   have h2:=A2.o;have h3:=g9.size;omega
 exact below_setRow (B0.trans (B1.mono B0.size)) (tA4 _) _
theorem xbb(s:Sta)(L:Loc)(w:World):(Instr.field 49 (.agg (stav s L).toArray) 4).run Tryz.prog w=.ok (.slice (some ⟨L.rg,0,none⟩) 16 L.rc) w:=by kernel_rfl
theorem xbc(h:Sit W B w col g gw tb c s):
 Zc 16 #[.pointer (some ⟨g,0,none⟩)] w fun e w'=>∃col2 L' css',e=.returned (.agg (stav s L').toArray)∧StAt 92 74 66 w' col2 2 L' css' s∧(∀b,col2 b≠0→w.heap.size≤b∧b<w'.heap.size)∧Zb w w'∧Sit W B w' col g gw tb c s:=by
 obtain⟨L,css,h2⟩:=h.mdl;refine(xba c s L col g css w h.ok h2).mono ?_;rintro e w' ⟨col2,L',css',rfl,h3,h4,h5⟩;exact⟨col2,L',css',rfl,h3,h4,h5,h.call h5⟩
theorem xbd:doS KC K5 (byR KC 1 qv7)=(K6,(doS KC K5 (byR KC 1 qv7)).2):=Prod.ext qvd.1 rfl
theorem xbe(W:World)(hT:Tabs W)(hE:ErrT W):Zc 18 #[] W fun e w'=>e=.returned (.bool true)∧Zb W w':=by
 have CB:=xb7 W hT hE;have AI:=zh1 CB;clear hT hE CB;go_enter Tryz.func18,Tryz.ntmps18
 go_wp2_with fail
 refine AI.o.mono ?_;rintro e w0 ⟨g,gw,tb,B,col0,rfl,s0⟩;have S0:=zh1 s0;clear s0;go_upto_region 4 with(fail)
 have cv4:=Lib.run_convert_bytes_const (P:=Tryz.prog) w0 23 5 #[.int .u8 97] 1 1 Tryz.underlying23 Tryz.underlying5;obtain⟨Q4,hQ4⟩:=xeq (reqv kAdd (.slice none 0 0) (.slice (some ⟨w0.heap.size,0,none⟩) 1 1));have AJ:=zh1 (show Tryz.prog.built 34 [(0,.int .i64 1),(2,.int .i64 1),(14,.slice (some ⟨w0.heap.size,0,none⟩) 1 1)]=some Q4.toArray by rw[←hQ4];kernel_rfl);have sl4:=S0.alloc (.cells #[.int .u8 97] 5 (1,2));have A0:=xa0 sl4 KC_ok 1 1 rfl zdc kAdd zdc (.slice none 0 0) (.slice (some ⟨w0.heap.size,0,none⟩) 1 1) rfl rfl;rw[hQ4]at A0;have rl4:Reads (w0.alloc (.cells #[.int .u8 97] 5 (1,2))) (w0.alloc (.cells #[.int .u8 97] 5 (1,2))).heap.size 1 (some ⟨w0.heap.size,0,none⟩) 1 (byv [97]):=xaq w0 97 (1,2);have z04:=S0.new0 (b:=w0.heap.size) (tA4 _);obtain⟨y4,hy4⟩:=eqx (w0.alloc (.cells #[.int .u8 97] 5 (1,2)));have by4:=(tA5 w0.heap.size w0).alloc (tA4 _) (.cells #[.int .u8 97] 5 (1,2));rw[←hy4]at A0 rl4 by4;obtain⟨A1,AK,AL,AC,AM⟩:=zh5 A0 rl4 hy4 by4 z04;clear A0 hQ4 sl4 rl4 hy4 by4 z04;go_wp2_with (refine qbj rfl ⟨.agg Q4.toArray,qgq 34 _ rfl _ _ AJ.o (by simp[Act.eval,Act.put]),?_⟩)
 rw[←AL.o];refine A1.o.mono ?_;rintro e w4 ⟨rfl,s4,b4⟩;have A2:=xa1 s4 KC_ok 1 kAdd (some ⟨w0.heap.size,0,none⟩) 1 1 rfl qvc (xb5 zdc (by exact xb6 _ zdc)) (AK.call b4) (tA4 _) (by simp[maxLen]) (fun _ ad e=>by injection e with e;subst e;exact AM.o);obtain⟨P4,hP4⟩:=xeq (reqv (byR KC 1 kAdd) (.slice none 0 0) (.slice (some ⟨w0.heap.size,0,none⟩) 1 1));rw[hP4]at A2 ⊢;have AN:=zh1 (AC.trans (b4.mono AC.size));clear cv4;obtain⟨A3,S4⟩:=zh2 A2 s4;clear A2 hP4 s4 b4;go_wp2_with fail
 refine A3.o.mono ?_;rintro e v4 ⟨X4,col4,rfl,hX4,t4,r4⟩;have pk4:=hX4.pk;obtain⟨AD,R4,AE,N4⟩:=zh4 hX4 r4 (qzz t4 X4) (Blk.new v4 57 Tryz.zeroCells57);clear hX4 t4 r4;go_upto_region 5 with(refine qqn _ _ _ X4 N4.o pk4 ?_)
 obtain⟨W4,G4,hW4,hG4,U4,AO,AP⟩:=AE.o;rw[hW4,hG4];clear hW4 hG4 AE N4 pk4;have B2:=zh1 (((Rest.of_below AN.o).trans R4.o).trans (Rest.of_below AP.o));go_wp2_with fail
 refine(qzv U4.o KC_ok).mono ?_;rintro e w5 ⟨rfl,col5,s5,r5⟩;rw[show seqS KC K4=K5 from rfl]at s5;obtain⟨S5,AQ⟩:=zh2 s5 r5;clear s5 r5;go_upto_region 6 with(fail)
 obtain⟨Q6,hQ6⟩:=xeq (reqv qv7 (.slice none 0 0) (.slice none 0 0));have AR:=zh1 (show Tryz.prog.built 34 [(0,.int .i64 2),(2,.int .i64 1)]=some Q6.toArray by rw[←hQ6];kernel_rfl);have A4:=xa0 S5.o KC_ok 1 1 rfl zdc qv7 zdc (.slice none 0 0) (.slice none 0 0) rfl rfl;rw[hQ6]at A4;have A5:=zh1 A4;clear A4 hQ6;go_wp2_with (refine qbj rfl ⟨.agg Q6.toArray,qgq 34 _ rfl _ _ AR.o (by simp[Act.eval]),?_⟩)
 refine A5.o.mono ?_;rintro e w6 ⟨rfl,s6,b6⟩;have A6:=xa1 s6 KC_ok 1 qv7 none 0 0 rfl xbd (xb5 zdc (by exact xb6 _ zdc)) ⟨rfl,fun h=>absurd h zdc⟩ (tA4 _) (by simp[maxLen]) (fun h=>absurd h zdc);obtain⟨P6,hP6⟩:=xeq (reqv (byR KC 1 qv7) (.slice none 0 0) (.slice none 0 0));rw[hP6]at A6 ⊢;obtain⟨A7,S6,AS⟩:=zh3 A6 s6 b6;clear A6 hP6 s6 b6;go_wp2_with fail
 refine A7.o.mono ?_;rintro e v6 ⟨X6,col6,rfl,hX6,t6,r6⟩;have pk6:=hX6.pk;obtain⟨AT,R6,AF,N6⟩:=zh4 hX6 r6 (qzz t6 X6) (Blk.new v6 57 Tryz.zeroCells57);clear hX6 t6 r6;go_upto_region 7 with(refine qqn _ _ _ X6 N6.o pk6 ?_)
 obtain⟨W6,G6,hW6,hG6,U6,AU,AV⟩:=AF.o;rw[hW6,hG6];clear hW6 hG6 AF N6 pk6;have AW:=zh1 (((Rest.of_below AS.o).trans R6.o).trans (Rest.of_below AV.o));obtain⟨Q7,hQ7⟩:=xeq (reqv qv8 (.slice none 0 0) (.slice none 0 0));have AX:=zh1 (show Tryz.prog.built 34 [(0,.int .i64 6),(2,.int .i64 3),(3,.int .i64 1),(6,.int .i64 1)]=some Q7.toArray by rw[←hQ7];kernel_rfl);have A8:=xa0 U6.o KC_ok 1 1 rfl zdc qv8 zdc (.slice none 0 0) (.slice none 0 0) rfl rfl;rw[hQ7]at A8;have A9:=zh1 A8;clear A8 hQ7;go_wp2_with (refine qbj rfl ⟨.agg Q7.toArray,qgq 34 _ rfl _ _ AX.o (by simp[Act.eval]),?_⟩)
 refine A9.o.mono ?_;rintro e w7 ⟨rfl,s7,b7⟩;have AA:=xa1 s7 KC_ok 1 qv8 none 0 0 rfl qve (xb5 zdc (by exact xb6 _ zdc)) ⟨rfl,fun h=>absurd h zdc⟩ (tA4 _) (by simp[maxLen]) (fun h=>absurd h zdc);obtain⟨P7,hP7⟩:=xeq (reqv (byR KC 1 qv8) (.slice none 0 0) (.slice none 0 0));rw[hP7]at AA ⊢;obtain⟨AB,S7,AY⟩:=zh3 AA s7 b7;clear AA hP7 s7 b7;go_wp2_with fail
 refine AB.o.mono ?_;rintro e v7 ⟨X7,col7,rfl,hX7,t7,r7⟩;have pk7:=hX7.pk;obtain⟨AZ,R7,AG,N7⟩:=zh4 hX7 r7 (qzz t7 X7) (Blk.new v7 57 Tryz.zeroCells57);clear hX7 t7 r7;go_upto_region 8 with(refine qqn _ _ _ X7 N7.o pk7 ?_)
 obtain⟨W7,G7,hW7,hG7,U7,B0,B1⟩:=AG.o;rw[hW7,hG7];clear hW7 hG7 AG N7 pk7;have AH:=zh1 (((Rest.of_below AY.o).trans R7.o).trans (Rest.of_below B1.o));have x4:=((AO.rest AQ.o).rest AW.o).rest AH.o;have x6:=AU.rest AH.o;have x7:=B0.o;have a0:=(x4.blk.cell 0).trans (show X4.toArray[0]? =some (.int .i64 0) by rw[tA3];exact AD.why);have a1:=(x4.blk.cell 1).trans (show X4.toArray[1]? =some (.int .u64 0) by rw[tA3];exact AD.n);have b6:=(x6.blk.cell 6).trans (show X6.toArray[6]? =some (.int .u64 1) by rw[tA3];exact AT.size.trans (by rw[qvd.2];rfl));have c0:=(x7.blk.cell 0).trans (show X7.toArray[0]? =some (.int .i64 21) by rw[tA3];exact AZ.why);clear x4 x6 x7;go_wp2_with fail
 refine(xbc U7.o).mono ?_;rintro e w8 ⟨col2,L',css',rfl,st,nw,b8,s8⟩;obtain⟨t,ht,hl⟩:=qvf;obtain⟨-,Ad,cd,Al,cl,Aq,cq,-,hcell,-⟩:=st.tree s8.ok ht;have c5:=hcell 5 _ rfl;rw[hl]at c5;have hf:=xbb K6 L' w8;obtain⟨SV,hSV⟩:=xeq (stav K6 L');rw[hSV]at hf ⊢;have BW:=zh1 (s8.below);rw[show 0*75+5=5 from rfl]at c5;clear st nw s8 b8 hcell ht hl hSV a0 a1 b6 c0;go_wp2
 go_ret
 exact⟨rfl,BW.o⟩
theorem xbf{c:Nat}(h:OwnB w base (.slice A n c) bs)(hk:k≤bs.length):OwnB w base (.slice A k c) (bs.take k):=by
 have hn:n=bs.length:=by
  rcases h.2 with⟨e,h0⟩|⟨g,cap,cur,e,_⟩
  · injection e with e1 e2;omega
  injection e with e1 e2
 unfold OwnB;rw[tBd,Nat.min_eq_left hk];refine⟨by rw[qat,tBd];omega,?_⟩;rcases h.2 with⟨e,h0⟩|⟨g,cap,cur,e,hb,hh,hnc,hc,hsz,ht⟩
 · injection e with e1 e2 e3
   subst e1 e3;exact .inl ⟨by rw[show k=0 by omega],by omega⟩
 injection e with e1 e2 e3;subst e1 e3;refine .inr ⟨g,c,cur,rfl,hb,hh,by omega,hc,hsz,?_⟩;rw[Nat.mul_one]at ht ⊢;have:(byv bs).take k=byv (bs.take k):=by simp[byv,List.map_take]
 rw[←this,←ht,List.take_take,Nat.min_eq_left hk]
theorem xbg(x y:Int)(st:Nat)(A:Option Addr)(n k:Nat)(bs:List Nat)(w:World)(hr:Reads w w.heap.size 1 A n (byv bs))(hx: -9223372036854775808≤x∧x≤9223372036854775807)(hy: -9223372036854775808≤y∧y≤9223372036854775807)(hst:st<4294967296)(hnk:n≤k)(hn:n≤140737488351232):
 Zc 12 #[.agg #[.int .i64 x,.int .i64 y,.int .u32 (st:Int),.slice A n k]] w fun e w'=>∃v,e=.returned (.agg #[.int .i64 (1+within (wrap64 (x - 1)) 0 31),.int .i64 (1+within (wrap64 (y - 1)) 0 1),.int .u32 ((st % 32769:Nat):Int),v])∧OwnB w' w.heap.size v (bs.take 64)∧Zb w w':=by
 have HR:=zh1 hr;have r0:((st:Int)).tmod 32769=((st % 32769:Nat):Int):=by rw[Int.tmod_eq_emod_of_nonneg zo];simp
 clear hr;go_enter Tryz.func12,Tryz.ntmps12
 go_upto_region 1 with(fail)
 obtain⟨W1,hW1⟩:=eqx ((w.alloc (.cells #[.int .i64 x,.int .i64 y,.int .u32 (st:Int),.slice A n k] 25)).alloc (.cells #[.int .i64 0,.int .i64 0,.int .u32 0,.slice none 0 0] 25));rw[←hW1];have z1:=zNb hW1;obtain⟨Z2,B1,Z1⟩:=zh3 (show Blk W1 (w.heap.size+1) 25 #[.int .i64 0,.int .i64 0,.int .u32 0,.slice none 0 0] by rw[hW1,←qar w (.cells #[.int .i64 x,.int .i64 y,.int .u32 (st:Int),.slice A n k] 25)];exact Blk.new _ _ _) (show Zb w W1 by rw[hW1];exact((tA5 _ _).alloc (tA4 _) _).alloc zm _) z1;clear hW1 z1;have wx: -9223372036854775808≤wrap64 (x - 1)∧wrap64 (x - 1)≤9223372036854775807:=by unfold wrap64;omega
 have wy: -9223372036854775808≤wrap64 (y - 1)∧wrap64 (y - 1)≤9223372036854775807:=by unfold wrap64;omega
 obtain⟨x',hx'⟩:=xeq (wrap64 (x - 1));obtain⟨y',hy'⟩:=xeq (wrap64 (y - 1));obtain⟨m,hm⟩:=xeq (st % 32769);rw[hx']at wx;rw[hy']at wy;rw[hm]at r0;obtain⟨HBa,HBb⟩:=zh2 (fun w'=>ql1 x' 0 31 w' wx.1 wx.2 zo zo zo) (fun w'=>ql1 y' 0 1 w' wy.1 wy.2 zo zo zo);obtain⟨a,ha⟩:=xeq (within x' 0 31);obtain⟨b,hb⟩:=xeq (within y' 0 1);have ba:=ql2 x' 0 31 zo;have bb:=ql2 y' 0 1 zo;rw[ha]at HBa ba;rw[hb]at HBb bb;have m0:m<32769:=zo;obtain⟨a0,a1⟩:=ba;obtain⟨b0,b1⟩:=bb;obtain⟨A9,AA,A1,AB,A0⟩:=zh5 hx' hy' hm ha hb;have ex:IntKind.i64.wrap (x - 1)=x':=by rw[←hx',IntKind.wrap_i64];unfold wrap64;rfl
 have ey:IntKind.i64.wrap (y - 1)=y':=by rw[←hy',IntKind.wrap_i64];unfold wrap64;rfl
 clear hm ha hb wx wy hx' hy';obtain⟨S,HS9⟩:=zS fun w'=>Zb W1 w'
 refine qjn S 15 [7,8,12,13,17,3] [(0,false),(1,false),(2,false),(5,false),(6,false),(7,false),(10,false),(11,false),(12,false)] 6 (.two 3 (.read 4 (.two 8 (.read 9 (.read 13 (.one 14 .done))) 14 (.one 8 (.read 9 (.read 13 .done))))) 14 (.one 3 (.read 4 (.one 8 (.read 9 (.read 13 .done)))))) [(15,true)] #[true,true,true,false,false,true,true,true,false,false,true,true,true,false,false,false] #[true,true,true,true,true,true,true,true,true,true,true,true,true,true,true,false] zk rfl zk zk zk zk zk (fun _ _ d _ _ h=>by cases d<;>exact h) ((HS9.o _).mpr ((tA5 _ _).drew)) ?_;have F0:=zh1 (fun(w':World)(h:S w')=>Z1.below ((HS9.o w').mp h) Z1.lt);iterate 9 (refine qju rfl rfl ⟨?_,fun w1 hS=>?_,?_⟩;rotate_left;(focus(have g0:=(F0.o w1 hS).cell 0;have g1:=(F0.o w1 hS).cell 1;have g2:=(F0.o w1 hS).cell 2;simp only[tA3,List.getElem?_cons_zero,tBc]at g0 g1 g2;clear hS;go_simp;try rfl));simp only[Act.put,tA0,tA1,tA2])
 refine qjt ?_;obtain⟨Wd,hWd,BD⟩:=zdr W1;rw[←hWd];clear hWd;refine⟨fun vs w'=>∃g9,vs=[.int .i64 a,.int .i64 (1+a),.int .i64 b,.int .i64 (1+b),.agg #[.int .i64 (1+a),.int .i64 (1+b),.int .u32 (m:Int),.slice none 0 0],.pointer (some ⟨g9,0,none⟩)]∧Blk w' g9 25 #[.int .i64 0,.int .i64 0,.int .u32 0,.slice none 0 0]∧W1.heap.size≤g9∧Zb W1 w',?_,?_⟩
 ·
  obtain⟨w2,hw2⟩:=eqx (Wd.alloc (.cells #[.int .i64 0,.int .i64 0,.int .u32 0,.slice none 0 0] 25));obtain⟨Z3,B3,A4⟩:=zh3 (show Blk w2 Wd.heap.size 25 #[.int .i64 0,.int .i64 0,.int .u32 0,.slice none 0 0] by rw[hw2];exact Blk.new _ _ _) (show Zb W1 w2 by rw[hw2];exact BD.alloc BD.size _) hw2;clear hw2;refine qjs rfl rfl rfl rfl ?_ ?_
  ·
   go_simp;refine(HBa.o Wd).mono ?_;rintro e w9 ⟨rfl,rfl⟩;refine⟨(HS9.o _).mpr BD.o,?_⟩;refine zP ?_;iterate 1 (refine ztr ?_)
   refine qjs rfl rfl rfl rfl ?_ ?_
   ·
    go_simp;refine(HBb.o Wd).mono ?_;rintro e w9 ⟨rfl,rfl⟩;refine⟨(HS9.o _).mpr BD.o,?_⟩;refine zP ?_;iterate 2 (refine ztr ?_)
    refine qjr rfl rfl ?_;go_simp;rw[←A4.o];refine⟨(HS9.o _).mpr B3.o,qjo ⟨[_,_,_,_,_,_],rfl,Wd.heap.size,rfl,Z3.o,BD.size,B3.o⟩⟩
   go_simp;rw[←A4.o];refine⟨(HS9.o _).mpr B3.o,?_⟩;refine zP ?_;refine qjr rfl rfl ?_;go_simp;refine(HBb.o w2).mono ?_;rintro e w9 ⟨rfl,rfl⟩;refine⟨(HS9.o _).mpr B3.o,?_⟩;refine zP ?_;iterate 2 (refine ztr ?_)
   exact qjo ⟨[_,_,_,_,_,_],rfl,Wd.heap.size,rfl,Z3.o,BD.size,B3.o⟩
  go_simp;rw[←A4.o];refine⟨(HS9.o _).mpr B3.o,?_⟩;refine zP ?_;refine qjr rfl rfl ?_;go_simp;refine(HBa.o w2).mono ?_;rintro e w9 ⟨rfl,rfl⟩;refine⟨(HS9.o _).mpr B3.o,?_⟩;refine zP ?_;iterate 1 (refine ztr ?_)
  refine qjr rfl rfl ?_;go_simp;refine(HBb.o w2).mono ?_;rintro e w9 ⟨rfl,rfl⟩;refine⟨(HS9.o _).mpr B3.o,?_⟩;refine zP ?_;iterate 2 (refine ztr ?_)
  exact qjo ⟨[_,_,_,_,_,_],rfl,Wd.heap.size,rfl,Z3.o,BD.size,B3.o⟩
 rintro vs w4 - ⟨g9,rfl,z4,l4,b4⟩;simp only[puts,Act.put,tA0,tA1,tA2];refine qbi rfl rfl ?_;refine wp_store_row 25 (.tmp 3) (.tmp 17) rfl g9 #[.int .i64 (1+a),.int .i64 (1+b),.int .u32 (m:Int),.slice none 0 0] rfl rfl 25 _ z4 zk zm (by simp[Value.oneCell']) ?_;obtain⟨W5,hW5⟩:=eqx (w4.setRow g9 #[.int .i64 (1+a),.int .i64 (1+b),.int .u32 (m:Int),.slice none 0 0]);rw[←hW5];obtain⟨H5,B5,AG⟩:=zh3 (show Blk W5 g9 25 #[.int .i64 (1+a),.int .i64 (1+b),.int .u32 (m:Int),.slice none 0 0] by rw[hW5];exact z4.setRow _) (show Zb W1 W5 by rw[hW5];exact below_setRow b4 l4 _) l4;clear hW5 z4 l4 b4;refine⟨fun h=>absurd h zdc,?_⟩;refine zP ?_;refine qbf ?_;clear HS9 F0;have A5:=zh1 (B1.trans (B5.mono B1.size));obtain⟨AH,AC,AD⟩:=zh3 (HR.call A5.o) (Z1.below B5.o Z1.lt) (Z2.below B5.o Z2.lt);have e3:=(AC.cell 3).trans (show (#[.int .i64 x,.int .i64 y,.int .u32 (st:Int),.slice A n k]:Array Value)[3]? =some (.slice A n k) from rfl);obtain⟨LB,LG⟩:=zh2 (show w.heap.size≤W5.heap.size from A5.size) (show w.heap.size+1<g9 by have:=Z2.lt;have:=AG.o;omega);have lw5:=AC.lt;clear ex ey a0 a1 b0 b1 r0;go_wp2_with (at_builtin;refine qe2 rfl _ _ rfl W5.heap.size _ [] rfl (OwnB.made W5 [] (by simp[maxLen])) A n k bs rfl (AH.laid (.cells #[] 5)) (by simp;omega) zm ?_)
 intro v3 w3 hown3 hb3 hg3;obtain⟨A3,n3,c3,rfl,k3,-,r3⟩:=hown3.sl;have hl3:bs.length=n3:=by have:=qb4 r3;simpa using this
 have b53:=(((tA5 W5.heap.size W5).alloc (tA4 _) (.cells #[] 5)).trans hb3);have h3:=H5.below b53 H5.lt;obtain⟨O3,AI,AJ⟩:=zh3 (show OwnB w3 w.heap.size (.slice A3 n3 c3) bs from(OwnB.mono hown3 LB.o).cast zm) (A5.trans (b53.mono LB.o)) (AD.below b53 AD.lt);obtain⟨W6,hW6⟩:=eqx (w3.setCell ⟨g9,3,none⟩ (.slice A3 n3 c3));obtain⟨H6,O6,AE,A2,AK,AF⟩:=zh6 (show Blk W6 g9 25 [.int .i64 (1+a),.int .i64 (1+b),.int .u32 (m:Int),.slice A3 n3 c3].toArray by rw[hW6];exact h3.set_ 3 _) (show OwnB W6 w.heap.size (.slice A3 n3 c3) bs by rw[hW6];exact OwnB.far O3.o (p:=⟨g9,3,none⟩) (qa3 O3.o h3 zdc) _) (show Zb w W6 by rw[hW6];exact AI.setCell (p:=⟨g9,3,none⟩) (by have:=LG.o;simp;omega) _) (show Blk W6 (w.heap.size+1) 25 #[.int .i64 0,.int .i64 0,.int .u32 0,.slice none 0 0] by rw[hW6];exact AJ.far (p:=⟨g9,3,none⟩) (by have:=LG.o;simp;omega) _) hW6 hl3;have f3:=h3.frozen 3;have c33:=h3.cell 3;clear lw5 hW6 hown3 hb3 hg3 r3 hl3 e3 b53 h3;go_upto_region 3 with(fail)
 rw[←AK.o];clear f3 c33;have e6:=(H6.cell 3).trans (show ([.int .i64 (1+a),.int .i64 (1+b),.int .u32 (m:Int),.slice A3 n3 c3].toArray:Array Value)[3]? =some (.slice A3 n3 c3) from rfl);have f6:=H6.frozen 3;by_cases h64:n3≤64
 ·
  have q:¬(n3:Int)>64:=zo;have O7:=zh1 (show OwnB W6 w.heap.size (.slice A3 n3 c3) (bs.take 64) by rw[tB5 (by rw[AF.o];exact h64)];exact O6.o);clear e6 f6;have e6:=(H6.cell 3).trans (show ([.int .i64 (1+a),.int .i64 (1+b),.int .u32 (m:Int),.slice A3 n3 c3].toArray:Array Value)[3]? =some (.slice A3 n3 c3) from rfl);obtain⟨A6,OL⟩:=zh2 (qap H6.o 0 [.int .i64 (1+a),.int .i64 (1+b),.int .u32 (m:Int),.slice A3 n3 c3] zjq) (show ∀u∈([.int .i64 (1+a),.int .i64 (1+b),.int .u32 (m:Int),.slice A3 n3 c3]:List Value),u.oneCell'=true by intro u hu;simp at hu;rcases hu with rfl|rfl|rfl|rfl<;>rfl);go_wp2_with (first
   |(refine qaq rfl 25 (.tmp 3) rfl g9 0 rfl [.int .i64 (1+a),.int .i64 (1+b),.int .u32 (m:Int),.slice A3 n3 c3] _ A6.o Tryz.underlying25 rfl zk ?_)
   |(refine wpList_store_row rfl 25 (.tmp 2) (.tmp 31) rfl (w.heap.size+1) ([.int .i64 (1+a),.int .i64 (1+b),.int .u32 (m:Int),.slice A3 n3 c3]).toArray rfl rfl 25 _ A2.o zk zm (by simpa using OL.o) ?_))
  have A7:=qap (A2.setRow ([.int .i64 (1+a),.int .i64 (1+b),.int .u32 (m:Int),.slice A3 n3 c3]).toArray) 0 [.int .i64 (1+a),.int .i64 (1+b),.int .u32 (m:Int),.slice A3 n3 c3] zjq;refine bodyPost_ret (v:=.agg ([.int .i64 (1+a),.int .i64 (1+b),.int .u32 (m:Int),.slice A3 n3 c3]).toArray) (qao rfl rfl (run_loadVar_mid _ _ 0 _ [.int .i64 (1+a),.int .i64 (1+b),.int .u32 (m:Int),.slice A3 n3 c3] _ A7 Tryz.underlying25 rfl zk)) rfl ?_;refine⟨_,?_,tB3 O7.o (qam _ _ _) (.inr (qa3 O7.o A2.o zdc)),below_setRow AE.o zo _⟩;rw[A9.o,AA.o,AB.o,A0.o];first|rw[A1.o]|rw[show (st:Int) % 32769=(m:Int) by have:=A1.o;omega]
 have q:(n3:Int)>64:=zo;have q2:(64:Int)≤c3:=zo;obtain⟨W7,hW7⟩:=eqx (W6.setCell ⟨g9,3,none⟩ (.slice A3 64 c3));obtain⟨H7,O7,AL,A8,AM⟩:=zh5 (show Blk W7 g9 25 [.int .i64 (1+a),.int .i64 (1+b),.int .u32 (m:Int),.slice A3 64 c3].toArray by rw[hW7];exact H6.set_ 3 _) (show OwnB W7 w.heap.size (.slice A3 64 c3) (bs.take 64) by rw[hW7];exact xbf (OwnB.far O6.o (p:=⟨g9,3,none⟩) (qa3 O6.o H6.o zdc) _) (by rw[AF.o];omega)) (show Zb w W7 by rw[hW7];exact AE.setCell (p:=⟨g9,3,none⟩) (by have:=LG.o;simp;omega) _) (show Blk W7 (w.heap.size+1) 25 #[.int .i64 0,.int .i64 0,.int .u32 0,.slice none 0 0] by rw[hW7];exact A2.far (p:=⟨g9,3,none⟩) (by have:=LG.o;simp;omega) _) hW7;clear hW7;go_upto_region 5 with(fail)
 rw[←AM.o];clear e6 f6;obtain⟨A6,OL⟩:=zh2 (qap H7.o 0 [.int .i64 (1+a),.int .i64 (1+b),.int .u32 (m:Int),.slice A3 64 c3] zjq) (show ∀u∈([.int .i64 (1+a),.int .i64 (1+b),.int .u32 (m:Int),.slice A3 64 c3]:List Value),u.oneCell'=true by intro u hu;simp at hu;rcases hu with rfl|rfl|rfl|rfl<;>rfl);go_wp2_with (first
  |(refine qaq rfl 25 (.tmp 3) rfl g9 0 rfl [.int .i64 (1+a),.int .i64 (1+b),.int .u32 (m:Int),.slice A3 64 c3] _ A6.o Tryz.underlying25 rfl zk ?_)
  |(refine wpList_store_row rfl 25 (.tmp 2) (.tmp 31) rfl (w.heap.size+1) ([.int .i64 (1+a),.int .i64 (1+b),.int .u32 (m:Int),.slice A3 64 c3]).toArray rfl rfl 25 _ A8.o zk zm (by simpa using OL.o) ?_))
 have A7:=qap (A8.setRow ([.int .i64 (1+a),.int .i64 (1+b),.int .u32 (m:Int),.slice A3 64 c3]).toArray) 0 [.int .i64 (1+a),.int .i64 (1+b),.int .u32 (m:Int),.slice A3 64 c3] zjq;refine bodyPost_ret (v:=.agg ([.int .i64 (1+a),.int .i64 (1+b),.int .u32 (m:Int),.slice A3 64 c3]).toArray) (qao rfl rfl (run_loadVar_mid _ _ 0 _ [.int .i64 (1+a),.int .i64 (1+b),.int .u32 (m:Int),.slice A3 64 c3] _ A7 Tryz.underlying25 rfl zk)) rfl ?_;refine⟨_,?_,tB3 O7.o (qam _ _ _) (.inr (qa3 O7.o A8.o zdc)),below_setRow AL.o zo _⟩;rw[A9.o,AA.o,AB.o,A0.o];first|rw[A1.o]|rw[show (st:Int) % 32769=(m:Int) by have:=A1.o;omega]
def xbj (t:Tok)(x:Int × Nat):Tok:=if (qk6 t x).2=0 then(qk6 t x).1 else t
def xbk (c:Cfg)(S:Stp):Tok:=(S.cavs.take 4).foldl xbj (qkc (qmg c.seed) (S.who % 4294967296).toNat)
def xbl (c:Cfg)(S:Stp):Req:=
 let r:=if 0≤S.who then {S.r with tid:=(xbk c S).1,cavs:=(xbk c S).2.1,tag:=(xbk c S).2.2} else S.r
 {r with leaf:=r.leaf.take 512}
def bytesOf (c:Cfg)(S:Stp):Option (List Nat):=
 if S.kind=5 then some (S.raw.take 400) else if (qiw (xbl c S)).1=0 then some (qiw (xbl c S)).2 else none
def xbm (c:Cfg)(s:Sta)(S:Stp):Sta × List Nat:=
 if S.kind=2 then(seqS c s,[])
 else if S.kind=3 then(qn3 s,[])
 else if S.kind=4 then(qn4 s S.n,[])
 else if S.kind=1∨S.kind=5 then(match bytesOf c S with|some b=>askS c s b|none=>(s,[]))
 else(s,[])
theorem xbn(h1:0≤x)(h2:x<256):(Lit.int .i64 x).wf=true:=by
 refine(Go.Lit.wf_int_iff _ _).2 ?_;rw[IntKind.min_i64,IntKind.max_i64];omega
structure Req.Deci (R:Req):Prop where
 ints:∀o,o=35∨o=36∨o=37∨o=38∨o=39→0≤R.num o∧R.num o<256
 mids:∀o,o=40∨o=43∨o=44∨o=45→R.num o<4294967296
 longs:∀o,o=41∨o=42∨o=46→R.num o<18446744073709551616
 leafb:∀b∈R.leaf,b<256
theorem xbo(h:R.Deci){f:Fld}(hf:IsFld f)(n:Nat)(hn:n<256^f.1):(R.put f.2.2 n).Deci:=by
 have h1:=h.ints;have h2:=h.mids;have h3:=h.longs;rcases hf with rfl|rfl|rfl|rfl|rfl|rfl|rfl|rfl|rfl|rfl|rfl|rfl|rfl<;>
 ·
  refine⟨fun o ho=>?_,fun o ho=>?_,fun o ho=>?_,h.leafb⟩
  · have:=h1 o ho
    rcases ho with rfl|rfl|rfl|rfl|rfl<;>simp only[Req.put,Req.num]at hn this ⊢<;>omega
  · have:=h2 o ho
    rcases ho with rfl|rfl|rfl|rfl<;>simp only[Req.put,Req.num]at hn this ⊢<;>omega
  have:=h3 o ho;rcases ho with rfl|rfl|rfl<;>simp only[Req.put,Req.num]at hn this ⊢<;>omega
theorem xbp (bs:List Nat)(hb:∀x∈bs,x<256):∀(l:List Fld) (s:RSt) (R:Req),(∀f∈l,IsFld f)→R.Deci→(qid bs l s R).2.Deci
 |[],s,R,_,h=>h
 |f::l,s,R,hl,h=>by
  unfold qid;split
  · exact xbp bs hb l _ _ (fun g hg=>hl g (List.mem_cons_of_mem _ hg)) ⟨h.ints,h.mids,h.longs,qho bs s 256 hb⟩
  exact xbp bs hb l _ _ (fun g hg=>hl g (List.mem_cons_of_mem _ hg)) (xbo h (hl f zm) _ (qgg bs s f.1 hb))
theorem xbq (bs:List Nat):∀(l:List Fld) (s:RSt) (R:Req),(qid bs l s R).2.op=R.op∧(qid bs l s R).2.tid=R.tid∧(qid bs l s R).2.cavs=R.cavs∧(qid bs l s R).2.tag=R.tag
 |[],s,R=>⟨rfl,rfl,rfl,rfl⟩
 |f::l,s,R=>by
  unfold qid;split
  · exact xbq bs l _ _
  obtain⟨h1,h2,h3,h4⟩:=xbq bs l (rNum bs s f.1).1 (R.put f.2.2 (rNum bs s f.1).2);obtain⟨e1,e2,e3,-,e5⟩:=qis R f.2.2 (rNum bs s f.1).2;exact⟨h1.trans e5,h2.trans e1,h3.trans e2,h4.trans e3⟩
theorem xbr(bs:List Nat)(hb:∀x∈bs,x<256):∀x∈(qh4 bs).2.2.1,(Lit.int .i64 x.1).wf=true:=by
 cases h:(qh4 bs).1 with
 |none=>
  obtain⟨id,l,tag,e,h1,h2,h3,h4,h5,-⟩:=qhx bs hb h;rw[e];intro x hx;obtain⟨a,b⟩:=qd9 (h3 x hx).1;exact xbn zo zo
 |some x=>
  have e:qh4 bs=(some x,qgt):=by
   unfold qh4 at h ⊢;split
   · rename_i h1
     rw[h1]at h;cases h
   rename_i y h1
   rw[h1]at h;injection h with h;rw[h]
  rw[e];intro c hc;cases hc
theorem xbs(hd:R.Deci)(hT:R.tag.length=32∧(∀b∈R.tag,b<256)∧R.tid<4294967296∧(∀x∈R.cavs,x.2<4294967296)∧∀x∈R.cavs,(Lit.int .i64 x.1).wf=true)(ho:0≤R.op∧R.op<256):R.Good:=by
 have a:=fun o h=>hd.ints o h
 have b:=fun o h=>hd.mids o h
 have d:=fun o h=>hd.longs o h
 have num35:=a 35 zm;have num36:=a 36 zm;have num37:=a 37 zm;have num38:=a 38 zm;have num39:=a 39 zm;have num40:=b 40 zm;have num43:=b 43 zm;have num44:=b 44 zm;have num45:=b 45 zm;have num41:=d 41 zm;have num42:=d 42 zm;have num46:=d 46 zm;simp only[Req.num]at num35 num36 num37 num38 num39 num40 num41 num42 num43 num44 num45 num46;exact⟨hT.1,hT.2.1,hT.2.2.1,hT.2.2.2.1,hT.2.2.2.2,xbn ho.1 ho.2,xbn num35.1 num35.2,xbn num36.1 num36.2,xbn num37.1 num37.2,xbn num38.1 num38.2,xbn num39.1 num39.2,by omega,by omega,by omega,by omega,by omega,by omega,by omega,hd.leafb⟩
theorem xbt(bs:List Nat)(hb:∀x∈bs,x<256):(qih bs).2.Good:=by
 have hlt:=qho bs (0,none) 77 hb;have hT:=qhy (qhn bs (0,none) 77).2 hlt;have hk:=xbr (qhn bs (0,none) 77).2 hlt;have hn:=qgg bs (qie bs) 1 hb;have d0:∀(T:Tok) (k:Int),(req0 T k).Deci:=fun T k=>⟨fun o ho=>by rcases ho with rfl|rfl|rfl|rfl|rfl<;>simp[req0,Req.num],fun o ho=>by rcases ho with rfl|rfl|rfl|rfl<;>simp[req0,Req.num],fun o ho=>by rcases ho with rfl|rfl|rfl<;>simp[req0,Req.num],by simp[req0]⟩
 have hz:qig.Good:=xbs (d0 _ _) ⟨by simp[qig,req0,qgt],by intro x hx;simp[qig,req0,qgt]at hx;omega,by decide,fun c hc=>(nomatch hc),fun c hc=>(nomatch hc)⟩ zdc;unfold qih;split
 ·
  unfold qif;split
  · exact xbs (d0 _ _) ⟨hT.1.2.2.1,hT.1.2.2.2,hT.1.1,hT.1.2.1,hk⟩ (by show 0≤((rNum bs (qie bs) 1).2:Int)∧_;simp only[req0];omega)
  rename_i l hl
  obtain⟨e1,e2,e3,e4⟩:=xbq bs l (rNum bs (qie bs) 1).1 (req0 (reqT bs) ((rNum bs (qie bs) 1).2:Int));refine xbs (xbp bs hb l _ _ (fun f hm=>qi6 _ l hl f hm) (d0 _ _)) ?_ ?_
  · rw[e2,e3,e4]
    exact⟨hT.1.2.2.1,hT.1.2.2.2,hT.1.1,hT.1.2.1,hk⟩
  rw[e1];simp only[req0];omega
 exact hz
theorem xbu(R:Req)(h1:∀x∈R.leaf,x<256)(h2:∀x∈R.tag,x<256):∀x∈(qiw R).2,x<256:=by
 have ht:∀x∈(qda R.tid R.cavs R.tag).2,x<256:=by
  unfold qda;split
  · intro x hx;cases hx
  split
  ·
   intro x hx;simp only[tBg]at hx;rcases hx with((h|h)|h)|h
   · exact qaz _ _ x h
   · exact qaz _ _ x h
   · unfold cavb at h
     obtain⟨y,_,hy⟩:=List.mem_flatMap.1 h;simp only[tBg]at hy;rcases hy with hy|hy<;>exact qaz _ _ x hy
   exact h2 x h
  intro x hx;cases hx
 unfold qiw;split
 ·
  split
  ·
   intro x hx;rcases List.mem_append.1 hx with h|h
   · unfold txt at h
     rcases List.mem_append.1 h with h|h
     · exact qaz _ _ x h
     exact ht x (tB7 h)
   exact qsz R h1 x h
  intro x hx;cases hx
 intro x hx;cases hx
theorem xbv(root:List Nat)(id:Nat)(h:id<4294967296):(qkc root id).Ok∧∀x∈(qkc root id).2.1,(Lit.int .i64 x.1).wf=true:=⟨qkg root id h,fun x hx=>(nomatch hx)⟩
theorem xbw{t:Tok}{x:Int × Nat}(h:t.Ok∧∀x∈t.2.1,(Lit.int .i64 x.1).wf=true)(hx:x.2<4294967296)(hk:(Lit.int .i64 x.1).wf=true):(xbj t x).Ok∧∀y∈(xbj t x).2.1,(Lit.int .i64 y.1).wf=true:=by
 unfold xbj;split
 ·
  refine⟨qkh t x h.1 hx,?_⟩;unfold qk6;split
  ·
   split
   · intro y hy
     rcases List.mem_append.1 hy with h1|h1
     · exact h.2 y h1
     obtain rfl:=List.mem_singleton.1 h1;exact hk
   intro y hy;cases hy
  intro y hy;cases hy
 exact h
theorem xbx:∀(l:List (Int × Nat)) (t:Tok),(t.Ok∧∀x∈t.2.1,(Lit.int .i64 x.1).wf=true)→(∀x∈l,x.2<4294967296)→(∀x∈l,(Lit.int .i64 x.1).wf=true)→(l.foldl xbj t).Ok∧∀y∈(l.foldl xbj t).2.1,(Lit.int .i64 y.1).wf=true
 |[],t,h,_,_=>h
 |x::l,t,h,h1,h2=>xbx l _ (xbw h (h1 x zm) (h2 x zm)) (fun y hy=>h1 y (by simp[hy])) (fun y hy=>h2 y (by simp[hy]))
theorem xby(c:Cfg){S:Stp}(hr:S.r.Good)(h1:∀x∈S.cavs,x.2<4294967296)(h2:∀x∈S.cavs,(Lit.int .i64 x.1).wf=true):(xbl c S).Good:=by
 have ht:=xbx (S.cavs.take 4) (qkc (qmg c.seed) (S.who % 4294967296).toNat) (xbv _ _ zo) (fun x hx=>h1 x (tB7 hx)) (fun x hx=>h2 x (tB7 hx));have hg:(if 0≤S.who then {S.r with tid:=(xbk c S).1,cavs:=(xbk c S).2.1,tag:=(xbk c S).2.2} else S.r:Req).Good:=by
  split
  · exact {hr with tid:=ht.1.1,cavn:=ht.1.2.1,tag:=ht.1.2.2.1,tagb:=ht.1.2.2.2,cavk:=ht.2}
  exact hr
 unfold xbl;exact {hg with leafb:=fun b hb=>hg.leafb b (tB7 hb)}
theorem xbz(c:Cfg){S:Stp}(hr:S.r.Good)(h1:∀x∈S.cavs,x.2<4294967296)(h2:∀x∈S.cavs,(Lit.int .i64 x.1).wf=true)(h3:∀b∈S.raw,b<256)(h:bytesOf c S=some bs):∀x∈bs,x<256:=by
 have hg:=xby c hr h1 h2;unfold bytesOf at h;split at h
 · injection h with h
   subst h;exact fun x hx=>h3 x (tB7 hx)
 split at h
 · injection h with h
   subst h;exact xbu _ hg.leafb hg.tagb
 cases h
theorem xc0(R:Req)(cav leafv:Value)(hc:cav.oneCell'=true)(hl:leafv.oneCell'=true):∀u∈reqv R cav leafv,u.oneCell'=true:=by
 intro u hu;unfold reqv at hu;rcases List.mem_append.1 hu with hu|hu
 · rcases List.mem_cons.1 hu with rfl|hu
   · rfl
   exact qeg _ _ hc _ u hu
 simp[Req.rest]at hu;rcases hu with rfl|rfl|rfl|rfl|rfl|rfl|rfl|rfl|rfl|rfl|rfl|rfl|rfl<;>first|rfl|exact hl
theorem xc1(c:Cfg)(s:Sta)(L:Loc)(col:Col)(g:Nat)(css:List (List Value))(bs:List Nat)(A:Option Addr)(n cc:Nat)(w:World)(hc:c.Ok)(hs:s.Ok)(h:Mdl w col 2 g c s L css)
 (hr:Reads w w.heap.size 1 A n (byv bs))(hn:n≤140737488355328)(hb:∀x∈bs,x<256)(hT:Tabs w)(hE:w.cell? ⟨0,0,none⟩=some (.iface 327 (.agg #[.pointer (some ⟨3,81,none⟩)]))):
 Zc 30 #[.pointer (some ⟨g,0,none⟩),.slice A n cc] w fun e w'=>∃v col' L' css',e=.returned v∧OwnB w' w.heap.size v (askS c s bs).2∧(∀g,v.ownBlock=some g→col' g=0)∧Mdl w' col' 2 g c (askS c s bs).1 L' css'∧Rest w col w' col':=by
 obtain⟨AV,hAV⟩:=xeq (askS c s bs);rw[hAV];have bT:=qqc (12:Int);rw[show (Value.int .i64 (12:Int)::.int .u64 0::.slice none 0 0::.slice none 0 0::(hdv Hd.zero++tokv qgt.1 (.slice none 0 0) qgt.2.2))=qqd (rWhy 12) from rfl]at bT;have lX:=qqe (rWhy 12) Hd.zero_Ok (by simp[rWhy,qiu,qgt]);have oX:=qqf (rWhy 12);obtain⟨X,hX⟩:=xeq (qqd (rWhy 12));rw[hX]at bT lX oX;have z0:=Blk.new w 57 Tryz.zeroCells57;obtain⟨Z0,BT,LX,OX,HX,AC,H,HS⟩:=zh8 z0 bT lX oX hX hAV h hs;obtain⟨HC,AD,HE,HR,HB,AE,A7⟩:=zh7 hc hT hE hr hb (zI 57 lX) qqg;clear bT lX oX hX z0 hAV h hs hc hT hE hr hb;go_enter Tryz.func30,Tryz.ntmps30
 go_upto_region 2 with(first
  |(refine qbj rfl ⟨.agg X.toArray,qgq 57 _ rfl _ _ BT.o (by simp[Act.eval]),?_⟩)
  |(refine zst Z0.o AE.o (by simp[LX.o,A7.o]) OX.o ?_))
 obtain⟨W1,hW1⟩:=eqx ((w.alloc (.cells Tryz.zeroCells57 57)).setRow w.heap.size X.toArray);rw[←hW1];obtain⟨Z1,B1⟩:=zh2 (show Blk W1 w.heap.size 57 X.toArray by rw[hW1];exact Z0.setRow _) (show Zb w W1 by rw[hW1];exact below_setRow ((tA5 _ _).alloc (tA4 _) _) (tA4 _) _);clear hW1;obtain⟨R,hR⟩:=xeq ((qih bs).2);have CD:=qpw bs A n cc W1 (HR.call B1.o) hn HB.o (qai HE.o B1.o);have hG:=xbt bs HB.o;rw[hR]at hG;simp only[hR]at CD;obtain⟨AG,HG,AH⟩:=zh3 CD hG hR;clear CD hG hR;go_upto_region 3 with(fail)
 go_wp2_with fail
 refine AG.o.mono ?_;rintro e w2 ⟨cav,lv,rv,rfl,oc,ol,re,b2⟩;obtain⟨Ac,cc2,hcv,hcc2,hcm2,rdc⟩:=qaf (e:=132) (size:=2) oc;obtain⟨Al,cl2,hlv,hcl2,hlm2,rdl⟩:=qaf (e:=5) (size:=1) ol;have lQ:=qix R cav lv HG.tag;have oQ:=xc0 R cav lv (by rw[hcv];rfl) (by rw[hlv];rfl);obtain⟨Q,hQ⟩:=xeq (reqv R cav lv);rw[hQ]at lQ oQ;rw[hQ];obtain⟨IQ,LQ,OQ,Z2,HQ,AI,AJ,AK⟩:=zh8 (zI 34 lQ) lQ oQ (Blk.new w2 34 zLQ) hQ hcv hlv rdc;obtain⟨AL,OC,OL,RE,B2⟩:=zh5 rdl oc ol re b2;clear lQ oQ hQ hcv hlv rdc rdl oc ol re b2;go_upto_region 3 with(refine wpList_store_row rfl 34 (.tmp 6) (.tmp 14) rfl w2.heap.size Q.toArray rfl rfl 34 _ Z2.o (by rw[tB6];exact IQ.o) (by simp[LQ.o]) (by simpa using OQ.o) ?_)
 obtain⟨W3,hW3⟩:=eqx ((w2.alloc (.cells zLQ 34)).setRow w2.heap.size Q.toArray);rw[←hW3];obtain⟨G6,hG6⟩:=eqx w2.heap.size;rw[←hG6];have q3:Blk W3 G6 34 Q.toArray:=by rw[hW3,hG6];exact Z2.setRow _
 have b3:Zb w2 W3:=by rw[hW3];exact below_setRow ((tA5 _ _).alloc (tA4 _) _) (tA4 _) _
 have b03:Zb w W3:=(B1.trans (B2.mono B1.size)).trans (b3.mono (tB1 B1.size B2.size));have z2:=Z1.below B2.o Z1.lt;obtain⟨Z3,Q3,B3,A4⟩:=zh4 (z2.below b3 z2.lt) q3 b3 b03;have A5:=zh1 (show ∀b,w.heap.size≤b→col b=0 from fun b h=>by
  by_cases e:col b=0
  · exact e
  have:=H.fin b e;omega)
 clear hW3 hG6 q3 b3 b03 z2;rcases hdec:(qih bs).1 with _|y
 ·
  have hnil:rv=.nilIface:=by have:=RE.o;rw[hdec]at this;exact this
  subst hnil;have hav:=qtv (c:=c) (s:=s) hdec;rw[AC.o,AH.o]at hav;have hlf:=AJ.o;have hcf:=AI.o;have hA:Asked W3 col R Ac cc2 Al cl2:=⟨HG.o,AL.call B3.o,hcl2,hlm2,AK.call B3.o,hcc2,hcm2,
   fun h ad e=>A5.o _ (tB1 B1.size (World.ownsRow.lt OL.o ad.block (by rw[hlf,e];rfl)).1),
   fun h ad e=>A5.o _ (tB1 B1.size (World.ownsRow.lt OC.o ad.block (by rw[hcf,e];rfl)).1)⟩
  have A8:=qvt c s L col g css R Ac cc2 Al cl2 W3 HC.o HS.o (H.call A4.o) hA (AD.below A4.o AD.size) (qai HE.o A4.o);rw[←hcf,←hlf,HQ.o]at A8;obtain⟨A0,A9,AA,AM⟩:=zh4 hav A8 (qzt (c:=c) HS.o HG.o) (qap Q3.o 0 Q zjq);clear hav hA A8 hdec hlf hcf;go_wp2_with (refine zld AM.o zu34 IQ.o ?_)
  refine A9.o.mono ?_;rintro e w4 ⟨v,col',L',css',rfl,rv4,m4,r4⟩;obtain⟨V,hv,lV,oV⟩:=rv4.cells ⟨AA.hd,AA.tok.2.2.1⟩;subst hv;have z4:=r4.blk Z3.o (A5.o _ (tA4 _));have g0:col' w.heap.size=0:=(r4.block _ Z3.lt (A5.o _ (tA4 _))).2;obtain⟨AF,M5,R5,Z4,IV,LV,OV,Z5⟩:=zh8 (rv4.row (X:=V.toArray) z4 A4.size) (m4.row0 (.inl rfl) V.toArray g0) (((Rest.of_below (col:=col) A4.o).trans r4).newer (qam w4 w.heap.size V.toArray) (tA4 _)) z4 (zI 57 lV) lV oV (z4.setRow V.toArray);clear rv4 m4 r4 lV oV z4 g0;go_upto_region 5 with(refine zst Z4.o IV.o (by simp[LV.o,LX.o]) OV.o ?_)
  obtain⟨W5,hW5⟩:=eqx (w4.setRow w.heap.size V.toArray);rw[←hW5]at AF M5 R5 Z5 ⊢;clear hW5;obtain⟨bv,hvv,cv5,ev,o1,o2,o3,k1,k2,k3⟩:=AF.o;obtain⟨A1,c1,hb1,hbc,hbm,rb⟩:=qaf (e:=5) (size:=1) o1;obtain⟨A2,c2,hb2,hhc,hhm,rh⟩:=qaf (e:=29) (size:=32) o2.2;obtain⟨A3,c3,hb3,hcc,hcm,rc⟩:=qaf (e:=132) (size:=2) o3;subst hb1 hb2 hb3;have CA:=xbi (doS c s R).2 A1 c1 A2 c2 A3 c3 W5 AA.o rb hbc hbm rh hhc hhm rc hcc hcm;injection ev with ev;rw[←ev]at CA;obtain⟨AB,AN⟩:=zh2 CA (qap Z5.o 0 V zjq);clear CA ev rb rh rc hbc hbm hhc hhm hcc hcm o1 o2 o3 k1 k2 k3;go_wp2_with (refine zld AN.o zu57 IV.o ?_)
  refine AB.o.mono ?_;rintro e w6 ⟨v,rfl,ov,b6⟩;obtain⟨A6,B6⟩:=zh2 ov b6;clear ov b6;go_wp2
  go_ret
  refine⟨v,col',L',css',rfl,?_,fun g hg=>?_,?_,R5.trans (Rest.of_below B6.o)⟩
  · rw[A0.o]
    exact qde A6.o R5.size
  · by_cases e:col' g=0
    · exact e
    have h1:=M5.fin g e;have h2:=(World.ownsRow.lt A6.o g hg).1;omega
  rw[A0.o];exact M5.call B6.o
 have re':=RE.o;rw[hdec]at re';obtain⟨hh,hrv,-,-⟩:=re';subst hrv;have hav:=qtu (c:=c) (s:=s) hdec;rw[AC.o]at hav;have CA:=xbi (rWhy 12) none 0 none 0 none 0 W3 (qzm 12) ⟨rfl,fun h=>absurd h (by show ¬0<0;omega)⟩ (tA4 _) (by simp[maxLen]) ⟨rfl,fun h=>absurd h (by show ¬0<0;omega)⟩ (tA4 _) (by simp[maxLen]) ⟨rfl,fun h=>absurd h (by show ¬0<0;omega)⟩ (tA4 _) (by simp[maxLen]);change Zc 78 #[.agg (qqd (rWhy 12)).toArray] W3 _ at CA;rw[HX.o]at CA;obtain⟨A0,AB,AO⟩:=zh3 hav CA (qap Z3.o 0 X zjq);clear hav CA hdec;go_wp2_with (refine zld AO.o zu57 AE.o ?_)
 refine AB.o.mono ?_;rintro e w6 ⟨v,rfl,ov,b6⟩;obtain⟨A6,B6⟩:=zh2 ov b6;clear ov b6;go_wp2
 go_ret
 refine⟨v,col,L,css,rfl,?_,fun g hg=>A5.o g (tB1 A4.size (World.ownsRow.lt A6.o g hg).1),?_,(Rest.of_below A4.o).trans (Rest.of_below B6.o)⟩
 · rw[A0.o]
   exact qde A6.o A4.size
 rw[A0.o];exact(H.call A4.o).call B6.o
theorem xc2(h:Sit W B w col g gw tb c s)(hc:c.Ok)(bs:List Nat)(A:Option Addr)(n cc:Nat)(hr:Reads w w.heap.size 1 A n (byv bs))(hn:n≤140737488355328)(hb:∀x∈bs,x<256):
 Zc 30 #[.pointer (some ⟨g,0,none⟩),.slice A n cc] w fun e w'=>∃v col',e=.returned v∧OwnB w' w.heap.size v (askS c s bs).2∧(∀g,v.ownBlock=some g→col' g=0)∧Sit W B w' col' g gw tb c (askS c s bs).1∧Rest w col w' col':=by
 obtain⟨L,css,h2⟩:=h.mdl;refine(xc1 c s L col g css bs A n cc w hc h.ok h2 hr hn hb h.tabs h.err).mono ?_;rintro e w' ⟨v,col',L',css',rfl,h3,h4,h5,h6⟩;exact⟨v,col',rfl,h3,h4,h.next h6 (qtw h.ok (xbt bs hb)) ⟨L',css',h5⟩,h6⟩
structure OwnAt (w:World)(col:Col)(B b:Nat)(t:TypeId)(X:List Value):Prop where
 blk:Blk w b t X.toArray
 col:col b=0
 low:B≤b
theorem OwnAt.rest{t:TypeId}(h:OwnAt w col B b t X)(hr:Rest w col w' col'):OwnAt w' col' B b t X:=⟨hr.blk h.blk h.col,(hr.block b h.blk.lt h.col).2,h.low⟩
theorem OwnAt.call{t:TypeId}(h:OwnAt w col B b t X)(hb:Zb w w'):OwnAt w' col B b t X:=h.rest (Rest.of_below hb)
theorem OwnAt.rng{t:TypeId}(h:OwnAt w col B b t X):w.rangeAt b 0 X:=qap h.blk 0 X (fun j u hu=>by simpa using hu)
theorem xc3{v:World}(h:Sit W B v col g gw tb c s)(t:TypeId)(cs:Array Value)(X:List Value):
 Sit W B ((v.alloc (.cells cs t)).setRow v.heap.size X.toArray) col g gw tb c s∧OwnAt ((v.alloc (.cells cs t)).setRow v.heap.size X.toArray) col B v.heap.size t X∧Zb v ((v.alloc (.cells cs t)).setRow v.heap.size X.toArray):=by
 have hb:Zb v ((v.alloc (.cells cs t)).setRow v.heap.size X.toArray):=below_setRow ((tA5 _ _).alloc (tA4 _) _) (tA4 _) _;exact⟨h.call hb,⟨(Blk.new _ _ _).setRow _,h.new0 (tA4 _),h.base.2.2⟩,hb⟩
theorem xcd{c:Nat}(h:OwnB w base (.slice A n c) bs)(hk:k≤bs.length):OwnB w base (.slice A k c) (bs.take k):=by
 have hn:n=bs.length:=by
  rcases h.2 with⟨e,h0⟩|⟨g,cap,cur,e,_⟩
  · injection e with e1 e2;omega
  injection e with e1 e2
 unfold OwnB;rw[tBd,Nat.min_eq_left hk];refine⟨by rw[qat,tBd];omega,?_⟩;rcases h.2 with⟨e,h0⟩|⟨g,cap,cur,e,hb,hh,hnc,hc,hsz,ht⟩
 · injection e with e1 e2 e3
   subst e1 e3;exact .inl ⟨by rw[show k=0 by omega],by omega⟩
 injection e with e1 e2 e3;subst e1 e3;refine .inr ⟨g,c,cur,rfl,hb,hh,by omega,hc,hsz,?_⟩;rw[Nat.mul_one]at ht ⊢;have:(byv bs).take k=byv (bs.take k):=by simp[byv,List.map_take]
 rw[←this,←ht,List.take_take,Nat.min_eq_left hk]
def Req.cut (R:Req):Req:={R with leaf:=R.leaf.take 512}
theorem xce{t:Tok}{l:List (Int × Nat)}{x:Int × Nat}(h:l[k]? =some x):(l.take (k+1)).foldl xbj t=xbj ((l.take k).foldl xbj t) x:=by
 obtain⟨hk,e⟩:=tA8 h;rw[List.take_succ_eq_append_getElem hk,List.foldl_append,e];rfl
def xcf (c:Cfg)(S:Stp):Req:=if 0≤S.who then {S.r with tid:=(xbk c S).1,cavs:=(xbk c S).2.1,tag:=(xbk c S).2.2} else S.r
theorem xcg(c:Cfg)(S:Stp):xbl c S=(xcf c S).cut:=rfl
theorem xch(c:Cfg)(S:Stp):(xcf c S).leaf=S.r.leaf:=by unfold xcf;split<;>rfl
theorem xci(c:Cfg)(S:Stp)(h:S.r.tag.length=32)(hk:∀x∈S.cavs,x.2<4294967296):(xcf c S).tag.length=32:=by
 unfold xcf;split
 ·
  have key:∀(l:List (Int × Nat)) (t:Tok),t.Ok→(∀x∈l,x.2<4294967296)→(l.foldl xbj t).Ok:=by
   intro l;induction l with
   |nil=>intro t h _;exact h
   |cons y l ih=>
    intro t ht hl;refine ih _ ?_ (fun x hx=>hl x (List.mem_cons_of_mem _ hx));unfold xbj;split
    · exact qkh t y ht (hl y (List.mem_cons_self ..))
    exact ht
  exact(key _ _ (qkg _ _ zo) (fun x hx=>hk x (tB7 hx))).2.2.1
 exact h
theorem xcj(R:Req)(t:Tok)(cav cav' leafv:Value)(ht:R.tag.length=32)(h2:t.2.2.length=32):over (reqv R cav leafv) 1 (tokv t.1 cav' t.2.2)=reqv {R with tid:=t.1,cavs:=t.2.1,tag:=t.2.2} cav' leafv:=by
 have l1:=qdf R.tid cav R.tag ht;have l2:=qdf t.1 cav' t.2.2 h2;unfold over reqv;rw[l2];simp only[List.cons_append,List.take_succ_cons,List.take_zero,List.nil_append];rw[show 1+34=34+1 by rfl,List.drop_succ_cons,←l1,List.drop_left];rfl
theorem xck{l:List (Int × Nat)}(h:l.length≤k∨4≤k)(h4:k≤4):l.take k=l.take 4:=by
 rcases h with h|h
 · rw[tB5 h,tB5 zo]
 rw[show k=4 by omega]
structure RtI (B:Nat)(w:World)(d5 d9 d10:Bool)(R T v21 v25 v6:Value):Prop where
 root:d5=true→v21=R
 tok:d9=true→v25=T
 box:d10=true→∃g,v6=.pointer (some ⟨g,0,none⟩)∧B≤g∧Blk w g 31 qgy.toArray
 low:B≤w.heap.size
theorem RtI.call{d5 d9 d10:Bool}{R:Value}(h:RtI B w d5 d9 d10 R T v21 v25 v6)(b:Zb w w'):RtI B w' d5 d9 d10 R T v21 v25 v6:=
 ⟨h.root,h.tok,fun e=>by obtain⟨g,h1,h2,h3⟩:=h.box e;exact⟨g,h1,h2,h3.below b h3.lt⟩,tB1 h.low b.size⟩
theorem RtI.a5{d5 d9 d10:Bool}{R:Value}(h:RtI B w d5 d9 d10 R T v21 v25 v6)(d:Bool):RtI B w d d9 d10 R T R v25 v6:=⟨fun _=>rfl,h.tok,h.box,h.low⟩
theorem RtI.a9{d5 d9 d10:Bool}{R:Value}(h:RtI B w d5 d9 d10 R T v21 v25 v6)(d:Bool):RtI B w d5 d d10 R T v21 T v6:=⟨h.root,fun _=>rfl,h.box,h.low⟩
theorem RtI.a10{d5 d9 d10:Bool}{R:Value}(h:RtI B w d5 d9 d10 R T v21 v25 v6)(d:Bool):RtI B (w.alloc (.cells qgy.toArray 31)) d5 d9 d R T v21 v25 (.pointer (some ⟨w.heap.size,0,none⟩)):=
 ⟨h.root,h.tok,fun _=>⟨_,rfl,h.low,Blk.new _ _ _⟩,by rw[qar];exact Nat.le_succ_of_le h.low⟩
theorem xcl(gw tb:Nat)(c:Cfg)(A0:Option Addr)(n0 k0:Nat)(S:Stp)(cs:List Value)(w:World)(hw:WldAt w gw tb c A0 n0 k0)(hc:c.Ok)(hs:StpR w cs S):
 Zc 35 #[.pointer (some ⟨gw,0,none⟩),.agg cs.toArray] w fun e w'=>∃cav lv,e=.returned (.agg (reqv (xbl c S) cav lv).toArray)∧OwnC w' w.heap.size cav (xbl c S).cavs∧OwnB w' w.heap.size lv (xbl c S).leaf∧Below w.heap.size w w':=by
 obtain⟨Ac,cc,Al,cl,Ak,ck,Ar,cr,rfl,hg,⟨hc1,hc2,hc3,hc4⟩,⟨hl1,hl2,hl3,hl4⟩,⟨hk1,hk2,hk3,hk4,hk5⟩,-,-,-,hwho⟩:=hs;have lC:=qnu S (.slice Ac S.r.cavs.length cc) (.slice Al S.r.leaf.length cl) (.slice Ak S.cavs.length ck) (.slice Ar S.raw.length cr) hg.tag;have rq:=qnv S (.slice Ac S.r.cavs.length cc) (.slice Al S.r.leaf.length cl) (.slice Ak S.cavs.length ck) (.slice Ar S.raw.length cr);have c49:=qnw S (.slice Ac S.r.cavs.length cc) (.slice Al S.r.leaf.length cl) (.slice Ak S.cavs.length ck) (.slice Ar S.raw.length cr) hg.tag 0;have c50:=qnw S (.slice Ac S.r.cavs.length cc) (.slice Al S.r.leaf.length cl) (.slice Ak S.cavs.length ck) (.slice Ar S.raw.length cr) hg.tag 1;obtain⟨C,hC⟩:=xeq (stpv S (.slice Ac S.r.cavs.length cc) (.slice Al S.r.leaf.length cl) (.slice Ak S.cavs.length ck) (.slice Ar S.raw.length cr));rw[hC]at lC rq c49 c50 ⊢;obtain⟨wh,hwh⟩:=xeq S.who;obtain⟨nk,hnk⟩:=xeq S.cavs.length;rw[hnk]at c50 hk1 hk3;rw[hwh]at c49 hwho;obtain⟨W0,hW0⟩:=eqx ((w.alloc (.cells C.toArray 44)).alloc (.cells zLQ 34));have t0:=zNb hW0;have z0:=zNc hW0;have b0:=zMb hW0;have lQ0:=qix S.r (.slice Ac S.r.cavs.length cc) (.slice Al S.r.leaf.length cl) hg.tag;have CC:=qzi S.r Ac S.r.cavs.length cc Al S.r.leaf.length cl W0 hg.tag (hc3.call b0) zo (hl3.call b0) zo;obtain⟨Q0,hQ0⟩:=xeq (reqv S.r (.slice Ac S.r.cavs.length cc) (.slice Al S.r.leaf.length cl));rw[hQ0]at lQ0 rq CC;have hrq:W0.rangeAt w.heap.size 1 Q0:=qap t0 1 Q0 (fun j u h=>rq j u h);obtain⟨AZ,B3,B4,B5,T0,Z0,B0,B7⟩:=zh8 CC hrq (zI 34 lQ0) hW0 t0 z0 b0 (hw.call b0);obtain⟨HC,HG,B8,B9,BY,AA,AK,BZ⟩:=zh8 hc hg (hk3.call b0) hk4 hk5 hwh hnk (show nk≤maxLen by omega);obtain⟨BA,C0,BC,BD,BE⟩:=zh5 (xci c S hg.tag hk4) hwho c49 c50 (show W0.heap.size=w.heap.size+1+1 by rw[hW0,qar,qar]);clear hC lC rq c49 c50 hwh hwho t0 z0 b0 lQ0 CC hQ0 hrq hW0 hw hc hg hc1 hc2 hc3 hc4 hl1 hl2 hl3 hl4 hk2 hk3 hk4 hk5 hnk hk1;go_enter Tryz.func35,Tryz.ntmps35
 go_upto_region 1 with(fail)
 rw[←B5.o];go_wp2_with (refine zld B3.o zu34 B4.o ?_)
 refine AZ.o.mono ?_;rintro e w1 ⟨cav1,lv1,rfl,oc1,ol1,b1⟩;obtain⟨Ac1,cc1,hcv1,-,-,-⟩:=qaf (e:=132) (size:=2) oc1;obtain⟨Al1,nl,cl1,hlv1,-,-,rl1⟩:=ol1.sl;have hnl:=qb4 rl1;subst hcv1 hlv1;have lQ:=qix S.r (.slice Ac1 S.r.cavs.length cc1) (.slice Al1 nl cl1) HG.tag;have oQ:=qzh S.r (.slice Ac1 S.r.cavs.length cc1) (.slice Al1 nl cl1) rfl rfl;obtain⟨Q,hQ⟩:=xeq (reqv S.r (.slice Ac1 S.r.cavs.length cc1) (.slice Al1 nl cl1));rw[hQ]at lQ oQ ⊢;obtain⟨BF,LQ,OQ,HQ,BG,BH,B1,NL⟩:=zh8 (zI 34 lQ) lQ oQ hQ oc1 ol1 b1 hnl;have N1:=zh1 (Blk.new w1 34 zLQ);clear lQ oQ hQ oc1 ol1 b1 rl1 hnl;go_upto_region 2 with(refine wpList_store_row rfl 34 (.tmp 5) (.tmp 12) rfl w1.heap.size Q.toArray rfl rfl 34 _ N1.o (by rw[tB6];exact BF.o) (by simp[LQ.o]) (by simpa using OQ.o) ?_)
 obtain⟨W1,hW1⟩:=eqx ((w1.alloc (.cells zLQ 34)).setRow w1.heap.size Q.toArray);rw[←hW1];obtain⟨G5,hG5⟩:=eqx w1.heap.size;rw[←hG5];have b11:Below w1.heap.size w1 W1:=by rw[hW1];exact below_setRow ((tA5 _ _).alloc (tA4 _) _) (tA4 _) _
 obtain⟨Q1,A1,BI,AL⟩:=zh4 (show Blk W1 G5 34 Q.toArray by rw[hW1,hG5];exact(Blk.new _ _ _).setRow _) (show Below W0.heap.size W0 W1 from B1.trans (b11.mono B1.size)) (OwnC.kept BG.o b11) (BH.kept b11);obtain⟨T1,Z1,AM⟩:=zh3 (T0.below A1.o T0.lt) (Z0.below A1.o Z0.lt) (show W0.heap.size≤G5 by rw[hG5];exact B1.size);clear hW1 hG5 b11;have e49:=(T1.cell 49).trans (show C.toArray[49]? =some (.int .i64 wh) by simpa using BC.o);obtain⟨A3,P1⟩:=zh2 (B7.call A1.o) (show Below w.heap.size w W1 from B0.trans (A1.mono B0.size));go_upto_if 15 with(fail)
 go_cut [] (fun wx=>∃cav:Value,Hid (Blk wx G5 34 (reqv (xcf c S) cav (.slice Al1 nl cl1)).toArray)∧Hid (OwnC wx w.heap.size cav (xcf c S).cavs)∧Hid (OwnB wx w.heap.size (.slice Al1 nl cl1) S.r.leaf)∧Hid (Below W0.heap.size W0 wx))
 case first=>
  by_cases hw0:0≤wh
  ·
   have q0:(wh:Int) ≥ 0:=zo;obtain⟨idn,hidn⟩:∃m:Nat,(S.who % 4294967296).toNat=m:=⟨_,rfl⟩;have hidl:idn<4294967296:=zo;have hu:IntKind.u32.wrap wh=(idn:Int):=by rw[IntKind.wrap_u32];rw[←AA.o];omega
   obtain⟨HU,C1,A5⟩:=zh3 hu hidn hidn;clear hidn;have rkl:(qmg c.seed).length=32:=qjz _ _;have rkb:∀x∈qmg c.seed,x<256:=qk1 _ _;obtain⟨BJ,BK⟩:=zh2 rkl rkb;clear rkl rkb;go_upto_region 3 with(fail)
   rw[show decide (0≤wh)=true from decide_eq_true hw0];obtain⟨S',HS⟩:∃S':World→Prop,Hid (∀w',S' w'=(Below W1.heap.size W1 w'∧w'.cell? ⟨gw,0,none⟩=some (.pointer (some ⟨tb,0,none⟩))∧w'.cell? ⟨w.heap.size,49,none⟩=some (.int .i64 wh))):=⟨_,fun _=>rfl⟩;have mkS:Hid (∀w',Below W1.heap.size W1 w'→S' w'):=fun w' h=>by
    rw[HS.o];exact⟨h,(((A3.call h).blk).cell 0).trans rfl,(h.cell (p:=⟨w.heap.size,49,none⟩) T1.lt).trans e49⟩
   obtain⟨RV,hRV⟩:∃V:Value,.agg (byv (qmg c.seed)).toArray=V:=⟨_,rfl⟩;obtain⟨TV,hTV⟩:∃V:Value,.agg (tokv idn (.slice none 0 0) (qjy (qmg c.seed) idn)).toArray=V:=⟨_,rfl⟩;obtain⟨AC,AN⟩:=zh2 hRV hTV;clear hRV hTV;refine qp0 S' 11 [21,25,6] [(0,false),(1,false),(2,false),(3,false),(4,false),(6,false),(7,false),(8,false)] 3 [(5,[]),(9,[5]),(10,[])] [(11,true)] #[true,true,true,true,true,false,true,true,true,false,false,false] #[true,true,true,true,true,true,true,true,true,true,true,false] zk rfl zk zk zk zk zk zk (fun _ _ d _ _ h=>by cases d<;>exact h) (mkS.o _ (tA5 _ W1).drew) ?_;clear e49;iterate 8 (refine qju rfl rfl ⟨?_,fun w1 hS=>?_,?_⟩;rotate_left;(focus(rw[HS.o]at hS;go_split_ands;go_simp;try rfl));simp only[Act.put,tA0,tA1,tA2])
   refine qjt ?_;refine⟨fun Dn vs w'=>∃v21 v25 v6,vs=[v21,v25,v6]∧RtI W1.heap.size w' (Dn 5) (Dn 9) (Dn 10) RV TV v21 v25 v6,⟨[_,_,_],rfl,_,_,_,rfl,?_⟩,⟨?_,?_,?_,trivial⟩,?_⟩
   · exact⟨fun h=>(nomatch h),fun h=>(nomatch h),fun h=>(nomatch h),tA4 _⟩
   ·
    rintro Dn vs w' hS ⟨v21,v25,v6,rfl,hI⟩ hD hd;simp only[puts,Act.put,tA0,tA1,tA2];have hb:=((HS.o _).mp hS).1;refine qp3 fun K hK=>qjq rfl rfl ?_
    go_simp;with_reducible refine zcb (qzj gw tb c A0 n0 k0 w' (A3.o.call hb) HC.o.seedb HC.o.seed) fun w2 b2=>?_
    rw[AC.o];exact hK _ _ ⟨mkS.o _ (hb.trans (b2.mono hb.size)),[_,_,_],rfl,_,_,_,rfl,by simpa using (hI.call b2).a5 true⟩
   ·
    rintro Dn vs w' hS ⟨v21,v25,v6,rfl,hI⟩ hD hd;simp only[puts,Act.put,tA0,tA1,tA2];have hb:=((HS.o _).mp hS).1;have d5:=hd 5 zm;have e5:=hI.root d5;rw[e5]at hI;rw[e5];refine qp3 fun K hK=>qjq rfl rfl ?_
    go_simp;rw[←AC.o];with_reducible refine zcb (qze tb (qmg c.seed) idn w' BJ.o BK.o hidl (A3.o.call hb).tab) fun w2 b2=>?_
    rw[AN.o,AC.o];exact hK _ _ ⟨mkS.o _ (hb.trans (b2.mono hb.size)),[_,_,_],rfl,_,_,_,rfl,by simpa [d5] using (hI.call b2).a9 true⟩
   · rintro Dn vs w' hS ⟨v21,v25,v6,rfl,hI⟩ hD hd
     simp only[puts,Act.put,tA0,tA1,tA2];have hb:=((HS.o _).mp hS).1;refine qp3 fun K hK=>qjq rfl rfl ?_
     go_simp;exact hK _ _ ⟨mkS.o _ (hb.alloc hb.size _),[_,_,_],rfl,_,_,_,rfl,by simpa using (show RtI W1.heap.size (w'.alloc (.cells zLT 31)) (Dn 5) (Dn 9) true RV TV v21 v25 (.pointer (some ⟨w'.heap.size,0,none⟩)) from hI.a10 true)⟩
   rintro vs w5 hS5 ⟨v21,v25,v6,rfl,hI⟩;simp only[puts,Act.put,tA0,tA1,tA2];have e25:=hI.tok rfl;obtain⟨X,rfl,lX,zX⟩:=hI.box rfl;have b5:=((HS.o _).mp hS5).1;subst e25;rw[←AN.o];obtain⟨L0,hL0⟩:=xeq (tokv idn (.slice none 0 0) (qjy (qmg c.seed) idn));have lL0:L0.length=34:=by rw[←hL0];exact qdf _ _ _ (qjz _ _)
   have oL0:∀v∈L0,v.oneCell'=true:=by rw[←hL0];exact qeg _ _ rfl _
   rw[hL0];clear hI hS5 HS mkS;refine qbi rfl rfl ?_;refine wp_store_row 31 (.tmp 6) (.tmp 25) rfl X L0.toArray rfl rfl 31 _ zX (by rw[tB6,lL0];exact Tryz.tok_info) (by simp[lL0,qgy,qdf]) (by simpa using oL0) ?_;refine⟨fun h=>absurd h zdc,?_⟩;obtain⟨W2,hW2⟩:=eqx (w5.setRow X L0.toArray);rw[←hW2];obtain⟨X2,B2,BL,LX⟩:=zh4 (show Blk W2 X 31 L0.toArray by rw[hW2];exact zX.setRow _) (show Below W1.heap.size W1 W2 by rw[hW2];exact below_setRow b5 lX _) hL0 lX;clear hW2 zX b5 hL0 lL0 oL0 lX;refine zP ?_;refine qbf ?_;go_wp2_with fail
   go_loopw [7,8,9,37] (fun i _ _ _ wr=>∃(k:Nat) (x:Tok) (v:Value),k≤nk∧k≤4∧i=.int .i64 k∧Hid ((S.cavs.take k).foldl xbj (qkc (qmg c.seed) idn)=x)∧Hid x.Ok∧x.2.1.length≤k∧Hid (Blk wr X 31 (tokv x.1 v x.2.2).toArray)∧Hid (OwnC wr W1.heap.size v x.2.1)∧Hid (Below W1.heap.size W1 wr)) (fun i _ _ _ _=>4 - (intOf i).toNat)
   case atStart=>exact⟨0,qkc (qmg c.seed) idn,.slice none 0 0,by omega,by omega,rfl,by rw[List.take_zero];exact rfl,qkg _ _ hidl,by simp[qkc],by rw[show tokv (qkc (qmg c.seed) idn).1 (.slice none 0 0) (qkc (qmg c.seed) idn).2.2=L0 from BL.o];exact X2.o,OwnC.nil _ _,B2.o⟩
   case round=>
    obtain⟨k,x,v,hk,hk4,rfl,hg,hxo,hxl,hX,hv,hb⟩:=hrel;have tr:=T1.below hb.o T1.lt;have tc50:=(tr.cell 50).trans (show C.toArray[50]? =some (.slice Ak nk ck) by simpa using BD.o);have e50:=tc50;have T0cell:=(((A3.call hb.o).blk).cell 0).trans (show (#[.pointer (some ⟨tb,0,none⟩),.int .i64 c.width,.int .i64 c.quantum,.int .u32 (c.store:Int),.slice A0 n0 k0]:Array Value)[0]? =some (.pointer (some ⟨tb,0,none⟩)) from rfl);by_cases hk2:k<nk∧k<4
    ·
     have hkn:k<nk:=hk2.1;have qk:(k:Int)<nk:=zo;have hk4':k<4:=hk2.2;have q4:(k:Int)<4:=zo;obtain⟨cav,hcav⟩:∃c,S.cavs[k]? =some c:=⟨_,tA7 (by rw[AK.o];exact hkn)⟩;obtain⟨gb,go,hA,hgb,hrd⟩:=B8.mid zo zo;obtain⟨e0,e1⟩:=qdi S.cavs k cav hcav;have hgb1:gb<W1.heap.size:=tB0 hgb A1.size;have m0:=(hb.cell (p:=⟨gb,go+k*2,none⟩) hgb1).trans ((A1.cell (p:=⟨gb,go+k*2,none⟩) hgb).trans (hrd _ _ e0));have m1:=(hb.cell (p:=⟨gb,go+(k*2+1),none⟩) hgb1).trans ((A1.cell (p:=⟨gb,go+(k*2+1),none⟩) hgb).trans (hrd _ _ e1));subst hA;obtain⟨kk,NN⟩:=cav;dsimp only at m0 m1;rw[←Nat.add_assoc]at m1;have AD:=zh1 hcav;have hgbr:gb<wr.heap.size:=tB0 hgb1 hb.size;obtain⟨S',HS⟩:∃S':World→Prop,Hid (∀w',S' w'=Below wr.heap.size wr w'):=⟨_,fun _=>rfl⟩;have AO:=zh1 (A3.call hb.o);have FC:Hid (∀w',S' w'→w'.rangeAt gb (go+k*2) [.int .i64 kk,.int .u32 (NN:Int)]):=fun w' h j u hu=>by
      rw[HS.o]at h;rw[h.cell (p:=⟨gb,go+k*2+j,none⟩) hgbr];match j,hu with
      |0,hu=>simp at hu;subst hu;exact m0
      |1,hu=>simp at hu;subst hu;exact m1
     have F1:Hid (∀w',S' w'→w'.cell? ⟨w.heap.size,50,none⟩=some (.slice (some ⟨gb,go,none⟩) nk ck)):=fun w' h=>by
      rw[HS.o]at h;rw[h.cell (p:=⟨w.heap.size,50,none⟩) tr.lt];exact e50
     have F2:Hid (∀w',S' w'→w'.cell? ⟨gw,0,none⟩=some (.pointer (some ⟨tb,0,none⟩))):=fun w' h=>by
      rw[HS.o]at h;rw[h.cell (p:=⟨gw,0,none⟩) AO.blk.lt];exact T0cell
     obtain⟨Ax,nx,cx,rfl,enx,ncx,-,rx⟩:=hv.sl;have hN:NN<4294967296:=B9.o (kk,NN) (tB2 AD.o);have N3:=fun w' (h:Below wr.heap.size wr w')=>xcc tb x Ax nx cx kk NN w' (rx.call h) ncx zo hxo.o.2.2.1 hxo.o.2.2.2 hN ((AO.call h).tab)
     have lX3:=qdf x.1 (.slice Ax nx cx) x.2.2 hxo.o.2.2.1;have x3:=hX.o;obtain⟨E,hE⟩:=xeq (tokv x.1 (.slice Ax nx cx) x.2.2);simp only[hE]at N3;rw[hE]at x3 lX3;have FX:Hid (∀w',S' w'→w'.rangeAt X 0 E):=fun w' h=>by
      rw[HS.o]at h;exact qap (x3.below h x3.lt) 0 E zjq
     obtain⟨BM,BN,BO,X3,BP,Hok',Hlen'⟩:=zh7 (zI 31 lX3) (show (Tryz.prog.info? 132).map (·.size)=some [Value.int .i64 kk,.int .u32 (NN:Int)].length by kernel_rfl) N3 x3 lX3 (qkh x (kk,NN) hxo.o hN) (qki x (kk,NN));obtain⟨r,hr⟩:=xeq (qk6 x (kk,NN));obtain⟨AP,HV,BQ⟩:=zh3 hr hv.o hE;simp only[hr]at N3;have AQ:=zh1 N3;rw[hr]at Hok' Hlen';clear N3 BO x3 hN lX3 hE enx ncx rx hX hv m0 m1 e0 e1 hrd hcav hgbr hr tc50 T0cell tr hgb hgb1;go_upto_region 7 with(fail)
     refine qjn S' 17 [48,37,49,50,8] [(0,false),(1,false),(2,false),(3,false),(4,false),(5,false),(6,false),(7,false),(8,false),(9,false)] 5 (.two 10 (.read 11 (.read 12 (.read 13 (.one 14 .done)))) 14 (.one 10 (.read 11 (.read 12 (.read 13 .done))))) [(15,true),(16,false)] #[true,true,true,true,true,true,true,true,true,true,false,false,false,false,false,false,false] #[true,true,true,true,true,true,true,true,true,true,true,true,true,true,true,false,false] zk rfl zk zk zk zk zk (fun _ _ d _ _ h=>by cases d<;>exact h) ((HS.o _).mpr (tA5 _ wr).drew) ?_;iterate 3 (refine qju rfl rfl ⟨?_,fun w1 hS=>?_,?_⟩;rotate_left;(focus(have g1:=F2.o w1 hS;go_simp;try rfl));simp only[Act.put,tA0,tA1,tA2])
     iterate 1 (refine qju rfl rfl ⟨?_,fun w1 hS=>?_,?_⟩;rotate_left;(focus(have g1:=F2.o w1 hS;go_simp;try rfl));simp only[Act.put,tA0,tA1,tA2])
     refine qp2 rfl rfl 31 (.tmp 6) rfl X 0 rfl E _ FX.o Tryz.underlying31 rfl BM.o ?_;refine zP ?_;iterate 4 (refine qju rfl rfl ⟨?_,fun w1 hS=>?_,?_⟩;rotate_left;(focus(have g1:=F1.o w1 hS;go_simp;try rfl));simp only[Act.put,tA0,tA1,tA2])
     refine qp2 rfl rfl 132 (.tmp 46) rfl gb (go+k*2) rfl [.int .i64 kk,.int .u32 (NN:Int)] _ FC.o Tryz.underlying132 rfl BN.o ?_;refine zP ?_;refine qjt ?_;have hwdwr:Below wr.heap.size wr wr.drew:=(tA5 _ _).drew;obtain⟨Wdwr,hWdwr⟩:=eqx wr.drew;have HWdwr:=zh1 hWdwr;rw[←hWdwr]at hwdwr ⊢;clear hWdwr;refine⟨fun vs w'=>∃A4 n4 c4 g9,vs=[.tuple #[.agg (tokv r.1.1 (.slice A4 n4 c4) r.1.2.2).toArray,.int .i64 (r.2:Nat)],.tuple #[.agg (tokv r.1.1 (.slice A4 n4 c4) r.1.2.2).toArray,.int .i64 (r.2:Nat)],.agg (tokv r.1.1 (.slice A4 n4 c4) r.1.2.2).toArray,.int .i64 (r.2:Nat),.pointer (some ⟨g9,0,none⟩)]∧OwnC w' wr.heap.size (.slice A4 n4 c4) r.1.2.1∧Blk w' g9 31 qgy.toArray∧wr.heap.size≤g9∧Below wr.heap.size wr w',?_,?_⟩
     ·
      refine qjs rfl rfl rfl rfl ?_ ?_
      ·
       go_simp;refine(AQ.o Wdwr hwdwr).mono ?_;rintro e w4 ⟨v4,rfl,o4,b4⟩;obtain⟨A4,n4,c4,rfl,-,-,-,-⟩:=o4.sl;obtain⟨F,hF⟩:=xeq (tokv r.1.1 (.slice A4 n4 c4) r.1.2.2);rw[hF];have b4':=hwdwr.trans (b4.mono hwdwr.size);have o4':=OwnC.mono o4 hwdwr.size;obtain⟨HF,HO,HB⟩:=zh3 hF o4' b4';clear hF o4 b4 o4' b4';refine⟨(HS.o _).mpr HB.o,?_⟩;refine zP ?_;iterate 3 (refine ztr ?_)
       refine qjr rfl rfl ?_;go_simp;refine⟨(HS.o _).mpr (HB.alloc HB.size _),qjo ⟨[_,_,_,_,_],rfl,A4,n4,c4,w4.heap.size,by rw[HF.o],HO.alloc _,Blk.new _ _ _,HB.size,HB.alloc HB.size _⟩⟩
      go_simp;obtain⟨w3,hw3⟩:=eqx (Wdwr.alloc (.cells zLT 31));rw[←hw3];have z3:Blk w3 Wdwr.heap.size 31 qgy.toArray:=by rw[hw3];exact Blk.new _ _ _
      have b3:Below wr.heap.size wr w3:=by rw[hw3];exact hwdwr.alloc hwdwr.size _
      clear hw3;refine⟨(HS.o _).mpr b3,?_⟩;refine qjr rfl rfl ?_;go_simp;refine(AQ.o w3 b3).mono ?_;rintro e w4 ⟨v4,rfl,o4,b4⟩;obtain⟨A4,n4,c4,rfl,-,-,-,-⟩:=o4.sl;obtain⟨F,hF⟩:=xeq (tokv r.1.1 (.slice A4 n4 c4) r.1.2.2);rw[hF];have b4':=b3.trans (b4.mono b3.size);have o4':=OwnC.mono o4 b3.size;have z4:=z3.below b4 z3.lt;obtain⟨HF,HO,HB,HZ⟩:=zh4 hF o4' b4' z4;clear hF o4 b4 o4' b4' z4 z3 b3;refine⟨(HS.o _).mpr HB.o,?_⟩;refine zP ?_;iterate 3 (refine ztr ?_)
      refine qjo ⟨[_,_,_,_,_],rfl,A4,n4,c4,Wdwr.heap.size,by rw[HF.o],HO.o,HZ.o,hwdwr.size,HB.o⟩
     rintro vs w4 - ⟨AE,nK1,cK1,gK1,rfl,o4,z9,l9,b4⟩;simp only[puts,Act.put,tA0,tA1,tA2];obtain⟨A6,hF,hlF,hoF,iF⟩:=xc9 r.1.1 AE nK1 cK1 r.1.2.2 Hok'.o.2.2.1;rw[hF];refine qbi rfl rfl ?_;refine wp_store_row 31 (.tmp 8) (.tmp 49) rfl gK1 A6.toArray rfl rfl 31 _ z9 iF (by simp[hlF,qgy,qdf]) (by simpa using hoF) ?_;obtain⟨AF,hW9⟩:=eqx (w4.setRow gK1 A6.toArray);rw[←hW9];have fK1:Blk AF gK1 31 A6.toArray:=by rw[hW9];exact z9.setRow _
     have bK1:Below wr.heap.size wr AF:=by rw[hW9];exact below_setRow b4 l9 _
     have oK1:OwnC AF wr.heap.size (.slice AE nK1 cK1) r.1.2.1:=by rw[hW9];exact tB3 o4 (qam _ _ _) (.inr (qa3 o4 z9 zdc))
     obtain⟨A7,AG,AH,AI,BR⟩:=zh5 hlF hoF iF hF l9;clear hW9 z9 b4 o4 iF hlF hoF hF l9;refine⟨fun _=>(HS.o _).mpr bK1,?_⟩;refine zP ?_;iterate 1 (refine zrb ?_)
     refine qbf ?_;obtain⟨q,hq⟩:=xeq r.2;rw[hq];obtain⟨AB,BS,BT,AR,C2,A8,AS,BU⟩:=zh8 (X3.below bK1 X3.lt) (qap fK1 0 A6 zjq) (zI 31 A7.o) oK1 bK1 (hb.trans (bK1.mono hb.size)) hq (HV.kept bK1);clear fK1 bK1 oK1 hq FC F1 F2 FX HS;by_cases h0:q=0
     ·
      have h0':(q:Int)=0:=zo;go_wp2_with (first
       |(refine zld BS.o zu31 BT.o ?_)
       |(refine wpList_store_row rfl 31 (.tmp 6) (.tmp 53) rfl X A6.toArray rfl rfl 31 _ AB.o AH.o (by simp[A7.o,BP.o]) (by simpa using AG.o) ?_))
      go_roundw
      case rel=>
       have hstep:(S.cavs.take (k+1)).foldl xbj (qkc (qmg c.seed) idn)=r.1:=by
        rw[xce AD.o,hg.o];unfold xbj;rw[AP.o,if_pos (by rw[AS.o,h0])]
       refine⟨k+1,r.1,.slice AE nK1 cK1,by omega,by omega,by go_num,hstep,Hok'.o,?_,?_,?_,?_⟩
       · have:=Hlen'.o
         omega
       · rw[AI.o]
         exact AB.setRow _
       · exact OwnC.mono (tB3 AR.o (qam _ _ _) (.inr (qa3 AR.o AB.o zdc))) hb.size
       exact below_setRow A8.o LX.o _
      case measure=>simp[intOf];omega
     have h0':¬(q:Int)=0:=zo;go_wp2
     go_roundw
     case rel=>
      have hstep:(S.cavs.take (k+1)).foldl xbj (qkc (qmg c.seed) idn)=x:=by
       rw[xce AD.o,hg.o];unfold xbj;rw[AP.o,if_neg (by rw[AS.o];exact h0)]
      refine⟨k+1,x,.slice Ax nx cx,by omega,by omega,by go_num,hstep,hxo,by omega,?_,BU.o,A8.o⟩;rw[BQ.o];exact AB.o
     case measure=>simp[intOf];omega
    have hq:(k:Int)<nk∧¬(k:Int)<4∨¬(k:Int)<nk:=zo;rcases hq with⟨qk,q4⟩|qk;all_goals
     have hfin:(S.cavs.take 4).foldl xbj (qkc (qmg c.seed) idn)=x:=by rw[←xck (l:=S.cavs) (k:=k) (by rw[AK.o];omega) hk4];exact hg.o
     have q9:=Q1.below hb.o Q1.lt;have lE:=qdf x.1 v x.2.2 hxo.o.2.2.1;have oE:=qeg x.1 v (by obtain⟨A',n',c',rfl,-⟩:=hv.sl;rfl) x.2.2;have hov:over Q 1 (tokv x.1 v x.2.2)=reqv (xcf c S) v (.slice Al1 nl cl1):=by
      have ht:xbk c S=x:=by unfold xbk;rw[←hfin,A5.o]
      rw[←HQ.o,xcj S.r x _ v _ HG.tag hxo.o.2.2.1];unfold xcf;rw[if_pos (by rw[AA.o];omega),ht]
     have hcv:(xcf c S).cavs=x.2.1:=by
      have ht:xbk c S=x:=by unfold xbk;rw[←hfin,A5.o]
      unfold xcf;rw[if_pos (by rw[AA.o];omega),ht]
     obtain⟨E,hE⟩:=xeq (tokv x.1 v x.2.2);have x9:=hX.o;rw[hE]at lE oE hov x9;obtain⟨A9,AT,BV,OE,QB,CB⟩:=zh6 (qap x9 0 E zjq) (zI 31 lE) (show wr.there G5 1 E.toArray.size from fun j hj=>⟨by rw[q9.cell,tA3,tA7 (by have h0:E.toArray.size=34:=List.size_toArray.trans lE;rw[LQ.o];omega)];simp,q9.frozen _⟩) (all_oneCell_toArray oE) (show Blk (wr.setCells G5 1 E) G5 34 (reqv (xcf c S) v (.slice Al1 nl cl1)).toArray by rw[←hov];exact qn8 E 1 wr Q q9 (by rw[LQ.o,lE];decide)) (show OwnC (wr.setCells G5 1 E) w.heap.size v (xcf c S).cavs by rw[hcv];exact OwnC.mono (tB3 hv.o (qn9 G5 E 1 wr) (.inr (qa3 hv.o q9 zdc))) P1.size);have ol9:=AL.kept hb.o;obtain⟨LB,BB⟩:=zh2 (show OwnB (wr.setCells G5 1 E) w.heap.size (.slice Al1 nl cl1) S.r.leaf from OwnB.mono (tB3 ol9 (qn9 G5 E 1 wr) (.inr (qa3 ol9 q9 zdc))) B0.size) (show Below W0.heap.size W0 (wr.setCells G5 1 E) from(A1.trans (hb.mono A1.size)).grown (qn9 G5 E 1 wr) (tB1 A1.size hb.size) (by intro g hg;injection hg with hg;have:=AM.o;omega));clear hfin q9 lE oE hov hcv hE x9 ol9 tc50 T0cell tr hX hv;go_wp2_with (first
      |(refine zld A9.o zu31 AT.o ?_)
      |(refine wpList_store_mid rfl 31 (.tmp 55) (.tmp 54) rfl G5 1 E.toArray rfl rfl BV.o (by simpa using AT.o) OE.o ?_))
     go_meet
     case rel=>exact⟨v,QB,CB,LB,BB⟩
  have q0:¬(wh:Int) ≥ 0:=zo;go_wp2
  go_meet
  case rel=>
   have ht:xcf c S=S.r:=by unfold xcf;rw[if_neg (by rw[AA.o];omega)]
   rw[ht];exact⟨_,by rw[HQ.o];exact Q1,OwnC.mono BI.o B0.size,OwnB.mono AL.o B0.size,A1⟩
 case rest=>
  obtain⟨cav,q9,oc9,ol9,b9⟩:=hcut;obtain⟨W5,rfl⟩:=eqx wc;have hT:=xcg c S;have hlf:=xch c S;have htl:(xcf c S).tag.length=32:=BA.o;have hcv1:cav.oneCell'=true:=by obtain⟨A',n',c',rfl,-⟩:=oc9.sl;rfl
  obtain⟨Q9,hQ9⟩:=xeq (reqv (xcf c S) cav (.slice Al1 nl cl1));have l9:=qix (xcf c S) cav (.slice Al1 nl cl1) htl;have o9:=qzh (xcf c S) cav (.slice Al1 nl cl1) hcv1 rfl;have e9:Q9[47]? =some (.slice Al1 nl cl1):=by
   rw[←hQ9];exact(qdk (xcf c S) cav (.slice Al1 nl cl1) htl 12).trans rfl
  rw[hQ9]at l9 o9 q9;have e47:=(q9.cell 47).trans (show Q9.toArray[47]? =some (.slice Al1 nl cl1) by rw[tA3];exact e9);have f47:=q9.frozen 47;obtain⟨Z5,AU⟩:=zh2 (Z0.below b9.o Z0.lt) (B0.trans (b9.mono B0.size));have hnl:nl=S.r.leaf.length:=by
   obtain⟨A',c',e,-⟩:=ol9.slice;injection e with e1 e2
  have hcl:nl≤cl1:=by
   obtain⟨A',n',c',e,h1,-⟩:=ol9.sl;injection e with e1 e2 e3;omega
  obtain⟨AV,LG,AW,L9,O9,TL,AX⟩:=zh7 hnl (show w.heap.size+1<G5 by have:=AM.o;have:=BE.o;omega) hQ9 l9 o9 htl hlf;have Q9':=q9;clear hnl hQ9 l9 o9 htl hlf hT e9 q9;by_cases h512:nl≤512
  ·
   have q5:¬(nl:Int)>512:=zo;obtain⟨A9,A2⟩:=zh2 (qap Q9'.o 0 Q9 zjq) (zI 34 L9.o);go_wp2_with (first
    |(refine zld A9.o zu34 A2.o ?_)
    |(refine zst Z5.o A2.o (by simp[L9.o]) O9.o ?_))
   have AJ:=qap (Z5.setRow Q9.toArray) 0 Q9 zjq;refine zrt AJ zu34 A2.o ⟨cav,.slice Al1 nl cl1,by rw[←AW.o];rfl,?_,?_,?_⟩
   · exact tB3 oc9.o (qam _ _ _) (.inr (qa3 oc9.o Z5.o zdc))
   · have e:(xbl c S).leaf=S.r.leaf:=by
      show (xcf c S).leaf.take 512=_;rw[AX.o,tB5 (by rw[←AV.o];exact h512)]
     rw[e];exact tB3 ol9.o (qam _ _ _) (.inr (qa3 ol9.o Z5.o zdc))
   exact below_setRow AU.o zo _
  have q5:(nl:Int)>512:=zo;have q6:(512:Int)≤cl1:=zo;have l9':=qix (xcf c S) cav (.slice Al1 512 cl1) TL.o;have o9':=qzh (xcf c S) cav (.slice Al1 512 cl1) hcv1 rfl;have hs:=qzg (xcf c S) cav (.slice Al1 nl cl1) (.slice Al1 512 cl1) TL.o;obtain⟨Qc,hQc⟩:=xeq (reqv (xcf c S) cav (.slice Al1 512 cl1));rw[hQc]at l9' o9' hs;rw[AW.o]at hs;obtain⟨W6,hW6⟩:=eqx (W5.setCell ⟨G5,47,none⟩ (.slice Al1 512 cl1));have q6':Blk W6 G5 34 Qc.toArray:=by
   rw[hW6,←hs];have h:=Q9'.set_ 47 (.slice Al1 512 cl1);rwa[List.setIfInBounds_toArray]at h
  have z6:Blk W6 (w.heap.size+1) 34 zLQ:=by
   rw[hW6];exact Z5.far (p:=⟨G5,47,none⟩) (by have:=LG.o;simp;omega) _
  have b6:Below w.heap.size w W6:=by rw[hW6];exact AU.setCell (p:=⟨G5,47,none⟩) (by have:=LG.o;simp;omega) _
  have oc6:OwnC W6 w.heap.size cav (xcf c S).cavs:=by rw[hW6];exact qal oc9.o (p:=⟨G5,47,none⟩) (qa3 oc9.o Q9'.o zdc) _
  have ol6:OwnB W6 w.heap.size (.slice Al1 nl cl1) S.r.leaf:=by rw[hW6];exact OwnB.far ol9.o (p:=⟨G5,47,none⟩) (qa3 ol9.o Q9'.o zdc) _
  obtain⟨A9,A2,Z6,B6,AY,BW,L9',O9'⟩:=zh8 (qap q6' 0 Qc zjq) (zI 34 l9') z6 b6 oc6 ol6 l9' o9';obtain⟨HQc,BX⟩:=zh2 hQc hW6;clear hs hQc hW6 q6' z6 b6 oc6 ol6 l9' o9';go_upto_region 13 with(fail)
  rw[←BX.o];go_wp2_with (first
   |(refine zld A9.o zu34 A2.o ?_)
   |(refine zst Z6.o A2.o (by simp[L9'.o]) O9'.o ?_))
  have AJ:=qap (Z6.setRow Qc.toArray) 0 Qc zjq;refine zrt AJ zu34 A2.o ⟨cav,.slice Al1 512 cl1,by rw[←HQc.o];rfl,?_,?_,?_⟩
  · exact tB3 AY.o (qam _ _ _) (.inr (qa3 AY.o Z6.o zdc))
  · have e:(xbl c S).leaf=S.r.leaf.take 512:=by
     show (xcf c S).leaf.take 512=_;rw[AX.o]
    rw[e];have o:=xcd BW.o (k:=512) (by rw[←AV.o];omega);exact tB3 o (qam _ _ _) (.inr (qa3 o Z6.o zdc))
  exact below_setRow B6.o zo _
theorem xct(gw tb:Nat)(c:Cfg)(A0:Option Addr)(n0 k0:Nat)(S:Stp)(cs:List Value)(w:World)(hw:WldAt w gw tb c A0 n0 k0)(hc:c.Ok)(hs:StpR w cs S)(h140:S.raw.length≤140737488351232):
 Zc 37 #[.pointer (some ⟨gw,0,none⟩),.agg cs.toArray] w fun e w'=>∃v bs ok,e=.returned (.tuple #[v,.bool ok])∧OwnB w' w.heap.size v bs∧(∀b,bytesOf c S=some b→ok=true∧bs=b)∧(bytesOf c S=none→ok=false)∧Zb w w':=by
 have hs0:=hs;obtain⟨Ac,cc,Al,cl,Ak,ck,Ar,cr,rfl,hg,h1,h2,h3,⟨hr1,hr2,hr3,hr4⟩,h5,h6,h7⟩:=hs;have lC:=qnu S (.slice Ac S.r.cavs.length cc) (.slice Al S.r.leaf.length cl) (.slice Ak S.cavs.length ck) (.slice Ar S.raw.length cr) hg.tag;have c0:(stpv S (.slice Ac S.r.cavs.length cc) (.slice Al S.r.leaf.length cl) (.slice Ak S.cavs.length ck) (.slice Ar S.raw.length cr))[0]? =some (.int .i64 S.kind):=rfl;have c52:=qnw S (.slice Ac S.r.cavs.length cc) (.slice Al S.r.leaf.length cl) (.slice Ak S.cavs.length ck) (.slice Ar S.raw.length cr) hg.tag 3;obtain⟨C,hC⟩:=xeq (stpv S (.slice Ac S.r.cavs.length cc) (.slice Al S.r.leaf.length cl) (.slice Ak S.cavs.length ck) (.slice Ar S.raw.length cr));rw[hC]at lC c0 c52 hs0 ⊢;obtain⟨n,hn⟩:=xeq S.raw.length;obtain⟨kd,hkd⟩:=xeq S.kind;rw[hn]at c52 hr1 hr3 h140;rw[hkd]at c0 h6;obtain⟨W0,hW0⟩:=eqx (w.alloc (.cells C.toArray 44));have t0:=zNa hW0;have b0:=zMa hW0;have e0:=(t0.cell 0).trans (show C.toArray[0]? =some (.int .i64 kd) by simpa using c0);have e52:=(t0.cell 52).trans (show C.toArray[52]? =some (.slice Ar n cr) by simpa using c52);have CR:=xcl gw tb c A0 n0 k0 S C W0 (hw.call b0) hc (hs0.stay b0.size (fun b hb=>b0.block b hb));obtain⟨A6,AI,AA,AD,HI,AE,AF,HN⟩:=zh8 b0 t0 (hr3.call b0) CR (zI 44 lC) (qap t0 0 C zjq) hW0 hn;obtain⟨A4,LW,GD,AG⟩:=zh4 hkd b0.size (xby c hg h3.2.2.2.1 h3.2.2.2.2) hr4;clear hs0 hg h1 h2 h3 hr2 hr3 hr4 h5 h7 c0 c52 b0 t0 CR hn hkd hw lC hW0 hC;go_enter Tryz.func37,Tryz.ntmps37
 go_upto_region 1 with(fail)
 rw[←AF.o];by_cases hk:kd=5
 ·
  subst hk;by_cases h4:n≤400
  ·
   have q:¬(400:Int)<n:=zo;go_wp2_with (at_builtin;refine qe2 rfl _ _ rfl W0.heap.size _ [] rfl (OwnB.made W0 [] (by simp[maxLen])) Ar n cr S.raw rfl (AA.laid (.cells #[] 5)) (by simp;omega) zm ?_)
   intro v3 w3 hown3 hb3 hg3;obtain⟨A3,n3,c3,rfl,-,-,-⟩:=hown3.sl;obtain⟨O3,BB⟩:=zh2 hown3 (A6.trans ((((tA5 W0.heap.size W0).alloc (tA4 _) (.cells #[] 5)).trans hb3).mono LW.o));clear hown3 hb3 hg3;go_wp2
   go_ret2
   refine⟨_,S.raw,true,rfl,?_,fun b hb=>⟨rfl,?_⟩,fun h=>?_,BB.o⟩
   · exact(OwnB.mono O3.o LW.o).cast zm
   · unfold bytesOf at hb
     rw[if_pos A4.o]at hb;injection hb with hb;rw[←hb,tB5 (by rw[HN.o];omega)]
   unfold bytesOf at h;rw[if_pos A4.o]at h;cases h
  have q:(400:Int)<n:=zo;have q2:(400:Int)≤cr:=zo;have AH:=zh1 (show Reads W0 W0.heap.size 1 Ar 400 (byv (S.raw.take 400)) by
   have h:=AA.take (k:=400) zo;rw[Nat.mul_one]at h;have e:(byv S.raw).take 400=byv (S.raw.take 400):=by simp[byv,List.map_take]
   rw[←e];exact h)
  have hl4:(S.raw.take 400).length=400:=by rw[tBd,HN.o];omega
  have AJ:=zh1 hl4;clear hl4;go_wp2_with (at_builtin;refine qe2 rfl _ _ rfl W0.heap.size _ [] rfl (OwnB.made W0 [] (by simp[maxLen])) Ar 400 cr (S.raw.take 400) rfl (AH.laid (.cells #[] 5)) zm zm ?_)
  intro v3 w3 hown3 hb3 hg3;obtain⟨A3,n3,c3,rfl,-,-,-⟩:=hown3.sl;obtain⟨O3,BB⟩:=zh2 hown3 (A6.trans ((((tA5 W0.heap.size W0).alloc (tA4 _) (.cells #[] 5)).trans hb3).mono LW.o));clear hown3 hb3 hg3;go_wp2
  go_ret2
  refine⟨_,S.raw.take 400,true,rfl,?_,fun b hb=>⟨rfl,?_⟩,fun h=>?_,BB.o⟩
  · exact(OwnB.mono O3.o LW.o).cast zm
  · unfold bytesOf at hb
    rw[if_pos A4.o]at hb;injection hb with hb
  unfold bytesOf at h;rw[if_pos A4.o]at h;cases h
 go_wp2_with (refine zld AE.o zu44 HI.o ?_)
 refine AD.o.mono ?_;rintro e w1 ⟨cav,lv,rfl,oc,ol,b1⟩;obtain⟨A1,n1,c1,rfl,e1,k1,m1,r1⟩:=oc.sl;obtain⟨A2,c2,rfl,k2,m2,r2⟩:=ol.slice;subst e1;have EN:=xcs (xbl c S) A1 c1 A2 c2 w1 GD.fit r2 k2 m2 r1 k1 m1 GD.tid GD.cavn;obtain⟨R,hR⟩:=xeq (xbl c S);obtain⟨Q,hQ⟩:=xeq (reqv R (.slice A1 R.cavs.length c1) (.slice A2 R.leaf.length c2));obtain⟨q,hq⟩:=xeq ((qiw R).1);rw[hR]at EN ⊢;rw[hQ,hq]at EN;rw[hQ];obtain⟨AB,A7,A8,AC,A5⟩:=zh5 EN hR hq (A6.trans (b1.mono LW.o)) (tB1 LW.o b1.size);clear EN hR hQ hq oc ol b1 k1 m1 r1 k2 m2 r2;have hk5:¬S.kind=5:=by rw[A4.o];exact hk
 have A9:=zh1 hk5;clear hk5;by_cases hq0:q=0
 ·
  have q1:(q:Int)=0:=zo;go_wp2_with fail
  refine AB.o.mono ?_;rintro e w2 ⟨v,rfl,ob,b2⟩;obtain⟨OB,B2⟩:=zh2 ob (AC.trans (b2.mono A5.o));clear ob b2;go_wp2
  go_ret2
  refine⟨v,_,true,rfl,OwnB.mono OB.o A5.o,fun b hb=>⟨rfl,?_⟩,fun h=>?_,B2.o⟩
  · unfold bytesOf at hb
    rw[if_neg A9.o,A7.o,if_pos (by rw[A8.o,hq0])]at hb;injection hb
  unfold bytesOf at h;rw[if_neg A9.o,A7.o,if_pos (by rw[A8.o,hq0])]at h;cases h
 have q1:¬(q:Int)=0:=zo;have q2:((q:Int)==0)=false:=by simpa using q1
 go_wp2_with fail
 refine AB.o.mono ?_;rintro e w2 ⟨v,rfl,ob,b2⟩;obtain⟨OB,B2⟩:=zh2 ob (AC.trans (b2.mono A5.o));clear ob b2;go_wp2
 go_ret2
 refine⟨v,_,false,rfl,OwnB.mono OB.o A5.o,fun b hb=>?_,fun h=>rfl,B2.o⟩;unfold bytesOf at hb;rw[if_neg A9.o,A7.o,if_neg (by rw[A8.o];exact hq0)]at hb;cases hb
theorem xcu(R:Req)(ht:R.tag.length=32):(qiw R).2.length≤4294967400:=by
 have h1:=qiz R;have h2:=qea R.tid R.cavs R.tag ht;unfold qiw;split
 · split
   · simp only[tA6,txt,tBi,List.length_nil,qaw,tBd]
     omega
   simp
 simp
theorem xcv(c:Cfg){S:Stp}(hr:S.r.Good)(h1:∀x∈S.cavs,x.2<4294967296)(h2:∀x∈S.cavs,(Lit.int .i64 x.1).wf=true)(h:bytesOf c S=some bs):bs.length≤140737488355328:=by
 have hg:=xby c hr h1 h2;unfold bytesOf at h;split at h
 · injection h with h
   rw[←h,tBd];omega
 split at h
 · injection h with h
   rw[←h];have:=xcu (xbl c S) hg.tag;omega
 cases h
theorem xcw(h:Sit W B w col g gw tb c s)(hc:c.Ok)(S:Stp)(cs:List Value)(hs:StpR w cs S)(h140:S.raw.length≤140737488351232):
 Zc 15 #[.pointer (some ⟨g,0,none⟩),.pointer (some ⟨gw,0,none⟩),.agg cs.toArray] w fun e w'=>∃v col',e=.returned v∧OwnB w' w.heap.size v (xbm c s S).2∧(∀g,v.ownBlock=some g→col' g=0)∧Sit W B w' col' g gw tb c (xbm c s S).1∧Rest w col w' col':=by
 obtain⟨AV,hAV⟩:=xeq (xbm c s S);rw[hAV];have c0:cs[0]? =some (.int .i64 S.kind)∧cs[52 - 1]? =some (.int .u32 (S.n:Int))∧cs.length=53∧(Lit.int .i64 S.kind).wf=true∧S.n<4294967296∧S.r.Good∧(∀x∈S.cavs,x.2<4294967296)∧(∀x∈S.cavs,(Lit.int .i64 x.1).wf=true)∧∀b∈S.raw,b<256:=by
  obtain⟨Ac,cc,Al,cl,Ak,ck,Ar,cr,rfl,hg,h1,h2,⟨k1,k2,k3,k4,k5⟩,⟨hr1,hr2,hr3,hr4⟩,h5,h6,h7⟩:=hs;exact⟨rfl,qnw S _ _ _ _ hg.tag 2,qnu S _ _ _ _ hg.tag,h6,h5,hg,k4,k5,hr4⟩
 obtain⟨c0,c51,lC,hwf,hn32,good,k4,k5,hr4⟩:=c0;obtain⟨W0,hW0⟩:=eqx (w.alloc (.cells cs.toArray 44));have t0:=zNa hW0;have b0:=zMa hW0;obtain⟨kd,hkd⟩:=xeq S.kind;rw[hkd]at c0;have e0:=(t0.cell 0).trans (show cs.toArray[0]? =some (.int .i64 kd) by simpa using c0);have e51:=(t0.cell 51).trans (show cs.toArray[51]? =some (.int .u32 (S.n:Int)) by simpa using c51);obtain⟨A0,n0,k0,hw0,-⟩:=h.wld;have CB:=xct gw tb c A0 n0 k0 S cs W0 (hw0.call b0) hc (hs.stay b0.size (fun b hb=>b0.block b hb)) h140;obtain⟨HI,A7,A8,A4,A5,AC,A2,A1⟩:=zh8 (zI 44 lC) (qap t0 0 cs zjq) CB (h.call b0) b0 hW0 hAV hkd;obtain⟨HC,HN,AA,AB,LW⟩:=zh5 hc hn32 (fun(b:List Nat)(hb:bytesOf c S=some b)=>xbz c good k4 k5 hr4 hb) (fun(b:List Nat)(hb:bytesOf c S=some b)=>xcv c good k4 k5 hb) b0.size;clear CB hw0 h hs hAV hkd hc b0 hW0 t0 c0 c51 lC hwf hn32 good k4 k5 hr4;go_enter Tryz.func15,Tryz.ntmps15
 go_upto_region 1 with(fail)
 rw[←AC.o];by_cases h2:kd=2
 ·
  subst h2;go_wp2_with fail
  refine(qzv A4.o HC.o).mono ?_;rintro e w1 ⟨rfl,col1,s1,r1⟩;obtain⟨S1,R1⟩:=zh2 s1 ((Rest.of_below A5.o).trans r1);clear s1 r1;go_wp2
  go_ret
  have hav:=A2.o;unfold xbm at hav;rw[if_pos A1.o]at hav;refine⟨_,col1,rfl,?_,?_,?_,R1.o⟩
  · rw[←hav];exact OwnB.nil _ _
  · intro g hg;cases hg
  rw[←hav];exact S1.o
 by_cases h3:kd=3
 ·
  subst h3;go_wp2_with fail
  refine(qzw A4.o).mono ?_;rintro e w1 ⟨rfl,s1,r1⟩;obtain⟨S1,R1⟩:=zh2 s1 ((Rest.of_below A5.o).trans r1);clear s1 r1;go_wp2
  go_ret
  have hav:=A2.o;unfold xbm at hav;rw[if_neg (by rw[A1.o];decide),if_pos A1.o]at hav;refine⟨_,col,rfl,?_,?_,?_,R1.o⟩
  · rw[←hav];exact OwnB.nil _ _
  · intro g hg;cases hg
  rw[←hav];exact S1.o
 by_cases h4:kd=4
 ·
  subst h4;go_wp2_with fail
  refine(qzx A4.o S.n HN.o).mono ?_;rintro e w1 ⟨rfl,s1,r1⟩;obtain⟨S1,R1⟩:=zh2 s1 ((Rest.of_below A5.o).trans r1);clear s1 r1;go_wp2
  go_ret
  have hav:=A2.o;unfold xbm at hav;rw[if_neg (by rw[A1.o];decide),if_neg (by rw[A1.o];decide),if_pos A1.o]at hav;refine⟨_,col,rfl,?_,?_,?_,R1.o⟩
  · rw[←hav];exact OwnB.nil _ _
  · intro g hg;cases hg
  rw[←hav];exact S1.o
 by_cases h1:kd=1
 ·
  subst h1;go_wp2_with (refine zld A7.o zu44 HI.o ?_)
  refine A8.o.mono ?_;rintro e w1 ⟨v,bs,ok,rfl,ob,hy,hn,b1⟩;obtain⟨OB,S1,B1⟩:=zh3 ob (A4.call b1) (A5.trans (b1.mono LW.o));clear ob b1;cases hby:bytesOf c S with
  |none=>
   have hok:=hn hby;subst hok;have A3:=zh1 hby;clear hy hn hby;go_wp2
   go_ret
   have hav:=A2.o;unfold xbm at hav;rw[if_neg (by rw[A1.o];decide),if_neg (by rw[A1.o];decide),if_neg (by rw[A1.o];decide),if_pos (by rw[A1.o];decide),A3.o]at hav;refine⟨_,col,rfl,?_,?_,?_,Rest.of_below B1.o⟩
   · rw[←hav];exact OwnB.nil _ _
   · intro g hg;cases hg
   rw[←hav];exact S1.o
  |some b=>
   obtain⟨hok,hb⟩:=hy b hby;subst hok hb;obtain⟨A3,LB,BT⟩:=zh3 hby (AB.o bs hby) (AA.o bs hby);clear hy hn hby;obtain⟨A9,n9,c9,rfl,-,-,r9⟩:=OB.sl;have hn9:=qb4 r9;obtain⟨R9,N9⟩:=zh2 r9 (show n9≤140737488355328 by rw[←hn9];exact LB.o);clear r9 hn9;go_wp2_with fail
   refine(xc2 S1.o HC.o bs A9 n9 c9 R9.o N9.o BT.o).mono ?_;rintro e w2 ⟨v,col2,rfl,ov,hcol,s2,r2⟩;obtain⟨OV,A6,S2,R2,L2⟩:=zh5 ov hcol s2 ((Rest.of_below B1.o).trans r2) B1.size;clear ov hcol s2 r2;go_wp2
   go_ret
   have hav:=A2.o;unfold xbm at hav;rw[if_neg (by rw[A1.o];decide),if_neg (by rw[A1.o];decide),if_neg (by rw[A1.o];decide),if_pos (by rw[A1.o];decide),A3.o]at hav;refine⟨v,col2,rfl,?_,A6.o,?_,R2.o⟩
   · rw[←hav];exact OwnB.mono OV.o L2.o
   rw[←hav];exact S2.o
 by_cases h5:kd=5
 ·
  subst h5;go_wp2_with (refine zld A7.o zu44 HI.o ?_)
  refine A8.o.mono ?_;rintro e w1 ⟨v,bs,ok,rfl,ob,hy,hn,b1⟩;obtain⟨OB,S1,B1⟩:=zh3 ob (A4.call b1) (A5.trans (b1.mono LW.o));clear ob b1;cases hby:bytesOf c S with
  |none=>
   have hok:=hn hby;subst hok;have A3:=zh1 hby;clear hy hn hby;go_wp2
   go_ret
   have hav:=A2.o;unfold xbm at hav;rw[if_neg (by rw[A1.o];decide),if_neg (by rw[A1.o];decide),if_neg (by rw[A1.o];decide),if_pos (by rw[A1.o];decide),A3.o]at hav;refine⟨_,col,rfl,?_,?_,?_,Rest.of_below B1.o⟩
   · rw[←hav];exact OwnB.nil _ _
   · intro g hg;cases hg
   rw[←hav];exact S1.o
  |some b=>
   obtain⟨hok,hb⟩:=hy b hby;subst hok hb;obtain⟨A3,LB,BT⟩:=zh3 hby (AB.o bs hby) (AA.o bs hby);clear hy hn hby;obtain⟨A9,n9,c9,rfl,-,-,r9⟩:=OB.sl;have hn9:=qb4 r9;obtain⟨R9,N9⟩:=zh2 r9 (show n9≤140737488355328 by rw[←hn9];exact LB.o);clear r9 hn9;go_wp2_with fail
   refine(xc2 S1.o HC.o bs A9 n9 c9 R9.o N9.o BT.o).mono ?_;rintro e w2 ⟨v,col2,rfl,ov,hcol,s2,r2⟩;obtain⟨OV,A6,S2,R2,L2⟩:=zh5 ov hcol s2 ((Rest.of_below B1.o).trans r2) B1.size;clear ov hcol s2 r2;go_wp2
   go_ret
   have hav:=A2.o;unfold xbm at hav;rw[if_neg (by rw[A1.o];decide),if_neg (by rw[A1.o];decide),if_neg (by rw[A1.o];decide),if_pos (by rw[A1.o];decide),A3.o]at hav;refine⟨v,col2,rfl,?_,A6.o,?_,R2.o⟩
   · rw[←hav];exact OwnB.mono OV.o L2.o
   rw[←hav];exact S2.o
 go_wp2
 go_ret
 have hav:=A2.o;unfold xbm at hav;rw[if_neg (by rw[A1.o];exact h2),if_neg (by rw[A1.o];exact h3),if_neg (by rw[A1.o];exact h4),if_neg (by rw[A1.o];omega)]at hav;refine⟨_,col,rfl,?_,?_,?_,Rest.of_below A5.o⟩
 · rw[←hav];exact OwnB.nil _ _
 · intro g hg;cases hg
 rw[←hav];exact A4.o
def xcx (x y:Int)(st:Nat)(bs:List Nat):Cfg:={width:=1+within (wrap64 (x - 1)) 0 31,quantum:=1+within (wrap64 (y - 1)) 0 1,store:=st % 32769,seed:=bs.take 64}
theorem xcy(x y:Int)(st:Nat)(bs:List Nat)(hb:∀b∈bs,b<256):(xcx x y st bs).Ok:=by
 have h1:=ql2 (wrap64 (x - 1)) 0 31 zo;have h2:=ql2 (wrap64 (y - 1)) 0 1 zo;refine⟨?_,?_,?_,?_,?_,?_,?_⟩
 · show 1≤1+within (wrap64 (x - 1)) 0 31;omega
 · show 1+within (wrap64 (x - 1)) 0 31≤32;omega
 · show 1≤1+within (wrap64 (y - 1)) 0 1;omega
 · show 1+within (wrap64 (y - 1)) 0 1≤2;omega
 · show st % 32769≤32768;omega
 · show (bs.take 64).length≤64;rw[tBd];omega
 intro b h;exact hb b (tB7 h)
theorem xcz(x y:Int)(st:Nat)(A:Option Addr)(n k:Nat)(bs:List Nat)(w:World)(hr:Reads w w.heap.size 1 A n (byv bs))(hx: -9223372036854775808≤x∧x≤9223372036854775807)(hy: -9223372036854775808≤y∧y≤9223372036854775807)(hst:st<4294967296)(hnk:n≤k)(hn:n≤140737488351232):
 Zc 12 #[.agg #[.int .i64 x,.int .i64 y,.int .u32 (st:Int),.slice A n k]] w fun e w'=>∃A' n' k',e=.returned (.agg #[.int .i64 (xcx x y st bs).width,.int .i64 (xcx x y st bs).quantum,.int .u32 ((xcx x y st bs).store:Int),.slice A' n' k'])∧Reads w' w'.heap.size 1 A' n' (byv (xcx x y st bs).seed)∧(∀ad,A'=some ad→w.heap.size≤ad.block)∧Zb w w':=by
 refine(xbg x y st A n k bs w hr hx hy hst hnk hn).mono ?_;rintro e w' ⟨v,rfl,ho,hb⟩;obtain⟨A',n',k',rfl,-,-,r⟩:=ho.sl;refine⟨A',n',k',rfl,r,fun ad e=>?_,hb⟩;rcases ho.2 with⟨e',_⟩|⟨g,cap,cur,e',hb',_⟩
 · injection e' with e1 e2 e3
   rw[e1]at e;cases e
 injection e' with e1 e2 e3;rw[e1]at e;injection e with e;rw[←e];exact hb'
theorem xd0(h:Reads w w.heap.size size A n xs)(hg:w.grownBy w' (some b))(hA:∀ad,A=some ad→ad.block≠b):Reads w' w'.heap.size size A n xs:=
 ⟨h.1,fun hn=>by
  obtain⟨ad,e,hl,hc⟩:=h.2 hn;refine⟨ad,e,tB0 hl hg.size,fun j u hu=>?_⟩;refine(World.cell?_of_block ?_).trans (hc j u hu);rw[qa1];exact hg.block _ hl (fun e'=>by injection e' with e';exact hA ad e e')⟩
theorem xd1(hT:Tabs W)(hE:ErrT W)(b1:Zb W w1)(r1:Reads w1 w1.heap.size 1 A n (byv c.seed))
 (m2:Mdl w2 col 2 g c (newS c) L css)(z2:∀b,b<w1.heap.size→col b=0)(b2:Zb w1 w2)(wa4:WldAt w4 gw tb c A n k)(lg:w2.heap.size≤gw)(lt:w2.heap.size≤tb)(b4:Zb w2 w4):Sit W w4.heap.size w4 col g gw tb c (newS c):=by
 refine Sit.make qu7 m2 b4 wa4 lg lt (fun h0 ad e=>?_) hT hE (fun b hb=>z2 b (tB0 hb b1.size)) (b1.trans (b2.mono b1.size));obtain⟨ad',e',hlt,_⟩:=r1.2 h0;rw[e]at e';injection e' with e';subst e';exact z2 _ hlt
theorem WldAt.rest(h:WldAt w gw tb c A n k)(hr:Rest w col w' col')(g0:col gw=0)(t0:col tb=0)(hA:0<n→∀ad,A=some ad→col ad.block=0):WldAt w' gw tb c A n k:=
 ⟨hr.blk h.blk g0,Rest.blk hr h.tab t0,hr.reads h.seed hA⟩
def xd2 (c:Cfg)(s:Sta)(l:List Stp):Sta:=l.foldl (fun s S=>(xbm c s S).1) s
theorem xd3{l:List Stp}{S:Stp}(h:l[k]? =some S):xd2 c s (l.take (k+1))=(xbm c (xd2 c s (l.take k)) S).1:=by
 obtain⟨hk,e⟩:=tA8 h;unfold xd2;rw[List.take_succ_eq_append_getElem hk,List.foldl_append,e];rfl
structure CpAt (w:World)(col cc:Col)(L:Loc)(css:List (List Value))(s:Sta):Prop where
 st:StAt 92 74 66 w cc 2 L css s
 own:∀b,cc b≠0→b<w.heap.size∧col b=0
theorem CpAt.rest(h:CpAt w col cc L css s)(hr:Rest w col w' col'):CpAt w' col' cc L css s:=by
 have K:∀i,i≠0→KeepsCol i w cc w' cc:=fun i hi=>⟨hr.size,fun b hb e=>⟨(hr.block b hb (h.own b zo).2).1,e⟩⟩
 refine⟨⟨h.st.tens.keep (K _ zdc),h.st.tres.keep (K _ zdc),h.st.gras.keep (K _ zdc),h.st.trs.keep fun i hi=>K i zo⟩,fun b hb=>?_⟩;have h1:=h.own b hb;exact⟨tB0 h1.1 hr.size,(hr.block b h1.1 h1.2).2⟩
theorem CpAt.call(h:CpAt w col cc L css s)(hb:Zb w w'):CpAt w' col cc L css s:=h.rest (Rest.of_below hb)
theorem xd4(h:Sit W B w col g gw tb c s):
 Zc 16 #[.pointer (some ⟨g,0,none⟩)] w fun e w'=>∃cc L css,e=.returned (.agg (stav s L).toArray)∧CpAt w' col cc L css s∧Zb w w'∧Sit W B w' col g gw tb c s:=by
 refine(xbc h).mono ?_;rintro e w' ⟨cc,L,css,rfl,h1,h2,h3,h4⟩;exact⟨cc,L,css,rfl,⟨h1,fun b hb=>⟨(h2 b hb).2,h.new0 (h2 b hb).1⟩⟩,h3,h4⟩
theorem xde(A1 A2:Option Addr)(n c m d:Nat)(xs ys:List Nat)(w:World)(h1:Reads w w.heap.size 1 A1 n (drwv xs))(h2:Reads w w.heap.size 1 A2 m (drwv ys))(hn:n≤1000)(hm:m≤1000):
 Zc 83 #[.slice A1 n c,.slice A2 m d] w fun e w'=>e=.returned (.bool (decide (xs=ys)))∧Zb w w':=by
 have l1:xs.length=n:=by have:=h1.1;simpa [drwv] using this
 have l2:ys.length=m:=by have:=h2.1;simpa [drwv] using this
 obtain⟨B0,L1,L2,H1,H2⟩:=zh5 (tA5 w.heap.size w) l1 l2 h1 h2;go_enter Tryz.func83,Tryz.ntmps83
 by_cases hnm:n=m
 ·
  subst hnm;clear l1 l2 h1 h2;go_wp2_with fail
  go_loopw [13] (fun i wr=>∃k:Nat,k≤n∧i=.int .i64 k∧Hid (xs.take k=ys.take k)∧Hid (Zb w wr)) (fun i _=>n - (intOf i).toNat)
  case atStart=>exact⟨0,by omega,rfl,zh1 rfl,B0⟩
  case round=>
   obtain⟨k,hk,rfl,ht,hb⟩:=hrel;by_cases hlt:k<n
   ·
    have p1:(k:Int)<n:=zo;obtain⟨x,hx⟩:∃x,xs[k]? =some x:=⟨_,tA7 (by rw[L1.o];exact hlt)⟩;obtain⟨y,hy⟩:∃y,ys[k]? =some y:=⟨_,tA7 (by rw[L2.o];exact hlt)⟩;obtain⟨b1,o1,e1,-,c1⟩:=H1.mid zo zdc;obtain⟨b2,o2,e2,-,c2⟩:=H2.mid zo zdc;subst e1 e2;obtain⟨C1,C2⟩:=zh2 (c1 k (.int .u32 (x:Int)) (by unfold drwv;rw[tBj,hx];rfl)) (c2 k (.int .u32 (y:Int)) (by unfold drwv;rw[tBj,hy];rfl));have HE:=zh1 (show x=y→xs.take (k+1)=ys.take (k+1) from fun h=>by
     rw[List.take_add_one,List.take_add_one,hx,hy,ht.o,h])
    have HF:=zh1 (show x≠y→decide (xs=ys)=false from fun h=>by
     refine decide_eq_false fun e=>h ?_
     rw[e,hy]at hx;injection hx with hx;exact hx.symm)
    clear hx hy c1 c2;go_upto_region 6 with(fail)
    obtain⟨S,HS⟩:=zS fun w'=>Zb w w'
    refine zrs S 9 (zq 0 9 []) ((HS.o _).mpr hb.drew) ?_;obtain⟨F0,F1,HB⟩:=zh3 (zF HS C1.o) (zF HS C2.o) hb.drew;by_cases hxy:x=y
    ·
     subst hxy;iterate 9 (refine zr2 ?_)
     refine qbf ?_;clear HS F0 F1;have A0:=zh1 (HE.o rfl);clear HE;go_wp2
     go_roundw
     case rel=>exact⟨k+1,by omega,by go_num,A0,HB⟩
     case measure=>simp[intOf];omega
    have hxy2:¬(x:Int)=y:=zo;have hxy3:((x:Int)==y)=false:=by simp;omega
    have A3:=zh1 (HF.o hxy);clear HF HE;iterate 9 (refine zr2 ?_)
    refine qbf ?_;clear HS F0 F1 hxy;go_wp2
    go_ret
    exact⟨by rw[A3.o];rfl,HB.o⟩
   obtain rfl:k=n:=zo;have HF:=zh1 (show decide (xs=ys)=true from decide_eq_true (by
    have h:=ht.o;rwa[tB5 (by rw[L1.o];exact tA4 _),tB5 (by rw[L2.o];exact tA4 _)]at h))
   have p1:¬(k:Int)<k:=zo;go_wp2
   go_ret
   exact⟨by rw[HF.o];rfl,hb.o⟩
 have HF:=zh1 (show decide (xs=ys)=false from decide_eq_false fun e=>hnm (by rw[←l1,←l2,e]));have p1:¬(n:Int)=m:=zo;have p2:((n:Int)==m)=false:=by simp;omega
 clear l1 l2 h1 h2;go_wp2
 go_ret
 exact⟨by rw[HF.o];rfl,B0.o⟩
theorem xdf(A1 A2:Option Addr)(n c m d:Nat)(xs ys:List (List Nat))(w:World)(h1:TextsR w A1 n xs)(h2:TextsR w A2 m ys)(b1:∀b∈xs,∀x∈b,x<256)(b2:∀b∈ys,∀x∈b,x<256)(hn:n≤2000)(hm:m≤2000):
 Zc 80 #[.slice A1 n c,.slice A2 m d,.func (.func 81) #[] #[]] w fun e w'=>e=.returned (.bool (decide (xs=ys)))∧w=w':=by
 have l1:=h1.1;have l2:=h2.1;obtain⟨L1,L2,H1,H2,BB⟩:=zh5 l1 l2 h1 h2 (And.intro b1 b2);go_enter Tryz.func80,Tryz.ntmps80
 by_cases hnm:n=m
 ·
  subst hnm;clear l1 l2 h1 h2 b1 b2;go_wp2_with fail
  go_loop [17] (fun i=>∃k:Nat,k≤n∧i=.int .i64 k∧Hid (xs.take k=ys.take k)) (fun i=>n - (intOf i).toNat)
  case atStart=>exact⟨0,by omega,rfl,zh1 rfl⟩
  case round=>
   obtain⟨k,hk,rfl,ht⟩:=hrel;by_cases hlt:k<n
   ·
    have p1:(k:Int)<n:=zo;obtain⟨g1,o1,x,A3,n3,c3,e1,-,hx,c1,-,-,r1⟩:=H1.at_ hlt;obtain⟨g2,o2,y,A4,n4,c4,e2,-,hy,c2,-,-,r2⟩:=H2.at_ hlt;subst e1 e2;have CE:=qqz x y A3 A4 n3 c3 n4 c4 w (BB.o.1 x (tB2 hx)) (BB.o.2 y (tB2 hy)) r1 r2;have HE:=zh1 (show (x==y)=true→xs.take (k+1)=ys.take (k+1) from fun h=>by
     rw[List.take_add_one,List.take_add_one,hx,hy,ht.o,eq_of_beq h])
    have HF:=zh1 (show (x==y)=false→decide (xs=ys)=false from fun h=>by
     refine decide_eq_false fun e=>?_
     rw[e,hy]at hx;injection hx with hx;rw[hx]at h;simp at h)
    obtain⟨bq,hbq⟩:=xeq (x==y);rw[hbq]at CE HE HF;have A0:=zh1 CE;clear hx hy r1 r2 CE hbq;go_wp2_with fail
    refine A0.o.mono ?_;rintro e w' ⟨rfl,rfl⟩;cases bq with
    |true=>
     have A5:=zh1 (show xs.take (k+1)=ys.take (k+1) by have:=HE.o;simpa using this);clear HE HF;go_wp2
     go_round
     case rel=>exact⟨k+1,by omega,by go_num,A5⟩
     case measure=>simp[intOf];omega
    |false=>
     have A6:=zh1 (show decide (xs=ys)=false by have:=HF.o;simpa using this);clear HE HF;go_wp2
     go_ret
     exact⟨by rw[A6.o];rfl,rfl⟩
   obtain rfl:k=n:=zo;have HF:=zh1 (show decide (xs=ys)=true from decide_eq_true (by
    have h:=ht.o;rwa[tB5 (by rw[L1.o];exact tA4 _),tB5 (by rw[L2.o];exact tA4 _)]at h))
   have p1:¬(k:Int)<k:=zo;go_wp2
   go_ret
   exact⟨by rw[HF.o];rfl,rfl⟩
 have HF:=zh1 (show decide (xs=ys)=false from decide_eq_false fun e=>hnm (by rw[←l1,←l2,e]));have p1:¬(n:Int)=m:=zo;have p2:((n:Int)==m)=false:=by simp;omega
 clear l1 l2 h1 h2 b1 b2;go_wp2
 go_ret
 exact⟨by rw[HF.o];rfl,rfl⟩
theorem xdg(A1 A2:Option Addr)(n c m d:Nat)(xs ys:List (List Nat))(w:World)(h1:TextsR w A1 n xs)(h2:TextsR w A2 m ys)(b1:∀b∈xs,∀x∈b,x<256)(b2:∀b∈ys,∀x∈b,x<256)(hn:n≤2000)(hm:m≤2000):
 Zc 79 #[.slice A1 n c,.slice A2 m d] w fun e w'=>e=.returned (.bool (decide (xs=ys)))∧w=w':=by
 have H:=zh1 (xdf A1 A2 n c m d xs ys w h1 h2 b1 b2 hn hm);clear h1 h2 b1 b2;go_enter Tryz.func79,Tryz.ntmps79
 go_wp2_with fail
 refine H.o.mono ?_;rintro e w' ⟨rfl,rfl⟩;go_wp2
 go_ret
 exact⟨rfl,rfl⟩
theorem xdh(t u:Tre):(t.state=u.state∧t.tenant=u.tenant∧t.weight=u.weight∧t.deficit=u.deficit∧t.hd=u.hd∧t.draws=u.draws∧t.leaves=u.leaves∧t.queue=u.queue) ↔ t=u:=by
 cases t
 cases u
 simp only[Tre.mk.injEq];constructor
 · rintro ⟨a,b,c,d,e,f,g,h⟩
   simp_all
 intro h;simp_all
instance decTre:DecidableEq Tre:=fun t u=>decidable_of_iff _ (xdh t u)
theorem xdi{u:Tre}(h:¬(t.state=u.state∧t.tenant=u.tenant∧t.weight=u.weight∧t.deficit=u.deficit∧t.hd=u.hd∧t.draws=u.draws∧t.leaves=u.leaves∧t.queue=u.queue)):decide (t=u)=false:=decide_eq_false fun e=>h ((xdh t u).2 e)
theorem xdj(t u:Tre)(tk1:t.Ok)(uk1:u.Ok)(A1 A2 A3 B1 B2 B3:Option Addr)(c1 c2 c3 d1 d2 d3 p:Nat)(w:World)(hp:w.cell? ⟨p,0,none⟩=some (.func (.func 79) #[] #[]))(r1:Reads w w.heap.size 1 A1 t.draws.length (drwv t.draws))(s1:Reads w w.heap.size 1 B1 u.draws.length (drwv u.draws))
 (r2:TextsR w A2 t.leaves.length t.leaves)(s2:TextsR w B2 u.leaves.length u.leaves)(r3:TextsR w A3 t.queue.length t.queue)(s3:TextsR w B3 u.queue.length u.queue):
 Zc 82 #[.agg (trev t (.slice A1 t.draws.length c1) (.slice A2 t.leaves.length c2) (.slice A3 t.queue.length c3)).toArray,.agg (trev u (.slice B1 u.draws.length d1) (.slice B2 u.leaves.length d2) (.slice B3 u.queue.length d3)).toArray,.pointer (some ⟨p,0,none⟩)] w fun e w'=>e=.returned (.bool (decide (t=u)))∧Zb w w':=by
 obtain⟨C0,C1,C2,no,yes⟩:=zh5 (fun(W:World)(hb:Zb w W)=>xde A1 B1 t.draws.length c1 u.draws.length d1 t.draws u.draws W (r1.call hb) (s1.call hb) (by have:=tk1.draws;omega) (by have:=uk1.draws;omega)) (fun(W:World)(hb:Zb w W)=>xdg A2 B2 t.leaves.length c2 u.leaves.length d2 t.leaves u.leaves W (r2.call hb) (s2.call hb) (fun b hb=>(tk1.leafb b hb).2) (fun b hb=>(uk1.leafb b hb).2) (by have:=tk1.leaves;omega) (by have:=uk1.leaves;omega)) (fun(W:World)(hb:Zb w W)=>xdg A3 B3 t.queue.length c3 u.queue.length d3 t.queue u.queue W (r3.call hb) (s3.call hb) (fun b hb=>(tk1.queueb b hb).2) (fun b hb=>(uk1.queueb b hb).2) (by have:=tk1.queue;omega) (by have:=uk1.queue;omega)) (fun h=>xdi (t:=t) (u:=u) h) ((xdh t u).1);have lD:=qnn (t:=t) (.slice A1 t.draws.length c1) (.slice A2 t.leaves.length c2) (.slice A3 t.queue.length c3) tk1.hd;have lE:=qnn (t:=u) (.slice B1 u.draws.length d1) (.slice B2 u.leaves.length d2) (.slice B3 u.queue.length d3) uk1.hd;have hD:=fun j=>qum t (.slice A1 t.draws.length c1) (.slice A2 t.leaves.length c2) (.slice A3 t.queue.length c3) j
 have hE:=fun j=>qum u (.slice B1 u.draws.length d1) (.slice B2 u.leaves.length d2) (.slice B3 u.queue.length d3) j
 have keq:=fun w'=>qlx w' t.hd u.hd tk1.hd uk1.hd
 have l7:(hdv t.hd).length=68:=qnm tk1.hd;have l8:(hdv u.hd).length=68:=qnm uk1.hd;have D0:(trev t (.slice A1 t.draws.length c1) (.slice A2 t.leaves.length c2) (.slice A3 t.queue.length c3)).toArray[0]? =some (.int .i64 t.state):=by rw[tA3];rfl
 have D1:(trev t (.slice A1 t.draws.length c1) (.slice A2 t.leaves.length c2) (.slice A3 t.queue.length c3)).toArray[1]? =some (.int .i64 t.tenant):=by rw[tA3];rfl
 have D2:(trev t (.slice A1 t.draws.length c1) (.slice A2 t.leaves.length c2) (.slice A3 t.queue.length c3)).toArray[2]? =some (.int .i64 t.weight):=by rw[tA3];rfl
 have D3:(trev t (.slice A1 t.draws.length c1) (.slice A2 t.leaves.length c2) (.slice A3 t.queue.length c3)).toArray[3]? =some (.int .i64 t.deficit):=by rw[tA3];rfl
 have D4:(trev t (.slice A1 t.draws.length c1) (.slice A2 t.leaves.length c2) (.slice A3 t.queue.length c3)).toArray[4]? =some (.slice A1 t.draws.length c1):=by rw[tA3];rfl
 have D5:(trev t (.slice A1 t.draws.length c1) (.slice A2 t.leaves.length c2) (.slice A3 t.queue.length c3)).toArray[5]? =some (.slice A2 t.leaves.length c2):=by rw[tA3];rfl
 have D6:(trev t (.slice A1 t.draws.length c1) (.slice A2 t.leaves.length c2) (.slice A3 t.queue.length c3)).toArray[6]? =some (.slice A3 t.queue.length c3):=by rw[tA3];rfl
 have E0:(trev u (.slice B1 u.draws.length d1) (.slice B2 u.leaves.length d2) (.slice B3 u.queue.length d3)).toArray[0]? =some (.int .i64 u.state):=by rw[tA3];rfl
 have E1:(trev u (.slice B1 u.draws.length d1) (.slice B2 u.leaves.length d2) (.slice B3 u.queue.length d3)).toArray[1]? =some (.int .i64 u.tenant):=by rw[tA3];rfl
 have E2:(trev u (.slice B1 u.draws.length d1) (.slice B2 u.leaves.length d2) (.slice B3 u.queue.length d3)).toArray[2]? =some (.int .i64 u.weight):=by rw[tA3];rfl
 have E3:(trev u (.slice B1 u.draws.length d1) (.slice B2 u.leaves.length d2) (.slice B3 u.queue.length d3)).toArray[3]? =some (.int .i64 u.deficit):=by rw[tA3];rfl
 have E4:(trev u (.slice B1 u.draws.length d1) (.slice B2 u.leaves.length d2) (.slice B3 u.queue.length d3)).toArray[4]? =some (.slice B1 u.draws.length d1):=by rw[tA3];rfl
 have E5:(trev u (.slice B1 u.draws.length d1) (.slice B2 u.leaves.length d2) (.slice B3 u.queue.length d3)).toArray[5]? =some (.slice B2 u.leaves.length d2):=by rw[tA3];rfl
 have E6:(trev u (.slice B1 u.draws.length d1) (.slice B2 u.leaves.length d2) (.slice B3 u.queue.length d3)).toArray[6]? =some (.slice B3 u.queue.length d3):=by rw[tA3];rfl
 obtain⟨D,hDD⟩:=xeq (trev t (.slice A1 t.draws.length c1) (.slice A2 t.leaves.length c2) (.slice A3 t.queue.length c3));obtain⟨E,hEE⟩:=xeq (trev u (.slice B1 u.draws.length d1) (.slice B2 u.leaves.length d2) (.slice B3 u.queue.length d3));simp only[hDD]at lD hD D0 D1 D2 D3 D4 D5 D6;simp only[hEE]at lE hE E0 E1 E2 E3 E4 E5 E6;rw[hDD,hEE];obtain⟨H,hH⟩:=xeq (hdv t.hd);obtain⟨K,hK⟩:=xeq (hdv u.hd);simp only[hH]at hD keq l7;simp only[hK]at hE keq l8;obtain⟨W0,hW0⟩:=eqx ((w.alloc (.cells D.toArray 74)).alloc (.cells E.toArray 74));have b1:=zNb hW0;have b2:=zNc hW0;have bb:=zMb hW0;have hr1:W0.rangeAt w.heap.size 7 H:=qap b1 7 H (fun j v hv=>by simpa using (hD j).trans hv);have hr2:W0.rangeAt (w.heap.size+1) 7 K:=qap b2 7 K (fun j v hv=>by simpa using (hE j).trans hv);have x0:=(b1.cell 0).trans D0;have y0:=(b2.cell 0).trans E0;have x1:=(b1.cell 1).trans D1;have y1:=(b2.cell 1).trans E1;have x2:=(b1.cell 2).trans D2;have y2:=(b2.cell 2).trans E2;have x3:=(b1.cell 3).trans D3;have y3:=(b2.cell 3).trans E3;have x4:=(b1.cell 4).trans D4;have y4:=(b2.cell 4).trans E4;have x5:=(b1.cell 5).trans D5;have y5:=(b2.cell 5).trans E5;have x6:=(b1.cell 6).trans D6;have y6:=(b2.cell 6).trans E6;have xp:=qai hp bb;obtain⟨A5,BB,R7,R8,I7,I8⟩:=zh6 hW0 bb hr1 hr2 (zI 55 l7) (zI 55 l8);obtain⟨bh,hbh⟩:=xeq (decide (t.hd=u.hd));rw[hbh]at keq;obtain⟨A0,SC⟩:=zh2 hbh (show ∀(b:Bool),decide (t=u)=b→∃c,decide (t=u)=c from fun b h=>⟨b,h⟩);obtain⟨a1,ha1⟩:=xeq t.state;obtain⟨a2,ha2⟩:=xeq t.tenant;obtain⟨a3,ha3⟩:=xeq t.weight;obtain⟨a4,ha4⟩:=xeq t.deficit;obtain⟨e1,he1⟩:=xeq u.state;obtain⟨e2,he2⟩:=xeq u.tenant;obtain⟨e3,he3⟩:=xeq u.weight;obtain⟨e4,he4⟩:=xeq u.deficit;rw[ha1]at x0;rw[ha2]at x1;rw[ha3]at x2;rw[ha4]at x3;rw[he1]at y0;rw[he2]at y1;rw[he3]at y2;rw[he4]at y3;have NO:=no;rw[ha1,ha2,ha3,ha4,he1,he2,he3,he4]at NO;have A4:=yes;rw[ha1,ha2,ha3,ha4,he1,he2,he3,he4]at A4;clear no yes hp r1 s1 r2 s2 r3 s3 tk1 uk1 lD lE hD hE l7 l8 D0 D1 D2 D3 D4 D5 D6 E0 E1 E2 E3 E4 E5 E6 hDD hEE hH hK hW0 b1 b2 bb hr1 hr2 hbh ha1 ha2 ha3 ha4 he1 he2 he3 he4 SC;go_enter Tryz.func82,Tryz.ntmps82
 go_upto_region 1 with(fail)
 rw[←A5.o];by_cases q0:a1=e1
 rotate_left
 · have HF:=zh1 (NO.o (fun h=>q0 h.1))
   have qq:(a1==e1)=false:=by simpa using q0
   go_wp2
   go_ret
   exact⟨by rw[HF.o];rfl,BB.o⟩
 subst q0;by_cases q1:a2=e2
 rotate_left
 · have HF:=zh1 (NO.o (fun h=>q1 h.2.1))
   have qq:(a2==e2)=false:=by simpa using q1
   go_wp2
   go_ret
   exact⟨by rw[HF.o];rfl,BB.o⟩
 subst q1;by_cases q2:a3=e3
 rotate_left
 · have HF:=zh1 (NO.o (fun h=>q2 h.2.2.1))
   have qq:(a3==e3)=false:=by simpa using q2
   go_wp2
   go_ret
   exact⟨by rw[HF.o];rfl,BB.o⟩
 subst q2;by_cases q3:a4=e4
 rotate_left
 · have HF:=zh1 (NO.o (fun h=>q3 h.2.2.2.1))
   have qq:(a4==e4)=false:=by simpa using q3
   go_wp2
   go_ret
   exact⟨by rw[HF.o];rfl,BB.o⟩
 subst q3;cases bh with
 |false=>
  have HF:=zh1 (NO.o (fun h=>of_decide_eq_false A0.o h.2.2.2.2.1));go_wp2_with (first
   |(refine zld R7.o zu55 I7.o ?_)
   |(refine zld R8.o zu55 I8.o ?_))
  go_ret
  exact⟨by rw[HF.o];rfl,BB.o⟩
 |true=>
  go_wp2_with (first
   |(refine zld R7.o zu55 I7.o ?_)
   |(refine zld R8.o zu55 I8.o ?_))
  refine zcb (C0.o W0 BB.o) fun w1 bw1=>?_
  have xp1:=qai xp bw1;have x51:=qai x5 bw1;have y51:=qai y5 bw1;have x61:=qai x6 bw1;have y61:=qai y6 bw1;have B1':=zh1 (BB.trans (bw1.mono BB.size));clear bw1;cases hbd:decide (t.draws=u.draws) with
  |false=>
   have HF:=zh1 (NO.o (fun h=>of_decide_eq_false hbd h.2.2.2.2.2.1));clear hbd;go_wp2
   go_ret
   exact⟨by rw[HF.o];rfl,B1'.o⟩
  |true=>
   have A6:=zh1 (of_decide_eq_true hbd);clear hbd;go_wp2_with fail
   refine(C1.o w1 B1'.o).mono ?_;rintro e w' ⟨rfl,rfl⟩;cases hbl:decide (t.leaves=u.leaves) with
   |false=>
    have HF:=zh1 (NO.o (fun h=>of_decide_eq_false hbl h.2.2.2.2.2.2.1));clear hbl;go_wp2
    go_ret
    exact⟨by rw[HF.o];rfl,B1'.o⟩
   |true=>
    have A7:=zh1 (of_decide_eq_true hbl);clear hbl;go_wp2_with fail
    refine(C2.o w1 B1'.o).mono ?_;rintro e w' ⟨rfl,rfl⟩;cases hbq:decide (t.queue=u.queue) with
    |false=>
     have HF:=zh1 (NO.o (fun h=>of_decide_eq_false hbq h.2.2.2.2.2.2.2));clear hbq;go_wp2
     go_ret
     exact⟨by rw[HF.o];rfl,B1'.o⟩
    |true=>
     have HT:=zh1 (show decide (t=u)=true from decide_eq_true (A4.o ⟨by first|rfl|trivial,by first|rfl|trivial,by first|rfl|trivial,by first|rfl|trivial,of_decide_eq_true A0.o,A6.o,A7.o,of_decide_eq_true hbq⟩));clear hbq;go_wp2
     go_ret
     exact⟨by rw[HT.o];rfl,B1'.o⟩
def TreesR (w:World)(A:Option Addr)(n:Nat)(ts:List Tre):Prop:=
 ts.length=n∧∀(i:Nat) (t:Tre),ts[i]? =some t→t.Ok∧∃g o A1 c1 A2 c2 A3 c3,A=some ⟨g,o,none⟩∧w.rangeAt g (o+i*75) (trev t (.slice A1 t.draws.length c1) (.slice A2 t.leaves.length c2) (.slice A3 t.queue.length c3))∧
  Reads w w.heap.size 1 A1 t.draws.length (drwv t.draws)∧TextsR w A2 t.leaves.length t.leaves∧TextsR w A3 t.queue.length t.queue
theorem TreesR.call{ts:List Tre}(h:TreesR w A n ts)(hb:Zb w w'):TreesR w' A n ts:=
 ⟨h.1,fun i t ht=>by
  obtain⟨o,g,of,A1,c1,A2,c2,A3,c3,e,r,r1,r2,r3⟩:=h.2 i t ht;exact⟨o,g,of,A1,c1,A2,c2,A3,c3,e,fun j u hu=>qai (r j u hu) hb,r1.call hb,r2.call hb,r3.call hb⟩⟩
theorem xdk(A B:Option Addr)(n c m d p:Nat)(xs ys:List Tre)(w:World)(h1:TreesR w A n xs)(h2:TreesR w B m ys)(hn:n≤100)(hm:m≤100)(hp:w.cell? ⟨p,0,none⟩=some (.func (.func 79) #[] #[])):
 Zc 86 #[.slice A n c,.slice B m d,.func (.func 82) #[] #[.pointer (some ⟨p,0,none⟩)]] w fun e w'=>e=.returned (.bool (decide (xs=ys)))∧Zb w w':=by
 have l1:=h1.1;have l2:=h2.1;obtain⟨B0,L1,L2,H1,H2,HP,A4⟩:=zh7 (tA5 w.heap.size w) l1 l2 h1 h2 hp (show Tryz.zeroCells74.size=75 by kernel_rfl);clear hp;go_enter Tryz.func86,Tryz.ntmps86
 by_cases hnm:n=m
 ·
  subst hnm;clear l1 l2 h1 h2;go_wp2_with fail
  go_loopw [17] (fun i wr=>∃k:Nat,k≤n∧i=.int .i64 k∧Hid (xs.take k=ys.take k)∧Hid (Zb w wr)) (fun i _=>n - (intOf i).toNat)
  case atStart=>exact⟨0,by omega,rfl,zh1 rfl,B0⟩
  case round=>
   obtain⟨k,hk,rfl,ht,hb⟩:=hrel;by_cases hlt:k<n
   ·
    have q1:(k:Int)<n:=zo;obtain⟨x,hx⟩:∃x,xs[k]? =some x:=⟨_,tA7 (by rw[L1.o];exact hlt)⟩;obtain⟨y,hy⟩:∃y,ys[k]? =some y:=⟨_,tA7 (by rw[L2.o];exact hlt)⟩;obtain⟨xo,g1,o1,A1,c1,A2,c2,A3,c3,e1,r1,x1,x2,x3⟩:=(H1.call hb.o).2 k x hx;obtain⟨yo,g2,o2,B1,d1,B2,d2,B3,d3,e2,r2,y1,y2,y3⟩:=(H2.call hb.o).2 k y hy;subst e1 e2;have CT:=fun(W:World)(hB:Zb wr W)=>xdj x y xo yo A1 A2 A3 B1 B2 B3 c1 c2 c3 d1 d2 d3 p W (qai (qai HP.o hb.o) hB) (x1.call hB) (y1.call hB) (x2.call hB) (y2.call hB) (x3.call hB) (y3.call hB)
    have lX:=qnn (t:=x) (.slice A1 x.draws.length c1) (.slice A2 x.leaves.length c2) (.slice A3 x.queue.length c3) xo.hd;have lY:=qnn (t:=y) (.slice B1 y.draws.length d1) (.slice B2 y.leaves.length d2) (.slice B3 y.queue.length d3) yo.hd;have oX:=qqp x (.slice A1 x.draws.length c1) (.slice A2 x.leaves.length c2) (.slice A3 x.queue.length c3) rfl rfl rfl;have oY:=qqp y (.slice B1 y.draws.length d1) (.slice B2 y.leaves.length d2) (.slice B3 y.queue.length d3) rfl rfl rfl;obtain⟨X,hX⟩:=xeq (trev x (.slice A1 x.draws.length c1) (.slice A2 x.leaves.length c2) (.slice A3 x.queue.length c3));obtain⟨Y,hY⟩:=xeq (trev y (.slice B1 y.draws.length d1) (.slice B2 y.leaves.length d2) (.slice B3 y.queue.length d3));simp only[hX,hY]at CT;rw[hX]at lX oX r1;rw[hY]at lY oY r2;have HE:=zh1 (show decide (x=y)=true→xs.take (k+1)=ys.take (k+1) from fun h=>by
     rw[List.take_add_one,List.take_add_one,hx,hy,ht.o,of_decide_eq_true h])
    have HF:=zh1 (show decide (x=y)=false→decide (xs=ys)=false from fun h=>by
     refine decide_eq_false fun e=>of_decide_eq_false h ?_
     rw[e,hy]at hx;injection hx with hx;exact hx.symm)
    obtain⟨IX,IY,LX,LY,OX,OY,RX,RY⟩:=zh8 (zI 74 lX) (zI 74 lY) lX lY oX oY r1 r2;obtain⟨A6,N1⟩:=zh2 CT (Blk.new wr 74 Tryz.zeroCells74);clear hx hy r1 r2 x1 x2 x3 y1 y2 y3 xo yo CT lX lY oX oY hX hY;go_upto_region 6 with(first
     |(refine zld RX.o zu74 IX.o ?_)
     |(refine zst N1.o IX.o (A4.trans (by simp[LX.o])) OX.o ?_))
    obtain⟨W1,hW1⟩:=eqx ((wr.alloc (.cells Tryz.zeroCells74 74)).setRow wr.heap.size X.toArray);rw[←hW1];have z1:Blk W1 wr.heap.size 74 X.toArray:=by rw[hW1];exact(Blk.new _ _ _).setRow _
    have b1:Zb wr W1:=by rw[hW1];exact below_setRow ((tA5 _ _).alloc (tA4 _) _) (tA4 _) _
    obtain⟨G1,hG1⟩:=xeq wr.heap.size;obtain⟨Z1,A5,A7,N2⟩:=zh4 z1 b1 (show W1.rangeAt g2 (o2+k*75) Y from fun j u hu=>qai (RY.o j u hu) b1) (Blk.new W1 74 Tryz.zeroCells74);clear hW1 z1 b1 hG1 N1;go_upto_region 7 with(first
     |(refine zld A7.o zu74 IY.o ?_)
     |(refine zst N2.o IY.o (A4.trans (by simp[LY.o])) OY.o ?_))
    obtain⟨W2,hW2⟩:=eqx ((W1.alloc (.cells Tryz.zeroCells74 74)).setRow W1.heap.size Y.toArray);rw[←hW2];have z2:Blk W2 W1.heap.size 74 Y.toArray:=by rw[hW2];exact(Blk.new _ _ _).setRow _
    have b2:Zb W1 W2:=by rw[hW2];exact below_setRow ((tA5 _ _).alloc (tA4 _) _) (tA4 _) _
    have z1:=Z1.below b2 Z1.lt;obtain⟨R1,R2,A0⟩:=zh3 (qap z1 0 X zjq) (qap z2 0 Y zjq) (A5.trans (b2.mono A5.size));clear hW2 z2 b2 z1 N2;go_wp2_with (first
     |(refine zld R1.o zu74 IX.o ?_)
     |(refine zld R2.o zu74 IY.o ?_))
    refine zcb (A6.o W2 A0.o) fun w3 b3=>?_
    have HB:=zh1 (hb.trans ((A0.trans (b3.mono A0.size)).mono hb.size));clear b3;cases hbq:decide (x=y) with
    |true=>
     have A8:=zh1 (HE.o hbq);clear hbq HE HF;go_wp2
     go_roundw
     case rel=>exact⟨k+1,by omega,by go_num,A8,HB⟩
     case measure=>simp[intOf];omega
    |false=>
     have A9:=zh1 (HF.o hbq);clear hbq HE HF;go_wp2
     go_ret
     exact⟨by rw[A9.o];rfl,HB.o⟩
   obtain rfl:k=n:=zo;have HF:=zh1 (show decide (xs=ys)=true from decide_eq_true (by
    have h:=ht.o;rwa[tB5 (by rw[L1.o];exact tA4 _),tB5 (by rw[L2.o];exact tA4 _)]at h))
   have q1:¬(k:Int)<k:=zo;go_wp2
   go_ret
   exact⟨by rw[HF.o];rfl,hb.o⟩
 have HF:=zh1 (show decide (xs=ys)=false from decide_eq_false fun e=>hnm (by rw[←l1,←l2,e]));have p1:¬(n:Int)=m:=zo;have p2:((n:Int)==m)=false:=by simp;omega
 clear l1 l2 h1 h2;go_wp2
 go_ret
 exact⟨by rw[HF.o];rfl,B0.o⟩
theorem xdl(s t:Sta):(s.clock=t.clock∧s.draw=t.draw∧s.lane=t.lane∧s.tens=t.tens∧s.gras=t.gras∧s.tres=t.tres) ↔ s=t:=by
 cases s
 cases t
 simp only[Sta.mk.injEq];constructor
 · rintro ⟨a,b,c,d,e,f⟩
   simp_all
 intro h;simp_all
instance decSta:DecidableEq Sta:=fun s t=>decidable_of_iff _ (xdl s t)
theorem xdm{t:Sta}(h:¬(s.clock=t.clock∧s.draw=t.draw∧s.lane=t.lane∧s.tens=t.tens∧s.gras=t.gras∧s.tres=t.tres)):decide (s=t)=false:=decide_eq_false fun e=>h ((xdl s t).2 e)
def StR (w:World)(V:List Value)(s:Sta):Prop:=
 ∃At nt ct Ar nr cr Ag ng cg,V=[.int .u64 (s.clock:Int),.int .u32 (s.draw:Int),.int .i64 s.lane,.slice At nt ct,.slice Ar nr cr,.slice Ag ng cg]∧
  Reads w w.heap.size 6 At nt (s.tens.flatMap tenv)∧nt≤1000∧TreesR w Ar nr s.tres∧nr≤100∧Reads w w.heap.size 4 Ag ng (s.gras.flatMap grav)∧ng≤1000
theorem StR.call(h:StR w V s)(hb:Zb w w'):StR w' V s:=by
 obtain⟨At,nt,ct,Ar,nr,cr,Ag,ng,cg,e,h1,h2,h3,h4,h5,h6⟩:=h;exact⟨At,nt,ct,Ar,nr,cr,Ag,ng,cg,e,h1.call hb,h2,h3.call hb,h4,h5.call hb,h6⟩
theorem xdn(V U:List Value)(s t:Sta)(w:World)(h1:StR w V s)(h2:StR w U t):
 Zc 31 #[.agg V.toArray,.agg U.toArray] w fun e w'=>e=.returned (.bool (decide (s=t)))∧Below w.heap.size w w':=by
 have hmf:=zmf;obtain⟨At,nt,ct,Ar,nr,cr,Ag,ng,cg,e,v1,v2,v3,v4,v5,v6⟩:=h1;obtain⟨Bt,mt,dt,Br,mr,dr,Bg,mg,dg,e',u1,u2,u3,u4,u5,u6⟩:=h2;obtain⟨C0,C1,C2,NO,A0⟩:=zh5 (fun(W:World)(hb:Below w.heap.size w W)=>xdc At Bt nt ct mt dt s.tens t.tens W (v1.call hb) (u1.call hb) v2 u2) (fun(W:World)(hb:Below w.heap.size w W)=>xdd Ag Bg ng cg mg dg s.gras t.gras W (v5.call hb) (u5.call hb) v6 u6) (fun (W:World) (p:Nat) (hb:Below w.heap.size w W) hp=>xdk Ar Br nr cr mr dr p s.tres t.tres W (v3.call hb) (u3.call hb) v4 u4 hp) (fun h=>xdm (s:=s) (t:=t) h) ((xdl s t).1);subst e e';obtain⟨a1,ha1⟩:∃x:Int,(s.clock:Int)=x:=⟨_,rfl⟩;obtain⟨a2,ha2⟩:∃x:Int,(s.draw:Int)=x:=⟨_,rfl⟩;obtain⟨a3,ha3⟩:=xeq s.lane;obtain⟨e1,he1⟩:∃x:Int,(t.clock:Int)=x:=⟨_,rfl⟩;obtain⟨e2,he2⟩:∃x:Int,(t.draw:Int)=x:=⟨_,rfl⟩;obtain⟨e3,he3⟩:=xeq t.lane;rw[ha1,ha2,ha3,he1,he2,he3];obtain⟨K1,K2,K3,BR⟩:=zh4 (show a1=e1 ↔ s.clock=t.clock by omega) (show a2=e2 ↔ s.draw=t.draw by omega) (show a3=e3 ↔ s.lane=t.lane by rw[ha3,he3]) (tA5 w.heap.size w);clear v1 v2 v3 v4 v5 v6 u1 u2 u3 u4 u5 u6 ha1 ha2 ha3 he1 he2 he3;obtain⟨W0,hW0⟩:=eqx ((w.alloc (.cells #[.int .u64 a1,.int .u32 a2,.int .i64 a3,.slice At nt ct,.slice Ar nr cr,.slice Ag ng cg] 49)).alloc (.cells #[.int .u64 e1,.int .u32 e2,.int .i64 e3,.slice Bt mt dt,.slice Br mr dr,.slice Bg mg dg] 49));have s0:W0.heap.size=w.heap.size+1+1:=by rw[hW0,qar,qar]
 have b1:=zNb hW0;have b2:=zNc hW0;have bb:=zMb hW0;have f0:Blk (W0.alloc (.cells #[.nilFunc] 161)) (w.heap.size+1+1) 161 #[.nilFunc]:=by
  have h:=Blk.new W0 161 #[.nilFunc];rw[s0]at h;exact h
 obtain⟨W1,hW1⟩:=eqx ((W0.alloc (.cells #[.nilFunc] 161)).setCell ⟨w.heap.size+1+1,0,none⟩ (.func (.func 79) #[] #[]));have hst:(store ⟨w.heap.size+1+1,0,none⟩ (.func (.func 79) #[] #[])).run Tryz.prog (W0.alloc (.cells #[.nilFunc] 161))=.ok () W1:=by
  rw[run_store Tryz.prog _ _ _ _ (by rfl),f0.cell 0,f0.frozen 0,hW1];rfl
 have cf:Blk W1 (w.heap.size+1+1) 161 #[.func (.func 79) #[] #[]]:=by
  rw[hW1];exact f0.set_ 0 _
 have b01:Below W0.heap.size W0 W1:=by
  rw[hW1];exact(qah (tA5 _ _) _).setCell (by rw[s0];exact tA4 _) _
 have z1:=b1.below b01 b1.lt;have z2:=b2.below b01 b2.lt;have x0:W1.cell? ⟨w.heap.size,0,none⟩=some (.int .u64 a1):=z1.cell 0;have x1:W1.cell? ⟨w.heap.size,1,none⟩=some (.int .u32 a2):=z1.cell 1;have x2:W1.cell? ⟨w.heap.size,2,none⟩=some (.int .i64 a3):=z1.cell 2;have x3:W1.cell? ⟨w.heap.size,3,none⟩=some (.slice At nt ct):=z1.cell 3;have x4:W1.cell? ⟨w.heap.size,4,none⟩=some (.slice Ar nr cr):=z1.cell 4;have x5:W1.cell? ⟨w.heap.size,5,none⟩=some (.slice Ag ng cg):=z1.cell 5;have y0:W1.cell? ⟨w.heap.size+1,0,none⟩=some (.int .u64 e1):=z2.cell 0;have y1:W1.cell? ⟨w.heap.size+1,1,none⟩=some (.int .u32 e2):=z2.cell 1;have y2:W1.cell? ⟨w.heap.size+1,2,none⟩=some (.int .i64 e3):=z2.cell 2;have y3:W1.cell? ⟨w.heap.size+1,3,none⟩=some (.slice Bt mt dt):=z2.cell 3;have y4:W1.cell? ⟨w.heap.size+1,4,none⟩=some (.slice Br mr dr):=z2.cell 4;have y5:W1.cell? ⟨w.heap.size+1,5,none⟩=some (.slice Bg mg dg):=z2.cell 5;have hpf:=(cf.cell 0).trans (show (#[.func (.func 79) #[] #[]]:Array Value)[0]? =some (.func (.func 79) #[] #[]) from rfl);obtain⟨BW,A1⟩:=zh2 (bb.trans (b01.mono bb.size)) hpf;rw[hW0]at hst;clear hW0 s0 b1 b2 bb f0 hW1 cf b01 z1 z2 hpf BR;go_enter Tryz.func31,Tryz.ntmps31
 by_cases q0:a1=e1
 rotate_left
 · have HF:=zh1 (NO.o (fun h=>q0 (K1.o.2 h.1)))
   have qq:(a1==e1)=false:=by simpa using q0
   go_wp2
   go_ret
   exact⟨by rw[HF.o];rfl,BW.o⟩
 have Q0:=zh1 (K1.o.1 q0);subst q0;by_cases q1:a2=e2
 rotate_left
 · have HF:=zh1 (NO.o (fun h=>q1 (K2.o.2 h.2.1)))
   have qq:(a2==e2)=false:=by simpa using q1
   go_wp2
   go_ret
   exact⟨by rw[HF.o];rfl,BW.o⟩
 have Q1:=zh1 (K2.o.1 q1);subst q1;by_cases q2:a3=e3
 rotate_left
 · have HF:=zh1 (NO.o (fun h=>q2 (K3.o.2 h.2.2.1)))
   have qq:(a3==e3)=false:=by simpa using q2
   go_wp2
   go_ret
   exact⟨by rw[HF.o];rfl,BW.o⟩
 have Q2:=zh1 (K3.o.1 q2);subst q2;go_wp2_with fail
 refine zcb (C0.o W1 BW.o) fun w2 bw2=>?_
 have x52:=qai x5 bw2;have y52:=qai y5 bw2;have x42:=qai x4 bw2;have y42:=qai y4 bw2;obtain⟨hp2,B2⟩:=zh2 (qai A1.o bw2) (BW.trans (bw2.mono BW.size));clear bw2;cases h1:decide (s.tens=t.tens) with
 |false=>
  have HF:=zh1 (NO.o (fun h=>of_decide_eq_false h1 h.2.2.2.1));clear h1;go_wp2
  go_ret
  exact⟨by rw[HF.o];rfl,B2.o⟩
 |true=>
  have H1:=zh1 (of_decide_eq_true h1);clear h1;go_wp2_with fail
  refine zcb (C1.o w2 B2.o) fun w3 bw3=>?_
  have x43:=qai x42 bw3;have y43:=qai y42 bw3;obtain⟨hp3,B3⟩:=zh2 (qai hp2.o bw3) (B2.trans (bw3.mono B2.size));clear bw3;cases h2:decide (s.gras=t.gras) with
  |false=>
   have HF:=zh1 (NO.o (fun h=>of_decide_eq_false h2 h.2.2.2.2.1));clear h2;go_wp2
   go_ret
   exact⟨by rw[HF.o];rfl,B3.o⟩
  |true=>
   have H2:=zh1 (of_decide_eq_true h2);clear h2;go_wp2_with fail
   refine zcb (C2.o w3 _ B3.o hp3.o) fun w4 bw4=>?_
   have B4:=zh1 (B3.trans (bw4.mono B3.size));clear bw4;cases h3:decide (s.tres=t.tres) with
   |false=>
    have HF:=zh1 (NO.o (fun h=>of_decide_eq_false h3 h.2.2.2.2.2));clear h3;go_wp2
    go_ret
    exact⟨by rw[HF.o];rfl,B4.o⟩
   |true=>
    have HT:=zh1 (show decide (s=t)=true from decide_eq_true (A0.o ⟨Q0.o,Q1.o,Q2.o,H1.o,H2.o,of_decide_eq_true h3⟩));clear h3;go_wp2
    go_ret
    exact⟨by rw[HT.o];rfl,B4.o⟩
theorem CpAt.stR(h:CpAt w col cc L css s)(hs:s.Ok):StR w (stav s L) s:=by
 refine⟨some ⟨L.tg,0,none⟩,16,L.tc,some ⟨L.rg,0,none⟩,16,L.rc,some ⟨L.gg,0,none⟩,s.gras.length,L.gc,rfl,h.st.tens.reads,by decide,⟨hs.tresn,fun i t ht=>?_⟩,by decide,h.st.gras.reads,by have:=hs.grasn;omega⟩;obtain⟨hn,Ad,cd,Al,cl,Aq,cq,h1,h2,h3,h4,h5⟩:=h.st.tree hs ht;obtain⟨A0,c0,e0,-,-,r0,-⟩:=h3.sl;obtain⟨A1,c1,e1,-,-,r1⟩:=h4.reads;obtain⟨A2,c2,e2,-,-,r2⟩:=h5.reads;injection e0 with e01 e02 e03;injection e1 with e11 e12 e13;injection e2 with e21 e22 e23;subst e01 e03 e11 e13 e21 e23;refine⟨hs.tre ht,L.rg,0,Ad,cd,Al,cl,Aq,cq,rfl,fun j u hu=>?_,r0,r1,r2⟩;have:=h2 j u hu;rwa[Nat.zero_add]
theorem xdo(n:Int)(sb tg tc:Nat)(w:World)(h0:0≤n)(h1:n<16)(hc:w.cell? ⟨sb,3,none⟩=some (.slice (some ⟨tg,0,none⟩) 16 tc)):
 Zc 170 #[.int .i64 n,.pointer (some ⟨sb,0,none⟩)] w fun e w'=>e=.returned (.bool true)∧w=w':=by
 have h0':n ≥ 0:=h0;go_enter Tryz.func170,Tryz.ntmps170
 go_wp2
 go_ret
 exact⟨rfl,rfl⟩
theorem xdp(x:Gra)(sb tg tc pf:Nat)(w:World)(hx:x.Ok)(hc:w.cell? ⟨sb,3,none⟩=some (.slice (some ⟨tg,0,none⟩) 16 tc))(hp:w.cell? ⟨pf,0,none⟩=some (.func (.func 170) #[] #[.pointer (some ⟨sb,0,none⟩)])):
 Zc 172 #[.agg (grav x).toArray,.pointer (some ⟨pf,0,none⟩)] w fun e w'=>e=.returned (.bool false)∧Zb w w':=by
 show Zc 172 #[.agg #[.int .i64 x.tenant,.int .i64 x.role,.int .u64 (x.expires:Int),.bool x.revoked],.pointer (some ⟨pf,0,none⟩)] w _;obtain⟨W0,hW0⟩:=eqx (w.alloc (.cells #[.int .i64 x.tenant,.int .i64 x.role,.int .u64 (x.expires:Int),.bool x.revoked] 66));have b0:=zMa hW0;have k0:=zNa hW0;have c0:W0.cell? ⟨w.heap.size,0,none⟩=some (.int .i64 x.tenant):=k0.cell 0;have hp':=qai hp b0;obtain⟨HC,A0,B0⟩:=zh3 (xdo x.tenant sb tg tc W0 hx.tenant.1 hx.tenant.2 (qai hc b0)) hW0 b0;clear hW0 b0 k0 hc hp hx;go_enter Tryz.func172,Tryz.ntmps172
 go_upto_region 1 with(fail)
 rw[←A0.o];go_wp2_with fail
 refine HC.o.mono ?_;rintro e w1 ⟨rfl,rfl⟩;go_wp2
 go_ret
 exact⟨rfl,B0.o⟩
theorem xdq(l:List Gra)(A:Option Addr)(n c sb tg tc pf:Nat)(w:World)(hn:n≤1000)(hr:Reads w w.heap.size 4 A n (l.flatMap grav))(hl:l.length=n)(hok:∀x∈l,x.Ok)(hc:w.cell? ⟨sb,3,none⟩=some (.slice (some ⟨tg,0,none⟩) 16 tc))(hp:w.cell? ⟨pf,0,none⟩=some (.func (.func 170) #[] #[.pointer (some ⟨sb,0,none⟩)])):
 Zc 210 #[.slice A n c,.func (.func 172) #[] #[.pointer (some ⟨pf,0,none⟩)]] w fun e w'=>e=.returned (.int .i64 (-1))∧Zb w w':=by
 obtain⟨HR,HL,A0,HC,HP⟩:=zh5 hr hl hok hc hp;clear hr hl hok hc hp;go_enter Tryz.func210,Tryz.ntmps210
 go_wp2_with fail
 go_loopw [8] (fun i wr=>∃k:Nat,k≤n∧i=.int .i64 k∧Hid (Zb w wr)) (fun i _=>n - (intOf i).toNat)
 case atStart=>exact⟨0,by omega,rfl,zh1 (tA5 _ _)⟩
 case round=>
  obtain⟨k,hk,rfl,hb⟩:=hrel;by_cases hkn:k<n
  ·
   have qk:(k:Int)<n:=zo;have qk0:(0:Int)≤k:=zo;obtain⟨x,hx⟩:∃x,l[k]? =some x:=⟨_,tA7 (by rw[HL.o];exact hkn)⟩;obtain⟨b,o,rfl,hlt,hcl⟩:=HR.mid zo zdc;have hrg:wr.rangeAt b (o+k*4) (grav x):=fun i v hv=>by
    rw[Nat.add_assoc];exact qai (hcl _ v ((qnp hx (by obtain⟨h,_⟩:=tA8 hv;exact h)).trans hv)) hb.o
   have CX:=xdp x sb tg tc pf wr (A0.o x (tB2 hx)) (qai HC.o hb.o) (qai HP.o hb.o);have lX:(grav x).length=4:=rfl;obtain⟨X,hX⟩:=xeq (grav x);rw[hX]at hrg CX lX;obtain⟨A1,A2,IX⟩:=zh3 hrg CX (zI 66 lX);clear hrg CX lX hX hx hcl hlt;go_wp2_with (refine zld A1.o zu66 IX.o ?_)
   refine zcb A2.o fun w1 b1=>?_
   have B1:=zh1 (hb.trans (b1.mono hb.size));clear b1;go_wp2
   go_roundw
   case rel=>exact⟨k+1,by omega,by go_num,B1⟩
   case measure=>simp[intOf];omega
  have qk:¬(k:Int)<n:=zo;go_wp2
  go_ret
  exact⟨rfl,hb.o⟩
theorem xdr(l:List Gra)(A:Option Addr)(n c sb tg tc pf:Nat)(w:World)(hn:n≤1000)(hr:Reads w w.heap.size 4 A n (l.flatMap grav))(hl:l.length=n)(hok:∀x∈l,x.Ok)(hc:w.cell? ⟨sb,3,none⟩=some (.slice (some ⟨tg,0,none⟩) 16 tc))(hp:w.cell? ⟨pf,0,none⟩=some (.func (.func 170) #[] #[.pointer (some ⟨sb,0,none⟩)])):
 Zc 171 #[.slice A n c,.func (.func 172) #[] #[.pointer (some ⟨pf,0,none⟩)]] w fun e w'=>e=.returned (.bool false)∧Zb w w':=by
 have HC:=zh1 (xdq l A n c sb tg tc pf w hn hr hl hok hc hp);clear hr hl hok hc hp;go_enter Tryz.func171,Tryz.ntmps171
 go_wp2_with fail
 refine zcb HC.o fun w1 b1=>?_
 have B1:=zh1 b1;clear b1;go_wp2
 go_ret
 exact⟨rfl,B1.o⟩
theorem xds(s:Sta)(L:Loc)(col:Col)(k:Nat)(css:List (List Value))(w:World)(hs:s.Ok)(hst:StAt 92 74 66 w col k L css s):
 Zc 116 #[.agg (stav s L).toArray] w fun e w'=>e=.returned (.bool true)∧Below w.heap.size w w':=by
 have hmf:=zmf;obtain⟨SV,hSV⟩:=xeq (stav s L);have s3:SV.toArray[3]? =some (.slice (some ⟨L.tg,0,none⟩) 16 L.tc):=by rw[←hSV];rfl
 have s4:SV.toArray[4]? =some (.slice (some ⟨L.rg,0,none⟩) 16 L.rc):=by rw[←hSV];rfl
 have s5:SV.toArray[5]? =some (.slice (some ⟨L.gg,0,none⟩) s.gras.length L.gc):=by rw[←hSV];rfl
 rw[hSV];obtain⟨W0,hW0⟩:=eqx (w.alloc (.cells SV.toArray 49));have k0:=zNa hW0;have b0:=zMa hW0;have z0:W0.heap.size=w.heap.size+1:=by rw[hW0,qar]
 have f0:Blk (W0.alloc (.cells #[.nilFunc] 67)) (w.heap.size+1) 67 #[.nilFunc]:=by
  have h:=Blk.new W0 67 #[.nilFunc];rw[z0]at h;exact h
 obtain⟨W1,hW1⟩:=eqx ((W0.alloc (.cells #[.nilFunc] 67)).setCell ⟨w.heap.size+1,0,none⟩ (.func (.func 170) #[] #[.pointer (some ⟨w.heap.size,0,none⟩)]));have hst1:(store ⟨w.heap.size+1,0,none⟩ (.func (.func 170) #[] #[.pointer (some ⟨w.heap.size,0,none⟩)])).run Tryz.prog (W0.alloc (.cells #[.nilFunc] 67))=.ok () W1:=by
  rw[run_store Tryz.prog _ _ _ _ (by rfl),f0.cell 0,f0.frozen 0,hW1];rfl
 have cf:Blk W1 (w.heap.size+1) 67 #[.func (.func 170) #[] #[.pointer (some ⟨w.heap.size,0,none⟩)]]:=by
  rw[hW1];exact f0.set_ 0 _
 have b01:Below W0.heap.size W0 W1:=by
  rw[hW1];exact(qah (tA5 _ _) _).setCell (by rw[z0];exact tA4 _) _
 have k1:=k0.below b01 k0.lt;have hpf:=(cf.cell 0).trans (show (#[.func (.func 170) #[] #[.pointer (some ⟨w.heap.size,0,none⟩)]]:Array Value)[0]? =some (.func (.func 170) #[] #[.pointer (some ⟨w.heap.size,0,none⟩)]) from rfl);have c3:=(k1.cell 3).trans s3;have c4:=(k1.cell 4).trans s4;have c5:=(k1.cell 5).trans s5;obtain⟨BW,A1,C3,C5,A2,HS,BR⟩:=zh7 (b0.trans (b01.mono b0.size)) hpf c3 c5 hst hs (tA5 W1.heap.size W1);rw[hW0]at hst1;clear s3 s4 s5 k0 b0 z0 f0 hW1 cf b01 k1 hpf hst hs hSV hW0 c5;go_enter Tryz.func116,Tryz.ntmps116
 go_wp2_with fail
 clear c3 c4 hst1;go_loopw [20] (fun i wr=>∃j:Nat,j≤16∧i=.int .i64 j∧Hid (Below W1.heap.size W1 wr)) (fun i _=>16 - (intOf i).toNat)
 case atStart=>exact⟨0,by omega,rfl,BR⟩
 case round=>
  obtain⟨j,hj,rfl,hb⟩:=hrel;by_cases hlt:j<16
  ·
   have p1:(j:Int)<16:=zo;have p0:(0:Int)≤j:=zo;obtain⟨t,ht⟩:∃t,s.tres[j]? =some t:=⟨_,tA7 (by rw[HS.tresn];exact hlt)⟩;obtain⟨D,Ad,cd,Al,cl,Aq,cq,hD,lD,oD,hrg,-⟩:=A2.treeD HS.o ht;have hto:=HS.tre ht;have d0:D[0]? =some (.int .i64 t.state):=by rw[hD];rfl
   have d1:D[1]? =some (.int .i64 t.tenant):=by rw[hD];rfl
   have d4:D[4]? =some (.slice Ad t.draws.length cd):=by rw[hD];rfl
   obtain⟨A3,Y0,HI,HZ,OD,LD,A0,D0⟩:=zh8 (hrg wr (BW.trans (hb.mono BW.size))) (Blk.new wr 74 Tryz.zeroCells74) (zI 74 lD) (show Tryz.zeroCells74.size=75 by kernel_rfl) oD lD hto d0;obtain⟨D1,D4⟩:=zh2 d1 d4;clear hD lD oD hrg hto ht d0 d1 d4;go_upto_region 7 with(first
    |(refine zld A3.o zu74 HI.o ?_)
    |(refine zst Y0.o HI.o (by simp[LD.o,HZ.o]) OD.o ?_))
   obtain⟨W2,hW2⟩:=eqx ((wr.alloc (.cells Tryz.zeroCells74 74)).setRow wr.heap.size D.toArray);have y1:Blk W2 wr.heap.size 74 D.toArray:=by rw[hW2];exact Y0.setRow _
   have b2:Below wr.heap.size wr W2:=by rw[hW2];exact below_setRow ((tA5 _ _).alloc (tA4 _) _) (tA4 _) _
   have e0:=(y1.cell 0).trans (show D.toArray[0]? =some (.int .i64 t.state) by rw[tA3];exact D0.o);have e1:=(y1.cell 1).trans (show D.toArray[1]? =some (.int .i64 t.tenant) by rw[tA3];exact D1.o);have e4:=(y1.cell 4).trans (show D.toArray[4]? =some (.slice Ad t.draws.length cd) by rw[tA3];exact D4.o);have B2:=zh1 (hb.trans (b2.mono hb.size));have hpf:=qai A1.o B2.o;have HC:=zh1 (xdo t.tenant w.heap.size L.tg L.tc W2 A0.tenant.1 A0.tenant.2 (qai C3.o B2.o));have lv:=A0.live;obtain⟨nd,hnd⟩:=xeq t.draws.length;have LV:=zh1 (show t.state≠0→nd≠0 from fun h e=>(lv h).2 (tB8 (hnd.trans e)));rw[hnd]at e4;obtain⟨st,hst⟩:=xeq t.state;rw[hst]at e0 LV;rw[←hW2];clear hW2 y1 b2 lv hnd hst hb Y0 A3 D0 D1 D4;by_cases h0:st=0
   ·
    subst h0;go_wp2_with fail
    refine HC.o.mono ?_;rintro e w2 ⟨rfl,rfl⟩;go_wp2
    go_roundw
    case rel=>exact⟨j+1,by omega,by go_num,B2⟩
    case measure=>simp[intOf];omega
   have h1:¬(nd:Int)=0:=by have:=LV.o h0;omega
   have h2:(st != 0)=true:=by simpa using h0
   have h3:((nd:Int)==0)=false:=by simpa using h1
   go_wp2_with fail
   refine HC.o.mono ?_;rintro e w2 ⟨rfl,rfl⟩;go_wp2
   go_roundw
   case rel=>exact⟨j+1,by omega,by go_num,B2⟩
   case measure=>simp[intOf];omega
  have p1:¬(j:Int)<16:=zo;have c5:=qai C5.o hb.o;have hgn:=HS.grasn;have HC:=zh1 (xdr s.gras (some ⟨L.gg,0,none⟩) s.gras.length L.gc w.heap.size L.tg L.tc (w.heap.size+1) wr zo (A2.gras.reads.call (BW.trans (hb.mono BW.size))) rfl HS.gras (qai C3.o hb.o) (qai A1.o hb.o));clear hgn;go_wp2_with fail
  refine zcb HC.o fun w2 b2=>?_
  have B2:=zh1 (BW.trans ((hb.trans (b2.mono hb.size)).mono BW.size));clear b2;go_wp2
  go_ret
  exact⟨rfl,B2.o⟩
theorem xdt(h:Mdl w1 c1 2 g c s0 L1 css1)(b2:Zb w1 w2)(hst:StAt 92 74 66 w2 c2 2 L2 css2 s)(n2:∀b,c2 b≠0→w1.heap.size≤b∧b<w2.heap.size):
 ∃col L',Mdl (w2.setCells g 4 (stav s L2)) col 2 g c s L' css2∧∀b,b<w1.heap.size→c1 b=0→col b=0:=by
 have hg:=h.blk.lt;have gw:=qn9 g (stav s L2) 4 w2;have z2:∀b,b<w1.heap.size→c2 b=0:=fun b hb=>by
  by_cases e:c2 b=0
  · exact e
  have:=(n2 b e).1;omega
 obtain⟨col,hcol⟩:∃col:Col,col=fun b=>if b<w1.heap.size then(if c1 b=1∨c1 b=5 then c1 b else 0) else c2 b:=⟨_,rfl⟩
 have lo:∀b,b<w1.heap.size→col b=if c1 b=1∨c1 b=5 then c1 b else 0:=fun b hb=>by rw[hcol];exact if_pos hb
 have hi:∀b,w1.heap.size≤b→col b=c2 b:=fun b hb=>by rw[hcol];exact if_neg zo
 have K:∀i,i≠0→KeepsCol i w2 c2 (w2.setCells g 4 (stav s L2)) col:=fun i h0=>⟨gw.size,fun b hb e=>by
  have h1:=(n2 b zo).1;exact⟨gw.block b hb (by intro e;injection e with e;omega),(hi b h1).trans e⟩⟩
 have K5:KeepsCol 5 w1 c1 (w2.setCells g 4 (stav s L2)) col:=⟨tB1 b2.size gw.size,fun b hb e=>by
  refine⟨(gw.block b (tB0 hb b2.size) (by intro e2;injection e2 with e2;have:=h.own;rw[←e2]at this;omega)).trans (b2.block b hb),?_⟩;rw[lo b hb,if_pos (.inr e),e]⟩
 refine⟨col,{L2 with sa:=L1.sa,sn:=L1.sn,sc:=L1.sc},⟨?_,?_,⟨tB1 h.base.1 (tB1 b2.size gw.size),fun b hb=>?_⟩,fun b hb=>?_,h.seed.keep K5,⟨hst.tens.keep (K _ zdc),hst.tres.keep (K _ zdc),hst.gras.keep (K _ zdc),hst.trs.keep fun i hi=>K i zo⟩⟩,fun b hb h0=>?_⟩
 · have hb:Blk w2 g 117 (mdlv c s0 L1).toList.toArray:=by simpa using h.blk.below b2 hg
   exact qn8 (stav s L2) 4 w2 _ hb (by simp[mdlv,stav])
 · rw[lo g hg,if_pos (.inl h.own),h.own]
 · have h1:=h.base.2 b hb
   rw[lo b (tB0 hb h.base.1),h1];simp
 · by_cases e:b<w1.heap.size
   · exact tB0 e (tB1 b2.size gw.size)
   rw[hi b zo]at hb;exact tB0 (n2 b hb).2 gw.size
 rw[lo b hb,h0];simp
theorem xdu(c:Cfg)(A:Option Addr)(n k:Nat)(s:Sta)(L:Loc)(col:Col)(css:List (List Value))(w:World)(hc:c.Ok)(hr:Reads w w.heap.size 1 A n (byv c.seed))(hT:Tabs w)(hs:s.Ok)(hst:StAt 92 74 66 w col 2 L css s):
 Zc 44 #[.agg #[.int .i64 c.width,.int .i64 c.quantum,.int .u32 (c.store:Int),.slice A n k],.agg (stav s L).toArray] w fun e w'=>∃g L' css' col',e=.returned (.tuple #[.pointer (some ⟨g,0,none⟩),.int .i64 0])∧Mdl w' col' 2 g c s L' css'∧(∀b,b<w.heap.size→col' b=0)∧Zb w w':=by
 have lS:=qvo s L;obtain⟨SV,hSV⟩:=xeq (stav s L);rw[hSV]at lS ⊢;obtain⟨W0,hW0⟩:=eqx ((w.alloc (.cells #[.int .i64 c.width,.int .i64 c.quantum,.int .u32 (c.store:Int),.slice A n k] 25)).alloc (.cells SV.toArray 49));have k0:=zNb hW0;have q0:=zNc hW0;have b0:=zMb hW0;have st0:StAt 92 74 66 W0 col 2 L css s:=hst.keep ((Turns.of_below (fun _=>false) b0).keeps rfl) ((Turns.of_below (fun _=>false) b0).keeps rfl) ((Turns.of_below (fun _=>false) b0).keeps rfl) fun _ _=>(Turns.of_below (fun _=>false) b0).keeps rfl
 obtain⟨A0,A4,K0,Q0,B0,A5,HS,A1⟩:=zh8 (xap c A n k W0 hc (hr.call b0) (hT.below b0 hT.size)) hW0 (qap k0 0 [.int .i64 c.width,.int .i64 c.quantum,.int .u32 (c.store:Int),.slice A n k] zjq) q0 b0 st0 hs hSV;obtain⟨A6,IS⟩:=zh2 lS (zI 49 lS);clear hW0 k0 q0 b0 st0 hs hst hr hT hc hSV lS;go_enter Tryz.func44,Tryz.ntmps44
 go_upto_region 1 with(fail)
 rw[←A4.o];go_wp2_with (refine qaq rfl 25 (.tmp 2) rfl w.heap.size 0 rfl [.int .i64 c.width,.int .i64 c.quantum,.int .u32 (c.store:Int),.slice A n k] _ K0.o Tryz.underlying25 rfl zk ?_)
 refine A0.o.mono ?_;rintro e w1 ⟨g,L1,css1,col1,rfl,m1,z1,b1⟩;have q1:=Q0.below b1 Q0.lt;have st1:StAt 92 74 66 w1 col 2 L css s:=A5.keep ((Turns.of_below (fun _=>false) b1).keeps rfl) ((Turns.of_below (fun _=>false) b1).keeps rfl) ((Turns.of_below (fun _=>false) b1).keeps rfl) fun _ _=>(Turns.of_below (fun _=>false) b1).keeps rfl
 have CW:=xds s L col 2 css w1 HS.o st1;rw[A1.o]at CW;obtain⟨A2,R1,Q1,A7,M1,Z1,B1,Z0⟩:=zh8 CW (qap q1 0 SV zjq) q1 st1 m1 z1 (B0.trans (b1.mono B0.size)) (show w.heap.size≤W0.heap.size from B0.size);clear CW q1 st1 m1 z1 b1 A0;go_wp2_with (refine zld R1.o zu49 IS.o ?_)
 refine zcb A2.o fun w2 b2=>?_
 have q2:=Q1.below b2 Q1.lt;have st2:StAt 92 74 66 w2 col 2 L css s:=A7.keep ((Turns.of_below (fun _=>false) b2).keeps rfl) ((Turns.of_below (fun _=>false) b2).keeps rfl) ((Turns.of_below (fun _=>false) b2).keeps rfl) fun _ _=>(Turns.of_below (fun _=>false) b2).keeps rfl
 have CC:=xb9 s L col 2 css w2 HS.o st2;rw[A1.o]at CC;obtain⟨A3,R2,M2,A8,B2⟩:=zh5 CC (qap q2 0 SV zjq) (M1.call b2) b2.size (B1.trans (b2.mono B1.size));clear CC q2 st2 b2 A2;go_wp2_with (refine zld R2.o zu49 IS.o ?_)
 refine A3.o.mono ?_;rintro e w3 ⟨col3,L3,css3,rfl,st3,n3,b3⟩;obtain⟨colF,LF,mF,zlF⟩:=xdt M2.o b3 st3 n3;have th3:=(M2.call b3).there4;have l3:=qvo s L3;have o3:=qvp s L3;obtain⟨SX,hSX⟩:=xeq (stav s L3);rw[hSX]at mF l3 o3 ⊢;obtain⟨MF,ZF⟩:=zh2 mF zlF;have A9:=zh1 (show w3.there g 4 SX.toArray.size from by
  have h0:SX.toArray.size=6:=List.size_toArray.trans l3;rw[h0];exact th3)
 have IX:=zh1 (show (Tryz.prog.info? 49).map (·.size)=some SX.toArray.size from by
  have h0:SX.toArray.size=SV.length:=(List.size_toArray.trans l3).trans A6.symm;rw[h0];exact IS.o)
 obtain⟨OX,B3⟩:=zh2 (show SX.toArray.all (·.oneCell')=true by simpa using o3) (B2.trans (b3.mono B2.size));have hg3:=(M2.call b3).blk.lt;have AB:=zh1 hg3;have AA:=zh1 (show w.heap.size≤g by
  by_cases e:w.heap.size≤g
  · exact e
  have h1:=Z1.o g (by have:=Z0.o;omega);have h2:=M1.own;omega)
 clear mF zlF th3 l3 o3 st3 n3 b3 hSX A3 hg3;go_upto_region 6 with(refine wpList_store_mid rfl 49 (.tmp 22) (.tmp 20) rfl g 4 SX.toArray rfl rfl A9.o IX.o OX.o ?_)
 obtain⟨W4,hW4⟩:=eqx (w3.setCells g 4 SX);try rw[show SX.toArray.toList=SX from rfl]
 rw[←hW4]at MF ⊢;have b4:Zb w W4:=by
  have hg:=qn9 g SX 4 w3;rw[←hW4]at hg;exact B3.grown hg B3.size (by intro g' e;injection e with e;have:=AA.o;omega)
 have B4:=zh1 b4;clear hW4 b4;go_wp2
 go_ret2
 exact⟨g,LF,css3,colF,rfl,MF.o,fun b hb=>ZF.o b (by have:=Z0.o;have:=A8.o;have:=M1.base.1;have:=M1.blk.lt;have:=B1.size;omega) (Z1.o b (by have:=Z0.o;omega)),B4.o⟩
end Go.Proofs.YthomgopipiomhaaGreatDoor

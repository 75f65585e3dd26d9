/- Lemmas. -/
import Derived.Test.YthomgopipiomhaaGreatDoorBMA09
import Derived.Test.YthomgopipiomhaaGreatDoorBMA16
namespace Go.Proofs.YthomgopipiomhaaGreatDoor
open Go.RowKit
set_option linter.unusedVariables false
set_option linter.unusedSimpArgs false
set_option maxRecDepth 100000
set_option maxHeartbeats 32000000
theorem xcw (s:Sta)(L:Loc)(col:Col)(k:Nat)(css:List (List Value))(w:World)(hs:s.Ok)(hst:StAt 92 74 66 w col k L css s):
 Zc 32 #[.agg (stav s L).toArray] w fun e w'=>∃col' L' css',e=.returned (.agg (stav s L').toArray)∧StAt 92 74 66 w' col' 2 L' css' s∧(∀b,col' b≠0→w.heap.size≤b∧b<w'.heap.size)∧Below w.heap.size w w':=by
 obtain⟨W0,hW0⟩:=eqx ((w.alloc (.cells (stav s L).toArray 49)).alloc (.cells #[.int .u64 0,.int .u32 0,.int .i64 0,.slice none 0 0,.slice none 0 0,.slice none 0 0] 49));have a0:Blk W0 w.heap.size 49 (stav s L).toArray:=by rw[hW0];exact(Blk.new w _ _).alloc _
 have z0:Blk W0 (w.heap.size+1) 49 #[.int .u64 0,.int .u32 0,.int .i64 0,.slice none 0 0,.slice none 0 0,.slice none 0 0]:=by
  have h:=Blk.new (w.alloc (.cells (stav s L).toArray 49)) 49 #[.int .u64 0,.int .u32 0,.int .i64 0,.slice none 0 0,.slice none 0 0,.slice none 0 0];rw[qar]at h;rw[hW0];exact h
 have b0:Below w.heap.size w W0:=by rw[hW0];exact qah (qah (tA5 _ _) _) _
 have sg:0<s.gras.length:=by obtain⟨h,_⟩:=tA8 hs.owner;exact h
 obtain⟨SV,hSV⟩:=xeq (stav s L);rw[hSV]at a0 hW0 ⊢;obtain⟨S3,S4,S5,A8,HS,A0,Z0,B0⟩:=zh8 (show SV.toArray[3]? =some (.slice (some ⟨L.tg,0,none⟩) 16 L.tc) by rw[←hSV];rfl) (show SV.toArray[4]? =some (.slice (some ⟨L.rg,0,none⟩) 16 L.rc) by rw[←hSV];rfl) (show SV.toArray[5]? =some (.slice (some ⟨L.gg,0,none⟩) s.gras.length L.gc) by rw[←hSV];rfl) hst hs a0 z0 b0;obtain⟨SG,AL,AM,AV⟩:=zh4 sg hSV hW0 (show W0.heap.size=w.heap.size+1+1 by rw[hW0,qar,qar]);clear hst hs a0 z0 b0 sg hSV hW0;go_enter Tryz.func32,Tryz.ntmps32
 go_upto_region 2 with(fail)
 rw[←AM.o];obtain⟨S,HS9⟩:=zS fun w'=>Blk w' w.heap.size 49 SV.toArray
 refine xb0 S [0,1,2,3,4,5,6,7,8,9,11,13] [(0,none),(1,some false),(3,none),(4,some false),(6,none),(7,some false),(2,some true),(9,none),(5,some true),(8,some true),(10,some true),(11,none),(12,some true),(13,none),(14,some true)] zk rfl zk zk (fun _ _ d _ _ h=>by cases d<;>exact h) ((HS9.o _).mpr (A0.o)) ?_;obtain⟨F3,F4,F5⟩:=zh3 (fun(w':World)(h:S w')=>(((HS9.o w').mp h).cell 3).trans S3.o) (fun(w':World)(h:S w')=>(((HS9.o w').mp h).cell 4).trans S4.o) (fun(w':World)(h:S w')=>(((HS9.o w').mp h).cell 5).trans S5.o);iterate 6 (first
  |(refine xb2 rfl rfl ⟨?_,fun w1=>?_,?_⟩;rotate_left;(focus(go_simp;try rfl));simp only[Act.put,tA0,tA1,tA2])
  |(refine xb3 rfl rfl ⟨?_,fun w1 hS=>?_,?_⟩;rotate_left;(focus(have g3:=F3.o w1 hS;have g4:=F4.o w1 hS;have g5:=F5.o w1 hS;clear hS;go_simp;try rfl));simp only[Act.put,tA0,tA1,tA2]))
 obtain⟨Wd,hWd⟩:=eqx W0.drew;obtain⟨BD,AD,ZD⟩:=zh3 (show Below w.heap.size w Wd by rw[hWd];exact B0.drew) (show Blk Wd w.heap.size 49 SV.toArray by rw[hWd];exact A0.o) (show Blk Wd (w.heap.size+1) 49 #[.int .u64 0,.int .u32 0,.int .i64 0,.slice none 0 0,.slice none 0 0,.slice none 0 0] by rw[hWd];exact Z0.o);rw[←hWd];clear hWd;have gl:=HS.grasn;refine xb4 rfl rfl ?_;go_simp;refine(qsq (some ⟨L.tg,0,none⟩) 16 L.tc (s.tens.flatMap tenv) Wd (A8.tens.reads.call BD.o) zdc (qvm _)).mono ?_;rintro e wa ⟨va,rfl,oa,ba⟩;obtain⟨BA,OA⟩:=zh2 ba oa;clear oa ba;refine⟨(HS9.o _).mpr (AD.below BA.o AD.lt),?_⟩;try simp only[Act.put,tA0,tA1,tA2]
 iterate 1 (refine xb2 rfl rfl ⟨?_,fun w1=>?_,?_⟩;rotate_left;(focus(go_simp;try rfl));simp only[Act.put,tA0,tA1,tA2])
 refine xb4 rfl rfl ?_;go_simp;refine(qss (some ⟨L.gg,0,none⟩) s.gras.length L.gc (s.gras.flatMap grav) wa (A8.gras.reads.call (BD.trans (BA.mono BD.size))) zo (qvn _)).mono ?_;rintro e wb ⟨vb,rfl,ob,bb⟩;obtain⟨BB,OB,AA⟩:=zh3 bb ob (BA.trans (bb.mono BA.size));clear ob bb;refine⟨(HS9.o _).mpr (AD.below AA.o AD.lt),?_⟩;try simp only[Act.put,tA0,tA1,tA2]
 refine xb4 rfl rfl ?_;go_simp;refine(qsr (some ⟨L.rg,0,none⟩) 16 L.rc css.flatten wb (A8.tres.reads.call (BD.trans (AA.mono BD.size))) zdc (qvl A8.trs)).mono ?_;rintro e wc ⟨vc,rfl,oc,bc⟩;obtain⟨BC,OC,AB⟩:=zh3 bc oc (AA.trans (bc.mono AA.size));clear oc bc;refine⟨(HS9.o _).mpr (AD.below AB.o AD.lt),?_⟩;try simp only[Act.put,tA0,tA1,tA2]
 have c16:css.length=16:=A8.trs.1.trans HS.tresn;have c75:=A8.trs.lens (fun t ht=>(HS.tres t ht).hd);obtain⟨col2,L2,e1,e2,e3,C0⟩:=Cpy.start (w0:=w) (lo:=Wd.heap.size) HS.o c16 c75 (qr4 (qr4 OA.o BB.o) BC.o) (qdb OC.o AA.size) (qdb (qr4 OB.o BC.o) BA.size) BD.size AB.size (BD.trans (AB.mono BD.size));subst e1 e2 e3;obtain⟨CC,AC,ZC⟩:=zh3 C0 (AD.below AB.o AD.lt) (ZD.below AB.o ZD.lt);clear C0 c16 c75 gl;have q3:=AC.frozen 3;have q4:=AC.frozen 4;have q5:=AC.frozen 5;have u3:=(AC.cell 3).trans S3.o;have u4:=(AC.cell 4).trans S4.o;have u5:=(AC.cell 5).trans S5.o;refine xb4 rfl rfl ?_;go_simp;try simp only[Act.put,tA0,tA1,tA2]
 iterate 1 (refine xb2 rfl rfl ⟨?_,fun w1=>?_,?_⟩;rotate_left;(focus(go_simp;try rfl));simp only[Act.put,tA0,tA1,tA2])
 refine xb4 rfl rfl ?_;go_simp;try simp only[Act.put,tA0,tA1,tA2]
 iterate 1 (refine xb2 rfl rfl ⟨?_,fun w1=>?_,?_⟩;rotate_left;(focus(go_simp;try rfl));simp only[Act.put,tA0,tA1,tA2])
 refine xb4 rfl rfl ?_;go_simp;try simp only[Act.put,tA0,tA1,tA2]
 refine xb1 ?_;obtain⟨W3,hW3⟩:=eqx (((wc.setCell ⟨w.heap.size,3,none⟩ (.slice (some ⟨L2.tg,0,none⟩) 16 L2.tc)).setCell ⟨w.heap.size,5,none⟩ (.slice (some ⟨L2.gg,0,none⟩) s.gras.length L2.gc)).setCell ⟨w.heap.size,4,none⟩ (.slice (some ⟨L2.rg,0,none⟩) 16 L2.rc));rw[←hW3];obtain⟨A2,hSV2⟩:=xeq (stav s L2);have a3:Blk W3 w.heap.size 49 A2.toArray:=by
  have h:=((AC.set_ 3 (.slice (some ⟨L2.tg,0,none⟩) 16 L2.tc)).set_ 5 (.slice (some ⟨L2.gg,0,none⟩) s.gras.length L2.gc)).set_ 4 (.slice (some ⟨L2.rg,0,none⟩) 16 L2.rc);rw[←hW3,←AL.o]at h;rw[←hSV2];exact h
 have g1:=qab (tB9 wc (some w.heap.size)) (p:=⟨w.heap.size,3,none⟩) (.inl rfl) (.slice (some ⟨L2.tg,0,none⟩) 16 L2.tc);have g2:=qab g1 (p:=⟨w.heap.size,5,none⟩) (.inl rfl) (.slice (some ⟨L2.gg,0,none⟩) s.gras.length L2.gc);have g3:=qab g2 (p:=⟨w.heap.size,4,none⟩) (.inl rfl) (.slice (some ⟨L2.rg,0,none⟩) 16 L2.rc);rw[←hW3]at g3;obtain⟨C3,Z3,A3,A9,AJ⟩:=zh5 (CC.box g3 (tA4 _) (by have:=AD.lt;omega)) (ZC.grown g3 (by intro e;injection e with e;omega)) a3 hSV2 (show A2.toArray[4]? =some (.slice (some ⟨L2.rg,0,none⟩) 16 L2.rc) by rw[←hSV2];rfl);obtain⟨lo,hlo⟩:=xeq Wd.heap.size;rw[hlo]at C3;have AE:=zh1 (show w.heap.size+1<lo by rw[←hlo];exact ZD.lt);have u4':=(a3.cell 4).trans AJ.o;clear hW3 a3 g1 g2 g3 hSV2 hlo q3 q4 q5 u3 u4 u5 HS9 F3 F4 F5;go_wp2_with fail
 clear u4';go_loopw [21] (fun i wr=>∃j:Nat,j≤16∧i=.int .i64 j∧Hid (∃col' cssj,Cpy w lo wr col' L2 css cssj j s)∧Hid (Blk wr w.heap.size 49 A2.toArray)∧Hid (Blk wr (w.heap.size+1) 49 #[.int .u64 0,.int .u32 0,.int .i64 0,.slice none 0 0,.slice none 0 0,.slice none 0 0])) (fun i _=>16 - (intOf i).toNat)
 case atStart=>exact⟨0,by omega,rfl,zh1 ⟨_,_,C3.o⟩,A3,Z3⟩
 case round=>
  obtain⟨j,hj,rfl,hc,ha,hz⟩:=hrel;by_cases hjn:j<16
  ·
   have qj:(j:Int)<16:=zo;have qj0:(0:Int)≤j:=zo;obtain⟨colj,cssj,cj⟩:=hc.o;obtain⟨t,ht⟩:∃t,s.tres[j]? =some t:=⟨_,tA7 (by rw[HS.tresn];exact hjn)⟩;obtain⟨-,Ad,cd,Al,cl,Aq,cq,hcs,-,hrd,hrl,hrq⟩:=A8.tree HS.o ht;have hto:=HS.tre ht;have hcj:=(cj.rest j (tA4 _)).trans hcs;have cell:∀i u,i<75→(trev t (.slice Ad t.draws.length cd) (.slice Al t.leaves.length cl) (.slice Aq t.queue.length cq))[i]? =some u→wr.cell? ⟨L2.rg,j*75+i,none⟩=some u:=fun i u hi hu=>cj.tres.cell ((qnd cj.lens hcj hi).trans hu)
   have x4:=cell 4 _ zo rfl;have x5:=cell 5 _ zo rfl;have x6:=cell 6 _ zo rfl;obtain⟨A',c',ev,hdc,hdm,hDR,-⟩:=hrd.sl;injection ev with ev1 _ ev3;subst ev1 ev3;obtain⟨A',c',ev,hlc,hlm,hLR⟩:=hrl.reads;injection ev with ev1 _ ev3;subst ev1 ev3;obtain⟨A',c',ev,hqc,hqm,hQR⟩:=hrq.reads;injection ev with ev1 _ ev3;subst ev1 ev3;obtain⟨nd,hnd⟩:=xeq t.draws.length;obtain⟨nl,hnl⟩:=xeq t.leaves.length;obtain⟨nq,hnq⟩:=xeq t.queue.length;have b1:=hto.draws;have b2:=hto.leaves;have b3:=hto.queue;rw[hnd]at x4 hDR b1;rw[hnl]at x5 hLR b2;rw[hnq]at x6 hQR b2 b3;have a4:=(ha.cell 4).trans AJ.o;obtain⟨A1,AN,AK,AO,AP,AW,AX,AQ⟩:=zh8 cj ht hto hcs hnd hnl hnq hDR;obtain⟨AR,AS,BN,X4,X5,X6⟩:=zh6 hLR hQR (show nd≤32∧nl≤1024∧nq≤64 by omega) x4 x5 x6;clear cj ht hto hcs hcj cell hnd hnl hnq hDR hLR hQR b1 b2 b3 hrd hrl hrq hdc hdm hlc hlm hqc hqm x4 x5 x6 hc;go_upto_region 7 with(fail)
   clear a4;obtain⟨S,HS9⟩:=zS fun w'=>w'.cell? ⟨L2.rg,j*75+4,none⟩=some (.slice Ad nd cd)∧w'.cell? ⟨L2.rg,j*75+5,none⟩=some (.slice Al nl cl)∧w'.cell? ⟨L2.rg,j*75+6,none⟩=some (.slice Aq nq cq)
   refine xb0 S [0,1,2,3,4,5,6,7,8,9,10,11,12,13,14,15,16,17,18,19,20,21,23,24,26,27] [(0,none),(1,none),(2,none),(3,none),(4,none),(5,none),(6,some false),(8,none),(9,none),(10,none),(11,none),(12,some false),(14,none),(15,none),(16,none),(17,none),(18,some false),(7,some true),(13,some true),(19,some true),(20,none),(21,none),(22,some true),(23,none),(24,none),(25,some true),(26,none),(27,none),(28,some true)] zk rfl zk zk (fun _ _ d _ _ h=>by cases d<;>exact h) ((HS9.o _).mpr (⟨X4.o,X5.o,X6.o⟩)) ?_;have F4:=zh1 (fun(w':World)(h:S w')=>(HS9.o w').mp h);iterate 17 (first
    |(refine xb2 rfl rfl ⟨?_,fun w1=>?_,?_⟩;rotate_left;(focus(go_simp;try rfl));simp only[Act.put,tA0,tA1,tA2])
    |(refine xb3 rfl rfl ⟨?_,fun w1 hS=>?_,?_⟩;rotate_left;(focus(have g4:=(F4.o w1 hS).1;have g5:=(F4.o w1 hS).2.1;have g6:=(F4.o w1 hS).2.2;clear hS;go_simp;try rfl));simp only[Act.put,tA0,tA1,tA2]))
   obtain⟨Wr,hWr,BR⟩:=zdr wr;rw[←hWr];clear hWr;obtain⟨keepS,AF⟩:=zh2 (fun(w':World)(hb:Below wr.heap.size wr w')=>(HS9.o w').mpr ⟨qai X4.o hb,qai X5.o hb,qai X6.o hb⟩) (A1.below.trans (BR.mono A1.below.size));refine xb4 rfl rfl ?_;go_simp;refine(qso Ad nd cd (drwv t.draws) Wr (AQ.call AF.o) (by have:=BN.o;omega) (by intro u hu;obtain⟨n,-,rfl⟩:=List.mem_map.1 hu;rfl)).mono ?_;rintro e w4 ⟨v4,rfl,o4,b4⟩;obtain⟨A4,c4,rfl,-,-,-⟩:=qaf o4;obtain⟨O4,B4,AG,B4'⟩:=zh4 o4 (BR.trans (b4.mono BR.size)) (AF.trans (b4.mono AF.size)) b4;clear o4 b4;refine⟨keepS.o _ B4.o,?_⟩;try simp only[Act.put,tA0,tA1,tA2]
   refine xb4 rfl rfl ?_;go_simp;refine(xcv Al nl cl t.leaves w4 (AR.call AG.o) (by have:=BN.o;omega) (fun b hb=>(AK.leafb b hb).1)).mono ?_;rintro e w5 ⟨v5,rfl,o5,b5⟩;obtain⟨A5,n5,c5,rfl⟩:∃A n c,v5=.slice A n c:=by obtain⟨_,h,_⟩:=o5;obtain⟨A,c,h,_⟩:=qaf h;exact⟨A,_,c,h⟩
   obtain⟨O5,B5,AH,B5'⟩:=zh4 o5 (B4.trans (b5.mono B4.size)) (AG.trans (b5.mono AG.size)) b5;clear o5 b5;refine⟨keepS.o _ B5.o,?_⟩;try simp only[Act.put,tA0,tA1,tA2]
   refine xb4 rfl rfl ?_;go_simp;refine(xcv Aq nq cq t.queue w5 (AS.call AH.o) (by have:=BN.o;omega) (fun b hb=>(AK.queueb b hb).1)).mono ?_;rintro e w6 ⟨v6,rfl,o6,b6⟩;obtain⟨A6,n6,c6,rfl⟩:∃A n c,v6=.slice A n c:=by obtain⟨_,h,_⟩:=o6;obtain⟨A,c,h,_⟩:=qaf h;exact⟨A,_,c,h⟩
   obtain⟨O6,B6,AY,B6'⟩:=zh4 o6 (B5.trans (b6.mono B5.size)) (AH.trans (b6.mono AH.size)) b6;clear o6 b6;refine⟨keepS.o _ B6.o,?_⟩;try simp only[Act.put,tA0,tA1,tA2]
   have y4:=qai X4.o B6.o;have y5:=qai X5.o B6.o;have y6:=qai X6.o B6.o;have f4:=(A1.call B6.o).tres.frozen (j*75+4);have f5:=(A1.call B6.o).tres.frozen (j*75+5);have f6:=(A1.call B6.o).tres.frozen (j*75+6);iterate 2 (refine xb2 rfl rfl ⟨?_,fun w1=>?_,?_⟩;rotate_left;(focus(go_simp;try rfl));simp only[Act.put,tA0,tA1,tA2])
   refine xb4 rfl rfl ?_;go_simp;try simp only[Act.put,tA0,tA1,tA2]
   iterate 2 (refine xb2 rfl rfl ⟨?_,fun w1=>?_,?_⟩;rotate_left;(focus(go_simp;try rfl));simp only[Act.put,tA0,tA1,tA2])
   refine xb4 rfl rfl ?_;go_simp;try simp only[Act.put,tA0,tA1,tA2]
   iterate 2 (refine xb2 rfl rfl ⟨?_,fun w1=>?_,?_⟩;rotate_left;(focus(go_simp;try rfl));simp only[Act.put,tA0,tA1,tA2])
   refine xb4 rfl rfl ?_;go_simp;try simp only[Act.put,tA0,tA1,tA2]
   refine xb1 ?_;clear HS9 F4 keepS y4 y5 y6 f4 f5 f6;obtain⟨W7,hW7⟩:=eqx (((w6.setCell ⟨L2.rg,j*75+4,none⟩ (.slice A4 nd c4)).setCell ⟨L2.rg,j*75+5,none⟩ (.slice A5 n5 c5)).setCell ⟨L2.rg,j*75+6,none⟩ (.slice A6 n6 c6));rw[←hW7];have hW7':W7=w6.setCells L2.rg (j*75+4) [.slice A4 nd c4,.slice A5 n5 c5,.slice A6 n6 c6]:=by rw[hW7];rfl
   have cs7:∃col' cssj',Cpy w lo W7 col' L2 css cssj' (j+1) s:=by
    obtain⟨col',h⟩:=(A1.call BR.o).step AN.o HS.tresn AO.o (by rw[AP.o];exact O4.o) B4'.o O5.o B5'.o O6.o B6'.o;rw[←hW7']at h;exact⟨col',_,h⟩
   have g7:w6.grownBy W7 (some L2.rg):=by rw[hW7'];exact qn6 _ _ _ _
   have lrg:lo≤L2.rg:=(A1.new _ (by rw[A1.tres.1];decide)).1;have a7:=(ha.below B6.o ha.lt).grown g7 (by intro e;injection e with e;have:=AE.o;omega);have z7:=(hz.below B6.o hz.lt).grown g7 (by intro e;injection e with e;have:=AE.o;omega);obtain⟨AT,A7,Z7⟩:=zh3 cs7 a7 z7;clear hW7 hW7' cs7 g7 lrg a7 z7;go_wp2
   go_roundw
   case rel=>exact⟨j+1,by omega,by go_num,AT,A7,Z7⟩
   case measure=>simp[intOf];omega
  have qj:¬(j:Int)<16:=zo;obtain rfl:j=16:=zo;obtain⟨colj,cssj,cj⟩:=hc.o;have A1:=zh1 cj;have l2:A2.length=6:=by rw[←A9.o];rfl
  have o2:∀u∈A2,u.oneCell'=true:=by rw[←A9.o];exact qvp s L2
  obtain⟨AI,L2',O2',RA⟩:=zh4 (zI 49 l2) l2 o2 (qap ha.o 0 A2 (fun j u h=>by simpa using h));clear l2 o2 cj hc;go_wp2_with (first
   |(refine zld RA.o zu49 AI.o ?_)
   |(refine zst hz.o AI.o (by simp[L2'.o]) O2'.o ?_))
  have z9:=hz.setRow A2.toArray;have AU:=qap z9 0 A2 (fun j u h=>by simpa using h);have g9:=qam wr (w.heap.size+1) A2.toArray;have c9:=A1.box g9 zo AE.o;refine zrt AU zu49 AI.o ⟨colj,L2,by rw[A9.o],⟨cssj,c9.stAt HS.tresn⟩,fun b hb=>?_,c9.below⟩;have h1:=c9.new b hb;have h2:=c9.low.1;omega
theorem xcx (c:Cfg)(s:Sta)(L:Loc)(col:Col)(g:Nat)(css:List (List Value))(w:World)(hs:s.Ok)(h:Mdl w col 2 g c s L css):
 Zc 16 #[.pointer (some ⟨g,0,none⟩)] w fun e w'=>∃col' L' css',e=.returned (.agg (stav s L').toArray)∧StAt 92 74 66 w' col' 2 L' css' s∧(∀b,col' b≠0→w.heap.size≤b∧b<w'.heap.size)∧Below w.heap.size w w':=by
 obtain⟨W0,hW0⟩:=eqx (w.alloc (.cells #[.int .u64 0,.int .u32 0,.int .i64 0,.slice none 0 0,.slice none 0 0,.slice none 0 0] 49));have z0:Blk W0 w.heap.size 49 #[.int .u64 0,.int .u32 0,.int .i64 0,.slice none 0 0,.slice none 0 0,.slice none 0 0]:=by rw[hW0];exact Blk.new _ _ _
 have b0:Below w.heap.size w W0:=by rw[hW0];exact qah (tA5 _ _) _
 have h0:=h.call b0;have CC:=xcw s L col 2 css W0 hs h0.st;have rs:W0.rangeAt g 4 (stav s L):=h0.stRange;obtain⟨SV,hSV⟩:=xeq (stav s L);have lSV:SV.length=6:=by rw[←hSV];rfl
 rw[hSV]at CC rs;obtain⟨A4,A5,RS,Z0,B0,A6,A2⟩:=zh7 (zI 49 lSV) CC rs z0 b0 hW0 (show W0.heap.size=w.heap.size+1 by rw[hW0,qar]);clear CC rs hSV lSV z0 b0 hW0 h0 h hs;go_enter Tryz.func16,Tryz.ntmps16
 go_upto_region 1 with(fail)
 rw[←A6.o];go_wp2_with (refine zld RS.o zu49 A4.o ?_)
 refine A5.o.mono ?_;rintro e w1 ⟨col',L',css',rfl,st,nw,b1⟩;obtain⟨A0,hSV2⟩:=xeq (stav s L');have l2:A0.length=6:=by rw[←hSV2];rfl
 have o2:∀u∈A0,u.oneCell'=true:=by rw[←hSV2];exact qvp s L'
 rw[hSV2];obtain⟨A3,L2',O2',ST,NW,B1,A1,Z1⟩:=zh8 (zI 49 l2) l2 o2 st nw b1 hSV2 (Z0.below b1 Z0.lt);clear l2 o2 st nw b1 hSV2;go_wp2_with (refine zst Z1.o A3.o (by simp[L2'.o]) O2'.o ?_)
 have z9:=Z1.setRow A0.toArray;have A7:=qap z9 0 A0 (fun j u h=>by simpa using h);have g9:=qam w1 w.heap.size A0.toArray;have h9:Turns (· ==0) w1 col' (w1.setRow w.heap.size A0.toArray) col':=Turns.of_grown g9 (fun k e=>by
  injection e with e;by_cases h0:col' k=0
  · rw[h0];rfl
  have:=(NW.o k h0).1;have:=A2.o;omega) (fun _ _=>rfl)
 refine zrt A7 zu49 A3.o ⟨col',L',css',by rw[A1.o],?_,fun b hb=>?_,?_⟩
 · exact ST.keep (h9.keeps rfl) (h9.keeps rfl) (h9.keeps rfl) (fun k hk=>h9.keeps (by simp;omega))
 · have h1:=NW.o b hb
   have h2:=A2.o;have h3:=g9.size;omega
 exact below_setRow (B0.trans (B1.mono B0.size)) (tA4 _) _
theorem xcy (s:Sta)(L:Loc)(w:World):(Instr.field 49 (.agg (stav s L).toArray) 4).run Tryz.prog w=.ok (.slice (some ⟨L.rg,0,none⟩) 16 L.rc) w:=by kernel_rfl
theorem xcz {W w:World}{col:Col}{B g gw tb:Nat}{c:Cfg}{s:Sta}(h:Sit W B w col g gw tb c s):
 Zc 16 #[.pointer (some ⟨g,0,none⟩)] w fun e w'=>∃col2 L' css',e=.returned (.agg (stav s L').toArray)∧StAt 92 74 66 w' col2 2 L' css' s∧(∀b,col2 b≠0→w.heap.size≤b∧b<w'.heap.size)∧Below w.heap.size w w'∧Sit W B w' col g gw tb c s:=by
 obtain⟨L,css,h2⟩:=h.mdl;refine(xcx c s L col g css w h.ok h2).mono ?_;rintro e w' ⟨col2,L',css',rfl,h3,h4,h5⟩;exact⟨col2,L',css',rfl,h3,h4,h5,h.call h5⟩
theorem xd0:doS KC K5 (byR KC 1 qv5)=(K6,(doS KC K5 (byR KC 1 qv5)).2):=Prod.ext qvb.1 rfl
theorem xd1 (W:World)(hT:Tabs W)(hE:ErrT W):Zc 18 #[] W fun e w'=>e=.returned (.bool true)∧Below W.heap.size W w':=by
 have CB:=xb7 W hT hE;have AI:=zh1 CB;clear hT hE CB;go_enter Tryz.func18,Tryz.ntmps18
 go_wp2_with fail
 refine AI.o.mono ?_;rintro e w0 ⟨g,gw,tb,B,col0,rfl,s0⟩;have S0:=zh1 s0;clear s0;go_upto_region 4 with(fail)
 have cv4:=Lib.run_convert_bytes_const (P:=Tryz.prog) w0 23 5 #[.int .u8 97] 1 1 Tryz.underlying23 Tryz.underlying5;obtain⟨Q4,hQ4⟩:=xeq (reqv kAdd (.slice none 0 0) (.slice (some ⟨w0.heap.size,0,none⟩) 1 1));have AJ:=zh1 (show Tryz.prog.built 34 [(0,.int .i64 1),(2,.int .i64 1),(14,.slice (some ⟨w0.heap.size,0,none⟩) 1 1)]=some Q4.toArray by rw[←hQ4];kernel_rfl);have sl4:=S0.alloc (.cells #[.int .u8 97] 5 (1,2));have A0:=xa0 sl4 KC_ok 1 1 rfl zdc kAdd zdc (.slice none 0 0) (.slice (some ⟨w0.heap.size,0,none⟩) 1 1) rfl rfl;rw[hQ4]at A0;have rl4:Reads (w0.alloc (.cells #[.int .u8 97] 5 (1,2))) (w0.alloc (.cells #[.int .u8 97] 5 (1,2))).heap.size 1 (some ⟨w0.heap.size,0,none⟩) 1 (byv [97]):=xaq w0 97 (1,2);have z04:=S0.new0 (b:=w0.heap.size) (tA4 _);obtain⟨y4,hy4⟩:=eqx (w0.alloc (.cells #[.int .u8 97] 5 (1,2)));have by4:=(tA5 w0.heap.size w0).alloc (tA4 _) (.cells #[.int .u8 97] 5 (1,2));rw[←hy4]at A0 rl4 by4;obtain⟨A1,AK,AL,AC,AM⟩:=zh5 A0 rl4 hy4 by4 z04;clear A0 hQ4 sl4 rl4 hy4 by4 z04;go_wp2_with (refine qbj rfl ⟨.agg Q4.toArray,qgn 34 _ rfl _ _ AJ.o (by simp[Act.eval,Act.put]),?_⟩)
 rw[←AL.o];refine A1.o.mono ?_;rintro e w4 ⟨rfl,s4,b4⟩;have A2:=xa1 s4 KC_ok 1 kAdd (some ⟨w0.heap.size,0,none⟩) 1 1 rfl qva (xb5 zdc (by exact xb6 _ zdc)) (AK.call b4) (tA4 _) (by simp[maxLen]) (fun _ ad e=>by injection e with e;subst e;exact AM.o);obtain⟨P4,hP4⟩:=xeq (reqv (byR KC 1 kAdd) (.slice none 0 0) (.slice (some ⟨w0.heap.size,0,none⟩) 1 1));rw[hP4]at A2 ⊢;have AN:=zh1 (AC.trans (b4.mono AC.size));clear cv4;obtain⟨A3,S4⟩:=zh2 A2 s4;clear A2 hP4 s4 b4;go_wp2_with fail
 refine A3.o.mono ?_;rintro e v4 ⟨X4,col4,rfl,hX4,t4,r4⟩;have pk4:=hX4.pk;obtain⟨AD,R4,AE,N4⟩:=zh4 hX4 r4 (qzz t4 X4) (Blk.new v4 57 Tryz.zeroCells57);clear hX4 t4 r4;go_upto_region 5 with(refine qqj _ _ _ X4 N4.o pk4 ?_)
 obtain⟨W4,G4,hW4,hG4,U4,AO,AP⟩:=AE.o;rw[hW4,hG4];clear hW4 hG4 AE N4 pk4;have B2:=zh1 (((Rest.of_below AN.o).trans R4.o).trans (Rest.of_below AP.o));go_wp2_with fail
 refine(qzv U4.o KC_ok).mono ?_;rintro e w5 ⟨rfl,col5,s5,r5⟩;rw[show seqS KC K4=K5 from rfl]at s5;obtain⟨S5,AQ⟩:=zh2 s5 r5;clear s5 r5;go_upto_region 6 with(fail)
 obtain⟨Q6,hQ6⟩:=xeq (reqv qv5 (.slice none 0 0) (.slice none 0 0));have AR:=zh1 (show Tryz.prog.built 34 [(0,.int .i64 2),(2,.int .i64 1)]=some Q6.toArray by rw[←hQ6];kernel_rfl);have A4:=xa0 S5.o KC_ok 1 1 rfl zdc qv5 zdc (.slice none 0 0) (.slice none 0 0) rfl rfl;rw[hQ6]at A4;have A5:=zh1 A4;clear A4 hQ6;go_wp2_with (refine qbj rfl ⟨.agg Q6.toArray,qgn 34 _ rfl _ _ AR.o (by simp[Act.eval]),?_⟩)
 refine A5.o.mono ?_;rintro e w6 ⟨rfl,s6,b6⟩;have A6:=xa1 s6 KC_ok 1 qv5 none 0 0 rfl xd0 (xb5 zdc (by exact xb6 _ zdc)) ⟨rfl,fun h=>absurd h zdc⟩ (tA4 _) (by simp[maxLen]) (fun h=>absurd h zdc);obtain⟨P6,hP6⟩:=xeq (reqv (byR KC 1 qv5) (.slice none 0 0) (.slice none 0 0));rw[hP6]at A6 ⊢;obtain⟨A7,S6,AS⟩:=zh3 A6 s6 b6;clear A6 hP6 s6 b6;go_wp2_with fail
 refine A7.o.mono ?_;rintro e v6 ⟨X6,col6,rfl,hX6,t6,r6⟩;have pk6:=hX6.pk;obtain⟨AT,R6,AF,N6⟩:=zh4 hX6 r6 (qzz t6 X6) (Blk.new v6 57 Tryz.zeroCells57);clear hX6 t6 r6;go_upto_region 7 with(refine qqj _ _ _ X6 N6.o pk6 ?_)
 obtain⟨W6,G6,hW6,hG6,U6,AU,AV⟩:=AF.o;rw[hW6,hG6];clear hW6 hG6 AF N6 pk6;have AW:=zh1 (((Rest.of_below AS.o).trans R6.o).trans (Rest.of_below AV.o));obtain⟨Q7,hQ7⟩:=xeq (reqv qv6 (.slice none 0 0) (.slice none 0 0));have AX:=zh1 (show Tryz.prog.built 34 [(0,.int .i64 6),(2,.int .i64 3),(3,.int .i64 1),(6,.int .i64 1)]=some Q7.toArray by rw[←hQ7];kernel_rfl);have A8:=xa0 U6.o KC_ok 1 1 rfl zdc qv6 zdc (.slice none 0 0) (.slice none 0 0) rfl rfl;rw[hQ7]at A8;have A9:=zh1 A8;clear A8 hQ7;go_wp2_with (refine qbj rfl ⟨.agg Q7.toArray,qgn 34 _ rfl _ _ AX.o (by simp[Act.eval]),?_⟩)
 refine A9.o.mono ?_;rintro e w7 ⟨rfl,s7,b7⟩;have AA:=xa1 s7 KC_ok 1 qv6 none 0 0 rfl qvc (xb5 zdc (by exact xb6 _ zdc)) ⟨rfl,fun h=>absurd h zdc⟩ (tA4 _) (by simp[maxLen]) (fun h=>absurd h zdc);obtain⟨P7,hP7⟩:=xeq (reqv (byR KC 1 qv6) (.slice none 0 0) (.slice none 0 0));rw[hP7]at AA ⊢;obtain⟨AB,S7,AY⟩:=zh3 AA s7 b7;clear AA hP7 s7 b7;go_wp2_with fail
 refine AB.o.mono ?_;rintro e v7 ⟨X7,col7,rfl,hX7,t7,r7⟩;have pk7:=hX7.pk;obtain⟨AZ,R7,AG,N7⟩:=zh4 hX7 r7 (qzz t7 X7) (Blk.new v7 57 Tryz.zeroCells57);clear hX7 t7 r7;go_upto_region 8 with(refine qqj _ _ _ X7 N7.o pk7 ?_)
 obtain⟨W7,G7,hW7,hG7,U7,B0,B1⟩:=AG.o;rw[hW7,hG7];clear hW7 hG7 AG N7 pk7;have AH:=zh1 (((Rest.of_below AY.o).trans R7.o).trans (Rest.of_below B1.o));have x4:=((AO.rest AQ.o).rest AW.o).rest AH.o;have x6:=AU.rest AH.o;have x7:=B0.o;have a0:=(x4.blk.cell 0).trans (show X4.toArray[0]? =some (.int .i64 0) by rw[tA3];exact AD.why);have a1:=(x4.blk.cell 1).trans (show X4.toArray[1]? =some (.int .u64 0) by rw[tA3];exact AD.n);have b6:=(x6.blk.cell 6).trans (show X6.toArray[6]? =some (.int .u64 1) by rw[tA3];exact AT.size.trans (by rw[qvb.2];rfl));have c0:=(x7.blk.cell 0).trans (show X7.toArray[0]? =some (.int .i64 21) by rw[tA3];exact AZ.why);clear x4 x6 x7;go_wp2_with fail
 refine(xcz U7.o).mono ?_;rintro e w8 ⟨col2,L',css',rfl,st,nw,b8,s8⟩;obtain⟨t,ht,hl⟩:=qvd;obtain⟨-,Ad,cd,Al,cl,Aq,cq,-,hcell,-⟩:=st.tree s8.ok ht;have c5:=hcell 5 _ rfl;rw[hl]at c5;have hf:=xcy K6 L' w8;obtain⟨SV,hSV⟩:=xeq (stav K6 L');rw[hSV]at hf ⊢;have BW:=zh1 (s8.below);rw[show 0*75+5=5 from rfl]at c5;clear st nw s8 b8 hcell ht hl hSV a0 a1 b6 c0;go_wp2
 go_ret
 exact⟨rfl,BW.o⟩
theorem xd6 (W:World)(hT:Tabs W)(hE:ErrT W)(cx cy:Int)(st:Nat)(A:Option Addr)(n k:Nat)(bs:List Nat)(hr:Reads W W.heap.size 1 A n (byv bs))(hx: -9223372036854775808≤cx∧cx≤9223372036854775807)(hy: -9223372036854775808≤cy∧cy≤9223372036854775807)(hst:st<4294967296)(hnk:n≤k)(hn:n≤140737488351232)(hbs:∀b∈bs,b<256)
 (l:List Stp)(Al:Option Addr)(nl kl:Nat)(hl:StpsR W Al l)(hll:l.length=nl)(h140:∀S∈l,S.raw.length≤140737488351232)
 (R:Req)(Ac:Option Addr)(cc:Nat)(Aq:Option Addr)(nq cq:Nat)(hg:R.Good)(hrl:R.leaf.length=nq)(hnq:nq≤cq)(hqm:cq≤maxLen)(hql:Reads W W.heap.size 1 Aq nq (byv R.leaf))(hcv:Reads W W.heap.size 2 Ac R.cavs.length (cavv R.cavs))(hcc:R.cavs.length≤cc)(hcm:cc≤maxLen)(hc88:R.cavs.length≤8796093022000):
 Zc 3 #[.agg #[.int .i64 cx,.int .i64 cy,.int .u32 (st:Int),.slice A n k],.slice Al nl kl,.agg (reqv R (.slice Ac R.cavs.length cc) (.slice Aq nq cq)).toArray] W fun e w'=>e=.returned (.bool true)∧Below W.heap.size W w':=by
 have lQ:=qiu R (.slice Ac R.cavs.length cc) (.slice Aq nq cq) hg.tag;obtain⟨Q,hQ⟩:=xeq (reqv R (.slice Ac R.cavs.length cc) (.slice Aq nq cq));rw[hQ]at lQ ⊢;have hco:=xcn cx cy st bs hbs;obtain⟨c,hc⟩:=xeq (xcm cx cy st bs);rw[hc]at hco;obtain⟨W0,hW0⟩:=eqx ((W.alloc (.cells #[.int .i64 cx,.int .i64 cy,.int .u32 (st:Int),.slice A n k] 25)).alloc (.cells Q.toArray 34));have k0:Blk W0 W.heap.size 25 #[.int .i64 cx,.int .i64 cy,.int .u32 (st:Int),.slice A n k]:=by rw[hW0];exact(Blk.new _ _ _).alloc _
 have q0:Blk W0 (W.heap.size+1) 34 Q.toArray:=by
  have h:=Blk.new (W.alloc (.cells #[.int .i64 cx,.int .i64 cy,.int .u32 (st:Int),.slice A n k] 25)) 34 Q.toArray;rw[qar]at h;rw[hW0];exact h
 have b0:Below W.heap.size W W0:=by rw[hW0];exact qah (qah (tA5 _ _) _) _
 have CC:=xco cx cy st A n k bs W0 (hr.call b0) hx hy hst hnk hn;rw[hc]at CC;obtain⟨B9,BA,K0,Q0,B0,HT,HE,A2⟩:=zh8 CC hW0 k0 q0 b0 hT hE hco;obtain⟨HL,AR,AE,HQ,LQ,HG,AF,A3⟩:=zh8 hl hll h140 hQ lQ hg hrl hc88;obtain⟨A4,AS,AG⟩:=zh3 hcc hnq (fun(w:World)(col:Col)(hb:Below W.heap.size W w)(low:∀b,b<W.heap.size→col b=0)=>xcu (m:=300) hg hrl hnq hqm hql hcv hcc hcm hb low);clear CC hW0 k0 q0 b0 hT hE hco hl hll h140 hQ lQ hg hr hx hy hst hnk hn hbs hc hrl hnq hqm hql hcv hcc hcm hc88;go_enter Tryz.func3,Tryz.ntmps3
 go_upto_region 1 with(fail)
 rw[←BA.o];have RK:=zh1 (qap K0.o 0 [.int .i64 cx,.int .i64 cy,.int .u32 (st:Int),.slice A n k] (fun j u h=>by simpa using h));go_wp2_with (refine qaq rfl 25 (.tmp 3) rfl W.heap.size 0 rfl [.int .i64 cx,.int .i64 cy,.int .u32 (st:Int),.slice A n k] _ RK.o Tryz.underlying25 rfl zk ?_)
 refine B9.o.mono ?_;rintro e w1 ⟨A1,n1,k1,rfl,r1,a1,b1⟩;obtain⟨K1,R1,AT,B1⟩:=zh4 (K0.below b1 K0.lt) r1 a1 b1;clear r1 a1 b1;go_upto_region 2 with(refine wpList_store_row rfl 25 (.tmp 3) (.tmp 16) rfl W.heap.size #[.int .i64 c.width,.int .i64 c.quantum,.int .u32 (c.store:Int),.slice A1 n1 k1] rfl rfl 25 _ K1.o zk zm (by simp[Value.oneCell']) ?_)
 obtain⟨W2,hW2⟩:=eqx (w1.setRow W.heap.size #[.int .i64 c.width,.int .i64 c.quantum,.int .u32 (c.store:Int),.slice A1 n1 k1]);rw[←hW2];have hg2:w1.grownBy W2 (some W.heap.size):=by rw[hW2];exact qam _ _ _
 have ne2:∀ad,A1=some ad→ad.block≠W.heap.size:=fun ad e h=>by
  have h1:=AT.o ad e;have h2:=Q0.lt;omega
 have k2:Blk W2 W.heap.size 25 #[.int .i64 c.width,.int .i64 c.quantum,.int .u32 (c.store:Int),.slice A1 n1 k1]:=by rw[hW2];exact K1.setRow _
 have r2:=xcp R1.o hg2 ne2;have q2:Blk W2 (W.heap.size+1) 34 Q.toArray:=(Q0.below B1.o Q0.lt).grown hg2 (by intro e;injection e with e;omega);have b2:Below W.heap.size W W2:=(B0.trans (B1.mono B0.size)).grown hg2 (tB1 B0.size B1.size) (by intro g hg;injection hg with hg;omega);have CN:=xap c A1 n1 k1 W2 A2.o r2 (HT.below b2 HT.size);obtain⟨K2,R2,Q2,B2,BB,N2,L2,BC⟩:=zh8 k2 r2 q2 b2 CN ne2 (show ∀ad,A1=some ad→W.heap.size+1<ad.block from fun ad e=>by have h1:=AT.o ad e;have h2:=Q0.lt;omega) (qap k2 0 [.int .i64 c.width,.int .i64 c.quantum,.int .u32 (c.store:Int),.slice A1 n1 k1] (fun j u h=>by simpa using h));clear hW2 hg2 ne2 k2 r2 q2 b2 CN RK K1 R1;go_wp2_with (refine qaq rfl 25 (.tmp 3) rfl W.heap.size 0 rfl [.int .i64 c.width,.int .i64 c.quantum,.int .u32 (c.store:Int),.slice A1 n1 k1] _ BC.o Tryz.underlying25 rfl zk ?_)
 refine BB.o.mono ?_;rintro e w3 ⟨g,L,css,col,rfl,m3,z3,b3⟩;have K3c:=zh1 (K2.below b3 K2.lt);have BE:=zh1 (qap K3c.o 0 [.int .i64 c.width,.int .i64 c.quantum,.int .u32 (c.store:Int),.slice A1 n1 k1] (fun j u h=>by simpa using h));have CW:=xas c A1 n1 k1 w3 (R2.call b3);obtain⟨BF,M3,Z3,B3⟩:=zh4 CW m3 z3 b3;clear m3 z3 b3 CW;go_wp2_with (refine qaq rfl 25 (.tmp 3) rfl W.heap.size 0 rfl [.int .i64 c.width,.int .i64 c.quantum,.int .u32 (c.store:Int),.slice A1 n1 k1] _ BE.o Tryz.underlying25 rfl zk ?_)
 refine BF.o.mono ?_;rintro e w4 ⟨gw,tb,rfl,wa4,lg,lt,b4⟩;have s4:=xcq HT.o HE.o B2.o R2.o M3.o Z3.o B3.o wa4 lg lt b4;obtain⟨B,hB⟩:=xeq w4.heap.size;obtain⟨S4,b24⟩:=zh2 s4 (B3.trans (b4.mono B3.size));obtain⟨Q4,AU,LG,LT⟩:=zh4 (Q2.below b24.o Q2.lt) (show col (W.heap.size+1)=0 from Z3.o _ Q2.lt) (show W.heap.size+1<gw by have:=Q2.lt;have:=B3.size;omega) (show W.heap.size+1<tb by have:=Q2.lt;have:=B3.size;omega);rw[hB]at S4;have AV:=zh1 wa4;have A8:=zh1 (show 0<n1→∀ad,A1=some ad→(col ad.block=0∧ad.block<B)∧ad.block≠W.heap.size+1 from fun h0 ad e=>by
  obtain⟨ad',e',hlt,_⟩:=R2.o.2 h0;rw[e]at e';injection e' with e';subst e';have h1:=Z3.o _ hlt;have h2:=L2.o ad e;have h3:=b24.size;exact⟨⟨h1,by omega⟩,by omega⟩)
 clear s4 wa4 lg lt b4 hB;have hnll:=AR.o;go_upto_block 0 with fail
 go_cut [10] (fun s10 wx=>∃(colr:Col) (s:Sta),Hid (Sit W B wx colr g gw tb c s)∧Hid (Rest w4 col wx colr))
 case first=>
  go_wp2_with fail
  go_loopw [10] (fun i wr=>∃(j:Nat) (colr:Col),j≤nl∧j≤20∧i=.int .i64 j∧Hid (Sit W B wr colr g gw tb c (xcr c (newS c) (l.take j)))∧Hid (Rest w4 col wr colr)) (fun i _=>20 - (intOf i).toNat)
  case atStart=>exact⟨0,col,by omega,by omega,rfl,S4,zh1 ⟨rfl,rfl,rfl,tA4 _,fun _ _ h=>⟨rfl,h⟩⟩⟩
  case round=>
   obtain⟨j,colr,hj,hj20,rfl,hs,hr⟩:=hrel;by_cases h1:j<nl
   ·
    have q1:(j:Int)<nl:=zo;by_cases h2:j<20
    ·
     have q2:(j:Int)<20:=zo;obtain⟨S,hS⟩:∃S,l[j]? =some S:=⟨_,tA7 (by rw[AR.o];exact h1)⟩;have hlr:=HL.stay hs.below.size (fun b hb=>hs.below.block b hb);obtain⟨gb,go,cs,hA,h53,hst,hrg⟩:=hlr.at_ hS;subst hA;have CS:=xcl hs.o A2.o S cs hst (AE.o S (tB2 hS));obtain⟨AH,BG,AA,HI⟩:=zh4 CS hS hrg (zI 44 h53);clear CS hS hlr hst hrg h53;go_wp2_with (refine zld AA.o zu44 HI.o ?_)
     refine AH.o.mono ?_;rintro e w5 ⟨v5,col5,rfl,-,-,s5,r5⟩;obtain⟨S5,R5⟩:=zh2 s5 (hr.trans r5);clear s5 r5;go_wp2
     go_roundw
     case rel=>
      refine⟨j+1,col5,by omega,by omega,by go_num,?_,R5⟩;rw[xcs BG.o];exact S5
     case measure=>simp[intOf];omega
    have q2:¬(j:Int)<20:=zo;go_wp2
    go_meet
    case rel=>exact⟨colr,_,hs,hr⟩
   have q1:¬(j:Int)<nl:=zo;go_wp2
   go_meet
   case rel=>exact⟨colr,_,hs,hr⟩
 case rest=>
  obtain⟨colr,s,hs,hr⟩:=hcut;obtain⟨W5,rfl⟩:=eqx wc;have q5:=hr.blk Q4.o AU.o;have e47:=(q5.cell 47).trans (show Q.toArray[47]? =some (.slice Aq nq cq) by
   rw[←HQ.o,tA3];exact(qdh R (.slice Ac R.cavs.length cc) (.slice Aq nq cq) HG.tag 12).trans rfl)
  have f47:=q5.frozen 47;have c5:colr (W.heap.size+1)=0:=(hr.block _ Q4.lt AU.o).2;have wl5:=AV.rest hr.o S4.gws.1 S4.tbs.1 (fun h0 ad e=>(A8.o h0 ad e).1.1);have sd5:0<n1→∀ad,A1=some ad→(colr ad.block=0∧ad.block<B)∧ad.block≠W.heap.size+1:=fun h0 ad e=>by
   obtain⟨ad',e',hlt,_⟩:=AV.seed.2 h0;rw[e]at e';injection e' with e';subst e';exact⟨⟨(hr.block _ hlt (A8.o h0 ad e).1.1).2,(A8.o h0 ad e).1.2⟩,(A8.o h0 ad e).2⟩
  obtain⟨Q5,C5,BH,BI⟩:=zh4 q5 c5 wl5 sd5;clear q5 c5 wl5 sd5;go_upto_if 50 with(fail)
  go_cut [] (fun wx=>∃n':Nat,Hid (n'=(R.cutAt 300).leaf.length)∧n'≤cq∧Hid (Blk wx (W.heap.size+1) 34 (reqv (R.cutAt 300) (.slice Ac R.cavs.length cc) (.slice Aq n' cq)).toArray)∧Hid (Sit W B wx colr g gw tb c s))
  case first=>
   by_cases h3:nq≤300
   ·
    have q:¬(nq:Int)>300:=zo;go_wp2
    go_meet
    case rel=>
     have e:R.cutAt 300=R:=by
      unfold Req.cutAt;rw[tB5 (by rw[AF.o];exact h3)]
     rw[e];exact⟨nq,AF.symm,AS.o,by rw[HQ.o];exact Q5,hs⟩
   have q:(nq:Int)>300:=zo;have hcq:=AS.o;have q2:(300:Int)≤cq:=zo;have H6:=zh1 (show Blk (W5.setCell ⟨W.heap.size+1,47,none⟩ (.slice Aq 300 cq)) (W.heap.size+1) 34 (reqv (R.cutAt 300) (.slice Ac R.cavs.length cc) (.slice Aq 300 cq)).toArray by
    have h:=Q5.set_ 47 (.slice Aq 300 cq);rw[List.setIfInBounds_toArray,←HQ.o,qzg R (.slice Ac R.cavs.length cc) (.slice Aq nq cq) (.slice Aq 300 cq) HG.tag]at h;exact h)
   have S6:=zh1 (hs.boxed BH.o BI.o (qab (tB9 W5 (some (W.heap.size+1))) (p:=⟨W.heap.size+1,47,none⟩) (.inl rfl) (.slice Aq 300 cq)) C5.o zo (by have:=LG.o;omega) (by have:=LT.o;omega));have L6:=zh1 (show 300=(R.cutAt 300).leaf.length by
    show 300=(R.leaf.take 300).length;rw[tBd,AF.o];omega)
   clear hcq;go_wp2
   go_meet
   case rel=>exact⟨300,L6,by omega,H6,S6⟩
  case rest=>
   obtain⟨n',hn',hncq,q6,s6⟩:=hcut;obtain⟨W6,rfl⟩:=eqx wc;clear e47 f47;have CS:=xcz s6.o;have AH:=zh1 CS;clear CS;go_wp2_with fail
   refine AH.o.mono ?_;rintro e w7 ⟨col2,L7,css7,rfl,st7,nw7,b7,s7⟩;have lS:=qvo s L7;have oS:=qvp s L7;obtain⟨SV,hSV⟩:=xeq (stav s L7);rw[hSV]at lS oS ⊢;have bx7:=xbu s7 49 #[.int .u64 0,.int .u32 0,.int .i64 0,.slice none 0 0,.slice none 0 0,.slice none 0 0] SV;obtain⟨N7,IS,LS,OS,AI,AJ,AW,BJ⟩:=zh8 (Blk.new w7 49 #[.int .u64 0,.int .u32 0,.int .i64 0,.slice none 0 0,.slice none 0 0,.slice none 0 0]) (zI 49 lS) lS oS hSV bx7 st7 nw7;obtain⟨Q7,B7⟩:=zh2 (q6.below b7 q6.lt) b7;clear lS oS hSV bx7 st7 nw7 b7 s7;go_upto_region 13 with(refine zst N7.o IS.o (by simp[LS.o]) OS.o ?_)
   obtain⟨W7,hW7⟩:=eqx ((w7.alloc (.cells #[.int .u64 0,.int .u32 0,.int .i64 0,.slice none 0 0,.slice none 0 0,.slice none 0 0] 49)).setRow w7.heap.size SV.toArray);rw[←hW7];rw[←hW7]at AJ;obtain⟨G7,hG7⟩:=xeq w7.heap.size;rw[hG7];obtain⟨s8,x8,b8⟩:=AJ.o;rw[hG7]at x8;have hA:=AG.o W7 colr s8.below s8.low;have q8:=Q7.below b8 Q7.lt;have lQ':=qiu (R.cutAt 300) (.slice Ac R.cavs.length cc) (.slice Aq n' cq) (HG.cutAt 300).tag;have CD:=xct s8 A2.o (R.cutAt 300) Ac cc Aq cq hA;rw[←hn'.o,show (R.cutAt 300).cavs.length=R.cavs.length from rfl]at CD;obtain⟨Q',hQ'⟩:=xeq (reqv (R.cutAt 300) (.slice Ac R.cavs.length cc) (.slice Aq n' cq));rw[hQ']at CD q8 lQ';obtain⟨⟨s',a⟩,hdo⟩:∃x,doS c s (R.cutAt 300)=x:=⟨_,rfl⟩;rw[hdo]at CD;obtain⟨BK,BL,HQ',Q8,BM,BN,S8,X8⟩:=zh8 CD hdo hQ' q8 (qap q8 0 Q' (fun j u h=>by simpa using h)) (zI 34 lQ') s8 x8;obtain⟨B8,BY,BZ⟩:=zh3 b8 hW7 hG7;clear CD hdo hQ' q8 lQ' s8 x8 b8 hA hW7 hG7 AJ;go_wp2_with (refine zld BM.o zu34 BN.o ?_)
   refine BK.o.mono ?_;rintro e v9 ⟨X9,col9,rfl,hX9,s9,r9⟩;have pk9:=hX9.pk;obtain⟨BO,R9,AX,N9⟩:=zh4 hX9 r9 (qzz s9 X9) (Blk.new v9 57 Tryz.zeroCells57);clear hX9 s9 r9;go_upto_region 14 with(refine qqj _ _ _ X9 N9.o pk9 ?_)
   obtain⟨W9,G9,hW9,hG9,S9,BP,D9⟩:=AX.o;rw[hW9,hG9];clear hW9 hG9 AX N9 pk9;have e9:=(BP.blk.cell 0).trans (show X9.toArray[0]? =some (.int .i64 a.why) by rw[tA3];exact BO.why);by_cases hw:a.why=0
   ·
    have hmay:qmk c s (R.cutAt 300)=0:=qvf (by rw[BL.o];exact hw);obtain⟨gr,tn,hgr,hgen,hrev,hexp,hhold,-,-,-⟩:=qve hmay;have hgl:R.tid<s.gras.length:=(tA8 hgr).1;have rest79:=R9.trans (Rest.of_below D9.o);have q9:=rest79.blk Q8.o C5.o;obtain⟨A9,n9,k9,hw9,-⟩:=S9.wld;have x9:=(X8.rest rest79).blk;have gg0:colr L7.gg=0:=s6.new0 (BJ.o L7.gg (by rw[AW.gras.1];decide)).1;have g9:=xbv ⟨AW.gras.reads.call B8.o,fun _ ad e=>by injection e with e;rw[←e];exact gg0⟩ rest79;obtain⟨A0,AB,BQ,AC,BR,AK,AL,AM⟩:=zh8 q9 x9 g9.1 hw9 hgr hgen hrev hexp;obtain⟨A5,BS⟩:=zh2 hhold hgl;clear hmay hgr hgen hrev hexp hhold hgl rest79 q9 hw9 x9 gg0 g9;have q0:(a.why:Int)=0:=hw;go_upto_region 16 with(fail)
    obtain⟨ng,hng⟩:=xeq s.gras.length;have ng64:ng≤64:=by rw[←hng];exact S8.ok.grasn
    have tlt:R.tid<ng:=by rw[←hng];exact BS.o
    have e1:=(A0.cell 1).trans (show Q'.toArray[1]? =some (.int .u32 (R.tid:Int)) by rw[tA3,←HQ'.o];rfl);have eG:=(AB.cell 5).trans (show SV.toArray[5]? =some (.slice (some ⟨L7.gg,0,none⟩) ng L7.gc) by rw[tA3,←AI.o,←hng];rfl);have eT:=(AC.blk.cell 0).trans (show (#[.pointer (some ⟨tb,0,none⟩),.int .i64 c.width,.int .i64 c.quantum,.int .u32 (c.store:Int),.slice A9 n9 k9]:Array Value)[0]? =some (.pointer (some ⟨tb,0,none⟩)) from rfl);obtain⟨td,htd⟩:=xeq R.tid;rw[htd]at tlt e1;have wn:IntKind.u32.wrap (ng:Int)=ng:=by rw[IntKind.wrap_u32];omega
    have qlt:¬(td:Int) ≥ ng:=zo;obtain⟨AY,AZ⟩:=zh2 hng htd;clear hng htd;obtain⟨S,HS9⟩:=zS fun w'=>Below W9.heap.size W9 w'∧w'.cell? ⟨W.heap.size+1,1,none⟩=some (.int .u32 (td:Int))∧w'.cell? ⟨G7,5,none⟩=some (.slice (some ⟨L7.gg,0,none⟩) ng L7.gc)∧w'.cell? ⟨gw,0,none⟩=some (.pointer (some ⟨tb,0,none⟩))
    have mkS:Hid (∀w',Below W9.heap.size W9 w'→S w'):=fun w' h=>by
     rw[HS9.o];exact⟨h,(h.cell (p:=⟨W.heap.size+1,1,none⟩) A0.lt).trans e1,(h.cell (p:=⟨G7,5,none⟩) AB.lt).trans eG,(h.cell (p:=⟨gw,0,none⟩) AC.blk.lt).trans eT⟩
    clear e1 eG eT;refine zrs S 20 (zq 0 14 [(15,false),(16,false),(14,true),(17,true),(18,false),(19,false)]) (mkS.o _ (tA5 _ W9).drew) ?_;iterate 14 (refine zrs9 ?_)
    iterate 1 (refine qbg rfl rfl ⟨?_,fun w1 hS=>?_,?_⟩;rotate_left;(focus(go_simp;try rfl));simp only[Act.put,tA0,tA1,tA2])
    have lT:=qdc R.tid (.slice Ac R.cavs.length cc) R.tag HG.tag;have rT:∀j u,(tokv R.tid (.slice Ac R.cavs.length cc) R.tag)[j]? =some u→Q'[1+j]? =some u:=fun j u h=>by
     rw[←HQ'.o];exact qiv (R.cutAt 300) (.slice Ac R.cavs.length cc) (.slice Aq n' cq) j u h
    obtain⟨T,hTT⟩:=xeq (tokv R.tid (.slice Ac R.cavs.length cc) R.tag);rw[hTT]at lT rT;obtain⟨FT,IT,BT⟩:=zh3 (fun(w':World)(h:S w')=>qap (A0.below ((HS9.o w').mp h).1 A0.lt) 1 T (fun j u hu=>by simpa using rT j u hu)) (zI 31 lT) hTT;clear lT rT hTT;refine qo9 rfl rfl 31 (.tmp 79) rfl (W.heap.size+1) 1 rfl T _ FT.o Tryz.underlying31 rfl IT.o ?_;try simp only[Act.put,tA0,tA1,tA2]
    obtain⟨Wd,hWd,BD⟩:=zdr W9;rw[←hWd];clear hWd;refine zw ?_;go_simp;refine zcb (qzj gw tb c A9 n9 k9 Wd (AC.call BD.o) A2.seedb A2.seed) fun w11 b11=>?_
    have A6:=zh1 (BD.trans (b11.mono BD.size));clear b11;refine⟨mkS.o _ A6.o,zput ?_⟩;have CG:=xd4 tb (qmd c.seed) (R.tid,R.cavs,R.tag) Ac R.cavs.length cc w11 (qjv _ _) (qjw _ _) ((AG.o W9 col9 S9.below S9.low).cavs.call A6.o) A4.o A3.o ⟨HG.tid,HG.cavn,HG.tag,HG.tagb⟩ (AC.call A6.o).tab;rw[show qk9 (qmd c.seed) (R.tid,R.cavs,R.tag)=true from AK.o]at CG;dsimp only at CG;rw[BT.o]at CG;have BU:=zh1 CG;clear CG;refine zw ?_;go_simp;refine zcb BU.o fun w12 b12=>?_
    have A7:=zh1 (A6.trans (b12.mono A6.size));clear b12;refine⟨mkS.o _ A7.o,zput ?_⟩;iterate 2 (refine qbg rfl rfl ⟨?_,fun w1 hS=>?_,?_⟩;rotate_left;(focus(go_simp;try rfl));simp only[Act.put,tA0,tA1,tA2])
    refine qbf ?_;clear mkS HS9 FT;have q12:=A0.below A7.o A0.lt;have x12:=AB.below A7.o AB.lt;have g12:=BQ.call A7.o;have qg:∀j u,(reqv (R.cutAt 300) (.slice Ac R.cavs.length cc) (.slice Aq n' cq))[j]? =some u→Q'.toArray[j]? =some u:=fun j u h=>by rw[tA3,←HQ'.o];exact h
    have e1:=(q12.cell 1).trans (qg 1 (.int .u32 (td:Int)) (by rw[←AZ.o];rfl));have e0:=(q12.cell 0).trans (qg 0 (.int .i64 R.op) rfl);have e35:=(q12.cell 35).trans (qg 35 (.int .i64 R.tree) ((qdh (R.cutAt 300) _ _ (HG.cutAt 300).tag 0).trans rfl));have eG:=(x12.cell 5).trans (show SV.toArray[5]? =some (.slice (some ⟨L7.gg,0,none⟩) ng L7.gc) by rw[tA3,←AI.o,←AY.o];rfl);have eC:=(x12.cell 0).trans (show SV.toArray[0]? =some (.int .u64 (s.clock:Int)) by rw[tA3,←AI.o];rfl);have RG:∀j u,(grav gr)[j]? =some u→w12.cell? ⟨L7.gg,td*4+j,none⟩=some u:=fun j u hu=>by
     obtain⟨b,o,e,-,hc⟩:=g12.mid (by rw[AY.o];omega) zdc;injection e with e;injection e with eb eo;obtain⟨hj,-⟩:=tA8 hu;have h:=hc (td*4+j) u ((qnm (by rw[←AZ.o];exact BR.o) (by simpa [grav] using hj)).trans hu);rw[←eb,←eo,Nat.zero_add]at h;exact h
    have oG:∀u∈grav gr,u.oneCell'=true:=by
     intro u hu;unfold grav at hu;simp only[List.mem_cons,List.not_mem_nil,or_false]at hu;rcases hu with rfl|rfl|rfl|rfl<;>rfl
    have lG:(grav gr).length=4:=rfl;have pR:(grav gr)[3]? =some (.bool false):=by
     show some (Value.bool gr.revoked)=_;rw[AL.o]
    have pX:(grav gr)[2]? =some (.int .u64 (gr.expires:Int)):=rfl;obtain⟨GV,hGV⟩:=xeq (grav gr);rw[hGV]at RG oG lG pR pX;obtain⟨AA,OG,BV,IG,PR,PX,B4,B5⟩:=zh8 (show w12.rangeAt L7.gg (td*4) GV from RG) oG lG (zI 66 lG) pR pX (Blk.new w12 66 #[.int .i64 0,.int .i64 0,.int .u64 0,.bool false]) q12;have C0:=zh1 x12;have qlt2:(td:Int)<ng:=zo;clear q12 x12 g12 qg RG oG lG pR pX hGV qlt;go_upto_region 19 with(first
     |(refine zld AA.o zu66 IG.o ?_)
     |(refine zst B4.o IG.o (by simp[BV.o]) OG.o ?_))
    obtain⟨AN,hW13⟩:=eqx ((w12.alloc (.cells #[.int .i64 0,.int .i64 0,.int .u64 0,.bool false] 66)).setRow w12.heap.size GV.toArray);rw[←hW13];obtain⟨C1,hG13⟩:=xeq w12.heap.size;have s13:=xbu (S9.call A7.o) 66 #[.int .i64 0,.int .i64 0,.int .u64 0,.bool false] GV;rw[←hW13,hG13]at s13;rw[hG13];obtain⟨s13,x13,b13⟩:=s13;have b12:Below w12.heap.size w12 AN:=by rw[hG13];exact b13
    have f0:=qai e0 b12;have f35:=qai e35 b12;have fC:=qai eC b12;have fR:=(x13.blk.cell 3).trans (show GV.toArray[3]? =some (.bool false) by rw[tA3];exact PR.o);have fX:=(x13.blk.cell 2).trans (show GV.toArray[2]? =some (.int .u64 (gr.expires:Int)) by rw[tA3];exact PX.o);obtain⟨BW,AO,FC,FR,FX⟩:=zh5 (B5.below b12 B5.lt) s13 fC fR fX;clear e0 e1 e35 eG eC hW13 hG13 s13 x13 b13 b12 fC fR fX qlt2 B4 AA;go_wp2_with fail
    refine zca (ql6 R.op AN) ?_;obtain⟨tv,htv⟩:∃tv,(if qdi R.op=true then R.tree else 0)=tv:=⟨_,rfl⟩;have AD:=zh1 htv;clear htv;go_upto_if 93 with(fail)
    go_cut [14] (fun s14 wx=>s14=.int .i64 tv∧wx=AN)
    case first=>
     cases hb:qdi R.op with
     |true=>
      have e:=AD.o;rw[hb,if_pos rfl]at e;rw[e]at f35;clear e hb;go_wp2
      go_meet
      case rel=>exact⟨rfl,rfl⟩
     |false=>
      have e:=AD.o;rw[hb,if_neg zdc]at e;have E0:=zh1 e;clear e hb f35;go_wp2
      go_meet
      case rel=>exact⟨by rw[E0.o],rfl⟩
    case rest=>
     obtain⟨rfl,rfl⟩:=hcut;have hcl:=AM.o;have pcl:(s.clock:Int)<gr.expires:=zo;have gR:=FR.o;have gX:=FX.o;have gC:=FC.o;have lT:=qdc R.tid (.slice Ac R.cavs.length cc) R.tag HG.tag;have FT:=zh1 (qap BW.o 1 (tokv R.tid (.slice Ac R.cavs.length cc) R.tag) (fun j u hu=>by
      have h:=qiv (R.cutAt 300) (.slice Ac R.cavs.length cc) (.slice Aq n' cq) j u hu;rw[HQ'.o]at h;simpa using h))
     have hop:=(Go.Lit.wf_int_iff _ _).1 HG.op;have htr:=(Go.Lit.wf_int_iff _ _).1 HG.tree;rw[IntKind.min_i64,IntKind.max_i64]at hop htr;have htv2:tv<9223372036854775808:=by
      rw[←AD.o];by_cases hb:qdi R.op=true
      · rw[if_pos hb];omega
      rw[if_neg hb];decide
     obtain⟨T,hTT⟩:=xeq (tokv R.tid (.slice Ac R.cavs.length cc) R.tag);have HO:=xd5 R.op tv s.clock (R.tid,R.cavs,R.tag) Ac R.cavs.length cc wc ((AG.o wc col9 AO.below AO.low).cavs) A4.o A3.o ⟨HG.tid,HG.cavn,HG.tag,HG.tagb⟩ zo htv2;rw[show qkh R.op tv s.clock R.cavs=true by rw[←AD.o];exact A5.o]at HO;dsimp only at HO;rw[hTT]at HO FT lT;obtain⟨IT,BX⟩:=zh2 (zI 31 lT) HO;clear hcl lT hTT HO hop htr htv2;go_wp2_with (refine zld FT.o zu31 IT.o ?_)
     refine zcb BX.o fun w14 b14=>?_
     have s14:=AO.call b14;have CK:=xd1 w14 s14.tabs s14.err;obtain⟨AP,B6⟩:=zh2 CK s14;clear CK s14 b14;go_wp2_with fail
     refine zcb AP.o fun w10 b10=>?_
     have AQ:=zh1 (B6.below.trans (b10.mono B6.below.size));clear b10;go_wp2
     go_ret
     exact⟨rfl,AQ.o⟩
   have q9:¬(a.why:Int)=0:=zo;have CK:=xd1 W9 S9.tabs S9.err;have AP:=zh1 CK;clear CK;go_wp2_with fail
   refine zcb AP.o fun w10 b10=>?_
   have AQ:=zh1 (S9.below.trans (b10.mono S9.below.size));clear b10;go_wp2
   go_ret
   exact⟨rfl,AQ.o⟩
end Go.Proofs.YthomgopipiomhaaGreatDoor

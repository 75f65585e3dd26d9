/-
  Lemmas for ModelNumbers, shortened by program.
-/
import Derived.Test.YthomgopipiomhaaGreatDoorBMN15
namespace Go.Proofs.YthomgopipiomhaaGreatDoor
set_option linter.unusedVariables false
set_option linter.unusedSimpArgs false
set_option maxRecDepth 100000
set_option maxHeartbeats 32000000
section
open Go.RowKit
theorem Tryz.madd_info:(Tryz.prog.info? 23).map (fun i=>(i.zero,i.size,i.bytes))=some (some (.slice none 0 0),1,24):=by kernel_rfl
theorem qql (c:Cfg)(s:Sta)(L:Loc)(col:Col)(k g:Nat)(css:List (List Value))(n:Nat)(t:Tre)(R:Req)(Ac:Option Addr)(cc:Nat)(Al:Option Addr)(cl:Nat)(w:World)(hk:Kind k)(hc:c.Ok)(hs:s.Ok)(h:Mdl w col k g c s L css)
 (hr:Asked w col R Ac cc Al cl)(hrt:R.tree=(n:Int))(ht:s.tres[n]? =some t)(hl:R.leaf.length≤256):
 Calls Tryz.prog 135 #[.pointer (some ⟨g,0,none⟩),.pointer (some ⟨L.rg,n*75,none⟩),.agg (reqv R (.slice Ac R.cavs.length cc) (.slice Al R.leaf.length cl)).toArray] w fun e w'=>∃v col',e=.returned v∧RspV w' col' w.heap.size v (qm4 c s R t).2∧Did w col w' col' k g c css s (qm4 c s R t).1:=by
 obtain⟨hn16,Ad,cd,Al',cl',Aq,cq,hcs,hcell,hrd,hrl,hrq⟩:=h.st.tree hs ht;have hto:=hs.tre ht;have rlen:=qis R (.slice Ac R.cavs.length cc) (.slice Al R.leaf.length cl) hr.good.tag;have r35:(reqv R (.slice Ac R.cavs.length cc) (.slice Al R.leaf.length cl))[35]? =some (.int .i64 (n:Int)):=by rw[←hrt];exact qgu R _ _ hr.good.tag 0
 have r47:(reqv R (.slice Ac R.cavs.length cc) (.slice Al R.leaf.length cl))[47]? =some (.slice Al R.leaf.length cl):=qgu R _ _ hr.good.tag 12;obtain⟨Q,hQ⟩:=xeq (reqv R (.slice Ac R.cavs.length cc) (.slice Al R.leaf.length cl));rw[hQ]at rlen r35 r47 ⊢;obtain⟨W0,hW0⟩:=eqx ((w.alloc (.cells Q.toArray 34)).alloc (.cells Tryz.zeroCells57 57));have q0:Blk W0 w.heap.size 34 Q.toArray:=by rw[hW0];exact(Blk.new w _ _).alloc _
 have z0:Blk W0 (w.heap.size+1) 57 Tryz.zeroCells57:=by
  have h:=Blk.new (w.alloc (.cells Q.toArray 34)) 57 Tryz.zeroCells57;rw[qar]at h;rw[hW0];exact h
 have b0:Below w.heap.size w W0:=by rw[hW0];exact qah (qah (tA5 _ _) _) _
 have hG0:col (w.heap.size+1)=0:=by
  by_cases e:col (w.heap.size+1)=0
  · exact e
  have:=h.fin _ e;omega
 have c0:=qai (hcell 0 (.int .i64 t.state) rfl) b0;have c1:=qai (hcell 1 (.int .i64 t.tenant) rfl) b0;have c5:=qai (hcell 5 (.slice Al' t.leaves.length cl') rfl) b0;have c6:=qai (hcell 6 (.slice Aq t.queue.length cq) rfl) b0;have k35:=(q0.cell 35).trans (show Q.toArray[35]? =some (.int .i64 (n:Int)) by rw[tA3];exact r35);have k47:=(q0.cell 47).trans (show Q.toArray[47]? =some (.slice Al R.leaf.length cl) by rw[tA3];exact r47);simp only[Nat.add_zero]at c0;have D0:=Did.same (css:=css) h b0;obtain⟨H,AK,Q0,Z0,B0,A4,AV,HK⟩:=zh8 h hW0 q0 z0 b0 hG0 D0 hk;obtain⟨HS,HC,HT,AL,HR,C0,C1,C5⟩:=zh8 hs hc ht hto hr c0 c1 c5;obtain⟨C6,BM,AM,C4,AB,BN,C8,C9⟩:=zh8 c6 k35 k47 hcs hrt hl hrl hrq;clear h hW0 q0 z0 b0 hG0 D0 hk hs hc ht hto hr c0 c1 c5 c6 k35 k47 r35 r47 rlen hQ hcs hcell hrd hrt hl hrl hrq;by_cases hA:n=0∨t.state≠1
 ·
  have hdo:qm4 c s R t=(s,rWhy 24):=by unfold qm4;rw[if_pos (by rw[AB.out];omega)]
  have A3:=zh1 hdo;clear hdo;obtain⟨x,hx⟩:=xeq t.state;rw[hx]at hA;have c0:=C0.out;rw[hx]at c0;have k35:=BM.out;clear hx;rw[AK.out]at c0 k35;by_cases h0:n=0
  ·
   subst h0;go_enter Tryz.func135,Tryz.ntmps135
   go_wp2_with fail
   clear c0 k35;rw[←AK.out];refine(qpj 24 W0).mono ?_;rintro e w9 ⟨rfl,b9⟩;obtain⟨X,hX,pk⟩:=qpn (rWhy 24) Hd.zero_Ok (by simp[qlz,rWhy,qih,qft]);rw[hX];obtain⟨Z9,HX,DD⟩:=zh3 ((Z0.out).below b9 (Z0.out).lt) hX ((AV.out).call b9);clear hX b9;go_wp2_with (refine qpo (.tmp 6) (.tmp 23) (w.heap.size+1) X Z9.out pk ?_)
   exact qpp (Z9.out.setRow X.toArray) pk ⟨_,col,rfl,(by rw[A3.out,←HX.out];exact RspV.plain _ _ _ _ rfl rfl rfl),(by (try rw[A3.out]);exact DD.out.row0 HK.out X.toArray (A4.out) (by omega))⟩
  have hx1:x≠1:=by omega
  have qn:((n:Int)==0)=false:=by simp;omega
  have ha:qkl x=false:=by unfold qkl;simpa using hx1
  go_enter Tryz.func135,Tryz.ntmps135
  go_wp2_with fail
  clear c0 k35;rw[←AK.out];refine(qkt x W0).mono ?_;rintro e w' ⟨rfl,rfl⟩;rw[ha];go_wp2_with fail
  refine(qpj 24 W0).mono ?_;rintro e w9 ⟨rfl,b9⟩;obtain⟨X,hX,pk⟩:=qpn (rWhy 24) Hd.zero_Ok (by simp[qlz,rWhy,qih,qft]);rw[hX];obtain⟨Z9,HX,DD⟩:=zh3 ((Z0.out).below b9 (Z0.out).lt) hX ((AV.out).call b9);clear hX b9;go_wp2_with (refine qpo (.tmp 6) (.tmp 23) (w.heap.size+1) X Z9.out pk ?_)
  exact qpp (Z9.out.setRow X.toArray) pk ⟨_,col,rfl,(by rw[A3.out,←HX.out];exact RspV.plain _ _ _ _ rfl rfl rfl),(by (try rw[A3.out]);exact DD.out.row0 HK.out X.toArray (A4.out) (by omega))⟩
 have hn0:n≠0:=by omega
 have hx:t.state=1:=by omega
 have c0:=C0.out;have k35:=BM.out;rw[hx]at c0;rw[AK.out]at c0 k35;have qn:((n:Int)==0)=false:=by simp;omega
 have ha:qkl 1=true:=rfl;obtain⟨AH,AI⟩:=zh2 hn0 hx;clear hA hn0 hx;go_enter Tryz.func135,Tryz.ntmps135
 go_wp2_with fail
 clear c0 k35;rw[←AK.out];refine(qkt 1 W0).mono ?_;rintro e w' ⟨rfl,rfl⟩;rw[ha];clear qn ha;go_upto_region 3 with(fail)
 have hlf:=HR.out.good.leafb;obtain⟨A1,k1,e1,a1,a2,a3⟩:=C8.out.reads;injection e1 with e11 e12 e13;subst e11 e13;obtain⟨A2,k2,e2,a4,a5,a6⟩:=C9.out.reads;injection e2 with e21 e22 e23;subst e21 e23;obtain⟨BO,BP⟩:=zh2 a3 a6;clear a1 a2 a3 a4 a5 a6;obtain⟨nl,hnl⟩:=xeq t.leaves.length;obtain⟨nq,hnq⟩:=xeq t.queue.length;obtain⟨nf,hnf⟩:=xeq R.leaf.length;have hto:=AL.out;have hb1:=hto.leaves;have hb2:=hto.queue;rw[hnl,hnq]at hb1;rw[hnq]at hb2;rw[hnl]at C5 BO;rw[hnq]at C6 BP;rw[hnf]at AM;obtain⟨AD,A8,AE,AQ,CH,BQ,AW⟩:=zh7 hnl hnq hnf hb1 hb2 hlf (show Reads w w.heap.size 1 Al nf (byv R.leaf) by have:=HR.out.leaf;rwa[hnf]at this);obtain⟨I1,I2⟩:=zh2 (fun w' (hb:Below w.heap.size w w')=>qq5 R.leaf t.leaves Al' Al nl cl' nf cl w' (by omega) (BO.out.call hb) (fun b hb=>(AL.out.leafb b hb).bs) BQ.out (AW.out.call hb)) (fun w' (hb:Below w.heap.size w w')=>qq5 R.leaf t.queue Aq Al nq cq nf cl w' (by omega) (BP.out.call hb) (fun b hb=>(AL.out.queueb b hb).bs) BQ.out (AW.out.call hb));clear hlf hnl hnq hnf hto hb1 hb2;obtain⟨S,A0⟩:∃S:World→Prop,Hid (∀w',S w'=(Below W0.heap.size W0 w')):=⟨_,fun _=>rfl⟩;refine zrs S 8 [(0,false),(1,false),(2,false),(3,false),(4,false),(5,false),(6,true),(7,false)] ((A0.out _).mpr ((tA5 _ _).drew)) ?_;obtain⟨F0,F1⟩:=zh2 (fun(w':World)(h:S w')=>qai C5.out ((A0.out w').mp h)) (fun(w':World)(h:S w')=>qai AM.out ((A0.out w').mp h));iterate 6 (refine zrd rfl rfl (fun w1 hS=>by have g0:=F0.out w1 hS;have g1:=F1.out w1 hS;clear hS;go_simp;try rfl) ?_;simp only[Act.put,tA0,tA1,tA2])
 obtain⟨Wd,hWd⟩:=eqx W0.drew;have bd:Below W0.heap.size W0 Wd:=by rw[hWd];exact(tA5 _ _).drew
 rw[←hWd];have BD:=zh1 bd;clear hWd bd;refine qbj rfl rfl ?_;go_simp;refine(I1.out Wd (B0.out.trans (BD.out.mono B0.out.size))).mono ?_;rintro e w1 ⟨rfl,b1⟩;have B1:=zh1 (BD.out.trans (b1.mono BD.out.size));clear b1;refine⟨(A0.out _).mpr B1.out,?_⟩;try simp only[Act.put,tA0,tA1,tA2]
 iterate 1 (refine zrd rfl rfl (fun w1 hS=>by go_simp;(try go_bits);try rfl) ?_;simp only[Act.put,tA0,tA1,tA2])
 refine qbg ?_;clear A0 F0 F1;obtain⟨Z1,BR,S1⟩:=zh3 (Z0.out.below B1.out Z0.out.lt) (AV.out.call B1.out) B1.out.size;cases hf1:qm3 t.leaves R.leaf with
 |some k0=>
  have hk0:k0<nl:=by
   unfold qm3 at hf1;obtain⟨h,_⟩:=List.findIdx?_eq_some_iff_getElem.1 hf1;have:=AD.out;omega
  have hdo:qm4 c s R t=(s,qlz k0):=by unfold qm4;rw[if_neg (by rw[AB.out,AI.out];have:=AH.out;omega),hf1]
  have hb1:=AQ.out;have q1:(0:Int)≤k0:=by omega
  have A3:=zh1 hdo;rw[show idxI (some k0)=(k0:Int) from rfl];clear hf1 hdo;go_wp2_with fail
  refine(qpi k0 w1 (by omega)).mono ?_;rintro e w9 ⟨rfl,b9⟩;obtain⟨X,hX,pk⟩:=qpn (qlz k0) Hd.zero_Ok (by simp[qlz,rWhy,qih,qft]);rw[hX];obtain⟨Z9,HX,DD⟩:=zh3 ((Z1.out).below b9 (Z1.out).lt) hX ((BR.out).call b9);clear hX b9;go_wp2_with (refine qpo (.tmp 6) (.tmp 34) (w.heap.size+1) X Z9.out pk ?_)
  exact qpp (Z9.out.setRow X.toArray) pk ⟨_,col,rfl,(by rw[A3.out,←HX.out];exact RspV.plain _ _ _ _ rfl rfl rfl),(by (try rw[A3.out]);exact DD.out.row0 HK.out X.toArray (A4.out) (by omega))⟩
 |none=>
  rw[show idxI none= -1 from rfl];have AN:=zh1 hf1;clear hf1;go_upto_region 6 with(fail)
  obtain⟨S,A0⟩:∃S:World→Prop,Hid (∀w',S w'=(Below w1.heap.size w1 w')):=⟨_,fun _=>rfl⟩;refine zrs S 8 [(0,false),(1,false),(2,false),(3,false),(4,false),(5,false),(6,true),(7,false)] ((A0.out _).mpr ((tA5 _ _).drew)) ?_;obtain⟨F0,F1⟩:=zh2 (fun(w':World)(h:S w')=>qai (qai C6.out B1.out) ((A0.out w').mp h)) (fun(w':World)(h:S w')=>qai (qai AM.out B1.out) ((A0.out w').mp h));iterate 6 (refine zrd rfl rfl (fun w1 hS=>by have g0:=F0.out w1 hS;have g1:=F1.out w1 hS;clear hS;go_simp;try rfl) ?_;simp only[Act.put,tA0,tA1,tA2])
  obtain⟨We,hWe⟩:=eqx w1.drew;have be':Below w1.heap.size w1 We:=by rw[hWe];exact(tA5 _ _).drew
  rw[←hWe];have BE:=zh1 be';clear hWe be';refine qbj rfl rfl ?_;go_simp;refine(I2.out We ((B0.out.trans (B1.out.mono B0.out.size)).trans (BE.out.mono (Nat.le_trans B0.out.size B1.out.size)))).mono ?_;rintro e w2 ⟨rfl,b2⟩;have B2:=zh1 (BE.out.trans (b2.mono BE.out.size));clear b2;refine⟨(A0.out _).mpr B2.out,?_⟩;try simp only[Act.put,tA0,tA1,tA2]
  iterate 1 (refine zrd rfl rfl (fun w1 hS=>by go_simp;(try go_bits);try rfl) ?_;simp only[Act.put,tA0,tA1,tA2])
  refine qbg ?_;clear A0 F0 F1;obtain⟨Z2,BS,AR⟩:=zh3 (Z1.out.below B2.out Z1.out.lt) (BR.out.call B2.out) (B1.out.trans (B2.out.mono B1.out.size));have c5:=qai C5.out AR.out;have c6:=qai C6.out AR.out;obtain⟨CA,CB⟩:=zh2 c5 c6;cases hf2:qm3 t.queue R.leaf with
  |some k0=>
   have hk0:k0<nq:=by
    unfold qm3 at hf2;obtain⟨h,_⟩:=List.findIdx?_eq_some_iff_getElem.1 hf2;have:=A8.out;omega
   have hdo:qm4 c s R t=(s,qlz (nl+k0)):=by unfold qm4;rw[if_neg (by rw[AB.out,AI.out];have:=AH.out;omega),AN.out,hf2,AD.out]
   have hb1:=AQ.out;have q1:(0:Int)≤k0:=by omega
   have q2:wrap64 ((nl:Int)+k0)=((nl+k0:Nat):Int):=by rw[IntWalk.wrap64_in _ (by omega)];omega
   have A3:=zh1 hdo;rw[show idxI (some k0)=(k0:Int) from rfl];clear hf2 hdo;go_wp2_with fail
   clear c5 c6;rw[show ((nl:Int)+k0)=((nl+k0:Nat):Int) by omega];refine(qpi (nl+k0) w2 (by omega)).mono ?_;rintro e w9 ⟨rfl,b9⟩;obtain⟨X,hX,pk⟩:=qpn (qlz (nl+k0)) Hd.zero_Ok (by simp[qlz,rWhy,qih,qft]);rw[hX];obtain⟨Z9,HX,DD⟩:=zh3 ((Z2.out).below b9 (Z2.out).lt) hX ((BS.out).call b9);clear hX b9;go_wp2_with (refine qpo (.tmp 6) (.tmp 51) (w.heap.size+1) X Z9.out pk ?_)
   exact qpp (Z9.out.setRow X.toArray) pk ⟨_,col,rfl,(by rw[A3.out,←HX.out];exact RspV.plain _ _ _ _ rfl rfl rfl),(by (try rw[A3.out]);exact DD.out.row0 HK.out X.toArray (A4.out) (by omega))⟩
  |none=>
   rw[show idxI none= -1 from rfl];have AS:=zh1 hf2;clear hf2 c5 c6;go_upto_region 9 with(fail)
   have hb1:=AQ.out;have q1:wrap64 ((nl:Int)+nq)=((nl+nq:Nat):Int):=by rw[IntWalk.wrap64_in _ (by omega)];omega
   have q2:IntKind.i64.wrap ((nl:Int)+nq)=((nl+nq:Nat):Int):=by rw[IntWalk.i64_in _ (by omega)];omega
   obtain⟨S,A0⟩:∃S:World→Prop,Hid (∀w',S w'=(Below w2.heap.size w2 w')):=⟨_,fun _=>rfl⟩;refine zrs S 12 [(0,false),(1,false),(2,false),(3,false),(4,false),(5,false),(6,false),(7,false),(8,false),(9,false),(10,false),(11,false)] ((A0.out _).mpr ((tA5 _ _).drew)) ?_;obtain⟨F0,F1⟩:=zh2 (fun(w':World)(h:S w')=>qai CA.out ((A0.out w').mp h)) (fun(w':World)(h:S w')=>qai CB.out ((A0.out w').mp h));iterate 12 (refine zrd rfl rfl (fun w1 hS=>by have g0:=F0.out w1 hS;have g1:=F1.out w1 hS;clear hS;go_simp;try rfl) ?_;simp only[Act.put,tA0,tA1,tA2])
   refine qbg ?_;clear A0 F0 F1 q1 q2;obtain⟨W3,hW3⟩:=eqx w2.drew;have B3:=zh1 (show Below w2.heap.size w2 W3 by rw[hW3];exact(tA5 _ _).drew);rw[←hW3];clear hW3;obtain⟨Z3,AX,AJ⟩:=zh3 (Z2.out.below B3.out Z2.out.lt) (BS.out.call B3.out) (AR.out.trans (B3.out.mono AR.out.size));have c6:=qai C6.out AJ.out;by_cases hbig:64≤nq∨1024≤nl+nq
   ·
    have hdo:qm4 c s R t=(s,rWhy 4):=by
     unfold qm4;rw[if_neg (by rw[AB.out,AI.out];have:=AH.out;omega),AN.out];simp only[];rw[AS.out];simp only[];rw[if_pos (by rw[AD.out,A8.out];exact hbig)]
    have A3:=zh1 hdo;clear hdo;by_cases h64:64≤nq
    ·
     have p1:(64:Int)≤nq:=by omega
     clear hbig h64;go_wp2_with fail
     clear c6;refine(qpj 4 W3).mono ?_;rintro e w9 ⟨rfl,b9⟩;obtain⟨X,hX,pk⟩:=qpn (rWhy 4) Hd.zero_Ok (by simp[qlz,rWhy,qih,qft]);rw[hX];obtain⟨Z9,HX,DD⟩:=zh3 ((Z3.out).below b9 (Z3.out).lt) hX ((AX.out).call b9);clear hX b9;go_wp2_with (refine qpo (.tmp 6) (.tmp 73) (w.heap.size+1) X Z9.out pk ?_)
     exact qpp (Z9.out.setRow X.toArray) pk ⟨_,col,rfl,(by rw[A3.out,←HX.out];exact RspV.plain _ _ _ _ rfl rfl rfl),(by (try rw[A3.out]);exact DD.out.row0 HK.out X.toArray (A4.out) (by omega))⟩
    have p1:¬(64:Int)≤nq:=by omega
    have p2:(1024:Int)≤((nl+nq:Nat):Int):=by omega
    have p3:(1024:Int)≤(nl:Int)+nq:=by omega
    clear hbig h64;go_wp2_with fail
    clear c6;refine(qpj 4 W3).mono ?_;rintro e w9 ⟨rfl,b9⟩;obtain⟨X,hX,pk⟩:=qpn (rWhy 4) Hd.zero_Ok (by simp[qlz,rWhy,qih,qft]);rw[hX];obtain⟨Z9,HX,DD⟩:=zh3 ((Z3.out).below b9 (Z3.out).lt) hX ((AX.out).call b9);clear hX b9;go_wp2_with (refine qpo (.tmp 6) (.tmp 73) (w.heap.size+1) X Z9.out pk ?_)
    exact qpp (Z9.out.setRow X.toArray) pk ⟨_,col,rfl,(by rw[A3.out,←HX.out];exact RspV.plain _ _ _ _ rfl rfl rfl),(by (try rw[A3.out]);exact DD.out.row0 HK.out X.toArray (A4.out) (by omega))⟩
   have p1:¬(64:Int)≤nq:=by omega
   have p2:¬(1024:Int)≤((nl+nq:Nat):Int):=by omega
   have p3:¬(1024:Int)≤(nl:Int)+nq:=by omega
   have AY:=zh1 hbig;clear hbig;have k47:=qai AM.out AJ.out;have hll:=BN.out;rw[AE.out]at hll;have q1:IntKind.u64.wrap (nf:Int)=(nf:Int):=IntWalk.u64_in _ (by omega);have q2:IntKind.u64.wrap ((nf:Int)+16)=(nf:Int)+16:=IntWalk.u64_in _ (by omega);go_upto_region 13 with(fail)
   clear c6 k47 q1 q2 p1 p2 p3;obtain⟨m,hm⟩:∃m:Nat,t.tenant=m:=⟨t.tenant.toNat,by have:=AL.out.tenant;omega⟩;have hm16:m<16:=by have:=AL.out.tenant;omega
   obtain⟨x,hx⟩:∃x,s.tens[m]? =some x:=⟨_,tA7 (by rw[HS.out.tensn];exact hm16)⟩;have hxo:=HS.out.ten hx;have c1:=C1.out;rw[hm]at c1;have e7:=H.out.c7;obtain⟨C7,C1m⟩:=zh2 e7 c1;have tcell:∀j u,j<6→(tenv x)[j]? =some u→w.cell? ⟨L.tg,m*6+j,none⟩=some u:=fun j u hj hu=>H.out.st.tens.cell ((qmy hx hj).trans hu)
   obtain⟨T2,T5,HM,HX,BT⟩:=zh5 (tcell 4 (.int .u32 (x.store:Int)) (by omega) rfl) (tcell 5 (.int .u32 (x.used:Int)) (by omega) rfl) hm hx hxo;have hten:s.tenant t.tenant=some x:=by unfold Sta.tenant;rw[hm,if_pos (by omega),Int.toNat_natCast];exact hx
   have AF:=zh1 hten;have qm1:(m:Int)<16:=by omega
   have qm0:(0:Int)≤m:=by omega
   clear hm hx hxo c1 e7 tcell hten;obtain⟨S,A0⟩:∃S:World→Prop,Hid (∀w',S w'=(Below W3.heap.size W3 w')):=⟨_,fun _=>rfl⟩;refine zrs S 11 [(0,false),(1,false),(2,false),(3,false),(4,false),(5,false),(6,false),(7,false),(8,false),(9,false),(10,false)] ((A0.out _).mpr ((tA5 _ _).drew)) ?_;obtain⟨F0,F1⟩:=zh2 (fun(w':World)(h:S w')=>qai (qai (qai C7.out B0.out) AJ.out) ((A0.out w').mp h)) (fun(w':World)(h:S w')=>qai (qai C1m.out AJ.out) ((A0.out w').mp h));iterate 11 (refine zrd rfl rfl (fun w1 hS=>by have g0:=F0.out w1 hS;have g1:=F1.out w1 hS;clear hS;go_simp;try rfl) ?_;simp only[Act.put,tA0,tA1,tA2])
   refine qbg ?_;clear A0 F0 F1 qm0 qm1;obtain⟨W4,hW4⟩:=eqx W3.drew;have B4:=zh1 (show Below W3.heap.size W3 W4 by rw[hW4];exact(tA5 _ _).drew);rw[←hW4];clear hW4;obtain⟨Z4,BU,AZ⟩:=zh3 (Z3.out.below B4.out Z3.out.lt) (AX.out.call B4.out) (AJ.out.trans (B4.out.mono AJ.out.size));have A7:=zh1 (B0.out.trans (AZ.out.mono B0.out.size));go_upto_region 14 with(fail)
   obtain⟨us,hus⟩:=xeq x.used;obtain⟨st,hstt⟩:=xeq x.store;have hub:=BT.out.used;have hsb:=BT.out.store;rw[hus]at T5 hub;rw[hstt]at T2 hsb;obtain⟨B6,AO,CI,CC,B7⟩:=zh5 hus hstt hub hsb (qpw HS.out.tres 16);have u1:IntKind.u64.wrap (us:Int)=(us:Int):=IntWalk.u64_in _ (by omega);have u2:IntKind.u64.wrap (st:Int)=(st:Int):=IntWalk.u64_in _ (by omega);have u3:IntKind.u64.wrap ((us:Int)+((nf:Int)+16))=(us:Int)+((nf:Int)+16):=IntWalk.u64_in _ (by omega);clear hus hstt;by_cases hful:st<us+(nf+16)
   ·
    have p1:(st:Int)<(us:Int)+((nf:Int)+16):=by omega
    have hdo:qm4 c s R t=(s,rWhy 26):=by
     unfold qm4;rw[if_neg (by rw[AB.out,AI.out];have:=AH.out;omega),AN.out];simp only[];rw[AS.out];simp only[];rw[if_neg (by rw[AD.out,A8.out];exact AY.out),AF.out];simp only[];rw[if_pos (.inl (by rw[B6.out,AO.out,AE.out];exact hful))]
    have A3:=zh1 hdo;clear hdo hful;obtain⟨S,A0⟩:∃S:World→Prop,Hid (∀w',S w'=(Below W4.heap.size W4 w')):=⟨_,fun _=>rfl⟩;refine zrs S 29 [(0,false),(1,false),(2,false),(3,false),(4,false),(5,false),(6,false),(7,false),(8,false),(9,false),(10,false),(11,false),(12,false),(13,false),(14,false),(15,false),(16,false),(17,false),(19,false),(21,false),(22,false),(23,false),(24,false),(25,false),(26,false),(18,true),(20,false),(27,false),(28,false)] ((A0.out _).mpr ((tA5 _ _).drew)) ?_;obtain⟨F0,F1⟩:=zh2 (fun(w':World)(h:S w')=>qai (qai T5.out A7.out) ((A0.out w').mp h)) (fun(w':World)(h:S w')=>qai (qai T2.out A7.out) ((A0.out w').mp h));iterate 14 (refine zrd rfl rfl (fun w1 hS=>by have g0:=F0.out w1 hS;have g1:=F1.out w1 hS;clear hS;go_simp;try rfl) ?_;simp only[Act.put,tA0,tA1,tA2])
    iterate 11 (refine qbi rfl rfl ?_;try simp only[Act.put,tA0,tA1,tA2])
    refine qq6 rfl rfl ⟨(A0.out _).mpr (tA5 _ _).drew,?_⟩;try simp only[Act.put,tA0,tA1,tA2]
    iterate 2 (refine qbi rfl rfl ?_;try simp only[Act.put,tA0,tA1,tA2])
    iterate 1 (refine zrd rfl rfl (fun w1 hS=>by go_simp;(try go_bits);try rfl) ?_;simp only[Act.put,tA0,tA1,tA2])
    refine qbg ?_;clear A0 F0 F1;obtain⟨W5,hW5⟩:=eqx W4.drew;have B5:=zh1 (show Below W4.heap.size W4 W5 by rw[hW5];exact(tA5 _ _).drew);rw[←hW5];clear hW5;obtain⟨Z5,B8⟩:=zh2 (Z4.out.below B5.out Z4.out.lt) (BU.out.call B5.out);clear p1 u1 u2 u3;go_wp2_with fail
    refine(qpj 26 W5).mono ?_;rintro e w9 ⟨rfl,b9⟩;obtain⟨X,hX,pk⟩:=qpn (rWhy 26) Hd.zero_Ok (by simp[qlz,rWhy,qih,qft]);rw[hX];obtain⟨Z9,HX,DD⟩:=zh3 ((Z5.out).below b9 (Z5.out).lt) hX ((B8.out).call b9);clear hX b9;go_wp2_with (refine qpo (.tmp 6) (.tmp 118) (w.heap.size+1) X Z9.out pk ?_)
    exact qpp (Z9.out.setRow X.toArray) pk ⟨_,col,rfl,(by rw[A3.out,←HX.out];exact RspV.plain _ _ _ _ rfl rfl rfl),(by (try rw[A3.out]);exact DD.out.row0 HK.out X.toArray (A4.out) (by omega))⟩
   have p1:¬(st:Int)<(us:Int)+((nf:Int)+16):=by omega
   have AP:=zh1 hful;clear hful;obtain⟨S,A0⟩:∃S:World→Prop,Hid (∀w',S w'=(Below W4.heap.size W4 w')):=⟨_,fun _=>rfl⟩;refine zrs S 29 [(0,false),(1,false),(2,false),(3,false),(4,false),(5,false),(6,false),(7,false),(8,false),(9,false),(10,false),(11,false),(12,false),(13,false),(14,false),(15,false),(16,false),(17,false),(19,false),(21,false),(22,false),(23,false),(24,false),(25,false),(26,false),(18,true),(20,false),(27,false),(28,false)] ((A0.out _).mpr ((tA5 _ _).drew)) ?_;obtain⟨F0,F1,F2⟩:=zh3 (fun(w':World)(h:S w')=>qai (qai T5.out A7.out) ((A0.out w').mp h)) (fun(w':World)(h:S w')=>qai (qai T2.out A7.out) ((A0.out w').mp h)) (fun(w':World)(h:S w')=>qai (qai H.out.c2 A7.out) ((A0.out w').mp h));have cst:=HC.out.store;have u4:IntKind.u64.wrap (c.store:Int)=(c.store:Int):=IntWalk.u64_in _ (by omega);iterate 17 (refine zrd rfl rfl (fun w1 hS=>by have g0:=F0.out w1 hS;have g1:=F1.out w1 hS;have g2:=F2.out w1 hS;clear hS;go_simp;try rfl) ?_;simp only[Act.put,tA0,tA1,tA2])
   obtain⟨FS,SI⟩:=zh2 (fun(w':World)(h:S w')=>(H.out.call (A7.out.trans (((A0.out w').mp h).mono A7.out.size))).stRange) (show (Tryz.prog.info? 49).map (·.size)=some 6 by kernel_rfl);refine qnf rfl rfl 49 (.tmp 105) rfl g 4 rfl _ _ FS.out Tryz.underlying49 rfl SI.out ?_;try simp only[Act.put,tA0,tA1,tA2]
   iterate 7 (refine zrd rfl rfl (fun w1 hS=>by have g0:=F0.out w1 hS;have g1:=F1.out w1 hS;have g2:=F2.out w1 hS;clear hS;go_simp;try rfl) ?_;simp only[Act.put,tA0,tA1,tA2])
   obtain⟨Wf,hWf⟩:=eqx W4.drew;have BF:=zh1 (show Below W4.heap.size W4 Wf by rw[hWf];exact(tA5 _ _).drew);rw[←hWf];clear hWf;refine qbj rfl rfl ?_;go_simp;have HF:=H.out.call (A7.out.trans (BF.out.mono A7.out.size));refine(qpy s L col k css Wf HS.out HF.st).mono ?_;clear HF;rintro e W5 ⟨rfl,b5⟩;have B5:=zh1 (BF.out.trans (b5.mono BF.out.size));clear b5;refine⟨(A0.out _).mpr B5.out,?_⟩;try simp only[Act.put,tA0,tA1,tA2]
   obtain⟨sd,hsd⟩:=xeq (stored s);have hsdb:=B7.out;rw[qpx s HS.out,hsd]at hsdb;rw[hsd];have u5:IntKind.u64.wrap ((sd:Int)+((nf:Int)+16))=(sd:Int)+((nf:Int)+16):=IntWalk.u64_in _ (by omega);have BV:=zh1 hsd;clear hsd;iterate 3 (refine zrd rfl rfl (fun w1 hS=>by go_simp;(try go_bits);try rfl) ?_;simp only[Act.put,tA0,tA1,tA2])
   refine qbg ?_;clear A0 F0 F1 F2 FS;obtain⟨Z5,B8,AT⟩:=zh3 (Z4.out.below B5.out Z4.out.lt) (BU.out.call B5.out) (A7.out.trans (B5.out.mono A7.out.size));by_cases hful:c.store<sd+(nf+16)
   ·
    have p2:(c.store:Int)<(sd:Int)+((nf:Int)+16):=by omega
    have hdo:qm4 c s R t=(s,rWhy 26):=by
     unfold qm4;rw[if_neg (by rw[AB.out,AI.out];have:=AH.out;omega),AN.out];simp only[];rw[AS.out];simp only[];rw[if_neg (by rw[AD.out,A8.out];exact AY.out),AF.out];simp only[];rw[if_pos (.inr (by rw[BV.out,AE.out];exact hful))]
    have A3:=zh1 hdo;clear hdo hful p1 u1 u2 u3 u4 u5;go_wp2_with fail
    refine(qpj 26 W5).mono ?_;rintro e w9 ⟨rfl,b9⟩;obtain⟨X,hX,pk⟩:=qpn (rWhy 26) Hd.zero_Ok (by simp[qlz,rWhy,qih,qft]);rw[hX];obtain⟨Z9,HX,DD⟩:=zh3 ((Z5.out).below b9 (Z5.out).lt) hX ((B8.out).call b9);clear hX b9;go_wp2_with (refine qpo (.tmp 6) (.tmp 118) (w.heap.size+1) X Z9.out pk ?_)
    exact qpp (Z9.out.setRow X.toArray) pk ⟨_,col,rfl,(by rw[A3.out,←HX.out];exact RspV.plain _ _ _ _ rfl rfl rfl),(by (try rw[A3.out]);exact DD.out.row0 HK.out X.toArray (A4.out) (by omega))⟩
   have p2:¬(c.store:Int)<(sd:Int)+((nf:Int)+16):=by omega
   have B9:=zh1 hful;clear hful u1 u2 u3 u4 u5;have hfit:us+(nf+16)<4294967296:=by have:=AP.out;have:=CC.out;omega
   have H5:=H.out.call AT.out;have v1:IntKind.u32.wrap ((nf:Int)+16)=(nf:Int)+16:=IntWalk.u32_in _ (by omega);have v2:IntKind.u32.wrap ((us:Int)+((nf:Int)+16))=((us+(nf+16):Nat):Int):=by rw[IntWalk.u32_in _ (by omega)];omega
   have t5:=qai T5.out AT.out;have f5:=H5.st.tens.frozen (m*6+5);have M6:=H5.tenOver HK.out HS.out HX.out (j:=5) (cs:=[.int .u32 ((us+(nf+16):Nat):Int)]) (fun x=>{x with used:=us+(nf+16)}) (by simp) (by simp[over,tenv]);rw[show (W5.setCells L.tg (m*6+5) [.int .u32 ((us+(nf+16):Nat):Int)])=W5.setCell ⟨L.tg,m*6+5,none⟩ (.int .u32 ((us+(nf+16):Nat):Int)) from rfl]at M6;have T6:Turns (inP k) w col (W5.setCell ⟨L.tg,m*6+5,none⟩ (.int .u32 ((us+(nf+16):Nat):Int))) col:=(Turns.of_below _ AT.out).trans (Turns.setCell _ (by rw[H5.st.tens.1];unfold inP;simp));have ecast:((us+(nf+16):Nat):Int)=(us:Int)+((nf:Int)+16):=by simp
   rw[ecast]at M6 T6;obtain⟨BW,BX,CD⟩:=zh3 M6 T6 (show L.tg≠w.heap.size+1∧L.tg≠w.heap.size by have:=H.out.st.tens.lt;omega);clear M6 T6 H5;go_upto_region 17 with(fail)
   clear v1 v2 t5 f5 p1 p2 ecast;obtain⟨W6,hW6⟩:=eqx (W5.setCell ⟨L.tg,m*6+5,none⟩ (.int .u32 ((us:Int)+((nf:Int)+16))));have hSet:Turns (· ==k) W5 col W6 col:=by rw[hW6];exact Turns.setCell _ (by rw[H.out.st.tens.1];simp)
   have hsz6:W6.heap.size=W5.heap.size:=by rw[hW6];simp
   have z6:Blk W6 (w.heap.size+1) 57 Tryz.zeroCells57:=by rw[hW6];exact Z5.out.far (Ne.symm CD.out.1) _
   rw[←hW6]at BW BX;try rw[←hW6]
   have colR:col L.rg=k+1:=H.out.st.tres.1;have colW:col w.heap.size=0:=by
    by_cases e:col w.heap.size=0
    · exact e
    have:=H.out.fin _ e;omega
   have BC:=AZ.out.trans (B5.out.mono AZ.out.size);have c6:=qne (qai C6.out BC) hSet (by rw[colR];simp);have k47:=qne (qai AM.out BC) hSet (by rw[colW];rcases HK.out with rfl|rfl<;>rfl);obtain⟨AU,AC,Z6,BG,CR,CW⟩:=zh6 c6 k47 z6 hsz6 colR colW;clear hW6 hSet z6 c6 k47 BC hsz6 colR colW;obtain⟨S,A0⟩:∃S:World→Prop,Hid (∀w',S w'=(w'.cell? ⟨L.rg,n*75+6,none⟩=some (.slice Aq nq cq)∧w'.cell? ⟨w.heap.size,47,none⟩=some (.slice Al nf cl))):=⟨_,fun _=>rfl⟩;refine zrs S 12 [(0,false),(1,false),(2,false),(3,false),(4,false),(5,false),(6,false),(7,true),(8,true),(9,true),(10,false),(11,false),(12,true)] ((A0.out _).mpr (⟨AU.out,AC.out⟩)) ?_;obtain⟨F0,F1⟩:=zh2 (fun(w':World)(h:S w')=>((A0.out w').mp h).1) (fun(w':World)(h:S w')=>((A0.out w').mp h).2);iterate 7 (refine zrd rfl rfl (fun w1 hS=>by have g0:=F0.out w1 hS;have g1:=F1.out w1 hS;clear hS;go_simp;try rfl) ?_;simp only[Act.put,tA0,tA1,tA2])
   obtain⟨Wd6,hWd6⟩:=eqx W6.drew;have A6:=zh1 (show Below W6.heap.size W6 Wd6 by rw[hWd6];exact(tA5 _ _).drew);rw[←hWd6];clear hWd6;have ML:=zh1 (BW.out.call A6.out);have BH:=BX.out.trans (Turns.of_below (inP k) A6.out);have rlf:Reads Wd6 Wd6.heap.size 1 Al nf (byv R.leaf):=qq8 AW.out (fun h=>HR.out.leaf0 (by rw[AE.out];exact h)) BH (qq7 HK.out);have BI:=zh1 BH;have CL:=qqe Al nf cl (byv R.leaf) Wd6 rlf (by omega) (qau _);have CE:=zh1 CL;clear CL rlf BH;refine qbj rfl rfl ?_;go_simp;refine CE.out.mono ?_;rintro e wA ⟨vA,rfl,oA,bA⟩;have oA':OwnB wA Wd6.heap.size vA R.leaf:=by unfold OwnB;rw[AE.out];exact oA
   obtain⟨AA,nA,cA,rfl,-,-,-⟩:=oA'.sl;obtain⟨col1,hc1,tx1,fin1⟩:=qqd (w:=Wd6) (col:=col) oA' (tA4 _) bA.size ML.out.fin;have T1:Turns (fun _=>false) Wd6 col wA col1:=(Turns.of_below _ bA).recolour hc1;obtain⟨CF,CG,BJ,BA⟩:=zh4 tx1 fin1 T1 bA;clear tx1 fin1 T1 bA oA oA' hc1;refine⟨(A0.out _).mpr ⟨qne (qai AU.out A6.out) BJ.out rfl,qne (qai AC.out A6.out) BJ.out rfl⟩,?_⟩;try simp only[Act.put,tA0,tA1,tA2]
   refine qbj rfl rfl ?_;go_simp;obtain⟨wB,hwB⟩:=eqx (wA.alloc (.cells #[.slice AA nA cA] 23));rw[←hwB];have bB:Below wA.heap.size wA wB:=by rw[hwB];exact qah (tA5 _ _) _
   have blB:Blk wB wA.heap.size 23 #[.slice AA nA cA]:=by rw[hwB];exact Blk.new wA _ _
   have TB:=BJ.out.trans (Turns.of_below (fun _=>false) bB);obtain⟨BB,BY,A5⟩:=zh3 bB blB TB;clear hwB bB blB TB;refine⟨(A0.out _).mpr ⟨qne (qai AU.out A6.out) A5.out rfl,qne (qai AC.out A6.out) A5.out rfl⟩,?_⟩;try simp only[Act.put,tA0,tA1,tA2]
   have MB:=ML.out.keep A5.out rfl rfl rfl rfl rfl (fun _ _=>rfl) (CG.out.mono BB.out.size);have AG:css[n]? =some (trev t (.slice Ad t.draws.length cd) (.slice Al' nl cl') (.slice Aq nq cq)):=by rw[C4.out,AD.out,A8.out]
   obtain⟨vs,hrow,htx⟩:=(MB.rows HT.out AG).2.2;rw[A8.out]at hrow;have hvl:vs.length=t.queue.length:=by have:=hrow.1;have:=A8.out;omega
   obtain⟨i0,hi0,hz0,hz1,hz2⟩:=info_parts Tryz.madd_info;have hr1:Reads wB wB.heap.size 1 (some ⟨wA.heap.size,0,none⟩) 1 [.slice AA nA cA]:=⟨rfl,fun _=>⟨_,rfl,BY.out.lt,fun j u hu=>by rw[Addr.add_mid,BY.out.cell (0+j)];simpa using hu⟩⟩;have BZ:=CF.out.keep ((Turns.of_below (col:=col1) (fun _=>false) BB.out).keeps rfl);have colR1:col1 L.rg=k+1:=(A5.out.same L.rg ML.out.st.tres.lt).trans CR.out;have hws:w.heap.size<Wd6.heap.size:=by have:=AT.out.size;have:=BG.out;have:=A6.out.size;have:=Z0.out.lt;have:=Z6.out.lt;omega
   have colW1:col1 w.heap.size=0:=(A5.out.same w.heap.size hws).trans CW.out;have hn16:n<16:=by have h1:=HT.out;obtain⟨h2,_⟩:=List.getElem?_eq_some_iff.1 h1;rw[HS.out.tresn]at h2;exact h2
   have hx:∀x,s.tens[m]? =some x→x.Ok→({x with used:=us+(nf+16)}:Ten).Ok:=fun x _ h=>⟨h.rate,h.burst,h.tok,h.store,hfit⟩
   have sok:=HS.out.setX hx;refine qbj rfl rfl ?_;refine qmp wB (.tmp 132) (.tmp 136) _ _ rfl col1 (12+3*n) 23 i0 _ 1 24 Tryz.underlying72 hi0 hz0 hz1 hz2 rfl (.slice Aq nq cq) nq vs rfl hrow (.slice (some ⟨wA.heap.size,0,none⟩) 1 1) 1 [.slice AA nA cA] rfl (Src.reads wB Tryz.underlying72 hr1 (by simp[Value.oneCell']) (by decide)) (by simp only[maxLen];omega) (by omega) ?_;intro v' wC col2 ap;obtain⟨A9,c9,rfl,-,-,-,-⟩:=ap.row.sl;have ap2:AppendedC wB col1 wC col2 (12+3*n) (.slice Aq nq cq) (.slice A9 (nq+1) c9) 23 1 t.queue.length 1 vs [.slice AA nA cA]:=by rw[A8.out];exact ap
   obtain⟨N1,N2,N3⟩:=MB.queueAdd HK.out sok (t:=t) (bs:=R.leaf) HT.out AG hvl htx BZ ap2;have hcC:=qne (qne (qai AU.out A6.out) A5.out rfl) ap.turns (by rw[colR1];have:=HK.out;rcases this with rfl|rfl<;>simp<;>omega);have hkC:=qne (qne (qai AC.out A6.out) A5.out rfl) ap.turns (by rw[colW1];simp;omega);have hfC:=(MB.st.tres.keep (ap.turns.keeps (k:=k+1) (by have:=HK.out;rcases this with rfl|rfl<;>simp<;>omega))).frozen (n*75+6);have sC:w.heap.size+1<wC.heap.size:=by have:=ap.turns.size;have:=A5.out.size;have:=A6.out.size;have:=Z6.out.lt;omega
   have zC:Blk wC (w.heap.size+1) 57 Tryz.zeroCells57:=by
    have z7:=Z6.out.below A6.out Z6.out.lt;have c1:col1 (w.heap.size+1)=0:=(A5.out.same _ z7.lt).trans A4.out;have z8:Blk wB (w.heap.size+1) 57 Tryz.zeroCells57:=(A5.out.block _ z7.lt rfl).trans z7;exact(ap.turns.block _ z8.lt (by rw[c1];simp;omega)).trans z8
   have g2:col2 (w.heap.size+1)=0:=by
    have z7:=Z6.out.below A6.out Z6.out.lt;exact(ap.turns.same _ (Nat.lt_of_lt_of_le z7.lt A5.out.size)).trans ((A5.out.same _ z7.lt).trans A4.out)
   have T9:=(BI.out.trans (A5.out.mono fun i h=>by cases h)).trans N3;have hdo:qm4 c s R t=((s.setX m fun x=>{x with used:=us+(nf+16)}).setT n fun t=>{t with queue:=t.queue++[R.leaf]},qlz (nl+nq)):=by
    unfold qm4;rw[if_neg (by rw[AB.out,AI.out];have:=AH.out;omega),AN.out];simp only[];rw[AS.out];simp only[];rw[if_neg (by rw[AD.out,A8.out];exact AY.out),AF.out];simp only[];rw[if_neg (by rw[B6.out,AO.out,BV.out,AE.out];have:=AP.out;have:=B9.out;omega),HM.out,AB.out,Int.toNat_natCast,Int.toNat_natCast,AD.out,A8.out];congr 2
    unfold Sta.setX;congr 1
    refine qqa fun y hy=>?_
    rw[HX.out]at hy;injection hy with hy;subst hy;rw[B6.out,AE.out,Nat.mod_eq_of_lt hfit]
   have BK:Did w col (wC.setCell ⟨L.rg,n*75+6,none⟩ (.slice A9 (nq+1) c9)) col2 k g c css s (qm4 c s R t).1:=by
    rw[hdo];exact⟨⟨L,_,N1⟩,N2,T9⟩
   rw[hdo]at BK;obtain⟨A3,C2⟩:=zh2 hdo BK;have zD:Blk (wC.setCell ⟨L.rg,n*75+6,none⟩ (.slice A9 (nq+1) c9)) (w.heap.size+1) 57 Tryz.zeroCells57:=zC.far (by intro e;have e':w.heap.size+1=L.rg:=e;rw[←e']at colR1;have:=(A5.out.same _ (Z6.out.below A6.out Z6.out.lt).lt).trans A4.out;omega) _;obtain⟨BL,C3⟩:=zh2 zD g2;have hb1:=AQ.out;clear hdo BK T9 N1 N2 N3 zD zC g2 ap ap2 hi0 hz0 hz1 hz2 hr1 hrow hvl htx BZ MB AG hx sok colR1 colW1 hws sC hfit AB BN;refine⟨fun _=>(A0.out _).mpr ⟨hcC,hkC⟩,?_⟩;try simp only[Act.put,tA0,tA1,tA2]
   have F0:=zh1 (fun(w':World)(h:S w')=>((A0.out w').mp h).1);iterate 2 (refine zrd rfl rfl (fun w1 hS=>by have g0:=F0.out w1 hS;clear hS;go_simp;try rfl) ?_;simp only[Act.put,tA0,tA1,tA2])
   clear hkC;refine qbj rfl rfl ?_;go_simp;refine qbg ?_;clear A0 F0 hcC hfC;obtain⟨W9,hW9⟩:=eqx (wC.setCell ⟨L.rg,n*75+6,none⟩ (.slice A9 (nq+1) c9));rw[←hW9]at C2 BL ⊢;clear hW9;go_wp2_with fail
   rw[show ((nl:Int)+nq)=((nl+nq:Nat):Int) by omega];refine(qpi (nl+nq) W9 (by omega)).mono ?_;rintro e w9 ⟨rfl,b9⟩;obtain⟨X,hX,pk⟩:=qpn (qlz (nl+nq)) Hd.zero_Ok (by simp[qlz,rWhy,qih,qft]);rw[hX];obtain⟨Z9,HX,DD⟩:=zh3 ((BL.out).below b9 (BL.out).lt) hX ((C2.out).call b9);clear hX b9;go_wp2_with (refine qpo (.tmp 6) (.tmp 141) (w.heap.size+1) X Z9.out pk ?_)
   exact qpp (Z9.out.setRow X.toArray) pk ⟨_,col2,rfl,(by rw[A3.out,←HX.out];exact RspV.plain _ _ _ _ rfl rfl rfl),(by (try rw[A3.out]);exact DD.out.row0 HK.out X.toArray (C3.out) (by omega))⟩
end
section
open Go.RowKit
theorem Did.cell {w W:World}{col:Col}{k g:Nat}{c:Cfg}{s s':Sta}{L:Loc}{css css':List (List Value)}(h:Mdl w col k g c s L css)(hb:Below w.heap.size w W){b o:Nat}{v:Value}(hc:inP k (col b)=true)(hn:col b<10∧col b≠5)
 (hm:Mdl (W.setCell ⟨b,o,none⟩ v) col k g c s' L css'):Did w col (W.setCell ⟨b,o,none⟩ v) col k g c css s s':=by
 have hT:Turns (· ==col b) W col (W.setCell ⟨b,o,none⟩ v) col:=Turns.setCell v (by simp);have hT2:Turns (inP k) W col (W.setCell ⟨b,o,none⟩ v) col:=hT.mono fun i hi=>(show i=col b by simpa using hi)▸hc
 exact⟨⟨L,css',hm⟩,(h.call hb).st.trs.keep fun i hi=>hT.keeps (by simp;omega),(Turns.of_below _ hb).trans hT2⟩
theorem qqm (c:Cfg)(s:Sta)(L:Loc)(col:Col)(k g:Nat)(css:List (List Value))(R:Req)(Ac:Option Addr)(cc:Nat)(Al:Option Addr)(cl:Nat)(w:World)(hk:Kind k)(hs:s.Ok)(h:Mdl w col k g c s L css)
 (hr:Asked w col R Ac cc Al cl):
 Calls Tryz.prog 139 #[.pointer (some ⟨g,0,none⟩),.agg (reqv R (.slice Ac R.cavs.length cc) (.slice Al R.leaf.length cl)).toArray] w fun e w'=>∃v col',e=.returned v∧RspV w' col' w.heap.size v (qmb s R).2∧Did w col w' col' k g c css s (qmb s R).1:=by
 have rlen:=qis R (.slice Ac R.cavs.length cc) (.slice Al R.leaf.length cl) hr.good.tag;have rest:=qgu R (.slice Ac R.cavs.length cc) (.slice Al R.leaf.length cl) hr.good.tag;obtain⟨Q,hQ⟩:=xeq (reqv R (.slice Ac R.cavs.length cc) (.slice Al R.leaf.length cl));rw[hQ]at rlen rest ⊢;obtain⟨W0,hW0⟩:=eqx ((w.alloc (.cells Q.toArray 34)).alloc (.cells Tryz.zeroCells57 57));have q0:Blk W0 w.heap.size 34 Q.toArray:=by rw[hW0];exact(Blk.new w _ _).alloc _
 have z0:Blk W0 (w.heap.size+1) 57 Tryz.zeroCells57:=by
  have h:=Blk.new (w.alloc (.cells Q.toArray 34)) 57 Tryz.zeroCells57;rw[qar]at h;rw[hW0];exact h
 have b0:Below w.heap.size w W0:=by rw[hW0];exact qah (qah (tA5 _ _) _) _
 have hG0:col (w.heap.size+1)=0:=by
  by_cases e:col (w.heap.size+1)=0
  · exact e
  have:=h.fin _ e;omega
 have D0:=Did.same (css:=css) h b0;obtain⟨H,AD,Q0,Z0,B0,A2,AE,HK⟩:=zh8 h hW0 q0 z0 b0 hG0 D0 hk;obtain⟨HS,HR,RL,A5,HQ⟩:=zh5 hs hr rlen rest hQ;clear h hW0 q0 z0 b0 hG0 D0 hk hs hr rlen rest hQ;obtain⟨i,hi⟩:=xeq R.id;have k40:=(Q0.out.cell 40).trans (show Q.toArray[40]? =some (.int .u32 (i:Int)) by rw[tA3,←hi];exact A5.out 5);have ib:i<4294967296:=by rw[←hi];exact HR.out.good.id
 obtain⟨ng,hng⟩:=xeq s.gras.length;have gb:ng≤64:=by rw[←hng];exact HS.out.grasn
 have c9:=H.out.c9;rw[hng]at c9;obtain⟨A3,C9,HI,AB⟩:=zh4 k40 (qai c9 B0.out) hi hng;clear k40 c9 hi hng;have u1:IntKind.u64.wrap (i:Int)=(i:Int):=IntWalk.u64_in _ (by omega);have u2:IntKind.u64.wrap (ng:Int)=(ng:Int):=IntWalk.u64_in _ (by omega);go_enter Tryz.func139,Tryz.ntmps139
 go_upto_region 1 with(fail)
 rw[←AD.out];obtain⟨S,A0⟩:∃S:World→Prop,Hid (∀w',S w'=(Below W0.heap.size W0 w')):=⟨_,fun _=>rfl⟩;refine zrs S 12 [(0,false),(1,false),(2,false),(3,false),(4,false),(5,false),(6,false),(7,false),(8,false),(9,false),(10,false),(11,false)] ((A0.out _).mpr ((tA5 _ _).drew)) ?_;obtain⟨F0,F1⟩:=zh2 (fun(w':World)(h:S w')=>qai A3.out ((A0.out w').mp h)) (fun(w':World)(h:S w')=>qai C9.out ((A0.out w').mp h));iterate 12 (refine zrd rfl rfl (fun w1 hS=>by have g0:=F0.out w1 hS;have g1:=F1.out w1 hS;clear hS;go_simp;try rfl) ?_;simp only[Act.put,tA0,tA1,tA2])
 refine qbg ?_;clear A0 F0 F1;obtain⟨W1,hW1⟩:=eqx W0.drew;have B1:=zh1 (show Below W0.heap.size W0 W1 by rw[hW1];exact(tA5 _ _).drew);rw[←hW1];clear hW1;obtain⟨Z1,A6⟩:=zh2 (Z0.out.below B1.out Z0.out.lt) (AE.out.call B1.out);by_cases hge:ng≤i
 ·
  have p1:(ng:Int)≤i:=by omega
  have hdo:qmb s R=(s,rWhy 23):=by
   unfold qmb;rw[HI.out,List.getElem?_eq_none (by rw[AB.out];exact hge)]
  have A1:=zh1 hdo;clear hdo hge u1 u2;go_wp2_with fail
  refine(qpj 23 W1).mono ?_;rintro e w9 ⟨rfl,b9⟩;obtain⟨X,hX,pk⟩:=qpn (rWhy 23) Hd.zero_Ok (by simp[qlz,rWhy,qih,qft]);rw[hX];obtain⟨Z9,HX,DD⟩:=zh3 ((Z1.out).below b9 (Z1.out).lt) hX ((A6.out).call b9);clear hX b9;go_wp2_with (refine qpo (.tmp 4) (.tmp 17) (w.heap.size+1) X Z9.out pk ?_)
  exact qpp (Z9.out.setRow X.toArray) pk ⟨_,col,rfl,(by rw[A1.out,←HX.out];exact RspV.plain _ _ _ _ rfl rfl rfl),(by (try rw[A1.out]);exact DD.out.row0 HK.out X.toArray (A2.out) (by omega))⟩
 have p1:¬(ng:Int)≤i:=by omega
 have plt:i<ng:=by omega
 have plt2:(i:Int)<ng:=by omega
 obtain⟨x,hx⟩:∃x,s.gras[i]? =some x:=⟨_,tA7 (by rw[AB.out];exact plt)⟩;have gcell:w.cell? ⟨L.gg,i*4+3,none⟩=some (.bool x.revoked):=H.out.st.gras.cell ((qmz hx (by omega)).trans rfl);obtain⟨HX,A7⟩:=zh2 hx gcell;clear hge hx gcell;go_upto_region 3 with(fail)
 obtain⟨S,A0⟩:∃S:World→Prop,Hid (∀w',S w'=(Below W1.heap.size W1 w')):=⟨_,fun _=>rfl⟩;refine zrs S 16 [(0,false),(1,false),(2,false),(3,false),(4,false),(5,false),(6,false),(7,false),(8,false),(9,false),(10,false),(11,false),(12,false),(13,false),(14,false),(15,false)] ((A0.out _).mpr ((tA5 _ _).drew)) ?_;obtain⟨F0,F1,F2⟩:=zh3 (fun(w':World)(h:S w')=>qai (qai A3.out B1.out) ((A0.out w').mp h)) (fun(w':World)(h:S w')=>qai (qai C9.out B1.out) ((A0.out w').mp h)) (fun(w':World)(h:S w')=>qai (qai (qai A7.out B0.out) B1.out) ((A0.out w').mp h));by_cases h0:i=0
 ·
  subst h0;have hdo:qmb s R=(s,rWhy 24):=by
   unfold qmb;rw[HI.out,HX.out];simp
  have A1:=zh1 hdo;clear hdo u1 u2;iterate 4 (refine zrd rfl rfl (fun w1 hS=>by have g0:=F0.out w1 hS;clear hS;go_simp;try rfl) ?_;simp only[Act.put,tA0,tA1,tA2])
  iterate 10 (refine qbi rfl rfl ?_;try simp only[Act.put,tA0,tA1,tA2])
  iterate 2 (refine zrd rfl rfl (fun w1 hS=>by go_simp;(try go_bits);try rfl) ?_;simp only[Act.put,tA0,tA1,tA2])
  refine qbg ?_;clear A0 F0 F1 F2;obtain⟨W2,hW2⟩:=eqx W1.drew;have B2:=zh1 (show Below W1.heap.size W1 W2 by rw[hW2];exact(tA5 _ _).drew);rw[←hW2];clear hW2;obtain⟨Z2,A8⟩:=zh2 (Z1.out.below B2.out Z1.out.lt) (A6.out.call B2.out);go_wp2_with fail
  refine(qpj 24 W2).mono ?_;rintro e w9 ⟨rfl,b9⟩;obtain⟨X,hX,pk⟩:=qpn (rWhy 24) Hd.zero_Ok (by simp[qlz,rWhy,qih,qft]);rw[hX];obtain⟨Z9,HX,DD⟩:=zh3 ((Z2.out).below b9 (Z2.out).lt) hX ((A8.out).call b9);clear hX b9;go_wp2_with (refine qpo (.tmp 4) (.tmp 34) (w.heap.size+1) X Z9.out pk ?_)
  exact qpp (Z9.out.setRow X.toArray) pk ⟨_,col,rfl,(by rw[A1.out,←HX.out];exact RspV.plain _ _ _ _ rfl rfl rfl),(by (try rw[A1.out]);exact DD.out.row0 HK.out X.toArray (A2.out) (by omega))⟩
 have qi:((i:Int)==0)=false:=by simp;omega
 have q0:(0:Int)≤i:=by omega
 obtain⟨rv,hrv⟩:=xeq x.revoked;rw[hrv]at A7 F2;iterate 16 (refine zrd rfl rfl (fun w1 hS=>by have g0:=F0.out w1 hS;have g1:=F1.out w1 hS;have g2:=F2.out w1 hS;clear hS;go_simp;try rfl) ?_;simp only[Act.put,tA0,tA1,tA2])
 refine qbg ?_;clear A0 F0 F1 F2;obtain⟨W2,hW2⟩:=eqx W1.drew;have B2:=zh1 (show Below W1.heap.size W1 W2 by rw[hW2];exact(tA5 _ _).drew);rw[←hW2];clear hW2;obtain⟨Z2,A8⟩:=zh2 (Z1.out.below B2.out Z1.out.lt) (A6.out.call B2.out);cases rv with
 |true=>
  have hdo:qmb s R=(s,rWhy 24):=by
   unfold qmb;rw[HI.out,HX.out];simp[hrv]
  have A1:=zh1 hdo;clear hdo u1 u2;go_wp2_with fail
  refine(qpj 24 W2).mono ?_;rintro e w9 ⟨rfl,b9⟩;obtain⟨X,hX,pk⟩:=qpn (rWhy 24) Hd.zero_Ok (by simp[qlz,rWhy,qih,qft]);rw[hX];obtain⟨Z9,HX,DD⟩:=zh3 ((Z2.out).below b9 (Z2.out).lt) hX ((A8.out).call b9);clear hX b9;go_wp2_with (refine qpo (.tmp 4) (.tmp 34) (w.heap.size+1) X Z9.out pk ?_)
  exact qpp (Z9.out.setRow X.toArray) pk ⟨_,col,rfl,(by rw[A1.out,←HX.out];exact RspV.plain _ _ _ _ rfl rfl rfl),(by (try rw[A1.out]);exact DD.out.row0 HK.out X.toArray (A2.out) (by omega))⟩
 |false=>
  have hdo:qmb s R=({s with gras:=s.gras.modify i fun g=>{g with revoked:=true}},qlz i):=by
   unfold qmb;rw[HI.out,HX.out];simp only[];rw[if_neg (by simp[hrv];omega)]
  obtain⟨A1,A9⟩:=zh2 hdo (B0.out.trans ((B1.out.trans (B2.out.mono B1.out.size)).mono B0.out.size));clear hdo u1 u2;go_upto_region 5 with(fail)
  have c9:=qai C9.out (B1.out.trans (B2.out.mono B1.out.size));have H2:=H.out.call A9.out;obtain⟨HF,HC⟩:=zh2 (fun(w':World)(hb:Below w.heap.size w w')=>(H.out.call hb).st.gras.frozen (i*4+3)) (fun(w':World)(hb:Below w.heap.size w w')=>qai A7.out hb);clear H2 c9;obtain⟨S,A0⟩:∃S:World→Prop,Hid (∀w',S w'=(Below W2.heap.size W2 w')):=⟨_,fun _=>rfl⟩;refine zrs S 9 [(0,false),(1,false),(2,false),(3,false),(4,false),(5,false),(6,false),(7,false),(8,false),(9,true)] ((A0.out _).mpr ((tA5 _ _).drew)) ?_;obtain⟨F0,F1⟩:=zh2 (fun(w':World)(h:S w')=>qai (qai (qai A3.out B1.out) B2.out) ((A0.out w').mp h)) (fun(w':World)(h:S w')=>qai (qai (qai C9.out B1.out) B2.out) ((A0.out w').mp h));iterate 9 (refine zrd rfl rfl (fun w1 hS=>by have g0:=F0.out w1 hS;have g1:=F1.out w1 hS;clear hS;go_simp;try rfl) ?_;simp only[Act.put,tA0,tA1,tA2])
  clear A0 F0 F1;obtain⟨W3,hW3⟩:=eqx W2.drew;have B3:=zh1 (show Below W2.heap.size W2 W3 by rw[hW3];exact(tA5 _ _).drew);rw[←hW3];clear hW3;obtain⟨A4,Z3⟩:=zh2 (A9.out.trans (B3.out.mono A9.out.size)) (Z2.out.below B3.out Z2.out.lt);have hf:=HF.out _ A4.out;have hc:=HC.out _ A4.out;have M6:=(H.out.call A4.out).graOver HK.out HX.out (j:=3) (cs:=[.bool true]) (fun x=>{x with revoked:=true}) (by simp) (by simp[over,grav]);rw[show W3.setCells L.gg (i*4+3) [.bool true]=W3.setCell ⟨L.gg,i*4+3,none⟩ (.bool true) from rfl]at M6;have cg:col L.gg=k+2:=H.out.st.gras.1;have D9:=Did.cell H.out A4.out (by rw[cg];unfold inP;simp) (by rw[cg];have:=HK.out;rcases this with rfl|rfl<;>omega) M6;have zD:Blk (W3.setCell ⟨L.gg,i*4+3,none⟩ (.bool true)) (w.heap.size+1) 57 Tryz.zeroCells57:=Z3.out.far (by intro e;have e':w.heap.size+1=L.gg:=e;rw[←e']at cg;have:=A2.out;omega) _;have kD:(W3.setCell ⟨L.gg,i*4+3,none⟩ (.bool true)).cell? ⟨w.heap.size,40,none⟩=some (.int .u32 (i:Int)):=
   qne (p:=(· ==k+2)) (qai A3.out ((B1.out.trans (B2.out.mono B1.out.size)).trans (B3.out.mono (Nat.le_trans B1.out.size B2.out.size)))) (Turns.setCell (col:=col) (.bool true) (by simp[cg])) (by
    by_cases e:col w.heap.size=0
    · rw[e];simp
    have:=H.out.fin _ e;omega)
  obtain⟨AC,AA⟩:=zh2 D9 zD;clear M6 cg D9 zD;refine qbj rfl rfl ?_;go_simp;refine qbg ?_;clear hf hc;obtain⟨W9,hW9⟩:=eqx (W3.setCell ⟨L.gg,i*4+3,none⟩ (.bool true));rw[←hW9]at AC AA kD ⊢;clear hW9;have v1:IntKind.i64.wrap (i:Int)=(i:Int):=IntWalk.i64_in _ (by omega);have v2:wrap64 (i:Int)=(i:Int):=IntWalk.wrap64_in _ (by omega);go_wp2_with fail
  refine(qpi i W9 (by omega)).mono ?_;rintro e w9 ⟨rfl,b9⟩;obtain⟨X,hX,pk⟩:=qpn (qlz i) Hd.zero_Ok (by simp[qlz,rWhy,qih,qft]);rw[hX];obtain⟨Z9,HX,DD⟩:=zh3 ((AA.out).below b9 (AA.out).lt) hX ((AC.out).call b9);clear hX b9;go_wp2_with (refine qpo (.tmp 4) (.tmp 47) (w.heap.size+1) X Z9.out pk ?_)
  exact qpp (Z9.out.setRow X.toArray) pk ⟨_,col,rfl,(by rw[A1.out,←HX.out];exact RspV.plain _ _ _ _ rfl rfl rfl),(by (try rw[A1.out]);exact DD.out.row0 HK.out X.toArray (A2.out) (by omega))⟩
end
section
open Go.RowKit
theorem Did.turned {w W W':World}{col col':Col}{k kk g:Nat}{c:Cfg}{s s':Sta}{L L':Loc}{css css':List (List Value)}(h:Mdl w col k g c s L css)(hb:Below w.heap.size w W)(hT:Turns (· ==kk) W col W' col')(hc:inP k kk=true)(hn:kk<10∧kk≠5)
 (hm:Mdl W' col' k g c s' L' css'):Did w col W' col' k g c css s s':=by
 have hT2:Turns (inP k) W col W' col':=hT.mono fun i hi=>(show i=kk by simpa using hi)▸hc
 exact⟨⟨L',css',hm⟩,(h.call hb).st.trs.keep fun i hi=>hT.keeps (by simp;omega),(Turns.of_below _ hb).trans hT2⟩
theorem qqn {α:Type}{f g:α→α}:∀(l:List α) (n:Nat),(l.modify n f).modify n g=l.modify n fun x=>g (f x)
 |[],n=>by simp
 |x::l,0=>by simp
 |x::l,n+1=>by simp[qqn l n]
theorem qqo (c:Cfg)(s:Sta)(L:Loc)(col:Col)(k g:Nat)(css:List (List Value))(R:Req)(Ac:Option Addr)(cc:Nat)(Al:Option Addr)(cl:Nat)(w:World)(hk:Kind k)(hs:s.Ok)(h:Mdl w col k g c s L css)
 (hr:Asked w col R Ac cc Al cl):
 Calls Tryz.prog 140 #[.pointer (some ⟨g,0,none⟩),.agg (reqv R (.slice Ac R.cavs.length cc) (.slice Al R.leaf.length cl)).toArray] w fun e w'=>∃v col',e=.returned v∧RspV w' col' w.heap.size v (qmc s R).2∧Did w col w' col' k g c css s (qmc s R).1:=by
 have rlen:=qis R (.slice Ac R.cavs.length cc) (.slice Al R.leaf.length cl) hr.good.tag;have rest:=qgu R (.slice Ac R.cavs.length cc) (.slice Al R.leaf.length cl) hr.good.tag;obtain⟨Q,hQ⟩:=xeq (reqv R (.slice Ac R.cavs.length cc) (.slice Al R.leaf.length cl));rw[hQ]at rlen rest ⊢;obtain⟨W0,hW0⟩:=eqx ((w.alloc (.cells Q.toArray 34)).alloc (.cells Tryz.zeroCells57 57));have q0:Blk W0 w.heap.size 34 Q.toArray:=by rw[hW0];exact(Blk.new w _ _).alloc _
 have z0:Blk W0 (w.heap.size+1) 57 Tryz.zeroCells57:=by
  have h:=Blk.new (w.alloc (.cells Q.toArray 34)) 57 Tryz.zeroCells57;rw[qar]at h;rw[hW0];exact h
 have b0:Below w.heap.size w W0:=by rw[hW0];exact qah (qah (tA5 _ _) _) _
 have hG0:col (w.heap.size+1)=0:=by
  by_cases e:col (w.heap.size+1)=0
  · exact e
  have:=h.fin _ e;omega
 have D0:=Did.same (css:=css) h b0;obtain⟨H,AD,Q0,Z0,B0,A2,A7,HK⟩:=zh8 h hW0 q0 z0 b0 hG0 D0 hk;obtain⟨HS,HR,RL,A4,HQ⟩:=zh5 hs hr rlen rest hQ;clear h hW0 q0 z0 b0 hG0 D0 hk hs hr rlen rest hQ;obtain⟨n,hn⟩:=xeq R.tenant;obtain⟨rt,hrt⟩:=xeq R.rate;obtain⟨bt,hbt⟩:=xeq R.burst;obtain⟨st,hst⟩:=xeq R.store;have k36:=(Q0.out.cell 36).trans (show Q.toArray[36]? =some (.int .i64 n) by rw[tA3,←hn];exact A4.out 1);have k43:=(Q0.out.cell 43).trans (show Q.toArray[43]? =some (.int .u32 (rt:Int)) by rw[tA3,←hrt];exact A4.out 8);have k44:=(Q0.out.cell 44).trans (show Q.toArray[44]? =some (.int .u32 (bt:Int)) by rw[tA3,←hbt];exact A4.out 9);have k45:=(Q0.out.cell 45).trans (show Q.toArray[45]? =some (.int .u32 (st:Int)) by rw[tA3,←hst];exact A4.out 10);obtain⟨A5,AE,AF,AG,AK,HN,A8,A9⟩:=zh8 k36 k43 k44 k45 (qpk n c s L col k g css W0 (H.out.call B0.out)) hn hrt hbt;obtain⟨AL,AM⟩:=zh2 hst (show st<4294967296 by rw[←hst];exact HR.out.good.store);rw[AD.out]at k36;clear hn hrt hbt hst k43 k44 k45;go_enter Tryz.func140,Tryz.ntmps140
 go_wp2_with fail
 rw[←AD.out];refine AK.out.mono ?_;rintro e w' ⟨rfl,rfl⟩;clear k36;by_cases h16:0≤n∧n<16
 ·
  rw[if_pos h16];obtain⟨m,rfl⟩:∃m:Nat,n=m:=⟨n.toNat,by omega⟩;rw[Int.toNat_natCast];have k43:=AE.out;have k44:=AF.out;obtain⟨x,hx⟩:∃x,s.tens[m]? =some x:=⟨_,tA7 (by rw[HS.out.tensn];omega)⟩;have hten:s.tenant R.tenant=some x:=by unfold Sta.tenant;rw[HN.out,if_pos (by omega),Int.toNat_natCast];exact hx
  obtain⟨HX,A1⟩:=zh2 hx hten;clear hx hten;go_wp2_with fail
  clear k43 k44;by_cases hq:rt≤1048576∧bt≤1048576
  ·
   refine(qp8 (rt:Int) (bt:Int) _ (by omega) (by omega)).mono ?_;rintro e w1 ⟨rfl,b1⟩;have B1:=zh1 b1;clear b1;go_upto_region 3 with(fail)
   obtain⟨W2,hW2⟩:=eqx (w1.alloc (.cells #[.int .u32 (rt:Int),.int .u32 (bt:Int),.int .u32 (bt:Int)] 90));rw[←hW2];have q2:Blk W2 w1.heap.size 90 #[.int .u32 (rt:Int),.int .u32 (bt:Int),.int .u32 (bt:Int)]:=by rw[hW2];exact Blk.new w1 _ _
   have b2:Below W0.heap.size W0 W2:=by rw[hW2];exact qah B1.out _
   obtain⟨Z2,A3,Q2,B2⟩:=zh4 (Z0.out.below b2 Z0.out.lt) (A7.out.call b2) q2 b2;clear hW2 q2 b2;have k36:=qai A5.out B2.out;by_cases h0:m=0
   ·
    subst h0;have hdo:qmc s R=(s,rWhy 24):=by
     unfold qmc;rw[A1.out];simp only[];rw[if_neg (by rw[A8.out,A9.out];omega),if_pos (by rw[HN.out];rfl)]
    have A0:=zh1 hdo;clear hdo;go_wp2_with fail
    refine(qpj 24 W2).mono ?_;rintro e w9 ⟨rfl,b9⟩;obtain⟨X,hX,pk⟩:=qpn (rWhy 24) Hd.zero_Ok (by simp[qlz,rWhy,qih,qft]);rw[hX];obtain⟨Z9,HX,DD⟩:=zh3 ((Z2.out).below b9 (Z2.out).lt) hX ((A3.out).call b9);clear hX b9;go_wp2_with (refine qpo (.tmp 4) (.tmp 36) (w.heap.size+1) X Z9.out pk ?_)
    exact qpp (Z9.out.setRow X.toArray) pk ⟨_,col,rfl,(by rw[A0.out,←HX.out];exact RspV.plain _ _ _ _ rfl rfl rfl),(by (try rw[A0.out]);exact DD.out.row0 HK.out X.toArray (A2.out) (by omega))⟩
   have qm:((m:Int)==0)=false:=by simp;omega
   have hdo:qmc s R=(s.setX m fun x=>{x with on:=true,rate:=rt,burst:=bt,tok:=bt,store:=st},qlz m):=by
    unfold qmc;rw[A1.out];simp only[];rw[if_neg (by rw[A8.out,A9.out];omega),if_neg (by rw[HN.out];omega),HN.out,A8.out,A9.out,AL.out,Int.toNat_natCast]
   obtain⟨A0,AH,AI⟩:=zh3 hdo hq h16;clear hdo hq h16;go_upto_region 7 with(fail)
   clear k36;have cT:col L.tg=k:=H.out.st.tens.1;have HB:=zh1 (B0.out.trans (B2.out.mono B0.out.size));have cW:col w.heap.size=0:=by
    by_cases e:col w.heap.size=0
    · exact e
    have:=H.out.fin _ e;omega
   have sQ:w.heap.size<w1.heap.size:=by have:=B1.out.size;have:=Z0.out.lt;omega
   have cQ:col w1.heap.size=0:=by
    by_cases e:col w1.heap.size=0
    · exact e
    have:=H.out.fin _ e;omega
   have k0:k≠0:=by have:=HK.out;rcases this with rfl|rfl<;>omega
   obtain⟨CT,CW,CQ,K0⟩:=zh4 cT cW cQ k0;clear cT cW sQ cQ k0;obtain⟨S,A6⟩:∃S:World→Prop,Hid (∀w',S w'=(Turns (· ==k) W2 col w' col)):=⟨_,fun _=>rfl⟩;refine zrs S 14 [(0,false),(1,false),(2,false),(3,false),(4,false),(5,false),(6,false),(7,false),(8,true),(9,false),(10,false),(11,true),(12,false),(13,false),(14,true)] ((A6.out _).mpr (Turns.of_below _ (tA5 _ _).drew)) ?_;obtain⟨F0,FQ⟩:=zh2 (fun(w':World)(h:S w')=>qne (qai AG.out B2.out) ((A6.out w').mp h) (by rw[CW.out];have:=K0.out;simp;omega)) (fun(w':World)(h:S w')=>qap (l:=[.int .u32 (rt:Int),.int .u32 (bt:Int),.int .u32 (bt:Int)]) ((((A6.out w').mp h).block _ Q2.out.lt (by rw[CQ.out];have:=K0.out;simp;omega)).trans Q2.out) 0 _ (fun j u h=>by simpa using h));iterate 3 (refine zrd rfl rfl (fun w1 hS=>by have g0:=F0.out w1 hS;clear hS;go_simp;try rfl) ?_;simp only[Act.put,tA0,tA1,tA2])
   have HI:=zh1 (show (Tryz.prog.info? 90).map (·.size)=some 3 by kernel_rfl);refine qnf rfl rfl 90 (.tmp 7) rfl w1.heap.size 0 rfl _ _ FQ.out Tryz.underlying90 rfl HI.out ?_;try simp only[Act.put,tA0,tA1,tA2]
   iterate 4 (refine zrd rfl rfl (fun w1 hS=>by have g0:=F0.out w1 hS;clear hS;go_simp;try rfl) ?_;simp only[Act.put,tA0,tA1,tA2])
   clear F0 FQ;obtain⟨W3,hW3⟩:=eqx W2.drew;have B3:=zh1 (show Below W2.heap.size W2 W3 by rw[hW3];exact(tA5 _ _).drew);rw[←hW3];clear hW3;have AN:=zh1 (HB.out.trans (B3.out.mono HB.out.size));have M3:=H.out.call AN.out;have M4:=M3.tenOver HK.out HS.out HX.out (j:=0) (cs:=[.bool true]) (fun x=>{x with on:=true}) (by simp) (by simp[over,tenv]);have f0:=M3.st.tens.frozen (m*6);have c0:W3.cell? ⟨L.tg,m*6,none⟩=some (.bool x.on):=M3.st.tens.cell ((qmy HX.out (by omega:(0:Nat)<6)).trans rfl);rw[show W3.setCells L.tg (m*6+0) [.bool true]=W3.setCell ⟨L.tg,m*6,none⟩ (.bool true) from rfl]at M4;have T4:Turns (· ==k) W3 col (W3.setCell ⟨L.tg,m*6,none⟩ (.bool true)) col:=Turns.setCell _ (by simp[CT.out]);have AB:=(Turns.of_below (col:=col) (· ==k) B3.out).trans T4;have ok4:(s.setX m fun x=>{x with on:=true}).Ok:=HS.out.setX fun x _ h=>⟨h.rate,h.burst,h.tok,h.store,h.used⟩
   have x4:(s.setX m fun x=>{x with on:=true}).tens[m]? =some {x with on:=true}:=qnc _ HX.out;refine qbj rfl rfl ?_;go_simp;clear f0 c0;obtain⟨W4,hW4⟩:=eqx (W3.setCell ⟨L.tg,m*6,none⟩ (.bool true));rw[←hW4]at M4 AB ⊢;clear hW4 T4 M3;refine⟨(A6.out _).mpr AB,?_⟩;try simp only[Act.put,tA0,tA1,tA2]
   iterate 2 (refine zrd rfl rfl (fun w1 hS=>by clear hS;go_simp;try rfl) ?_;simp only[Act.put,tA0,tA1,tA2])
   have hth:=M4.st.tens.there (o:=m*6+1) (m:=3) (by rw[qn1,ok4.tensn];have:=AI.out;omega);have M5:=M4.tenOver HK.out ok4 x4 (j:=1) (cs:=[.int .u32 (rt:Int),.int .u32 (bt:Int),.int .u32 (bt:Int)]) (fun x=>{x with rate:=rt,burst:=bt,tok:=bt}) (by simp) (by simp[over,tenv]);have T5:Turns (· ==k) W4 col (W4.setCells L.tg (m*6+1) [.int .u32 (rt:Int),.int .u32 (bt:Int),.int .u32 (bt:Int)]) col:=Turns.setCells _ (by simp[CT.out]);have AC:=AB.trans T5;have ok5:((s.setX m fun x=>{x with on:=true}).setX m fun x=>{x with rate:=rt,burst:=bt,tok:=bt}).Ok:=ok4.setX fun x _ h=>⟨AH.out.1,AH.out.2,tA4 _,h.store,h.used⟩
   have x5:((s.setX m fun x=>{x with on:=true}).setX m fun x=>{x with rate:=rt,burst:=bt,tok:=bt}).tens[m]? =some {x with on:=true,rate:=rt,burst:=bt,tok:=bt}:=qnc _ x4;refine qbj rfl rfl ?_;refine wp_store_mid 90 (.tmp 46) (.tmp 40) rfl L.tg (m*6+1) [.int .u32 (rt:Int),.int .u32 (bt:Int),.int .u32 (bt:Int)].toArray rfl rfl hth (by kernel_rfl) (by simp[Value.oneCell']) ?_;obtain⟨W5,hW5⟩:=eqx (W4.setCells L.tg (m*6+1) [.int .u32 (rt:Int),.int .u32 (bt:Int),.int .u32 (bt:Int)]);rw[←hW5]at M5 AC ⊢;clear hW5 T5 hth M4 AB;refine⟨fun _=>(A6.out _).mpr AC,?_⟩;try simp only[Act.put,tA0,tA1,tA2]
   have F0:=zh1 (fun(w':World)(h:S w')=>qne (qai AG.out B2.out) ((A6.out w').mp h) (by rw[CW.out];have:=K0.out;simp;omega));iterate 2 (refine zrd rfl rfl (fun w1 hS=>by have g0:=F0.out w1 hS;clear hS;go_simp;try rfl) ?_;simp only[Act.put,tA0,tA1,tA2])
   have f5:=M5.st.tens.frozen (m*6+4);have c5:W5.cell? ⟨L.tg,m*6+4,none⟩=some (.int .u32 (x.store:Int)):=M5.st.tens.cell ((qmy x5 (by omega:(4:Nat)<6)).trans rfl);have M6:=M5.tenOver HK.out ok5 x5 (j:=4) (cs:=[.int .u32 (st:Int)]) (fun x=>{x with store:=st}) (by simp) (by simp[over,tenv]);rw[show W5.setCells L.tg (m*6+4) [.int .u32 (st:Int)]=W5.setCell ⟨L.tg,m*6+4,none⟩ (.int .u32 (st:Int)) from rfl]at M6;have T6:Turns (· ==k) W5 col (W5.setCell ⟨L.tg,m*6+4,none⟩ (.int .u32 (st:Int))) col:=Turns.setCell _ (by simp[CT.out]);have AA:=AC.trans T6;refine qbj rfl rfl ?_;go_simp;refine qbg ?_;clear f5 c5 F0;obtain⟨W6,hW6⟩:=eqx (W5.setCell ⟨L.tg,m*6+4,none⟩ (.int .u32 (st:Int)));rw[←hW6]at M6 AA ⊢;clear hW6 T6 M5 AC A6;have est:(((s.setX m fun x=>{x with on:=true}).setX m fun x=>{x with rate:=rt,burst:=bt,tok:=bt}).setX m fun x=>{x with store:=st})=(s.setX m fun x=>{x with on:=true,rate:=rt,burst:=bt,tok:=bt,store:=st}):=by
    unfold Sta.setX;simp only[qqn]
   rw[est]at M6;have D9:=Did.turned H.out HB.out AA (by unfold inP;simp) (by have:=HK.out;rcases this with rfl|rfl<;>omega) M6;have z6:Blk W6 (w.heap.size+1) 57 Tryz.zeroCells57:=(AA.block _ Z2.out.lt (by rw[A2.out];have:=K0.out;simp;omega)).trans Z2.out;have k36:=qne (qai A5.out B2.out) AA (by rw[CW.out];have:=K0.out;simp;omega);obtain⟨AO,AJ⟩:=zh2 D9 z6;clear M6 AA est D9 z6 ok4 x4 ok5 x5;have hm16:m<16:=by have:=AI.out;omega
   go_wp2_with fail
   refine(qpi m W6 (by omega)).mono ?_;rintro e w9 ⟨rfl,b9⟩;obtain⟨X,hX,pk⟩:=qpn (qlz m) Hd.zero_Ok (by simp[qlz,rWhy,qih,qft]);rw[hX];obtain⟨Z9,HX,DD⟩:=zh3 ((AJ.out).below b9 (AJ.out).lt) hX ((AO.out).call b9);clear hX b9;go_wp2_with (refine qpo (.tmp 4) (.tmp 51) (w.heap.size+1) X Z9.out pk ?_)
   exact qpp (Z9.out.setRow X.toArray) pk ⟨_,col,rfl,(by rw[A0.out,←HX.out];exact RspV.plain _ _ _ _ rfl rfl rfl),(by (try rw[A0.out]);exact DD.out.row0 HK.out X.toArray (A2.out) (by omega))⟩
  by_cases hq1:1048576<rt
  ·
   refine(qp9 (rt:Int) (bt:Int) _ (.inl (by omega))).mono ?_;rintro e w1 ⟨rfl,b1⟩;have B1:=zh1 b1;clear b1;go_upto_region 3 with(fail)
   obtain⟨W2,hW2⟩:=eqx (w1.alloc (.cells #[.int .u32 0,.int .u32 0,.int .u32 0] 90));rw[←hW2];have q2:Blk W2 w1.heap.size 90 #[.int .u32 0,.int .u32 0,.int .u32 0]:=by rw[hW2];exact Blk.new w1 _ _
   have b2:Below W0.heap.size W0 W2:=by rw[hW2];exact qah B1.out _
   obtain⟨Z2,A3,Q2,B2⟩:=zh4 (Z0.out.below b2 Z0.out.lt) (A7.out.call b2) q2 b2;clear hW2 q2 b2;have k36:=qai A5.out B2.out;have hdo:qmc s R=(s,rWhy 25):=by
    unfold qmc;rw[A1.out];simp only[];rw[if_pos (by rw[A8.out,A9.out];omega)]
   have A0:=zh1 hdo;clear hdo;go_wp2_with fail
   refine(qpj 25 W2).mono ?_;rintro e w9 ⟨rfl,b9⟩;obtain⟨X,hX,pk⟩:=qpn (rWhy 25) Hd.zero_Ok (by simp[qlz,rWhy,qih,qft]);rw[hX];obtain⟨Z9,HX,DD⟩:=zh3 ((Z2.out).below b9 (Z2.out).lt) hX ((A3.out).call b9);clear hX b9;go_wp2_with (refine qpo (.tmp 4) (.tmp 31) (w.heap.size+1) X Z9.out pk ?_)
   exact qpp (Z9.out.setRow X.toArray) pk ⟨_,col,rfl,(by rw[A0.out,←HX.out];exact RspV.plain _ _ _ _ rfl rfl rfl),(by (try rw[A0.out]);exact DD.out.row0 HK.out X.toArray (A2.out) (by omega))⟩
  refine(qp9 (rt:Int) (bt:Int) _ (.inr (by omega))).mono ?_;rintro e w1 ⟨rfl,b1⟩;have B1:=zh1 b1;clear b1;go_upto_region 3 with(fail)
  obtain⟨W2,hW2⟩:=eqx (w1.alloc (.cells #[.int .u32 0,.int .u32 0,.int .u32 0] 90));rw[←hW2];have q2:Blk W2 w1.heap.size 90 #[.int .u32 0,.int .u32 0,.int .u32 0]:=by rw[hW2];exact Blk.new w1 _ _
  have b2:Below W0.heap.size W0 W2:=by rw[hW2];exact qah B1.out _
  obtain⟨Z2,A3,Q2,B2⟩:=zh4 (Z0.out.below b2 Z0.out.lt) (A7.out.call b2) q2 b2;clear hW2 q2 b2;have k36:=qai A5.out B2.out;have hdo:qmc s R=(s,rWhy 25):=by
   unfold qmc;rw[A1.out];simp only[];rw[if_pos (by rw[A8.out,A9.out];omega)]
  have A0:=zh1 hdo;clear hdo;go_wp2_with fail
  refine(qpj 25 W2).mono ?_;rintro e w9 ⟨rfl,b9⟩;obtain⟨X,hX,pk⟩:=qpn (rWhy 25) Hd.zero_Ok (by simp[qlz,rWhy,qih,qft]);rw[hX];obtain⟨Z9,HX,DD⟩:=zh3 ((Z2.out).below b9 (Z2.out).lt) hX ((A3.out).call b9);clear hX b9;go_wp2_with (refine qpo (.tmp 4) (.tmp 31) (w.heap.size+1) X Z9.out pk ?_)
  exact qpp (Z9.out.setRow X.toArray) pk ⟨_,col,rfl,(by rw[A0.out,←HX.out];exact RspV.plain _ _ _ _ rfl rfl rfl),(by (try rw[A0.out]);exact DD.out.row0 HK.out X.toArray (A2.out) (by omega))⟩
 rw[if_neg h16];have k43:=AE.out;have k44:=AF.out;have hten:s.tenant R.tenant=none:=by
  unfold Sta.tenant;rw[HN.out];by_cases h0:0≤n
  · rw[if_pos h0]
    exact List.getElem?_eq_none (by rw[HS.out.tensn];omega)
  rw[if_neg h0]
 have A1:=zh1 hten;clear hten;go_wp2_with fail
 clear k43 k44;by_cases hq:rt≤1048576∧bt≤1048576
 ·
  refine(qp8 (rt:Int) (bt:Int) _ (by omega) (by omega)).mono ?_;rintro e w1 ⟨rfl,b1⟩;have B1:=zh1 b1;clear b1;go_upto_region 3 with(fail)
  obtain⟨W2,hW2⟩:=eqx (w1.alloc (.cells #[.int .u32 (rt:Int),.int .u32 (bt:Int),.int .u32 (bt:Int)] 90));rw[←hW2];have q2:Blk W2 w1.heap.size 90 #[.int .u32 (rt:Int),.int .u32 (bt:Int),.int .u32 (bt:Int)]:=by rw[hW2];exact Blk.new w1 _ _
  have b2:Below W0.heap.size W0 W2:=by rw[hW2];exact qah B1.out _
  obtain⟨Z2,A3,Q2,B2⟩:=zh4 (Z0.out.below b2 Z0.out.lt) (A7.out.call b2) q2 b2;clear hW2 q2 b2;have k36:=qai A5.out B2.out;have hdo:qmc s R=(s,rWhy 25):=by
   unfold qmc;rw[A1.out]
  have A0:=zh1 hdo;clear hdo;go_wp2_with fail
  refine(qpj 25 W2).mono ?_;rintro e w9 ⟨rfl,b9⟩;obtain⟨X,hX,pk⟩:=qpn (rWhy 25) Hd.zero_Ok (by simp[qlz,rWhy,qih,qft]);rw[hX];obtain⟨Z9,HX,DD⟩:=zh3 ((Z2.out).below b9 (Z2.out).lt) hX ((A3.out).call b9);clear hX b9;go_wp2_with (refine qpo (.tmp 4) (.tmp 31) (w.heap.size+1) X Z9.out pk ?_)
  exact qpp (Z9.out.setRow X.toArray) pk ⟨_,col,rfl,(by rw[A0.out,←HX.out];exact RspV.plain _ _ _ _ rfl rfl rfl),(by (try rw[A0.out]);exact DD.out.row0 HK.out X.toArray (A2.out) (by omega))⟩
 by_cases hq1:1048576<rt
 ·
  refine(qp9 (rt:Int) (bt:Int) _ (.inl (by omega))).mono ?_;rintro e w1 ⟨rfl,b1⟩;have B1:=zh1 b1;clear b1;go_upto_region 3 with(fail)
  obtain⟨W2,hW2⟩:=eqx (w1.alloc (.cells #[.int .u32 0,.int .u32 0,.int .u32 0] 90));rw[←hW2];have q2:Blk W2 w1.heap.size 90 #[.int .u32 0,.int .u32 0,.int .u32 0]:=by rw[hW2];exact Blk.new w1 _ _
  have b2:Below W0.heap.size W0 W2:=by rw[hW2];exact qah B1.out _
  obtain⟨Z2,A3,Q2,B2⟩:=zh4 (Z0.out.below b2 Z0.out.lt) (A7.out.call b2) q2 b2;clear hW2 q2 b2;have k36:=qai A5.out B2.out;have hdo:qmc s R=(s,rWhy 25):=by
   unfold qmc;rw[A1.out]
  have A0:=zh1 hdo;clear hdo;go_wp2_with fail
  refine(qpj 25 W2).mono ?_;rintro e w9 ⟨rfl,b9⟩;obtain⟨X,hX,pk⟩:=qpn (rWhy 25) Hd.zero_Ok (by simp[qlz,rWhy,qih,qft]);rw[hX];obtain⟨Z9,HX,DD⟩:=zh3 ((Z2.out).below b9 (Z2.out).lt) hX ((A3.out).call b9);clear hX b9;go_wp2_with (refine qpo (.tmp 4) (.tmp 31) (w.heap.size+1) X Z9.out pk ?_)
  exact qpp (Z9.out.setRow X.toArray) pk ⟨_,col,rfl,(by rw[A0.out,←HX.out];exact RspV.plain _ _ _ _ rfl rfl rfl),(by (try rw[A0.out]);exact DD.out.row0 HK.out X.toArray (A2.out) (by omega))⟩
 refine(qp9 (rt:Int) (bt:Int) _ (.inr (by omega))).mono ?_;rintro e w1 ⟨rfl,b1⟩;have B1:=zh1 b1;clear b1;go_upto_region 3 with(fail)
 obtain⟨W2,hW2⟩:=eqx (w1.alloc (.cells #[.int .u32 0,.int .u32 0,.int .u32 0] 90));rw[←hW2];have q2:Blk W2 w1.heap.size 90 #[.int .u32 0,.int .u32 0,.int .u32 0]:=by rw[hW2];exact Blk.new w1 _ _
 have b2:Below W0.heap.size W0 W2:=by rw[hW2];exact qah B1.out _
 obtain⟨Z2,A3,Q2,B2⟩:=zh4 (Z0.out.below b2 Z0.out.lt) (A7.out.call b2) q2 b2;clear hW2 q2 b2;have k36:=qai A5.out B2.out;have hdo:qmc s R=(s,rWhy 25):=by
  unfold qmc;rw[A1.out]
 have A0:=zh1 hdo;clear hdo;go_wp2_with fail
 refine(qpj 25 W2).mono ?_;rintro e w9 ⟨rfl,b9⟩;obtain⟨X,hX,pk⟩:=qpn (rWhy 25) Hd.zero_Ok (by simp[qlz,rWhy,qih,qft]);rw[hX];obtain⟨Z9,HX,DD⟩:=zh3 ((Z2.out).below b9 (Z2.out).lt) hX ((A3.out).call b9);clear hX b9;go_wp2_with (refine qpo (.tmp 4) (.tmp 31) (w.heap.size+1) X Z9.out pk ?_)
 exact qpp (Z9.out.setRow X.toArray) pk ⟨_,col,rfl,(by rw[A0.out,←HX.out];exact RspV.plain _ _ _ _ rfl rfl rfl),(by (try rw[A0.out]);exact DD.out.row0 HK.out X.toArray (A2.out) (by omega))⟩
end
end Go.Proofs.YthomgopipiomhaaGreatDoor

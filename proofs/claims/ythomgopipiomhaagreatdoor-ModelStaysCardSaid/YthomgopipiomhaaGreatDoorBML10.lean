/- Lemmas. -/
import Derived.Test.YthomgopipiomhaaGreatDoorBML09
namespace Go.Proofs.YthomgopipiomhaaGreatDoor
open Go.RowKit
set_option linter.unusedVariables false
set_option linter.unusedSimpArgs false
set_option maxRecDepth 100000
set_option maxHeartbeats 32000000
variable {v:Value}{b k g kk G n:Nat}{css css':List (List Value)}{L L':Loc}{s s':Sta}{c:Cfg}{col col':Col}{w W W' W1 w':World}{cs new:List Value}{t:Tre}
theorem Tryz.madd_info:(Tryz.prog.info? 23).map (fun i=>(i.zero,i.size,i.bytes))=some (some (.slice none 0 0),1,24):=by kernel_rfl
theorem qrj(c:Cfg)(s:Sta)(L:Loc)(col:Col)(k g:Nat)(css:List (List Value))(n:Nat)(t:Tre)(R:Req)(Ac:Option Addr)(cc:Nat)(Al:Option Addr)(cl:Nat)(w:World)(hk:Kind k)(hc:c.Ok)(hs:s.Ok)(h:Mdl w col k g c s L css)
 (hr:Asked w col R Ac cc Al cl)(hrt:R.tree=(n:Int))(ht:s.tres[n]? =some t)(hl:R.leaf.length≤256):
 Zc 135 #[.pointer (some ⟨g,0,none⟩),.pointer (some ⟨L.rg,n*75,none⟩),.agg (reqv R (.slice Ac R.cavs.length cc) (.slice Al R.leaf.length cl)).toArray] w fun e w'=>∃v col',e=.returned v∧RspV w' col' w.heap.size v (qmm c s R t).2∧Did w col w' col' k g c css s (qmm c s R t).1:=by
 obtain⟨hn16,Ad,cd,Al',cl',Aq,cq,hcs,hcell,hrd,hrl,hrq⟩:=h.st.tree hs ht;have hto:=hs.tre ht;have rlen:=qiu R (.slice Ac R.cavs.length cc) (.slice Al R.leaf.length cl) hr.good.tag;have r35:(reqv R (.slice Ac R.cavs.length cc) (.slice Al R.leaf.length cl))[35]? =some (.int .i64 (n:Int)):=by rw[←hrt];exact qdh R _ _ hr.good.tag 0
 have r47:(reqv R (.slice Ac R.cavs.length cc) (.slice Al R.leaf.length cl))[47]? =some (.slice Al R.leaf.length cl):=qdh R _ _ hr.good.tag 12;obtain⟨Q,hQ⟩:=xeq (reqv R (.slice Ac R.cavs.length cc) (.slice Al R.leaf.length cl));rw[hQ]at rlen r35 r47 ⊢;obtain⟨W0,hW0⟩:=eqx ((w.alloc (.cells Q.toArray 34)).alloc (.cells Tryz.zeroCells57 57));have q0:=zNb hW0;have z0:=zNc hW0;have b0:=zMb hW0;have hG0:col (w.heap.size+1)=0:=by
  by_cases e:col (w.heap.size+1)=0
  · exact e
  have:=h.fin _ e;omega
 have c0:=qai (hcell 0 (.int .i64 t.state) rfl) b0;have c1:=qai (hcell 1 (.int .i64 t.tenant) rfl) b0;have c5:=qai (hcell 5 (.slice Al' t.leaves.length cl') rfl) b0;have c6:=qai (hcell 6 (.slice Aq t.queue.length cq) rfl) b0;have k35:=(q0.cell 35).trans (show Q.toArray[35]? =some (.int .i64 (n:Int)) by rw[tA3];exact r35);have k47:=(q0.cell 47).trans (show Q.toArray[47]? =some (.slice Al R.leaf.length cl) by rw[tA3];exact r47);simp only[Nat.add_zero]at c0;have D0:=Did.same (css:=css) h b0;obtain⟨H,AJ,Q0,Z0,B0,A5,AU,HK⟩:=zh8 h hW0 q0 z0 b0 hG0 D0 hk;obtain⟨HS,HC,HT,AK,HR,C0,C1,C5⟩:=zh8 hs hc ht hto hr c0 c1 c5;obtain⟨C6,BK,AL,C2,A8,BL,C3,C4⟩:=zh8 c6 k35 k47 hcs hrt hl hrl hrq;clear h hW0 q0 z0 b0 hG0 D0 hk hs hc ht hto hr c0 c1 c5 c6 k35 k47 r35 r47 rlen hQ hcs hcell hrd hrt hl hrl hrq;by_cases hA:n=0∨t.state≠1
 ·
  have hdo:qmm c s R t=(s,rWhy 24):=by unfold qmm;rw[if_pos (by rw[A8.o];omega)]
  have A0:=zh1 hdo;clear hdo;obtain⟨x,hx⟩:=xeq t.state;rw[hx]at hA;have c0:=C0.o;rw[hx]at c0;have k35:=BK.o;clear hx;rw[AJ.o]at c0 k35;by_cases h0:n=0
  · subst h0
    go_enter Tryz.func135,Tryz.ntmps135
    go_wp2_with fail
    clear c0 k35;rw[←AJ.o];exact qr5 A0 HK (A5.o) (qqd 24 W0) (Z0.o) (AU.o)
  have hx1:x≠1:=zo;have qn:((n:Int)==0)=false:=by simp;omega
  have ha:qkn x=false:=by unfold qkn;simpa using hx1
  go_enter Tryz.func135,Tryz.ntmps135
  go_wp2_with fail
  clear c0 k35;rw[←AJ.o];refine zca (qkv x W0) ?_;rw[ha];go_wp2_with fail
  exact qr5 A0 HK (A5.o) (qqd 24 W0) (Z0.o) (AU.o)
 have hn0:n≠0:=zo;have hx:t.state=1:=zo;have c0:=C0.o;have k35:=BK.o;rw[hx]at c0;rw[AJ.o]at c0 k35;have qn:((n:Int)==0)=false:=by simp;omega
 have ha:qkn 1=true:=rfl;obtain⟨AG,AH⟩:=zh2 hn0 hx;clear hA hn0 hx;go_enter Tryz.func135,Tryz.ntmps135
 go_wp2_with fail
 clear c0 k35;rw[←AJ.o];refine zca (qkv 1 W0) ?_;rw[ha];clear qn ha;go_upto_region 3 with(fail)
 have hlf:=HR.good.leafb;obtain⟨A1,k1,e1,a1,a2,a3⟩:=C3.reads;injection e1 with e11 e12 e13;subst e11 e13;obtain⟨A2,k2,e2,a4,a5,a6⟩:=C4.reads;injection e2 with e21 e22 e23;subst e21 e23;obtain⟨BM,BN⟩:=zh2 a3 a6;clear a1 a2 a3 a4 a5 a6;obtain⟨nl,hnl⟩:=xeq t.leaves.length;obtain⟨nq,hnq⟩:=xeq t.queue.length;obtain⟨nf,hnf⟩:=xeq R.leaf.length;have hto:=AK.o;have hb1:=hto.leaves;have hb2:=hto.queue;rw[hnl,hnq]at hb1;rw[hnq]at hb2;rw[hnl]at C5 BM;rw[hnq]at C6 BN;rw[hnf]at AL;obtain⟨AC,A7,AD,AP,CG,BO,AV⟩:=zh7 hnl hnq hnf hb1 hb2 hlf (show Reads w w.heap.size 1 Al nf (byv R.leaf) by have:=HR.leaf;rwa[hnf]at this);obtain⟨I1,I2⟩:=zh2 (fun w' (hb:Zb w w')=>qqz R.leaf t.leaves Al' Al nl cl' nf cl w' zo (BM.call hb) (fun b hb=>(AK.leafb b hb).bs) BO.o (AV.call hb)) (fun w' (hb:Zb w w')=>qqz R.leaf t.queue Aq Al nq cq nf cl w' zo (BN.call hb) (fun b hb=>(AK.queueb b hb).bs) BO.o (AV.call hb));clear hlf hnl hnq hnf hto hb1 hb2;obtain⟨S,HS9⟩:=zS fun w'=>Zb W0 w'
 refine zrs S 8 (zq 0 6 [(6,true),(7,false)]) ((HS9.o _).mpr ((tA5 _ _).drew)) ?_;obtain⟨F0,F1⟩:=zh2 (zF HS9 C5.o) (zF HS9 AL.o);iterate 6 (refine zr2 ?_)
 obtain⟨Wd,hWd⟩:=eqx W0.drew;have bd:Zb W0 Wd:=by rw[hWd];exact(tA5 _ _).drew
 rw[←hWd];have BD:=zh1 bd;clear hWd bd;refine zw ?_;go_simp;refine zcb (I1.o Wd (B0.trans (BD.mono B0.size))) fun w1 b1=>?_
 have B1:=zh1 (BD.trans (b1.mono BD.size));clear b1;refine⟨(HS9.o _).mpr B1.o,zput ?_⟩;iterate 1 (refine zrb ?_)
 refine qbf ?_;clear HS9 F0 F1;obtain⟨Z1,BP,S1⟩:=zh3 (Z0.below B1.o Z0.lt) (AU.call B1.o) B1.size;cases hf1:qml t.leaves R.leaf with
 |some k0=>
  have hk0:k0<nl:=by
   unfold qml at hf1;obtain⟨h,_⟩:=List.findIdx?_eq_some_iff_getElem.1 hf1;have:=AC.o;omega
  have hdo:qmm c s R t=(s,qmk k0):=by unfold qmm;rw[if_neg (by rw[A8.o,AH.o];have:=AG.o;omega),hf1]
  have hb1:=AP.o;have q1:(0:Int)≤k0:=zo;have A0:=zh1 hdo;rw[show idxI (some k0)=(k0:Int) from rfl];clear hf1 hdo;go_wp2_with fail
  exact qr5 A0 HK (A5.o) (qqc k0 w1 zo) (Z1.o) (BP.o)
 |none=>
  rw[show idxI none= -1 from rfl];have AM:=zh1 hf1;clear hf1;go_upto_region 6 with(fail)
  obtain⟨S,HS9⟩:=zS fun w'=>Zb w1 w'
  refine zrs S 8 (zq 0 6 [(6,true),(7,false)]) ((HS9.o _).mpr ((tA5 _ _).drew)) ?_;obtain⟨F0,F1⟩:=zh2 (zF HS9 (qai C6.o B1.o)) (zF HS9 (qai AL.o B1.o));iterate 6 (refine zr2 ?_)
  obtain⟨We,hWe⟩:=eqx w1.drew;have be':Zb w1 We:=by rw[hWe];exact(tA5 _ _).drew
  rw[←hWe];have BE:=zh1 be';clear hWe be';refine zw ?_;go_simp;refine zcb (I2.o We ((B0.trans (B1.mono B0.size)).trans (BE.mono (tB1 B0.size B1.size)))) fun w2 b2=>?_
  have B2:=zh1 (BE.trans (b2.mono BE.size));clear b2;refine⟨(HS9.o _).mpr B2.o,zput ?_⟩;iterate 1 (refine zrb ?_)
  refine qbf ?_;clear HS9 F0 F1;obtain⟨Z2,BQ,AQ⟩:=zh3 (Z1.below B2.o Z1.lt) (BP.call B2.o) (B1.trans (B2.mono B1.size));have c5:=qai C5.o AQ.o;have c6:=qai C6.o AQ.o;obtain⟨C8,C9⟩:=zh2 c5 c6;cases hf2:qml t.queue R.leaf with
  |some k0=>
   have hk0:k0<nq:=by
    unfold qml at hf2;obtain⟨h,_⟩:=List.findIdx?_eq_some_iff_getElem.1 hf2;have:=A7.o;omega
   have hdo:qmm c s R t=(s,qmk (nl+k0)):=by unfold qmm;rw[if_neg (by rw[A8.o,AH.o];have:=AG.o;omega),AM.o,hf2,AC.o]
   have hb1:=AP.o;have q1:(0:Int)≤k0:=zo;have q2:wrap64 ((nl:Int)+k0)=((nl+k0:Nat):Int):=by rw[IntWalk.wrap64_in _ zo];omega
   have A0:=zh1 hdo;rw[show idxI (some k0)=(k0:Int) from rfl];clear hf2 hdo;go_wp2_with fail
   clear c5 c6;rw[show ((nl:Int)+k0)=((nl+k0:Nat):Int) by omega];exact qr5 A0 HK (A5.o) (qqc (nl+k0) w2 zo) (Z2.o) (BQ.o)
  |none=>
   rw[show idxI none= -1 from rfl];have AR:=zh1 hf2;clear hf2 c5 c6;go_upto_region 9 with(fail)
   have hb1:=AP.o;have q1:wrap64 ((nl:Int)+nq)=((nl+nq:Nat):Int):=by rw[IntWalk.wrap64_in _ zo];omega
   have q2:IntKind.i64.wrap ((nl:Int)+nq)=((nl+nq:Nat):Int):=by rw[tBb _ zo];omega
   obtain⟨S,HS9⟩:=zS fun w'=>Zb w2 w'
   refine zrs S 12 (zq 0 12 []) ((HS9.o _).mpr ((tA5 _ _).drew)) ?_;obtain⟨F0,F1⟩:=zh2 (zF HS9 C8.o) (zF HS9 C9.o);iterate 12 (refine zr2 ?_)
   refine qbf ?_;clear HS9 F0 F1 q1 q2;obtain⟨W3,hW3,B3⟩:=zdr w2;rw[←hW3];clear hW3;obtain⟨Z3,AW,AI⟩:=zh3 (Z2.below B3.o Z2.lt) (BQ.call B3.o) (AQ.trans (B3.mono AQ.size));have c6:=qai C6.o AI.o;by_cases hbig:64≤nq∨1024≤nl+nq
   ·
    have hdo:qmm c s R t=(s,rWhy 4):=by
     unfold qmm;rw[if_neg (by rw[A8.o,AH.o];have:=AG.o;omega),AM.o];simp only[];rw[AR.o];simp only[];rw[if_pos (by rw[AC.o,A7.o];exact hbig)]
    have A0:=zh1 hdo;clear hdo;by_cases h64:64≤nq
    · have p1:(64:Int)≤nq:=zo
      clear hbig h64;go_wp2_with fail
      clear c6;exact qr5 A0 HK (A5.o) (qqd 4 W3) (Z3.o) (AW.o)
    have p1:¬(64:Int)≤nq:=zo;have p2:(1024:Int)≤((nl+nq:Nat):Int):=zo;have p3:(1024:Int)≤(nl:Int)+nq:=zo;clear hbig h64;go_wp2_with fail
    clear c6;exact qr5 A0 HK (A5.o) (qqd 4 W3) (Z3.o) (AW.o)
   have p1:¬(64:Int)≤nq:=zo;have p2:¬(1024:Int)≤((nl+nq:Nat):Int):=zo;have p3:¬(1024:Int)≤(nl:Int)+nq:=zo;have AX:=zh1 hbig;clear hbig;have k47:=qai AL.o AI.o;have hll:=BL.o;rw[AD.o]at hll;have q1:IntKind.u64.wrap (nf:Int)=(nf:Int):=tBa _ zo;have q2:IntKind.u64.wrap ((nf:Int)+16)=(nf:Int)+16:=tBa _ zo;go_upto_region 13 with(fail)
   clear c6 k47 q1 q2 p1 p2 p3;obtain⟨m,hm⟩:∃m:Nat,t.tenant=m:=⟨t.tenant.toNat,by have:=AK.tenant;omega⟩;have hm16:m<16:=by have:=AK.tenant;omega
   obtain⟨x,hx⟩:∃x,s.tens[m]? =some x:=⟨_,tA7 (by rw[HS.tensn];exact hm16)⟩;have hxo:=HS.ten hx;have c1:=C1.o;rw[hm]at c1;have e7:=H.c7;obtain⟨C7,C1m⟩:=zh2 e7 c1;have tcell:∀j u,j<6→(tenv x)[j]? =some u→w.cell? ⟨L.tg,m*6+j,none⟩=some u:=fun j u hj hu=>H.st.tens.cell ((qnk hx hj).trans hu)
   obtain⟨T2,T5,HM,HX,BR⟩:=zh5 (tcell 4 (.int .u32 (x.store:Int)) zo rfl) (tcell 5 (.int .u32 (x.used:Int)) zo rfl) hm hx hxo;have hten:s.tenant t.tenant=some x:=by unfold Sta.tenant;rw[hm,if_pos zo,tBe];exact hx
   have AE:=zh1 hten;have qm1:(m:Int)<16:=zo;have qm0:(0:Int)≤m:=zo;clear hm hx hxo c1 e7 tcell hten;obtain⟨S,HS9⟩:=zS fun w'=>Zb W3 w'
   refine zrs S 11 (zq 0 11 []) ((HS9.o _).mpr ((tA5 _ _).drew)) ?_;obtain⟨F0,F1⟩:=zh2 (zF HS9 (qai (qai C7.o B0.o) AI.o)) (zF HS9 (qai C1m.o AI.o));iterate 11 (refine zr2 ?_)
   refine qbf ?_;clear HS9 F0 F1 qm0 qm1;obtain⟨W4,hW4,B4⟩:=zdr W3;rw[←hW4];clear hW4;obtain⟨Z4,BS,AY⟩:=zh3 (Z3.below B4.o Z3.lt) (AW.call B4.o) (AI.trans (B4.mono AI.size));have A6:=zh1 (B0.trans (AY.mono B0.size));go_upto_region 14 with(fail)
   obtain⟨us,hus⟩:=xeq x.used;obtain⟨st,hstt⟩:=xeq x.store;have hub:=BR.used;have hsb:=BR.store;rw[hus]at T5 hub;rw[hstt]at T2 hsb;obtain⟨AZ,AN,CH,CA,B6⟩:=zh5 hus hstt hub hsb (qqq HS.tres 16);have u1:IntKind.u64.wrap (us:Int)=(us:Int):=tBa _ zo;have u2:IntKind.u64.wrap (st:Int)=(st:Int):=tBa _ zo;have u3:IntKind.u64.wrap ((us:Int)+((nf:Int)+16))=(us:Int)+((nf:Int)+16):=tBa _ zo;clear hus hstt;by_cases hful:st<us+(nf+16)
   ·
    have p1:(st:Int)<(us:Int)+((nf:Int)+16):=zo;have hdo:qmm c s R t=(s,rWhy 26):=by
     unfold qmm;rw[if_neg (by rw[A8.o,AH.o];have:=AG.o;omega),AM.o];simp only[];rw[AR.o];simp only[];rw[if_neg (by rw[AC.o,A7.o];exact AX.o),AE.o];simp only[];rw[if_pos (.inl (by rw[AZ.o,AN.o,AD.o];exact hful))]
    have A0:=zh1 hdo;clear hdo hful;obtain⟨S,HS9⟩:=zS fun w'=>Zb W4 w'
    refine zrs S 29 (zq 0 18 ((19,false)::zq 21 6 [(18,true),(20,false),(27,false),(28,false)])) ((HS9.o _).mpr ((tA5 _ _).drew)) ?_;obtain⟨F0,F1⟩:=zh2 (zF HS9 (qai T5.o A6.o)) (zF HS9 (qai T2.o A6.o));iterate 25 (first|refine zsk ?_|refine zr2 ?_)
    refine qr0 rfl rfl ⟨(HS9.o _).mpr (tA5 _ _).drew,?_⟩;refine zP ?_;iterate 3 (first|refine zsk ?_|refine zrb ?_)
    refine qbf ?_;clear HS9 F0 F1;obtain⟨W5,hW5,B5⟩:=zdr W4;rw[←hW5];clear hW5;obtain⟨Z5,B7⟩:=zh2 (Z4.below B5.o Z4.lt) (BS.call B5.o);clear p1 u1 u2 u3;go_wp2_with fail
    exact qr5 A0 HK (A5.o) (qqd 26 W5) (Z5.o) (B7.o)
   have p1:¬(st:Int)<(us:Int)+((nf:Int)+16):=zo;have AO:=zh1 hful;clear hful;obtain⟨S,HS9⟩:=zS fun w'=>Zb W4 w'
   refine zrs S 29 (zq 0 18 ((19,false)::zq 21 6 [(18,true),(20,false),(27,false),(28,false)])) ((HS9.o _).mpr ((tA5 _ _).drew)) ?_;obtain⟨F0,F1,F2⟩:=zh3 (zF HS9 (qai T5.o A6.o)) (zF HS9 (qai T2.o A6.o)) (zF HS9 (qai H.c2 A6.o));have cst:=HC.store;have u4:IntKind.u64.wrap (c.store:Int)=(c.store:Int):=tBa _ zo;iterate 17 (refine zr3 ?_)
   obtain⟨FS,SI⟩:=zh2 (fun(w':World)(h:S w')=>(H.call (A6.trans (((HS9.o w').mp h).mono A6.size))).stRange) (show (Tryz.prog.info? 49).map (·.size)=some 6 by kernel_rfl);refine qo8 rfl rfl 49 (.tmp 105) rfl g 4 rfl _ _ FS.o Tryz.underlying49 rfl SI.o ?_;refine zP ?_;iterate 7 (refine zr3 ?_)
   obtain⟨Wf,hWf,BF⟩:=zdr W4;rw[←hWf];clear hWf;refine zw ?_;go_simp;have HF:=H.call (A6.trans (BF.mono A6.size));refine(qqs s L col k css Wf HS.o HF.st).mono ?_;clear HF;rintro e W5 ⟨rfl,b5⟩;have B5:=zh1 (BF.trans (b5.mono BF.size));clear b5;refine⟨(HS9.o _).mpr B5.o,zput ?_⟩;obtain⟨sd,hsd⟩:=xeq (stored s);have hsdb:=B6.o;rw[qqr s HS.o,hsd]at hsdb;rw[hsd];have u5:IntKind.u64.wrap ((sd:Int)+((nf:Int)+16))=(sd:Int)+((nf:Int)+16):=tBa _ zo;have BT:=zh1 hsd;clear hsd;iterate 3 (refine zrb ?_)
   refine qbf ?_;clear HS9 F0 F1 F2 FS;obtain⟨Z5,B7,AS⟩:=zh3 (Z4.below B5.o Z4.lt) (BS.call B5.o) (A6.trans (B5.mono A6.size));by_cases hful:c.store<sd+(nf+16)
   ·
    have p2:(c.store:Int)<(sd:Int)+((nf:Int)+16):=zo;have hdo:qmm c s R t=(s,rWhy 26):=by
     unfold qmm;rw[if_neg (by rw[A8.o,AH.o];have:=AG.o;omega),AM.o];simp only[];rw[AR.o];simp only[];rw[if_neg (by rw[AC.o,A7.o];exact AX.o),AE.o];simp only[];rw[if_pos (.inr (by rw[BT.o,AD.o];exact hful))]
    have A0:=zh1 hdo;clear hdo hful p1 u1 u2 u3 u4 u5;go_wp2_with fail
    exact qr5 A0 HK (A5.o) (qqd 26 W5) (Z5.o) (B7.o)
   have p2:¬(c.store:Int)<(sd:Int)+((nf:Int)+16):=zo;have B8:=zh1 hful;clear hful u1 u2 u3 u4 u5;have hfit:us+(nf+16)<4294967296:=by have:=AO.o;have:=CA.o;omega
   have H5:=H.call AS.o;have v1:IntKind.u32.wrap ((nf:Int)+16)=(nf:Int)+16:=tBf _ zo;have v2:IntKind.u32.wrap ((us:Int)+((nf:Int)+16))=((us+(nf+16):Nat):Int):=by rw[tBf _ zo];omega
   have t5:=qai T5.o AS.o;have f5:=H5.st.tens.frozen (m*6+5);have M6:=H5.tenOver HK.o HS.o HX.o (j:=5) (cs:=[.int .u32 ((us+(nf+16):Nat):Int)]) (fun x=>{x with used:=us+(nf+16)}) zm (by simp[over,tenv]);rw[show (W5.setCells L.tg (m*6+5) [.int .u32 ((us+(nf+16):Nat):Int)])=W5.setCell ⟨L.tg,m*6+5,none⟩ (.int .u32 ((us+(nf+16):Nat):Int)) from rfl]at M6;have T6:Turns (inP k) w col (W5.setCell ⟨L.tg,m*6+5,none⟩ (.int .u32 ((us+(nf+16):Nat):Int))) col:=(Turns.of_below _ AS.o).trans (Turns.setCell _ (by rw[H5.st.tens.1];unfold inP;simp));have ecast:((us+(nf+16):Nat):Int)=(us:Int)+((nf:Int)+16):=by simp
   rw[ecast]at M6 T6;obtain⟨BU,BV,CB⟩:=zh3 M6 T6 (show L.tg≠w.heap.size+1∧L.tg≠w.heap.size by have:=H.st.tens.lt;omega);clear M6 T6 H5;go_upto_region 17 with(fail)
   clear v1 v2 t5 f5 p1 p2 ecast;obtain⟨W6,hW6⟩:=eqx (W5.setCell ⟨L.tg,m*6+5,none⟩ (.int .u32 ((us:Int)+((nf:Int)+16))));have hSet:Turns (· ==k) W5 col W6 col:=by rw[hW6];exact Turns.setCell _ (by rw[H.st.tens.1];simp)
   have hsz6:W6.heap.size=W5.heap.size:=by rw[hW6];simp
   have z6:Blk W6 (w.heap.size+1) 57 Tryz.zeroCells57:=by rw[hW6];exact Z5.far (Ne.symm CB.o.1) _
   rw[←hW6]at BU BV;try rw[←hW6]
   have colR:col L.rg=k+1:=H.st.tres.1;have colW:col w.heap.size=0:=by
    by_cases e:col w.heap.size=0
    · exact e
    have:=H.fin _ e;omega
   have B9:=AY.trans (B5.mono AY.size);have c6:=qo7 (qai C6.o B9) hSet (by rw[colR];simp);have k47:=qo7 (qai AL.o B9) hSet (by rw[colW];rcases HK.o with rfl|rfl<;>rfl);obtain⟨AT,AB,Z6,BC,CR,CW⟩:=zh6 c6 k47 z6 hsz6 colR colW;clear hW6 hSet z6 c6 k47 B9 hsz6 colR colW;obtain⟨S,HS9⟩:=zS fun w'=>w'.cell? ⟨L.rg,n*75+6,none⟩=some (.slice Aq nq cq)∧w'.cell? ⟨w.heap.size,47,none⟩=some (.slice Al nf cl)
   refine zrs S 12 (zq 0 7 [(7,true),(8,true),(9,true),(10,false),(11,false),(12,true)]) ((HS9.o _).mpr (⟨AT.o,AB.o⟩)) ?_;obtain⟨F0,F1⟩:=zh2 (fun(w':World)(h:S w')=>((HS9.o w').mp h).1) (fun(w':World)(h:S w')=>((HS9.o w').mp h).2);iterate 7 (refine zr2 ?_)
   obtain⟨Wd6,hWd6,A4⟩:=zdr W6;rw[←hWd6];clear hWd6;have ML:=zh1 (BU.call A4.o);have BG:=BV.trans (Turns.of_below (inP k) A4.o);have rlf:Reads Wd6 Wd6.heap.size 1 Al nf (byv R.leaf):=qr2 AV.o (fun h=>HR.leaf0 (by rw[AD.o];exact h)) BG (qr1 HK.o);have BH:=zh1 BG;have CL:=qrc Al nf cl (byv R.leaf) Wd6 rlf zo (qau _);have CC:=zh1 CL;clear CL rlf BG;refine zw ?_;go_simp;refine CC.o.mono ?_;rintro e wA ⟨vA,rfl,oA,bA⟩;have oA':OwnB wA Wd6.heap.size vA R.leaf:=by unfold OwnB;rw[AD.o];exact oA
   obtain⟨AA,nA,cA,rfl,-,-,-⟩:=oA'.sl;obtain⟨col1,hc1,tx1,fin1⟩:=qr9 (w:=Wd6) (col:=col) oA' (tA4 _) bA.size ML.fin;have T1:Turns (fun _=>false) Wd6 col wA col1:=(Turns.of_below _ bA).recolour hc1;obtain⟨CD,CE,BI,BA⟩:=zh4 tx1 fin1 T1 bA;clear tx1 fin1 T1 bA oA oA' hc1;refine⟨(HS9.o _).mpr ⟨qo7 (qai AT.o A4.o) BI.o rfl,qo7 (qai AB.o A4.o) BI.o rfl⟩,zput ?_⟩;refine zw ?_;go_simp;obtain⟨wB,hwB⟩:=eqx (wA.alloc (.cells #[.slice AA nA cA] 23));rw[←hwB];have bB:=zMa hwB;have blB:=zNa hwB;have TB:=BI.trans (Turns.of_below (fun _=>false) bB);obtain⟨BB,BW,A3⟩:=zh3 bB blB TB;clear hwB bB blB TB;refine⟨(HS9.o _).mpr ⟨qo7 (qai AT.o A4.o) A3.o rfl,qo7 (qai AB.o A4.o) A3.o rfl⟩,zput ?_⟩;have MB:=ML.keep A3.o rfl rfl rfl rfl rfl (fun _ _=>rfl) (CE.mono BB.size);have AF:css[n]? =some (trev t (.slice Ad t.draws.length cd) (.slice Al' nl cl') (.slice Aq nq cq)):=by rw[C2.o,AC.o,A7.o]
   obtain⟨vs,hrow,htx⟩:=(MB.rows HT.o AF).2.2;rw[A7.o]at hrow;have hvl:vs.length=t.queue.length:=by have:=hrow.1;have:=A7.o;omega
   obtain⟨i0,hi0,hz0,hz1,hz2⟩:=info_parts Tryz.madd_info;have hr1:Reads wB wB.heap.size 1 (some ⟨wA.heap.size,0,none⟩) 1 [.slice AA nA cA]:=⟨rfl,fun _=>⟨_,rfl,BW.lt,fun j u hu=>by rw[Addr.add_mid,BW.cell (0+j)];simpa using hu⟩⟩;have BX:=CD.keep ((Turns.of_below (col:=col1) (fun _=>false) BB.o).keeps rfl);have colR1:col1 L.rg=k+1:=(A3.same L.rg ML.st.tres.lt).trans CR.o;have hws:w.heap.size<Wd6.heap.size:=by have:=AS.size;have:=BC.o;have:=A4.size;have:=Z0.lt;have:=Z6.lt;omega
   have colW1:col1 w.heap.size=0:=(A3.same w.heap.size hws).trans CW.o;have hn16:n<16:=by have h1:=HT.o;obtain⟨h2,_⟩:=tA8 h1;rw[HS.tresn]at h2;exact h2
   have hx:∀x,s.tens[m]? =some x→x.Ok→({x with used:=us+(nf+16)}:Ten).Ok:=fun x _ h=>⟨h.rate,h.burst,h.tok,h.store,hfit⟩
   have sok:=HS.setX hx;refine zw ?_;refine qnb wB (.tmp 132) (.tmp 136) _ _ rfl col1 (12+3*n) 23 i0 _ 1 24 Tryz.underlying72 hi0 hz0 hz1 hz2 rfl (.slice Aq nq cq) nq vs rfl hrow (.slice (some ⟨wA.heap.size,0,none⟩) 1 1) 1 [.slice AA nA cA] rfl (Src.reads wB Tryz.underlying72 hr1 (by simp[Value.oneCell']) zdc) (by simp only[maxLen];omega) zo ?_;intro v' wC col2 ap;obtain⟨A9,c9,rfl,-,-,-,-⟩:=ap.row.sl;have ap2:AppendedC wB col1 wC col2 (12+3*n) (.slice Aq nq cq) (.slice A9 (nq+1) c9) 23 1 t.queue.length 1 vs [.slice AA nA cA]:=by rw[A7.o];exact ap
   obtain⟨N1,N2,N3⟩:=MB.queueAdd HK.o sok (t:=t) (bs:=R.leaf) HT.o AF hvl htx BX ap2;have hcC:=qo7 (qo7 (qai AT.o A4.o) A3.o rfl) ap.turns (by rw[colR1];have:=HK.o;rcases this with rfl|rfl<;>simp<;>omega);have hkC:=qo7 (qo7 (qai AB.o A4.o) A3.o rfl) ap.turns (by rw[colW1];simp;omega);have hfC:=(MB.st.tres.keep (ap.turns.keeps (k:=k+1) (by have:=HK.o;rcases this with rfl|rfl<;>simp<;>omega))).frozen (n*75+6);have sC:w.heap.size+1<wC.heap.size:=by have:=ap.turns.size;have:=A3.size;have:=A4.size;have:=Z6.lt;omega
   have zC:Blk wC (w.heap.size+1) 57 Tryz.zeroCells57:=by
    have z7:=Z6.below A4.o Z6.lt;have c1:col1 (w.heap.size+1)=0:=(A3.same _ z7.lt).trans A5.o;have z8:Blk wB (w.heap.size+1) 57 Tryz.zeroCells57:=(A3.block _ z7.lt rfl).trans z7;exact(ap.turns.block _ z8.lt (by rw[c1];simp;omega)).trans z8
   have g2:col2 (w.heap.size+1)=0:=by
    have z7:=Z6.below A4.o Z6.lt;exact(ap.turns.same _ (tB0 z7.lt A3.size)).trans ((A3.same _ z7.lt).trans A5.o)
   have T9:=(BH.trans (A3.mono fun i h=>by cases h)).trans N3;have hdo:qmm c s R t=((s.setX m fun x=>{x with used:=us+(nf+16)}).setT n fun t=>{t with queue:=t.queue++[R.leaf]},qmk (nl+nq)):=by
    unfold qmm;rw[if_neg (by rw[A8.o,AH.o];have:=AG.o;omega),AM.o];simp only[];rw[AR.o];simp only[];rw[if_neg (by rw[AC.o,A7.o];exact AX.o),AE.o];simp only[];rw[if_neg (by rw[AZ.o,AN.o,BT.o,AD.o];have:=AO.o;have:=B8.o;omega),HM.o,A8.o,tBe,tBe,AC.o,A7.o];congr 2
    unfold Sta.setX;congr 1
    refine qr6 fun y hy=>?_
    rw[HX.o]at hy;injection hy with hy;subst hy;rw[AZ.o,AD.o,Nat.mod_eq_of_lt hfit]
   have BJ:Did w col (wC.setCell ⟨L.rg,n*75+6,none⟩ (.slice A9 (nq+1) c9)) col2 k g c css s (qmm c s R t).1:=by
    rw[hdo];exact⟨⟨L,_,N1⟩,N2,T9⟩
   rw[hdo]at BJ;obtain⟨A0,BY⟩:=zh2 hdo BJ;have zD:Blk (wC.setCell ⟨L.rg,n*75+6,none⟩ (.slice A9 (nq+1) c9)) (w.heap.size+1) 57 Tryz.zeroCells57:=zC.far (by intro e;have e':w.heap.size+1=L.rg:=e;rw[←e']at colR1;have:=(A3.same _ (Z6.below A4.o Z6.lt).lt).trans A5.o;omega) _;obtain⟨BZ,CF⟩:=zh2 zD g2;have hb1:=AP.o;clear hdo BJ T9 N1 N2 N3 zD zC g2 ap ap2 hi0 hz0 hz1 hz2 hr1 hrow hvl htx BX MB AF hx sok colR1 colW1 hws sC hfit A8 BL;refine⟨fun _=>(HS9.o _).mpr ⟨hcC,hkC⟩,zput ?_⟩;have F0:=zh1 (fun(w':World)(h:S w')=>((HS9.o w').mp h).1);iterate 2 (refine zr1 ?_)
   clear hkC;refine zw ?_;go_simp;refine qbf ?_;clear HS9 F0 hcC hfC;obtain⟨W9,hW9⟩:=eqx (wC.setCell ⟨L.rg,n*75+6,none⟩ (.slice A9 (nq+1) c9));rw[←hW9]at BY BZ ⊢;clear hW9;go_wp2_with fail
   rw[show ((nl:Int)+nq)=((nl+nq:Nat):Int) by omega];exact qr5 A0 HK (CF.o) (qqc (nl+nq) W9 zo) (BZ.o) (BY.o)
theorem Did.cell(h:Mdl w col k g c s L css)(hb:Zb w W){o:Nat}(hc:inP k (col b)=true)(hn:col b<10∧col b≠5)
 (hm:Mdl (W.setCell ⟨b,o,none⟩ v) col k g c s' L css'):Did w col (W.setCell ⟨b,o,none⟩ v) col k g c css s s':=by
 have hT:Turns (· ==col b) W col (W.setCell ⟨b,o,none⟩ v) col:=Turns.setCell v zm;have hT2:Turns (inP k) W col (W.setCell ⟨b,o,none⟩ v) col:=hT.mono fun i hi=>(show i=col b by simpa using hi)▸hc
 exact⟨⟨L,css',hm⟩,(h.call hb).st.trs.keep fun i hi=>hT.keeps (by simp;omega),(Turns.of_below _ hb).trans hT2⟩
theorem qrk(c:Cfg)(s:Sta)(L:Loc)(col:Col)(k g:Nat)(css:List (List Value))(R:Req)(Ac:Option Addr)(cc:Nat)(Al:Option Addr)(cl:Nat)(w:World)(hk:Kind k)(hs:s.Ok)(h:Mdl w col k g c s L css)
 (hr:Asked w col R Ac cc Al cl):
 Zc 139 #[.pointer (some ⟨g,0,none⟩),.agg (reqv R (.slice Ac R.cavs.length cc) (.slice Al R.leaf.length cl)).toArray] w fun e w'=>∃v col',e=.returned v∧RspV w' col' w.heap.size v (qmt s R).2∧Did w col w' col' k g c css s (qmt s R).1:=by
 obtain⟨Q,hQ,rlen,rest,W0,hW0,q0,z0,b0⟩:=qr4 R Ac cc Al cl w hr.good.tag;rw[hQ];have hG0:=h.fin.none (b:=w.heap.size+1) zo;have D0:=Did.same (css:=css) h b0;obtain⟨H,AC,Q0,Z0,B0,A1,AD,HK⟩:=zh8 h hW0 q0 z0 b0 hG0 D0 hk;obtain⟨HS,HR,RL,A4,HQ⟩:=zh5 hs hr rlen rest hQ;clear h hW0 q0 z0 b0 hG0 D0 hk hs hr rlen rest hQ;obtain⟨i,hi⟩:=xeq R.id;have k40:=(Q0.cell 40).trans (show Q.toArray[40]? =some (.int .u32 (i:Int)) by rw[tA3,←hi];exact A4.o 5);have ib:i<4294967296:=by rw[←hi];exact HR.good.id
 obtain⟨ng,hng⟩:=xeq s.gras.length;have gb:ng≤64:=by rw[←hng];exact HS.grasn
 have c9:=H.c9;rw[hng]at c9;obtain⟨A2,C9,HI,A9⟩:=zh4 k40 (qai c9 B0.o) hi hng;clear k40 c9 hi hng;have u1:IntKind.u64.wrap (i:Int)=(i:Int):=tBa _ zo;have u2:IntKind.u64.wrap (ng:Int)=(ng:Int):=tBa _ zo;go_enter Tryz.func139,Tryz.ntmps139
 go_upto_region 1 with(fail)
 rw[←AC.o];obtain⟨S,HS9⟩:=zS fun w'=>Zb W0 w'
 refine zrs S 12 (zq 0 12 []) ((HS9.o _).mpr ((tA5 _ _).drew)) ?_;obtain⟨F0,F1⟩:=zh2 (zF HS9 A2.o) (zF HS9 C9.o);iterate 12 (refine zr2 ?_)
 refine qbf ?_;clear HS9 F0 F1;obtain⟨W1,hW1,B1⟩:=zdr W0;rw[←hW1];clear hW1;obtain⟨Z1,A5⟩:=zh2 (Z0.below B1.o Z0.lt) (AD.call B1.o);by_cases hge:ng≤i
 ·
  have p1:(ng:Int)≤i:=zo;have hdo:qmt s R=(s,rWhy 23):=by
   unfold qmt;rw[HI.o,List.getElem?_eq_none (by rw[A9.o];exact hge)]
  have A0:=zh1 hdo;clear hdo hge u1 u2;go_wp2_with fail
  exact qr5 A0 HK (A1.o) (qqd 23 W1) (Z1.o) (A5.o)
 have p1:¬(ng:Int)≤i:=zo;have plt:i<ng:=zo;have plt2:(i:Int)<ng:=zo;obtain⟨x,hx⟩:∃x,s.gras[i]? =some x:=⟨_,tA7 (by rw[A9.o];exact plt)⟩;have gcell:w.cell? ⟨L.gg,i*4+3,none⟩=some (.bool x.revoked):=H.st.gras.cell ((qnl hx zo).trans rfl);obtain⟨HX,A6⟩:=zh2 hx gcell;clear hge hx gcell;go_upto_region 3 with(fail)
 obtain⟨S,HS9⟩:=zS fun w'=>Zb W1 w'
 refine zrs S 16 (zq 0 16 []) ((HS9.o _).mpr ((tA5 _ _).drew)) ?_;obtain⟨F0,F1,F2⟩:=zh3 (zF HS9 (qai A2.o B1.o)) (zF HS9 (qai C9.o B1.o)) (zF HS9 (qai (qai A6.o B0.o) B1.o));by_cases h0:i=0
 ·
  subst h0;have hdo:qmt s R=(s,rWhy 24):=by
   unfold qmt;rw[HI.o,HX.o];simp
  have A0:=zh1 hdo;clear hdo u1 u2;iterate 14 (first|refine zsk ?_|refine zr1 ?_)
  iterate 2 (refine zrb ?_)
  refine qbf ?_;clear HS9 F0 F1 F2;obtain⟨W2,hW2,B2⟩:=zdr W1;rw[←hW2];clear hW2;obtain⟨Z2,A7⟩:=zh2 (Z1.below B2.o Z1.lt) (A5.call B2.o);go_wp2_with fail
  exact qr5 A0 HK (A1.o) (qqd 24 W2) (Z2.o) (A7.o)
 have qi:((i:Int)==0)=false:=by simp;omega
 have q0:(0:Int)≤i:=zo;obtain⟨rv,hrv⟩:=xeq x.revoked;rw[hrv]at A6 F2;iterate 16 (refine zr3 ?_)
 refine qbf ?_;clear HS9 F0 F1 F2;obtain⟨W2,hW2,B2⟩:=zdr W1;rw[←hW2];clear hW2;obtain⟨Z2,A7⟩:=zh2 (Z1.below B2.o Z1.lt) (A5.call B2.o);cases rv with
 |true=>
  have hdo:qmt s R=(s,rWhy 24):=by
   unfold qmt;rw[HI.o,HX.o];simp[hrv]
  have A0:=zh1 hdo;clear hdo u1 u2;go_wp2_with fail
  exact qr5 A0 HK (A1.o) (qqd 24 W2) (Z2.o) (A7.o)
 |false=>
  have hdo:qmt s R=({s with gras:=s.gras.modify i fun g=>{g with revoked:=true}},qmk i):=by
   unfold qmt;rw[HI.o,HX.o];simp only[];rw[if_neg (by simp[hrv];omega)]
  obtain⟨A0,A8⟩:=zh2 hdo (B0.trans ((B1.trans (B2.mono B1.size)).mono B0.size));clear hdo u1 u2;go_upto_region 5 with(fail)
  have c9:=qai C9.o (B1.trans (B2.mono B1.size));have H2:=H.call A8.o;obtain⟨HF,HC⟩:=zh2 (fun(w':World)(hb:Zb w w')=>(H.call hb).st.gras.frozen (i*4+3)) (fun(w':World)(hb:Zb w w')=>qai A6.o hb);clear H2 c9;obtain⟨S,HS9⟩:=zS fun w'=>Zb W2 w'
  refine zrs S 9 (zq 0 9 [(9,true)]) ((HS9.o _).mpr ((tA5 _ _).drew)) ?_;obtain⟨F0,F1⟩:=zh2 (zF HS9 (qai (qai A2.o B1.o) B2.o)) (zF HS9 (qai (qai C9.o B1.o) B2.o));iterate 9 (refine zr2 ?_)
  clear HS9 F0 F1;obtain⟨W3,hW3,B3⟩:=zdr W2;rw[←hW3];clear hW3;obtain⟨A3,Z3⟩:=zh2 (A8.trans (B3.mono A8.size)) (Z2.below B3.o Z2.lt);have hf:=HF.o _ A3.o;have hc:=HC.o _ A3.o;have M6:=(H.call A3.o).graOver HK.o HX.o (j:=3) (cs:=[.bool true]) (fun x=>{x with revoked:=true}) zm (by simp[over,grav]);rw[show W3.setCells L.gg (i*4+3) [.bool true]=W3.setCell ⟨L.gg,i*4+3,none⟩ (.bool true) from rfl]at M6;have cg:col L.gg=k+2:=H.st.gras.1;have D9:=Did.cell H.o A3.o (by rw[cg];unfold inP;simp) (by rw[cg];have:=HK.o;rcases this with rfl|rfl<;>omega) M6;have zD:Blk (W3.setCell ⟨L.gg,i*4+3,none⟩ (.bool true)) (w.heap.size+1) 57 Tryz.zeroCells57:=Z3.far (by intro e;have e':w.heap.size+1=L.gg:=e;rw[←e']at cg;have:=A1.o;omega) _;have kD:(W3.setCell ⟨L.gg,i*4+3,none⟩ (.bool true)).cell? ⟨w.heap.size,40,none⟩=some (.int .u32 (i:Int)):=
   qo7 (p:=(· ==k+2)) (qai A2.o ((B1.trans (B2.mono B1.size)).trans (B3.mono (tB1 B1.size B2.size)))) (Turns.setCell (col:=col) (.bool true) (by simp[cg])) (by
    by_cases e:col w.heap.size=0
    · rw[e];simp
    have:=H.fin _ e;omega)
  obtain⟨AA,AB⟩:=zh2 D9 zD;clear M6 cg D9 zD;refine zw ?_;go_simp;refine qbf ?_;clear hf hc;obtain⟨W9,hW9⟩:=eqx (W3.setCell ⟨L.gg,i*4+3,none⟩ (.bool true));rw[←hW9]at AA AB kD ⊢;clear hW9;have v1:IntKind.i64.wrap (i:Int)=(i:Int):=tBb _ zo;have v2:wrap64 (i:Int)=(i:Int):=IntWalk.wrap64_in _ zo;go_wp2_with fail
  exact qr5 A0 HK (A1.o) (qqc i W9 zo) (AB.o) (AA.o)
theorem Did.turned(h:Mdl w col k g c s L css)(hb:Zb w W)(hT:Turns (· ==kk) W col W' col')(hc:inP k kk=true)(hn:kk<10∧kk≠5)
 (hm:Mdl W' col' k g c s' L' css'):Did w col W' col' k g c css s s':=by
 have hT2:Turns (inP k) W col W' col':=hT.mono fun i hi=>(show i=kk by simpa using hi)▸hc
 exact⟨⟨L',css',hm⟩,(h.call hb).st.trs.keep fun i hi=>hT.keeps (by simp;omega),(Turns.of_below _ hb).trans hT2⟩
theorem qrl {α:Type}{f g:α→α}:∀(l:List α) (n:Nat),(l.modify n f).modify n g=l.modify n fun x=>g (f x)
 |[],n=>by simp
 |x::l,0=>by simp
 |x::l,n+1=>by simp[qrl l n]
theorem qrm(c:Cfg)(s:Sta)(L:Loc)(col:Col)(k g:Nat)(css:List (List Value))(R:Req)(Ac:Option Addr)(cc:Nat)(Al:Option Addr)(cl:Nat)(w:World)(hk:Kind k)(hs:s.Ok)(h:Mdl w col k g c s L css)
 (hr:Asked w col R Ac cc Al cl):
 Zc 140 #[.pointer (some ⟨g,0,none⟩),.agg (reqv R (.slice Ac R.cavs.length cc) (.slice Al R.leaf.length cl)).toArray] w fun e w'=>∃v col',e=.returned v∧RspV w' col' w.heap.size v (qmu s R).2∧Did w col w' col' k g c css s (qmu s R).1:=by
 obtain⟨Q,hQ,rlen,rest,W0,hW0,q0,z0,b0⟩:=qr4 R Ac cc Al cl w hr.good.tag;rw[hQ];have hG0:=h.fin.none (b:=w.heap.size+1) zo;have D0:=Did.same (css:=css) h b0;obtain⟨H,AC,Q0,Z0,B0,A4,A6,HK⟩:=zh8 h hW0 q0 z0 b0 hG0 D0 hk;obtain⟨HS,HR,RL,A3,HQ⟩:=zh5 hs hr rlen rest hQ;clear h hW0 q0 z0 b0 hG0 D0 hk hs hr rlen rest hQ;obtain⟨n,hn⟩:=xeq R.tenant;obtain⟨rt,hrt⟩:=xeq R.rate;obtain⟨bt,hbt⟩:=xeq R.burst;obtain⟨st,hst⟩:=xeq R.store;have k36:=(Q0.cell 36).trans (show Q.toArray[36]? =some (.int .i64 n) by rw[tA3,←hn];exact A3.o 1);have k43:=(Q0.cell 43).trans (show Q.toArray[43]? =some (.int .u32 (rt:Int)) by rw[tA3,←hrt];exact A3.o 8);have k44:=(Q0.cell 44).trans (show Q.toArray[44]? =some (.int .u32 (bt:Int)) by rw[tA3,←hbt];exact A3.o 9);have k45:=(Q0.cell 45).trans (show Q.toArray[45]? =some (.int .u32 (st:Int)) by rw[tA3,←hst];exact A3.o 10);obtain⟨A5,AD,AE,AF,AI,HN,A7,A8⟩:=zh8 k36 k43 k44 k45 (qqe n c s L col k g css W0 (H.call B0.o)) hn hrt hbt;obtain⟨AJ,AK⟩:=zh2 hst (show st<4294967296 by rw[←hst];exact HR.good.store);rw[AC.o]at k36;clear hn hrt hbt hst k43 k44 k45;go_enter Tryz.func140,Tryz.ntmps140
 go_wp2_with fail
 rw[←AC.o];refine AI.o.mono ?_;rintro e w' ⟨rfl,rfl⟩;clear k36;by_cases h16:0≤n∧n<16
 ·
  rw[if_pos h16];obtain⟨m,rfl⟩:∃m:Nat,n=m:=⟨n.toNat,by omega⟩;rw[tBe];have k43:=AD.o;have k44:=AE.o;obtain⟨x,hx⟩:∃x,s.tens[m]? =some x:=⟨_,tA7 (by rw[HS.tensn];omega)⟩;have hten:s.tenant R.tenant=some x:=by unfold Sta.tenant;rw[HN.o,if_pos zo,tBe];exact hx
  obtain⟨HX,A0⟩:=zh2 hx hten;clear hx hten;go_wp2_with fail
  clear k43 k44;by_cases hq:rt≤1048576∧bt≤1048576
  ·
   refine zcb (qq2 (rt:Int) (bt:Int) _ zo zo) fun w1 b1=>?_
   have B1:=zh1 b1;clear b1;go_upto_region 3 with(fail)
   obtain⟨W2,hW2⟩:=eqx (w1.alloc (.cells #[.int .u32 (rt:Int),.int .u32 (bt:Int),.int .u32 (bt:Int)] 90));rw[←hW2];have q2:=zNa hW2;have b2:Zb W0 W2:=by rw[hW2];exact qah B1.o _
   obtain⟨Z2,A2,Q2,B2⟩:=zh4 (Z0.below b2 Z0.lt) (A6.call b2) q2 b2;clear hW2 q2 b2;have k36:=qai A5.o B2.o;by_cases h0:m=0
   ·
    subst h0;have hdo:qmu s R=(s,rWhy 24):=by
     unfold qmu;rw[A0.o];simp only[];rw[if_neg (by rw[A7.o,A8.o];omega),if_pos (by rw[HN.o];rfl)]
    have A1:=zh1 hdo;clear hdo;go_wp2_with fail
    exact qr5 A1 HK (A4.o) (qqd 24 W2) (Z2.o) (A2.o)
   have qm:((m:Int)==0)=false:=by simp;omega
   have hdo:qmu s R=(s.setX m fun x=>{x with on:=true,rate:=rt,burst:=bt,tok:=bt,store:=st},qmk m):=by
    unfold qmu;rw[A0.o];simp only[];rw[if_neg (by rw[A7.o,A8.o];omega),if_neg (by rw[HN.o];omega),HN.o,A7.o,A8.o,AJ.o,tBe]
   obtain⟨A1,AG,AH⟩:=zh3 hdo hq h16;clear hdo hq h16;go_upto_region 7 with(fail)
   clear k36;have cT:col L.tg=k:=H.st.tens.1;have HB:=zh1 (B0.trans (B2.mono B0.size));have cW:col w.heap.size=0:=by
    by_cases e:col w.heap.size=0
    · exact e
    have:=H.fin _ e;omega
   have sQ:w.heap.size<w1.heap.size:=by have:=B1.size;have:=Z0.lt;omega
   have cQ:col w1.heap.size=0:=by
    by_cases e:col w1.heap.size=0
    · exact e
    have:=H.fin _ e;omega
   have k0:k≠0:=by have:=HK.o;rcases this with rfl|rfl<;>omega
   obtain⟨CT,CW,CQ,K0⟩:=zh4 cT cW cQ k0;clear cT cW sQ cQ k0;obtain⟨S,HS9⟩:=zS fun w'=>Turns (· ==k) W2 col w' col
   refine zrs S 14 (zq 0 8 [(8,true),(9,false),(10,false),(11,true),(12,false),(13,false),(14,true)]) ((HS9.o _).mpr (Turns.of_below _ (tA5 _ _).drew)) ?_;obtain⟨F0,FQ⟩:=zh2 (fun(w':World)(h:S w')=>qo7 (qai AF.o B2.o) ((HS9.o w').mp h) (by rw[CW.o];have:=K0.o;simp;omega)) (fun(w':World)(h:S w')=>qap (l:=[.int .u32 (rt:Int),.int .u32 (bt:Int),.int .u32 (bt:Int)]) ((((HS9.o w').mp h).block _ Q2.lt (by rw[CQ.o];have:=K0.o;simp;omega)).trans Q2.o) 0 _ zjq);iterate 3 (refine zr1 ?_)
   have HI:=zh1 (show (Tryz.prog.info? 90).map (·.size)=some 3 by kernel_rfl);refine qo8 rfl rfl 90 (.tmp 7) rfl w1.heap.size 0 rfl _ _ FQ.o Tryz.underlying90 rfl HI.o ?_;refine zP ?_;iterate 4 (refine zr1 ?_)
   clear F0 FQ;obtain⟨W3,hW3,B3⟩:=zdr W2;rw[←hW3];clear hW3;have AL:=zh1 (HB.trans (B3.mono HB.size));have M3:=H.call AL.o;have M4:=M3.tenOver HK.o HS.o HX.o (j:=0) (cs:=[.bool true]) (fun x=>{x with on:=true}) zm (by simp[over,tenv]);have f0:=M3.st.tens.frozen (m*6);have c0:W3.cell? ⟨L.tg,m*6,none⟩=some (.bool x.on):=M3.st.tens.cell ((qnk HX.o (by omega:(0:Nat)<6)).trans rfl);rw[show W3.setCells L.tg (m*6+0) [.bool true]=W3.setCell ⟨L.tg,m*6,none⟩ (.bool true) from rfl]at M4;have T4:Turns (· ==k) W3 col (W3.setCell ⟨L.tg,m*6,none⟩ (.bool true)) col:=Turns.setCell _ (by simp[CT.o]);have AA:=(Turns.of_below (col:=col) (· ==k) B3.o).trans T4;have ok4:(s.setX m fun x=>{x with on:=true}).Ok:=HS.setX fun x _ h=>⟨h.rate,h.burst,h.tok,h.store,h.used⟩
   have x4:(s.setX m fun x=>{x with on:=true}).tens[m]? =some {x with on:=true}:=qo5 _ HX.o;refine zw ?_;go_simp;clear f0 c0;obtain⟨W4,hW4⟩:=eqx (W3.setCell ⟨L.tg,m*6,none⟩ (.bool true));rw[←hW4]at M4 AA ⊢;clear hW4 T4 M3;refine⟨(HS9.o _).mpr AA,zput ?_⟩;iterate 2 (refine zre rfl rfl (fun w1 hS=>by clear hS;go_simp;try rfl) ?_)
   have hth:=M4.st.tens.there (o:=m*6+1) (m:=3) (by rw[qnm,ok4.tensn];have:=AH.o;omega);have M5:=M4.tenOver HK.o ok4 x4 (j:=1) (cs:=[.int .u32 (rt:Int),.int .u32 (bt:Int),.int .u32 (bt:Int)]) (fun x=>{x with rate:=rt,burst:=bt,tok:=bt}) zm (by simp[over,tenv]);have T5:Turns (· ==k) W4 col (W4.setCells L.tg (m*6+1) [.int .u32 (rt:Int),.int .u32 (bt:Int),.int .u32 (bt:Int)]) col:=Turns.setCells _ (by simp[CT.o]);have AB:=AA.trans T5;have ok5:((s.setX m fun x=>{x with on:=true}).setX m fun x=>{x with rate:=rt,burst:=bt,tok:=bt}).Ok:=ok4.setX fun x _ h=>⟨AG.o.1,AG.o.2,tA4 _,h.store,h.used⟩
   have x5:((s.setX m fun x=>{x with on:=true}).setX m fun x=>{x with rate:=rt,burst:=bt,tok:=bt}).tens[m]? =some {x with on:=true,rate:=rt,burst:=bt,tok:=bt}:=qo5 _ x4;refine zw ?_;refine wp_store_mid 90 (.tmp 46) (.tmp 40) rfl L.tg (m*6+1) [.int .u32 (rt:Int),.int .u32 (bt:Int),.int .u32 (bt:Int)].toArray rfl rfl hth zk (by simp[Value.oneCell']) ?_;obtain⟨W5,hW5⟩:=eqx (W4.setCells L.tg (m*6+1) [.int .u32 (rt:Int),.int .u32 (bt:Int),.int .u32 (bt:Int)]);rw[←hW5]at M5 AB ⊢;clear hW5 T5 hth M4 AA;refine⟨fun _=>(HS9.o _).mpr AB,zput ?_⟩;have F0:=zh1 (fun(w':World)(h:S w')=>qo7 (qai AF.o B2.o) ((HS9.o w').mp h) (by rw[CW.o];have:=K0.o;simp;omega));iterate 2 (refine zr1 ?_)
   have f5:=M5.st.tens.frozen (m*6+4);have c5:W5.cell? ⟨L.tg,m*6+4,none⟩=some (.int .u32 (x.store:Int)):=M5.st.tens.cell ((qnk x5 (by omega:(4:Nat)<6)).trans rfl);have M6:=M5.tenOver HK.o ok5 x5 (j:=4) (cs:=[.int .u32 (st:Int)]) (fun x=>{x with store:=st}) zm (by simp[over,tenv]);rw[show W5.setCells L.tg (m*6+4) [.int .u32 (st:Int)]=W5.setCell ⟨L.tg,m*6+4,none⟩ (.int .u32 (st:Int)) from rfl]at M6;have T6:Turns (· ==k) W5 col (W5.setCell ⟨L.tg,m*6+4,none⟩ (.int .u32 (st:Int))) col:=Turns.setCell _ (by simp[CT.o]);have A9:=AB.trans T6;refine zw ?_;go_simp;refine qbf ?_;clear f5 c5 F0;obtain⟨W6,hW6⟩:=eqx (W5.setCell ⟨L.tg,m*6+4,none⟩ (.int .u32 (st:Int)));rw[←hW6]at M6 A9 ⊢;clear hW6 T6 M5 AB HS9;have est:(((s.setX m fun x=>{x with on:=true}).setX m fun x=>{x with rate:=rt,burst:=bt,tok:=bt}).setX m fun x=>{x with store:=st})=(s.setX m fun x=>{x with on:=true,rate:=rt,burst:=bt,tok:=bt,store:=st}):=by
    unfold Sta.setX;simp only[qrl]
   rw[est]at M6;have D9:=Did.turned H.o HB.o A9 (by unfold inP;simp) (by have:=HK.o;rcases this with rfl|rfl<;>omega) M6;have z6:Blk W6 (w.heap.size+1) 57 Tryz.zeroCells57:=(A9.block _ Z2.lt (by rw[A4.o];have:=K0.o;simp;omega)).trans Z2.o;have k36:=qo7 (qai A5.o B2.o) A9 (by rw[CW.o];have:=K0.o;simp;omega);obtain⟨AM,AN⟩:=zh2 D9 z6;clear M6 A9 est D9 z6 ok4 x4 ok5 x5;have hm16:m<16:=by have:=AH.o;omega
   go_wp2_with fail
   exact qr5 A1 HK (A4.o) (qqc m W6 zo) (AN.o) (AM.o)
  by_cases hq1:1048576<rt
  ·
   refine zcb (qq3 (rt:Int) (bt:Int) _ (.inl zo)) fun w1 b1=>?_
   have B1:=zh1 b1;clear b1;go_upto_region 3 with(fail)
   obtain⟨W2,hW2⟩:=eqx (w1.alloc (.cells #[.int .u32 0,.int .u32 0,.int .u32 0] 90));rw[←hW2];have q2:=zNa hW2;have b2:Zb W0 W2:=by rw[hW2];exact qah B1.o _
   obtain⟨Z2,A2,Q2,B2⟩:=zh4 (Z0.below b2 Z0.lt) (A6.call b2) q2 b2;clear hW2 q2 b2;have k36:=qai A5.o B2.o;have hdo:qmu s R=(s,rWhy 25):=by
    unfold qmu;rw[A0.o];simp only[];rw[if_pos (by rw[A7.o,A8.o];omega)]
   have A1:=zh1 hdo;clear hdo;go_wp2_with fail
   exact qr5 A1 HK (A4.o) (qqd 25 W2) (Z2.o) (A2.o)
  refine zcb (qq3 (rt:Int) (bt:Int) _ (.inr zo)) fun w1 b1=>?_
  have B1:=zh1 b1;clear b1;go_upto_region 3 with(fail)
  obtain⟨W2,hW2⟩:=eqx (w1.alloc (.cells #[.int .u32 0,.int .u32 0,.int .u32 0] 90));rw[←hW2];have q2:=zNa hW2;have b2:Zb W0 W2:=by rw[hW2];exact qah B1.o _
  obtain⟨Z2,A2,Q2,B2⟩:=zh4 (Z0.below b2 Z0.lt) (A6.call b2) q2 b2;clear hW2 q2 b2;have k36:=qai A5.o B2.o;have hdo:qmu s R=(s,rWhy 25):=by
   unfold qmu;rw[A0.o];simp only[];rw[if_pos (by rw[A7.o,A8.o];omega)]
  have A1:=zh1 hdo;clear hdo;go_wp2_with fail
  exact qr5 A1 HK (A4.o) (qqd 25 W2) (Z2.o) (A2.o)
 rw[if_neg h16];have k43:=AD.o;have k44:=AE.o;have hten:s.tenant R.tenant=none:=by
  unfold Sta.tenant;rw[HN.o];by_cases h0:0≤n
  · rw[if_pos h0]
    exact List.getElem?_eq_none (by rw[HS.tensn];omega)
  rw[if_neg h0]
 have A0:=zh1 hten;clear hten;go_wp2_with fail
 clear k43 k44;by_cases hq:rt≤1048576∧bt≤1048576
 ·
  refine zcb (qq2 (rt:Int) (bt:Int) _ zo zo) fun w1 b1=>?_
  have B1:=zh1 b1;clear b1;go_upto_region 3 with(fail)
  obtain⟨W2,hW2⟩:=eqx (w1.alloc (.cells #[.int .u32 (rt:Int),.int .u32 (bt:Int),.int .u32 (bt:Int)] 90));rw[←hW2];have q2:=zNa hW2;have b2:Zb W0 W2:=by rw[hW2];exact qah B1.o _
  obtain⟨Z2,A2,Q2,B2⟩:=zh4 (Z0.below b2 Z0.lt) (A6.call b2) q2 b2;clear hW2 q2 b2;have k36:=qai A5.o B2.o;have hdo:qmu s R=(s,rWhy 25):=by
   unfold qmu;rw[A0.o]
  have A1:=zh1 hdo;clear hdo;go_wp2_with fail
  exact qr5 A1 HK (A4.o) (qqd 25 W2) (Z2.o) (A2.o)
 by_cases hq1:1048576<rt
 ·
  refine zcb (qq3 (rt:Int) (bt:Int) _ (.inl zo)) fun w1 b1=>?_
  have B1:=zh1 b1;clear b1;go_upto_region 3 with(fail)
  obtain⟨W2,hW2⟩:=eqx (w1.alloc (.cells #[.int .u32 0,.int .u32 0,.int .u32 0] 90));rw[←hW2];have q2:=zNa hW2;have b2:Zb W0 W2:=by rw[hW2];exact qah B1.o _
  obtain⟨Z2,A2,Q2,B2⟩:=zh4 (Z0.below b2 Z0.lt) (A6.call b2) q2 b2;clear hW2 q2 b2;have k36:=qai A5.o B2.o;have hdo:qmu s R=(s,rWhy 25):=by
   unfold qmu;rw[A0.o]
  have A1:=zh1 hdo;clear hdo;go_wp2_with fail
  exact qr5 A1 HK (A4.o) (qqd 25 W2) (Z2.o) (A2.o)
 refine zcb (qq3 (rt:Int) (bt:Int) _ (.inr zo)) fun w1 b1=>?_
 have B1:=zh1 b1;clear b1;go_upto_region 3 with(fail)
 obtain⟨W2,hW2⟩:=eqx (w1.alloc (.cells #[.int .u32 0,.int .u32 0,.int .u32 0] 90));rw[←hW2];have q2:=zNa hW2;have b2:Zb W0 W2:=by rw[hW2];exact qah B1.o _
 obtain⟨Z2,A2,Q2,B2⟩:=zh4 (Z0.below b2 Z0.lt) (A6.call b2) q2 b2;clear hW2 q2 b2;have k36:=qai A5.o B2.o;have hdo:qmu s R=(s,rWhy 25):=by
  unfold qmu;rw[A0.o]
 have A1:=zh1 hdo;clear hdo;go_wp2_with fail
 exact qr5 A1 HK (A4.o) (qqd 25 W2) (Z2.o) (A2.o)
theorem qrt (w:Nat)(hw:w≤32):∀(m:Nat) (l:List (List Nat)) (i:Nat),l.length≤m→(qft w l i).length≤l.length∧∀d∈qft w l i,d.length=32∧∀x∈d,x<256
 |0,l,i,h=>by rw[qfu w i zo];exact⟨by simp,fun d hd=>(nomatch hd)⟩
 |m+1,l,i,h=>by
  by_cases h1:l.length≤1
  · rw[qfu w i h1];exact⟨by simp,fun d hd=>(nomatch hd)⟩
  obtain⟨a,b,c⟩:=qfo (n:=l.length) zo;have l1:(l.take (half l.length)).length=half l.length:=by rw[tBd];omega
  have l2:(l.drop (half l.length)).length=l.length - half l.length:=tBk;by_cases hi:i<half l.length
  · obtain⟨h2,h3⟩:=qrt w hw m (l.take (half l.length)) i zo
    rw[qfv w zo hi];refine⟨by rw[tA6,List.length_singleton];omega,fun d hd=>?_⟩;rcases List.mem_append.1 hd with hd|hd
    · exact h3 d hd
    rw[List.mem_singleton.1 hd];exact qo3 w hw _
  obtain⟨h2,h3⟩:=qrt w hw m (l.drop (half l.length)) (i - half l.length) zo;rw[qfw w zo hi];refine⟨by rw[tA6,List.length_singleton];omega,fun d hd=>?_⟩;rcases List.mem_append.1 hd with hd|hd
  · exact h3 d hd
  rw[List.mem_singleton.1 hd];exact qo3 w hw _
theorem qru (w:Nat)(hw:w≤32):∀(k:Nat) (l:List (List Nat)) (m:Nat) (b:Bool),l.length≤k→(subH w l m b).length≤l.length+1∧∀d∈subH w l m b,d.length=32∧∀x∈d,x<256
 |0,l,m,b,h=>by
  rw[subH,dif_pos (.inl zo)];cases b
  · exact⟨by simp,fun d hd=>by rw[List.mem_singleton.1 hd];exact qo3 w hw _⟩
  exact⟨by simp,fun d hd=>(nomatch hd)⟩
 |k+1,l,m,b,h=>by
  by_cases h1:l.length≤1∨m=l.length
  · rw[subH,dif_pos h1]
    cases b
    · exact⟨by simp,fun d hd=>by rw[List.mem_singleton.1 hd];exact qo3 w hw _⟩
    exact⟨by simp,fun d hd=>(nomatch hd)⟩
  obtain⟨x,y,z⟩:=qfo (n:=l.length) zo;have l1:(l.take (half l.length)).length=half l.length:=by rw[tBd];omega
  have l2:(l.drop (half l.length)).length=l.length - half l.length:=tBk;by_cases hi:m≤half l.length
  · obtain⟨h2,h3⟩:=qru w hw k (l.take (half l.length)) m b zo
    rw[qfy w b zo zo hi];refine⟨by rw[tA6,List.length_singleton];omega,fun d hd=>?_⟩;rcases List.mem_append.1 hd with hd|hd
    · exact h3 d hd
    rw[List.mem_singleton.1 hd];exact qo3 w hw _
  obtain⟨h2,h3⟩:=qru w hw k (l.drop (half l.length)) (m - half l.length) false zo;rw[qfz w b zo zo hi];refine⟨by rw[tA6,List.length_singleton];omega,fun d hd=>?_⟩;rcases List.mem_append.1 hd with hd|hd
  · exact h3 d hd
  rw[List.mem_singleton.1 hd];exact qo3 w hw _
theorem qrv(W:Int)(pw pf:Nat):∀(m:Nat) (ls:List (List Nat)) (i g o n c:Nat) (w:World),ls.length≤m→1≤n→i<n→TextsR w (some ⟨g,o,none⟩) n ls→n≤c→c≤maxLen→n≤1048576→(∀b∈ls,BsOk b)→
 w.cell? ⟨pw,0,none⟩=some (.int .i64 W)→w.cell? ⟨pf,0,none⟩=some (.func (.func 226) #[] #[.pointer (some ⟨pf,0,none⟩),.pointer (some ⟨pw,0,none⟩)])→Tabs w→
 Zc 226 #[.slice (some ⟨g,o,none⟩) n c,.int .i64 (i:Int),.pointer (some ⟨pf,0,none⟩),.pointer (some ⟨pw,0,none⟩)] w fun e w'=>∃v,e=.returned v∧OwnD w' w.heap.size v (qft (cutW W) ls i)∧Zb w w':=by
 intro m;induction m with
 |zero=>
  intro ls i g o n c w hm h1 hi ht;have:=ht.1;omega
 |succ m ih=>
  intro ls i g o n c w hm h1 hi ht hnc hcm hn hok hpw hpf hT;have hlen:=ht.1;have AA:=zh1 ih;clear ih;obtain⟨A3,A0,A5,A6,A7,A2,HL,HM⟩:=zh8 ht hT hpw hpf hok hcm hlen hm;clear hok hcm hlen hm ht hpw hpf hT;by_cases hn1:n=1
  · subst hn1
    have hp:qft (cutW W) ls i=[]:=qfu _ _ (by rw[HL.o];omega);go_enter Tryz.func226,Tryz.ntmps226
    go_wp2
    go_ret
    exact⟨_,rfl,by rw[hp];exact OwnD.nil _ _,tA5 _ _⟩
  have qn:¬(n:Int)=1:=zo;obtain⟨hk1,hk2,hk3⟩:=qfo (n:=n) zo;have Hhalf:=zh1 (qpb n w zo zo);obtain⟨k,hk⟩:=xeq (half n);rw[hk]at hk1 hk2 hk3 Hhalf;have lt1:(ls.take k).length=k:=by rw[tBd,HL.o];omega
  have lt2:(ls.drop k).length=n - k:=by rw[tBk,HL.o]
  have hcc:=A2.o;unfold maxLen at hcc;have q1:(0:Int)≤k:=zo;have q2:(k:Int)≤n:=zo;have q3:(k:Int)≤c:=zo;have q4:¬c=k:=zo;have R1:∀w1,Zb w w1→Zc 174 #[.int .i64 W,.slice (some ⟨g,o,none⟩) k c] w1 fun e w'=>e=.returned (.agg (byv (qfp (cutW W) (ls.take k))).toArray)∧Zb w1 w':=fun w1 b1=>
   qpg W (ls.take k) _ k c w1 ((A3.take zo).call b1) zo A2.o zo (fun b hb=>A7.o b (tB7 hb)) (A0.below b1 A0.size)
  have R2:∀w1,Zb w w1→Zc 174 #[.int .i64 W,.slice (some ⟨g,o+k,none⟩) (n - k) (c - k)] w1 fun e w'=>e=.returned (.agg (byv (qfp (cutW W) (ls.drop k))).toArray)∧Zb w1 w':=fun w1 b1=>
   qpg W (ls.drop k) _ (n - k) (c - k) w1 ((A3.drop hk2).call b1) zo (by have:=A2.o;omega) zo (fun b hb=>A7.o b (List.mem_of_mem_drop hb)) (A0.below b1 A0.size)
  by_cases hik:i<k
  ·
   have hp:qft (cutW W) ls i=qft (cutW W) (ls.take k) i++[qfp (cutW W) (ls.drop k)]:=by
    have:=qfv (cutW W) (l:=ls) (i:=i) (by rw[HL.o];omega) (by rw[HL.o,hk];exact hik);rwa[HL.o,hk]at this
   have C1:∀w1,Zb w w1→Zc 226 #[.slice (some ⟨g,o,none⟩) k c,.int .i64 (i:Int),.pointer (some ⟨pf,0,none⟩),.pointer (some ⟨pw,0,none⟩)] w1 fun e w'=>∃v,e=.returned v∧OwnD w' w1.heap.size v (qft (cutW W) (ls.take k) i)∧Zb w1 w':=fun w1 b1=>
    AA.o (ls.take k) i g o k c w1 (by rw[lt1];have:=HM.o;have:=HL.o;omega) hk1 hik ((A3.take zo).call b1) zo A2.o zo (fun b hb=>A7.o b (tB7 hb)) (qai A5.o b1) (qai A6.o b1) (A0.below b1 A0.size)
   have hpl:=(qrt (cutW W) (qfl W).2 _ (ls.take k) i (tA4 _)).1;rw[lt1]at hpl;obtain⟨A8,A9,AB,HP⟩:=zh4 hpl C1 R2 hp;have qi:(i:Int)<k:=zo;clear C1 R1 R2 hp lt1 lt2 hk hcc hpl;go_enter Tryz.func226,Tryz.ntmps226
   go_wp2_with fail
   refine Hhalf.o.mono ?_;rintro e w' ⟨rfl,rfl⟩;go_upto_region 5 with(fail)
   obtain⟨S,HS⟩:=zS fun w'=>Zb w w'
   refine zrs S 14 (zq 0 5 (zq 6 4 [(5,true),(10,true),(11,true),(12,true),(13,false)])) ((HS.o _).mpr (tA5 _ _).drew) ?_;obtain⟨F0,F1⟩:=zh2 (zF HS A5.o) (zF HS A6.o);iterate 9 (refine zr2 ?_)
   obtain⟨Wd,hWd,bd⟩:=zdr w;rw[←hWd];clear hWd;refine zw ?_;go_simp;refine(A9.o Wd bd).mono ?_;rintro e w1 ⟨v1,rfl,o1,b1⟩;have b1':=bd.trans (b1.mono bd.size);obtain⟨A1,n1,c1,rfl,-,-,-,-⟩:=o1.sl;refine⟨(HS.o _).mpr b1',zput ?_⟩;refine zw ?_;go_simp;refine zcb (AB.o w1 b1') fun w2 b2=>?_
   have b2':=b1'.trans (b2.mono b1'.size);have o2:=o1.kept b2;refine⟨(HS.o _).mpr b2',zput ?_⟩;refine zw ?_;refine qrp (.tmp 27) rfl (qfp (cutW W) (ls.drop k)) (qo3 _ (qfl W).2 _).1 rfl ?_;have o3:=o2.alloc (.cells (byv (qfp (cutW W) (ls.drop k))).toArray 29);have b3':Zb w (w2.alloc (.cells (byv (qfp (cutW W) (ls.drop k))).toArray 29)):=b2'.alloc b2'.size _;refine⟨fun _=>(HS.o _).mpr b3',zput ?_⟩;refine zw ?_;refine qpu (.tmp 22) (.tmp 28) rfl Wd.heap.size _ _ rfl o3 _ 1 1 [qfp (cutW W) (ls.drop k)] rfl rfl (fun d hd=>by rw[List.mem_singleton.1 hd];exact(qo3 _ (qfl W).2 _).1) (qrr w2 _ (qo3 _ (qfl W).2 _).1) (by have:=A8.o;omega) (by rw[qar];have:=b1.size;have:=b2.size;omega) ?_;intro v4 w4 o4 b4 _;have b4':Zb w w4:=b3'.trans (b4.mono bd.size);obtain⟨A4,n4,c4,rfl,-,-,-,-⟩:=o4.sl;obtain⟨O4,B4⟩:=zh2 (show OwnD w4 w.heap.size _ _ from⟨o4.1,qdb o4.2 bd.size⟩) b4';refine⟨fun _=>(HS.o _).mpr b4',zput ?_⟩;clear o1 o2 o3 o4 b1 b1' b2 b2' b3' b4 b4' bd;iterate 1 (refine zrb ?_)
   refine qbf ?_;go_wp2
   go_ret
   exact⟨_,rfl,by rw[HP.o];exact O4.o,B4.o⟩
  have hp:qft (cutW W) ls i=qft (cutW W) (ls.drop k) (i - k)++[qfp (cutW W) (ls.take k)]:=by
   have:=qfw (cutW W) (l:=ls) (i:=i) (by rw[HL.o];omega) (by rw[HL.o,hk];exact hik);rwa[HL.o,hk]at this
  have C1:∀w1,Zb w w1→Zc 226 #[.slice (some ⟨g,o+k,none⟩) (n - k) (c - k),.int .i64 ((i - k:Nat):Int),.pointer (some ⟨pf,0,none⟩),.pointer (some ⟨pw,0,none⟩)] w1 fun e w'=>∃v,e=.returned v∧OwnD w' w1.heap.size v (qft (cutW W) (ls.drop k) (i - k))∧Zb w1 w':=fun w1 b1=>
   AA.o (ls.drop k) (i - k) g (o+k) (n - k) (c - k) w1 (by rw[lt2];have:=HM.o;have:=HL.o;omega) zo zo ((A3.drop hk2).call b1) zo (by have:=A2.o;omega) zo (fun b hb=>A7.o b (List.mem_of_mem_drop hb)) (qai A5.o b1) (qai A6.o b1) (A0.below b1 A0.size)
  have hpl:=(qrt (cutW W) (qfl W).2 _ (ls.drop k) (i - k) (tA4 _)).1;rw[lt2]at hpl;obtain⟨A8,A9,AC,HP⟩:=zh4 hpl C1 R1 hp;have qi:¬(i:Int)<k:=zo;have qs:wrap64 ((i:Int) - k)=((i - k:Nat):Int):=by rw[IntWalk.wrap64_in _ zo];omega
  have qt:IntKind.i64.wrap ((i:Int) - k)=((i - k:Nat):Int):=by rw[tBb _ zo];omega
  clear C1 R1 R2 hp lt1 lt2 hk hcc hpl;go_enter Tryz.func226,Tryz.ntmps226
  go_wp2_with fail
  refine Hhalf.o.mono ?_;rintro e w' ⟨rfl,rfl⟩;go_upto_region 6 with(fail)
  obtain⟨S,HS⟩:=zS fun w'=>Zb w w'
  refine zrs S 16 (zq 0 7 (zq 8 4 [(7,true),(12,true),(13,true),(14,true),(15,false)])) ((HS.o _).mpr (tA5 _ _).drew) ?_;obtain⟨F0,F1⟩:=zh2 (zF HS A5.o) (zF HS A6.o);iterate 11 (refine zr2 ?_)
  obtain⟨Wd,hWd,bd⟩:=zdr w;rw[←hWd];clear hWd;refine zw ?_;go_simp;refine(A9.o Wd bd).mono ?_;rintro e w1 ⟨v1,rfl,o1,b1⟩;have b1':=bd.trans (b1.mono bd.size);obtain⟨A1,n1,c1,rfl,-,-,-,-⟩:=o1.sl;refine⟨(HS.o _).mpr b1',zput ?_⟩;refine zw ?_;go_simp;refine zcb (AC.o w1 b1') fun w2 b2=>?_
  have b2':=b1'.trans (b2.mono b1'.size);have o2:=o1.kept b2;refine⟨(HS.o _).mpr b2',zput ?_⟩;refine zw ?_;refine qrp (.tmp 42) rfl (qfp (cutW W) (ls.take k)) (qo3 _ (qfl W).2 _).1 rfl ?_;have o3:=o2.alloc (.cells (byv (qfp (cutW W) (ls.take k))).toArray 29);have b3':Zb w (w2.alloc (.cells (byv (qfp (cutW W) (ls.take k))).toArray 29)):=b2'.alloc b2'.size _;refine⟨fun _=>(HS.o _).mpr b3',zput ?_⟩;refine zw ?_;refine qpu (.tmp 37) (.tmp 43) rfl Wd.heap.size _ _ rfl o3 _ 1 1 [qfp (cutW W) (ls.take k)] rfl rfl (fun d hd=>by rw[List.mem_singleton.1 hd];exact(qo3 _ (qfl W).2 _).1) (qrr w2 _ (qo3 _ (qfl W).2 _).1) (by have:=A8.o;omega) (by rw[qar];have:=b1.size;have:=b2.size;omega) ?_;intro v4 w4 o4 b4 _;have b4':Zb w w4:=b3'.trans (b4.mono bd.size);obtain⟨A4,n4,c4,rfl,-,-,-,-⟩:=o4.sl;obtain⟨O4,B4⟩:=zh2 (show OwnD w4 w.heap.size _ _ from⟨o4.1,qdb o4.2 bd.size⟩) b4';refine⟨fun _=>(HS.o _).mpr b4',zput ?_⟩;clear o1 o2 o3 o4 b1 b1' b2 b2' b3' b4 b4' bd;iterate 1 (refine zrb ?_)
  refine qbf ?_;go_wp2
  go_ret
  exact⟨_,rfl,by rw[HP.o];exact O4.o,B4.o⟩
theorem OwnD.made1(w:World)(d:List Nat)(hd:d.length=32):OwnD (w.alloc (.cells (byv d).toArray 29)) w.heap.size (.slice (some ⟨w.heap.size,0,none⟩) 1 1) [d]:=by
 refine⟨fun x hx=>by rw[List.mem_singleton.1 hx];exact hd,?_⟩;have:=World.ownsRow_lit (size:=32) (e:=29) w (byv d).toArray 1 (tA4 _) (by simp[maxLen]) (by simp[qat,hd]);rw[qrq];exact this
theorem qrw(W:Int)(pw pf:Nat):∀(m:Nat) (ls:List (List Nat)) (i g o n c:Nat) (b:Bool) (w:World),ls.length≤m→1≤n→1≤i→i≤n→TextsR w (some ⟨g,o,none⟩) n ls→n≤c→c≤maxLen→n≤1048576→(∀b∈ls,BsOk b)→
 w.cell? ⟨pw,0,none⟩=some (.int .i64 W)→w.cell? ⟨pf,0,none⟩=some (.func (.func 227) #[] #[.pointer (some ⟨pw,0,none⟩),.pointer (some ⟨pf,0,none⟩)])→Tabs w→
 Zc 227 #[.slice (some ⟨g,o,none⟩) n c,.int .i64 (i:Int),.bool b,.pointer (some ⟨pw,0,none⟩),.pointer (some ⟨pf,0,none⟩)] w fun e w'=>∃v,e=.returned v∧OwnD w' w.heap.size v (subH (cutW W) ls i b)∧Zb w w':=by
 intro m;induction m with
 |zero=>
  intro ls i g o n c b w hm h1 hi0 hi ht;have:=ht.1;omega
 |succ m ih=>
  intro ls i g o n c b w hm h1 hi0 hi ht hnc hcm hn hok hpw hpf hT;have hlen:=ht.1;have AA:=zh1 ih;clear ih;obtain⟨A3,A0,A5,A7,A6,A2,HL,HM⟩:=zh8 ht hT hpw hpf hok hcm hlen hm;clear hok hcm hlen hm ht hpw hpf hT;by_cases hn1:i=n
  ·
   subst hn1;have hp:subH (cutW W) ls i b=if b then [] else [qfp (cutW W) ls]:=qfx _ _ HL.symm
   cases b
   ·
    have R:=qpg W ls _ i c w A3.o hnc A2.o hn A6.o A0.o;obtain⟨HR,HP,AB⟩:=zh3 R hp ((qo3 (cutW W) (qfl W).2 ls).1);clear R hp;go_enter Tryz.func227,Tryz.ntmps227
    have cw:=A5.o;go_wp2_with fail
    refine zcb HR.o fun w1 b1=>?_
    obtain⟨O1,B1,hsz⟩:=zh3 (OwnD.made1 w1 _ AB.o) (b1.alloc b1.size (.cells (byv (qfp (cutW W) ls)).toArray 29)) b1.size;clear b1 cw;go_wp2_with (refine wpList_plain rfl fun K9 hK9=>qrp (.tmp 17) rfl (qfp (cutW W) ls) AB.o rfl (hK9 _ _ ?_))
    go_ret
    exact⟨_,rfl,by rw[HP.o];exact⟨O1.o.1,qdb O1.o.2 hsz.o⟩,B1.o⟩
   have HP:=zh1 hp;clear hp;go_enter Tryz.func227,Tryz.ntmps227
   go_wp2
   go_ret
   exact⟨_,rfl,by rw[HP.o];exact OwnD.nil _ _,tA5 _ _⟩
  have qn:¬(i:Int)=n:=zo;obtain⟨hk1,hk2,hk3⟩:=qfo (n:=n) zo;have Hhalf:=zh1 (qpb n w zo zo);obtain⟨k,hk⟩:=xeq (half n);rw[hk]at hk1 hk2 hk3 Hhalf;have lt1:(ls.take k).length=k:=by rw[tBd,HL.o];omega
  have lt2:(ls.drop k).length=n - k:=by rw[tBk,HL.o]
  have hcc:=A2.o;unfold maxLen at hcc;have q1:(0:Int)≤k:=zo;have q2:(k:Int)≤n:=zo;have q3:(k:Int)≤c:=zo;have q4:¬c=k:=zo;have R1:∀w1,Zb w w1→Zc 174 #[.int .i64 W,.slice (some ⟨g,o,none⟩) k c] w1 fun e w'=>e=.returned (.agg (byv (qfp (cutW W) (ls.take k))).toArray)∧Zb w1 w':=fun w1 b1=>
   qpg W (ls.take k) _ k c w1 ((A3.take zo).call b1) zo A2.o zo (fun b hb=>A6.o b (tB7 hb)) (A0.below b1 A0.size)
  have R2:∀w1,Zb w w1→Zc 174 #[.int .i64 W,.slice (some ⟨g,o+k,none⟩) (n - k) (c - k)] w1 fun e w'=>e=.returned (.agg (byv (qfp (cutW W) (ls.drop k))).toArray)∧Zb w1 w':=fun w1 b1=>
   qpg W (ls.drop k) _ (n - k) (c - k) w1 ((A3.drop hk2).call b1) zo (by have:=A2.o;omega) zo (fun b hb=>A6.o b (List.mem_of_mem_drop hb)) (A0.below b1 A0.size)
  by_cases hik:i≤k
  ·
   have hp:subH (cutW W) ls i b=subH (cutW W) (ls.take k) i b++[qfp (cutW W) (ls.drop k)]:=by
    have:=qfy (cutW W) (l:=ls) (m:=i) b (by rw[HL.o];omega) (by rw[HL.o];omega) (by rw[HL.o,hk];exact hik);rwa[HL.o,hk]at this
   have C1:∀w1,Zb w w1→Zc 227 #[.slice (some ⟨g,o,none⟩) k c,.int .i64 (i:Int),.bool b,.pointer (some ⟨pw,0,none⟩),.pointer (some ⟨pf,0,none⟩)] w1 fun e w'=>∃v,e=.returned v∧OwnD w' w1.heap.size v (subH (cutW W) (ls.take k) i b)∧Zb w1 w':=fun w1 b1=>
    AA.o (ls.take k) i g o k c b w1 (by rw[lt1];have:=HM.o;have:=HL.o;omega) hk1 hi0 hik ((A3.take zo).call b1) zo A2.o zo (fun b hb=>A6.o b (tB7 hb)) (qai A5.o b1) (qai A7.o b1) (A0.below b1 A0.size)
   have hpl:=(qru (cutW W) (qfl W).2 _ (ls.take k) i b (tA4 _)).1;rw[lt1]at hpl;obtain⟨A8,A9,AC,HP⟩:=zh4 hpl C1 R2 hp;have qi:(i:Int)≤k:=zo;clear C1 R1 R2 hp lt1 lt2 hk hcc hpl;go_enter Tryz.func227,Tryz.ntmps227
   go_wp2_with fail
   refine Hhalf.o.mono ?_;rintro e w' ⟨rfl,rfl⟩;go_upto_region 7 with(fail)
   obtain⟨S,HS⟩:=zS fun w'=>Zb w w'
   refine zrs S 15 (zq 0 6 (zq 7 4 [(6,true),(11,true),(12,true),(13,true),(14,false)])) ((HS.o _).mpr (tA5 _ _).drew) ?_;obtain⟨F0,F1⟩:=zh2 (zF HS A5.o) (zF HS A7.o);iterate 10 (refine zr2 ?_)
   obtain⟨Wd,hWd,bd⟩:=zdr w;rw[←hWd];clear hWd;refine zw ?_;go_simp;refine(A9.o Wd bd).mono ?_;rintro e w1 ⟨v1,rfl,o1,b1⟩;have b1':=bd.trans (b1.mono bd.size);obtain⟨A1,n1,c1,rfl,-,-,-,-⟩:=o1.sl;refine⟨(HS.o _).mpr b1',zput ?_⟩;refine zw ?_;go_simp;refine zcb (AC.o w1 b1') fun w2 b2=>?_
   have b2':=b1'.trans (b2.mono b1'.size);have o2:=o1.kept b2;refine⟨(HS.o _).mpr b2',zput ?_⟩;refine zw ?_;refine qrp (.tmp 36) rfl (qfp (cutW W) (ls.drop k)) (qo3 _ (qfl W).2 _).1 rfl ?_;have o3:=o2.alloc (.cells (byv (qfp (cutW W) (ls.drop k))).toArray 29);have b3':Zb w (w2.alloc (.cells (byv (qfp (cutW W) (ls.drop k))).toArray 29)):=b2'.alloc b2'.size _;refine⟨fun _=>(HS.o _).mpr b3',zput ?_⟩;refine zw ?_;refine qpu (.tmp 31) (.tmp 37) rfl Wd.heap.size _ _ rfl o3 _ 1 1 [qfp (cutW W) (ls.drop k)] rfl rfl (fun d hd=>by rw[List.mem_singleton.1 hd];exact(qo3 _ (qfl W).2 _).1) (qrr w2 _ (qo3 _ (qfl W).2 _).1) (by have:=A8.o;omega) (by rw[qar];have:=b1.size;have:=b2.size;omega) ?_;intro v4 w4 o4 b4 _;have b4':Zb w w4:=b3'.trans (b4.mono bd.size);obtain⟨A4,n4,c4,rfl,-,-,-,-⟩:=o4.sl;obtain⟨O4,B4⟩:=zh2 (show OwnD w4 w.heap.size _ _ from⟨o4.1,qdb o4.2 bd.size⟩) b4';refine⟨fun _=>(HS.o _).mpr b4',zput ?_⟩;clear o1 o2 o3 o4 b1 b1' b2 b2' b3' b4 b4' bd;iterate 1 (refine zrb ?_)
   refine qbf ?_;go_wp2
   go_ret
   exact⟨_,rfl,by rw[HP.o];exact O4.o,B4.o⟩
  have hp:subH (cutW W) ls i b=subH (cutW W) (ls.drop k) (i - k) false++[qfp (cutW W) (ls.take k)]:=by
   have:=qfz (cutW W) (l:=ls) (m:=i) b (by rw[HL.o];omega) (by rw[HL.o];omega) (by rw[HL.o,hk];exact hik);rwa[HL.o,hk]at this
  have C1:∀w1,Zb w w1→Zc 227 #[.slice (some ⟨g,o+k,none⟩) (n - k) (c - k),.int .i64 ((i - k:Nat):Int),.bool false,.pointer (some ⟨pw,0,none⟩),.pointer (some ⟨pf,0,none⟩)] w1 fun e w'=>∃v,e=.returned v∧OwnD w' w1.heap.size v (subH (cutW W) (ls.drop k) (i - k) false)∧Zb w1 w':=fun w1 b1=>
   AA.o (ls.drop k) (i - k) g (o+k) (n - k) (c - k) false w1 (by rw[lt2];have:=HM.o;have:=HL.o;omega) zo zo zo ((A3.drop hk2).call b1) zo (by have:=A2.o;omega) zo (fun b hb=>A6.o b (List.mem_of_mem_drop hb)) (qai A5.o b1) (qai A7.o b1) (A0.below b1 A0.size)
  have hpl:=(qru (cutW W) (qfl W).2 _ (ls.drop k) (i - k) false (tA4 _)).1;rw[lt2]at hpl;obtain⟨A8,A9,AD,HP⟩:=zh4 hpl C1 R1 hp;have qi:¬(i:Int)≤k:=zo;have qs:wrap64 ((i:Int) - k)=((i - k:Nat):Int):=by rw[IntWalk.wrap64_in _ zo];omega
  have qt:IntKind.i64.wrap ((i:Int) - k)=((i - k:Nat):Int):=by rw[tBb _ zo];omega
  clear C1 R1 R2 hp lt1 lt2 hk hcc hpl;go_enter Tryz.func227,Tryz.ntmps227
  go_wp2_with fail
  refine Hhalf.o.mono ?_;rintro e w' ⟨rfl,rfl⟩;go_upto_region 8 with(fail)
  obtain⟨S,HS⟩:=zS fun w'=>Zb w w'
  refine zrs S 16 (zq 0 7 (zq 8 4 [(7,true),(12,true),(13,true),(14,true),(15,false)])) ((HS.o _).mpr (tA5 _ _).drew) ?_;obtain⟨F0,F1⟩:=zh2 (zF HS A5.o) (zF HS A7.o);iterate 11 (refine zr2 ?_)
  obtain⟨Wd,hWd,bd⟩:=zdr w;rw[←hWd];clear hWd;refine zw ?_;go_simp;refine(A9.o Wd bd).mono ?_;rintro e w1 ⟨v1,rfl,o1,b1⟩;have b1':=bd.trans (b1.mono bd.size);obtain⟨A1,n1,c1,rfl,-,-,-,-⟩:=o1.sl;refine⟨(HS.o _).mpr b1',zput ?_⟩;refine zw ?_;go_simp;refine zcb (AD.o w1 b1') fun w2 b2=>?_
  have b2':=b1'.trans (b2.mono b1'.size);have o2:=o1.kept b2;refine⟨(HS.o _).mpr b2',zput ?_⟩;refine zw ?_;refine qrp (.tmp 51) rfl (qfp (cutW W) (ls.take k)) (qo3 _ (qfl W).2 _).1 rfl ?_;have o3:=o2.alloc (.cells (byv (qfp (cutW W) (ls.take k))).toArray 29);have b3':Zb w (w2.alloc (.cells (byv (qfp (cutW W) (ls.take k))).toArray 29)):=b2'.alloc b2'.size _;refine⟨fun _=>(HS.o _).mpr b3',zput ?_⟩;refine zw ?_;refine qpu (.tmp 46) (.tmp 52) rfl Wd.heap.size _ _ rfl o3 _ 1 1 [qfp (cutW W) (ls.take k)] rfl rfl (fun d hd=>by rw[List.mem_singleton.1 hd];exact(qo3 _ (qfl W).2 _).1) (qrr w2 _ (qo3 _ (qfl W).2 _).1) (by have:=A8.o;omega) (by rw[qar];have:=b1.size;have:=b2.size;omega) ?_;intro v4 w4 o4 b4 _;have b4':Zb w w4:=b3'.trans (b4.mono bd.size);obtain⟨A4,n4,c4,rfl,-,-,-,-⟩:=o4.sl;obtain⟨O4,B4⟩:=zh2 (show OwnD w4 w.heap.size _ _ from⟨o4.1,qdb o4.2 bd.size⟩) b4';refine⟨fun _=>(HS.o _).mpr b4',zput ?_⟩;clear o1 o2 o3 o4 b1 b1' b2 b2' b3' b4 b4' bd;iterate 1 (refine zrb ?_)
  refine qbf ?_;go_wp2
  go_ret
  exact⟨_,rfl,by rw[HP.o];exact O4.o,B4.o⟩
theorem qrx(W:Int)(ls:List (List Nat))(A:Option Addr)(i n c:Nat)(w:World)(hi:i<n)(ht:TextsR w A n ls)(hnc:n≤c)(hcm:c≤maxLen)(hn:n≤1048576)(hok:∀b∈ls,BsOk b)(hT:Tabs w):
 Zc 189 #[.int .i64 W,.slice A n c,.int .u64 (i:Int)] w fun e w'=>∃v,e=.returned (.tuple #[v,.int .i64 0])∧OwnD w' w.heap.size v (qft (cutW W) ls i)∧Below w.heap.size w w':=by
 obtain⟨W0,hW0⟩:=eqx (w.alloc (.cells #[.int .i64 W] 3));have c0:=zNa hW0;have b0:=zMa hW0;have s0:W0.heap.size=w.heap.size+1:=by rw[hW0];simp
 have l0:=ht.1;obtain⟨A0,A1⟩:=zh2 (ht.call b0) (hT.below b0 hT.size);obtain⟨g,o,bs,A',n',c',rfl,-⟩:=A0.at_ (k:=0) zo;obtain⟨W1,hW1⟩:=eqx ((W0.alloc (.cells #[.nilFunc] 341)).setCell ⟨w.heap.size+1,0,none⟩ (.func (.func 226) #[] #[.pointer (some ⟨w.heap.size+1,0,none⟩),.pointer (some ⟨w.heap.size,0,none⟩)]));have hmf:=zmf;have f0:Blk (W0.alloc (.cells #[.nilFunc] 341)) (w.heap.size+1) 341 #[.nilFunc]:=by
  have h:=Blk.new W0 341 #[.nilFunc];rw[s0]at h;exact h
 have hst:(store ⟨w.heap.size+1,0,none⟩ (.func (.func 226) #[] #[.pointer (some ⟨w.heap.size+1,0,none⟩),.pointer (some ⟨w.heap.size,0,none⟩)])).run Tryz.prog (W0.alloc (.cells #[.nilFunc] 341))=.ok () W1:=by
  rw[run_store Tryz.prog _ _ _ _ (by rfl),f0.cell 0,f0.frozen 0,hW1];rfl
 have cf:Blk W1 (w.heap.size+1) 341 #[.func (.func 226) #[] #[.pointer (some ⟨w.heap.size+1,0,none⟩),.pointer (some ⟨w.heap.size,0,none⟩)]]:=by
  rw[hW1];exact f0.set_ 0 _
 have b1:Below W0.heap.size W0 W1:=by
  rw[hW1];exact(qah (tA5 _ _) _).setCell (by rw[s0];exact tA4 _) _
 rw[hW0]at hst;have C1:=c0.below b1 c0.lt;have R:=qrv W w.heap.size (w.heap.size+1) n ls i g o n c W1 (by rw[l0];exact tA4 _) zo hi (A0.call b1) hnc hcm hn hok (by rw[C1.cell];rfl) (by rw[cf.cell];rfl) (A1.below b1 A1.size);have HR:=zh1 R;have cc:=cf.cell 0;rw[show (#[Value.func (.func 226) #[] #[.pointer (some ⟨w.heap.size+1,0,none⟩),.pointer (some ⟨w.heap.size,0,none⟩)]]:Array Value)[0]? =some (.func (.func 226) #[] #[.pointer (some ⟨w.heap.size+1,0,none⟩),.pointer (some ⟨w.heap.size,0,none⟩)]) from rfl]at cc;have B1:=zh1 (b0.trans (b1.mono b0.size));have q1:IntKind.u64.wrap (n:Int)=(n:Int):=tBa _ zo;have q2:IntKind.i64.wrap (i:Int)=(i:Int):=tBb _ zo;have q5:wrap64 (i:Int)=(i:Int):=IntWalk.wrap64_in _ zo;have q3:¬(n:Int)≤i:=zo;clear hW0 c0 b0 ht hT hok l0 s0 f0 cf b1 C1 R hW1 hnc hcm hn;go_enter Tryz.func189,Tryz.ntmps189
 go_wp2_with fail
 refine HR.o.mono ?_;rintro e w4 ⟨v,rfl,o4,b4⟩;obtain⟨A4,n4,c4,rfl,-,-,-,-⟩:=o4.sl;obtain⟨O4,B4⟩:=zh2 (show OwnD w4 w.heap.size _ _ from⟨o4.1,qdb o4.2 B1.size⟩) (B1.trans (b4.mono B1.size));clear b4 cc hst o4;go_wp2
 go_ret2
 exact⟨_,rfl,O4.o,B4.o⟩
theorem qry(W:Int)(ls:List (List Nat))(A:Option Addr)(i n c:Nat)(w:World)(h0:1≤i)(hi:i≤n)(ht:TextsR w A n ls)(hnc:n≤c)(hcm:c≤maxLen)(hn:n≤1048576)(hok:∀b∈ls,BsOk b)(hT:Tabs w):
 Zc 190 #[.int .i64 W,.slice A n c,.int .u64 (i:Int)] w fun e w'=>∃v,e=.returned (.tuple #[v,.int .i64 0])∧OwnD w' w.heap.size v (subH (cutW W) ls i true)∧Below w.heap.size w w':=by
 obtain⟨W0,hW0⟩:=eqx (w.alloc (.cells #[.int .i64 W] 3));have c0:=zNa hW0;have b0:=zMa hW0;have s0:W0.heap.size=w.heap.size+1:=by rw[hW0];simp
 have l0:=ht.1;obtain⟨A0,A1⟩:=zh2 (ht.call b0) (hT.below b0 hT.size);obtain⟨g,o,bs,A',n',c',rfl,-⟩:=A0.at_ (k:=0) zo;obtain⟨W1,hW1⟩:=eqx ((W0.alloc (.cells #[.nilFunc] 342)).setCell ⟨w.heap.size+1,0,none⟩ (.func (.func 227) #[] #[.pointer (some ⟨w.heap.size,0,none⟩),.pointer (some ⟨w.heap.size+1,0,none⟩)]));have hmf:=zmf;have f0:Blk (W0.alloc (.cells #[.nilFunc] 342)) (w.heap.size+1) 342 #[.nilFunc]:=by
  have h:=Blk.new W0 342 #[.nilFunc];rw[s0]at h;exact h
 have hst:(store ⟨w.heap.size+1,0,none⟩ (.func (.func 227) #[] #[.pointer (some ⟨w.heap.size,0,none⟩),.pointer (some ⟨w.heap.size+1,0,none⟩)])).run Tryz.prog (W0.alloc (.cells #[.nilFunc] 342))=.ok () W1:=by
  rw[run_store Tryz.prog _ _ _ _ (by rfl),f0.cell 0,f0.frozen 0,hW1];rfl
 have cf:Blk W1 (w.heap.size+1) 342 #[.func (.func 227) #[] #[.pointer (some ⟨w.heap.size,0,none⟩),.pointer (some ⟨w.heap.size+1,0,none⟩)]]:=by
  rw[hW1];exact f0.set_ 0 _
 have b1:Below W0.heap.size W0 W1:=by
  rw[hW1];exact(qah (tA5 _ _) _).setCell (by rw[s0];exact tA4 _) _
 rw[hW0]at hst;have C1:=c0.below b1 c0.lt;have R:=qrw W w.heap.size (w.heap.size+1) n ls i g o n c true W1 (by rw[l0];exact tA4 _) zo h0 hi (A0.call b1) hnc hcm hn hok (by rw[C1.cell];rfl) (by rw[cf.cell];rfl) (A1.below b1 A1.size);have HR:=zh1 R;have cc:=cf.cell 0;rw[show (#[Value.func (.func 227) #[] #[.pointer (some ⟨w.heap.size,0,none⟩),.pointer (some ⟨w.heap.size+1,0,none⟩)]]:Array Value)[0]? =some (.func (.func 227) #[] #[.pointer (some ⟨w.heap.size,0,none⟩),.pointer (some ⟨w.heap.size+1,0,none⟩)]) from rfl]at cc;have B1:=zh1 (b0.trans (b1.mono b0.size));have q1:IntKind.u64.wrap (n:Int)=(n:Int):=tBa _ zo;have q2:IntKind.i64.wrap (i:Int)=(i:Int):=tBb _ zo;have q5:wrap64 (i:Int)=(i:Int):=IntWalk.wrap64_in _ zo;have q3:¬(n:Int)<i∧¬(i:Int)=0:=zo;clear hW0 c0 b0 ht hT hok l0 s0 f0 cf b1 C1 R hW1 hnc hcm hn;go_enter Tryz.func190,Tryz.ntmps190
 go_wp2_with fail
 refine HR.o.mono ?_;rintro e w4 ⟨v,rfl,o4,b4⟩;obtain⟨A4,n4,c4,rfl,-,-,-,-⟩:=o4.sl;obtain⟨O4,B4⟩:=zh2 (show OwnD w4 w.heap.size _ _ from⟨o4.1,qdb o4.2 B1.size⟩) (B1.trans (b4.mono B1.size));clear b4 cc hst o4;go_wp2
 go_ret2
 exact⟨_,rfl,O4.o,B4.o⟩
theorem qrz{args:Array Value}{fn:FuncId}{K:Ending→World→Prop}{a:Rsp}{f:Rsp}(hdo:Hid (f=a))(hk:Hid (Kind k))(hG:col' G=0)
 (hc:Zc fn args W1 fun e w'=>e=.returned (.agg (qq8 a).toArray)∧Zb W1 w')(Z:Blk W1 G 57 Tryz.zeroCells57)(D:Did w col W1 col' k g c css s s')(hb:w.heap.size≤G:=by omega)
 (ha:a.hd=Hd.zero∧a.tok=qgq∧a.bytes=[]∧a.hashes=[]:=by exact⟨rfl,rfl,rfl,rfl⟩)
 (h:∀X w9,Hid (Blk w9 G 57 Tryz.zeroCells57)→RspK X→Hid (RspV (w9.setRow G X.toArray) col' w.heap.size (.agg X.toArray) f∧Did w col (w9.setRow G X.toArray) col' k g c css s s')→K (.returned (.agg X.toArray)) w9:=by
  (intro X w9 Z9 pk RD
   go_wp2_with (refine qqi _ _ _ X Z9.o pk ?_)
   exact qqj (Z9.setRow X.toArray) pk ⟨_,_,rfl,RD.o⟩)):Zc fn args W1 K:=
 qr5 (f:=(s',f)) (hdo:=show Hid ((s',f)=(s',a)) from zh1 (by rw[hdo.o])) hk hG hc Z D hb ha h
theorem qs0(n:Int)(A:Option Addr)(m c:Nat):Tryz.prog.built 57 [(1,.int .u64 n),(2,.slice A m c)]=some (Value.int .i64 0::.int .u64 n::.slice A m c::.slice none 0 0::(hdv Hd.zero++tokv qgq.1 (.slice none 0 0) qgq.2.2)).toArray:=by kernel_rfl
theorem qs1(n:Int)(A:Option Addr)(m c:Nat):Tryz.prog.built 57 [(1,.int .u64 n),(3,.slice A m c)]=some (Value.int .i64 0::.int .u64 n::.slice none 0 0::.slice A m c::(hdv Hd.zero++tokv qgq.1 (.slice none 0 0) qgq.2.2)).toArray:=by kernel_rfl
theorem qs2(c:Cfg)(s:Sta)(L:Loc)(col:Col)(k g:Nat)(css:List (List Value))(n:Nat)(t:Tre)(R:Req)(Ac:Option Addr)(cc:Nat)(Al:Option Addr)(cl:Nat)(w:World)(hk:Kind k)(hs:s.Ok)(h:Mdl w col k g c s L css)
 (hr:Asked w col R Ac cc Al cl)(ht:s.tres[n]? =some t)(hT:Tabs w)(hop:R.op=3∨R.op=4∨R.op=5):
 Zc 136 #[.pointer (some ⟨g,0,none⟩),.pointer (some ⟨L.rg,n*75,none⟩),.agg (reqv R (.slice Ac R.cavs.length cc) (.slice Al R.leaf.length cl)).toArray] w fun e w'=>∃v col',e=.returned v∧RspV w' col' w.heap.size v (qmn c s R t)∧Did w col w' col' k g c css s s:=by
 obtain⟨hn16,Ad,cd,Al',cl',Aq,cq,hcs,hcell,hrd,hrl,hrq⟩:=h.st.tree hs ht;have hto:=hs.tre ht;obtain⟨A1,k1,e1,a1,a2,a3⟩:=hrl.reads;injection e1 with e11 e12 e13;subst e11 e13;obtain⟨Q,hQ,rlen,rest,W0,hW0,q0,z0,b0⟩:=qr4 R Ac cc Al cl w hr.good.tag;rw[hQ];have hG0:=h.fin.none (b:=w.heap.size+1) zo;have D0:=Did.same (css:=css) h b0;obtain⟨H,AO,Q0,Z0,B0,A5,A6,HK⟩:=zh8 h hW0 q0 z0 b0 hG0 D0 hk;obtain⟨HS,HR,RL,AB,HQ⟩:=zh5 hs hr rlen rest hQ;clear h hW0 q0 z0 b0 hG0 D0 hk hs hr rlen rest hQ;obtain⟨AJ,AQ,AK,A8,AG,HT⟩:=zh6 hto a3 (show t.leaves.length≤cl'∧cl'≤maxLen from⟨a1,a2⟩) (a3.call B0.o) (hT.below B0.o hT.size) ht;obtain⟨nl,hnl⟩:=xeq t.leaves.length;have c5:=qai (hcell 5 (.slice Al' t.leaves.length cl') rfl) B0.o;rw[hnl]at c5 A8 AK;have nb:nl≤1024:=by have:=hto.leaves;omega
 have cb:nl≤cl':=AK.o.1;have cm:cl'≤maxLen:=AK.o.2;obtain⟨lo,hlo⟩:=xeq R.lo;obtain⟨hi,hhi⟩:=xeq R.hi;have lob:lo<18446744073709551616:=by rw[←hlo];exact HR.good.lo
 have hib:hi<18446744073709551616:=by rw[←hhi];exact HR.good.hi
 obtain⟨op,hop'⟩:=xeq R.op;rw[hop']at hop;have k0:=(Q0.cell 0).trans (show Q.toArray[0]? =some (.int .i64 op) by rw[tA3,←hop',←HQ.o];rfl);have k41:=(Q0.cell 41).trans (show Q.toArray[41]? =some (.int .u64 (lo:Int)) by rw[tA3,←hlo];exact AB.o 6);have k42:=(Q0.cell 42).trans (show Q.toArray[42]? =some (.int .u64 (hi:Int)) by rw[tA3,←hhi];exact AB.o 7);obtain⟨K0,AH,AC,C5,AD,A9,AI,AA⟩:=zh8 k0 k41 k42 c5 hnl hlo hhi hop';have C0:=zh1 (qai H.c0 B0.o);have u1:IntKind.u64.wrap (nl:Int)=(nl:Int):=tBa _ zo;clear hrd hrl hrq a1 a2 a3 hcs hcell hto hT ht hnl hlo hhi hop' k0 k41 k42 c5;have c5:=C5.o;rw[AO.o]at c5;go_enter Tryz.func136,Tryz.ntmps136
 go_upto_region 2 with(fail)
 rw[←AO.o];clear c5 u1;have k0:=K0.o;have k41:=AH.o;have k42:=AC.o;obtain⟨AR,AS,AT⟩:=zh3 nb cb cm;rcases hop with rfl|rfl|rfl
 ·
  by_cases hge:nl≤lo
  ·
   have p1:(nl:Int)≤lo:=zo;have hdo:qmn c s R t=rWhy 25:=by
    unfold qmn;rw[AA.o,if_neg zdc,if_pos rfl,A9.o,List.getElem?_eq_none (by rw[AD.o];exact hge)]
   have A0:=zh1 hdo;clear hdo hge;go_wp2_with fail
   exact qrz A0 HK (A5.o) (qqd 25 W0) (Z0.o) (A6.o)
  have p1:¬(nl:Int)≤lo:=zo;obtain⟨g0,o0,bs,A2,n2,c2,rfl,g0lt,hbs,hcb,nc2,cm2,rd2⟩:=A8.at_ (k:=lo) zo;have en:bs.length=n2:=by have:=rd2.1;simp[byv]at this;omega
  have hdo:qmn c s R t={qir with n:=lo,bytes:=bs}:=by
   unfold qmn;rw[AA.o,if_neg zdc,if_pos rfl,A9.o,hbs]
  obtain⟨A0,EN,AL,AP,AU⟩:=zh5 hdo en hcb rd2 nc2;have q0:(0:Int)≤lo:=zo;have q1:(lo:Int)<nl:=zo;have q2:lo<nl:=zo;clear hdo en hcb rd2 hge nc2;go_upto_region 5 with(fail)
  obtain⟨S,HS9⟩:=zS fun w'=>Zb W0 w'
  refine zrs S 12 (zq 0 10 [(10,true),(11,false),(12,true)]) ((HS9.o _).mpr ((tA5 _ _).drew)) ?_;obtain⟨F0,F1,F2⟩:=zh3 (zF HS9 AH.o) (zF HS9 C5.o) (zF HS9 AL.o);clear k0 k41 k42;iterate 10 (refine zr3 ?_)
  obtain⟨Wd,hWd,BD⟩:=zdr W0;rw[←hWd];clear hWd;have CL:=zh1 (qrc A2 n2 c2 (byv bs) Wd (AP.call BD.o) (by have:=EN.o;have:=(AJ.leafb bs (tB2 hbs)).1;omega) (qau _));refine zw ?_;go_simp;refine CL.o.mono ?_;rintro e w1 ⟨v1,rfl,o1,b1⟩;have o1':OwnB w1 Wd.heap.size v1 bs:=by unfold OwnB;rw[EN.o];exact o1
  obtain⟨A3,n3,c3,rfl,-,-,-⟩:=o1'.sl;have B1:=zh1 (BD.trans (b1.mono BD.size));obtain⟨Z9,AE,O1,S9⟩:=zh4 (Z0.below B1.o Z0.lt) (A6.call B1.o) o1' (show w.heap.size+1<Wd.heap.size by have:=BD.size;have:=Z0.lt;omega);clear o1 o1' b1;refine⟨(HS9.o _).mpr B1.o,zput ?_⟩;obtain⟨X,hX⟩:=eqx (rspv (({qir with n:=lo,bytes:=bs}:Rsp)) (.slice A3 n3 c3) (.slice none 0 0) (.slice none 0 0));have lX:X.length=106:=by rw[hX];exact qpv _ _ _ _ (qni Hd.zero_Ok) (by simp[qir,qgq])
  have oX:∀u∈X,u.oneCell'=true:=by rw[hX];exact qpw _ _ _ _ rfl rfl rfl
  have bT:Tryz.prog.built 57 [(1,.int .u64 (lo:Int)),(2,.slice A3 n3 c3)]=some X.toArray:=by rw[hX];exact qs0 (lo:Int) A3 n3 c3
  obtain⟨LX,OX,HX,BT,A7,A4⟩:=zh6 lX oX hX bT (zI 57 lX) qqb;clear lX oX hX bT;refine qbg rfl rfl ⟨.agg X.toArray,fun w1 hS=>qgn 57 _ rfl _ _ BT.o (by simp[Act.eval]),?_⟩;refine zP ?_;refine zw ?_;refine wp_store_row 57 (.tmp 6) (.tmp 37) rfl (w.heap.size+1) X.toArray rfl rfl 57 _ Z9.o (by simpa using A7.o) (by simp[LX.o,A4.o]) (by simpa using OX.o) ?_;refine⟨fun h=>absurd h zdc,zput ?_⟩;refine qbf ?_;clear HS9 F0 F1 F2;go_wp2_with fail
  have z9:=Z9.setRow X.toArray;have AF:=qap z9 0 X zjq;refine zrt AF zu57 A7.o ?_;have dd9:=AE.row0 HK.o X.toArray A5.o zo;first
   |exact⟨_,rfl,col,(by rw[A0.o,HX.o];exact⟨_,_,_,rfl,(O1.grown (qam _ _ _) S9.o).mono (by have:=S9.o;omega),OwnD.nil _ _,OwnC.nil _ _,(fun g e=>by by_cases h0:col g=0;exact h0;exact absurd ((World.ownsRow.lt O1.o g e).1) (by have:=H.fin g h0;have:=S9.o;omega)),(fun g e=>by cases e),(fun g e=>by cases e)⟩),dd9⟩
   |exact⟨_,col,rfl,(by rw[A0.o,HX.o];exact⟨_,_,_,rfl,(O1.grown (qam _ _ _) S9.o).mono (by have:=S9.o;omega),OwnD.nil _ _,OwnC.nil _ _,(fun g e=>by by_cases h0:col g=0;exact h0;exact absurd ((World.ownsRow.lt O1.o g e).1) (by have:=H.fin g h0;have:=S9.o;omega)),(fun g e=>by cases e),(fun g e=>by cases e)⟩),dd9⟩
 ·
  by_cases hbad:hi≤lo∨nl<hi
  ·
   have hdo:qmn c s R t=rWhy 25:=by
    unfold qmn;rw[AA.o,if_neg zdc,if_neg zdc,if_pos rfl,A9.o,AI.o,AD.o,if_pos hbad]
   have A0:=zh1 hdo;clear hdo;by_cases h1:hi≤lo
   · have p1:(hi:Int)≤lo:=zo
     clear hbad h1;go_wp2_with fail
     exact qrz A0 HK (A5.o) (qqd 25 W0) (Z0.o) (A6.o)
   have p1:¬(hi:Int)≤lo:=zo;have p2:(nl:Int)<hi:=zo;clear hbad h1;go_wp2_with fail
   exact qrz A0 HK (A5.o) (qqd 25 W0) (Z0.o) (A6.o)
  have p1:¬(hi:Int)≤lo:=zo;have p2:¬(nl:Int)<hi:=zo;have plo:lo<hi:=zo;have pn:hi≤nl:=zo;have hdo:qmn c s R t={qir with n:=hi,hashes:=qft (cutW c.width) (t.leaves.take hi) lo}:=by
   unfold qmn;rw[AA.o,if_neg zdc,if_neg zdc,if_pos rfl,A9.o,AI.o,AD.o,if_neg hbad]
  have A0:=zh1 hdo;clear hdo hbad;obtain⟨g0,o0,bs,A2,n2,c2,rfl,-,-,-,-,-,-⟩:=A8.at_ (k:=0) zo;have AM:=zh1 (A8.take (k:=hi) zo);have q1:(0:Int)≤hi:=zo;have q2:(hi:Int)≤nl:=zo;have q3:(hi:Int)≤cl':=zo;have q4:hi≤cl':=zo;have hok:∀b∈t.leaves.take hi,BsOk b:=fun b hb=>(AJ.leafb b (tB7 hb)).bs
  obtain⟨AN,HW⟩:=zh2 hok (show c.width=c.width from rfl);clear hok;go_upto_region 8 with(fail)
  obtain⟨S,HS9⟩:=zS fun w'=>Zb W0 w'
  refine zrs S 20 (zq 0 14 ((14,true)::zq 15 5 [])) ((HS9.o _).mpr ((tA5 _ _).drew)) ?_;obtain⟨F0,F1,F2,F3⟩:=zh4 (zF HS9 AH.o) (zF HS9 C5.o) (zF HS9 AC.o) (zF HS9 C0.o);clear k0 k41 k42;iterate 14 (refine zr4 ?_)
  obtain⟨Wd,hWd,BD⟩:=zdr W0;rw[←hWd];clear hWd;have CL:=zh1 (qrx c.width (t.leaves.take hi) (some ⟨g0,o0,none⟩) lo hi cl' Wd plo (AM.call BD.o) q4 zo zo AN.o (AG.below BD.o AG.size));refine zw ?_;go_simp;refine CL.o.mono ?_;rintro e w1 ⟨v1,rfl,o1,b1⟩;obtain⟨A3,n3,c3,rfl,-,-,-,-⟩:=o1.sl;have B1:=zh1 (BD.trans (b1.mono BD.size));obtain⟨Z9,AE,O1,S9⟩:=zh4 (Z0.below B1.o Z0.lt) (A6.call B1.o) o1 (show w.heap.size+1<Wd.heap.size by have:=BD.size;have:=Z0.lt;omega);clear o1 b1;refine⟨(HS9.o _).mpr B1.o,zput ?_⟩;iterate 5 (refine zrb ?_)
  refine qbf ?_;clear HS9 F0 F1 F2 F3;have k42:=qai AC.o B1.o;obtain⟨X,hX⟩:=eqx (rspv (({qir with n:=hi,hashes:=qft (cutW c.width) (t.leaves.take hi) lo}:Rsp)) (.slice none 0 0) (.slice A3 n3 c3) (.slice none 0 0));have lX:X.length=106:=by rw[hX];exact qpv _ _ _ _ (qni Hd.zero_Ok) (by simp[qir,qgq])
  have oX:∀u∈X,u.oneCell'=true:=by rw[hX];exact qpw _ _ _ _ rfl rfl rfl
  have bT:Tryz.prog.built 57 [(1,.int .u64 (hi:Int)),(3,.slice A3 n3 c3)]=some X.toArray:=by rw[hX];exact qs1 (hi:Int) A3 n3 c3
  obtain⟨LX,OX,HX,BT,A7,A4⟩:=zh6 lX oX hX bT (zI 57 lX) qqb;clear lX oX hX bT;go_wp2_with (first
   |(refine qbj rfl ⟨.agg X.toArray,qgn 57 _ rfl _ _ BT.o (by simp[Act.eval]),?_⟩)
   |(refine zst Z9.o A7.o (by simp[LX.o,A4.o]) OX.o ?_))
  have z9:=Z9.setRow X.toArray;have AF:=qap z9 0 X zjq;refine zrt AF zu57 A7.o ?_;have dd9:=AE.row0 HK.o X.toArray A5.o zo;first
   |exact⟨_,rfl,col,(by rw[A0.o,HX.o];exact⟨_,_,_,rfl,OwnB.nil _ _,(fun h=>⟨h.1,qdb h.2 (by have:=S9.o;omega)⟩:OwnD _ Wd.heap.size _ _→OwnD _ _ _ _) (O1.grown (qam _ _ _) Z9.o zdc),OwnC.nil _ _,(fun g e=>by cases e),(fun g e=>by by_cases h0:col g=0;exact h0;exact absurd ((World.ownsRow.lt O1.o.2 g e).1) (by have:=H.fin g h0;have:=S9.o;omega)),(fun g e=>by cases e)⟩),dd9⟩
   |exact⟨_,col,rfl,(by rw[A0.o,HX.o];exact⟨_,_,_,rfl,OwnB.nil _ _,(fun h=>⟨h.1,qdb h.2 (by have:=S9.o;omega)⟩:OwnD _ Wd.heap.size _ _→OwnD _ _ _ _) (O1.grown (qam _ _ _) Z9.o zdc),OwnC.nil _ _,(fun g e=>by cases e),(fun g e=>by by_cases h0:col g=0;exact h0;exact absurd ((World.ownsRow.lt O1.o.2 g e).1) (by have:=H.fin g h0;have:=S9.o;omega)),(fun g e=>by cases e)⟩),dd9⟩
 by_cases hbad:lo=0∨hi<lo∨nl<hi
 ·
  have hdo:qmn c s R t=rWhy 25:=by
   unfold qmn;rw[AA.o,if_neg zdc,if_neg zdc,if_neg zdc,A9.o,AI.o,AD.o,if_pos hbad]
  have A0:=zh1 hdo;clear hdo;by_cases h0:lo=0
  · subst h0
    clear hbad;go_wp2_with fail
    exact qrz A0 HK (A5.o) (qqd 25 W0) (Z0.o) (A6.o)
  have p0:((lo:Int)==0)=false:=by simp;omega
  by_cases h1:hi<lo
  · have p1:(hi:Int)<lo:=zo
    clear hbad h1;go_wp2_with fail
    exact qrz A0 HK (A5.o) (qqd 25 W0) (Z0.o) (A6.o)
  have p1:¬(hi:Int)<lo:=zo;have p2:(nl:Int)<hi:=zo;clear hbad h1;go_wp2_with fail
  exact qrz A0 HK (A5.o) (qqd 25 W0) (Z0.o) (A6.o)
 have p0:((lo:Int)==0)=false:=by simp;omega
 have p1:¬(hi:Int)<lo:=zo;have p2:¬(nl:Int)<hi:=zo;have plo:1≤lo:=zo;have plh:lo≤hi:=zo;have pn:hi≤nl:=zo;have hdo:qmn c s R t={qir with n:=hi,hashes:=subH (cutW c.width) (t.leaves.take hi) lo true}:=by
  unfold qmn;rw[AA.o,if_neg zdc,if_neg zdc,if_neg zdc,A9.o,AI.o,AD.o,if_neg hbad]
 have A0:=zh1 hdo;clear hdo hbad;obtain⟨g0,o0,bs,A2,n2,c2,rfl,-,-,-,-,-,-⟩:=A8.at_ (k:=0) zo;have AM:=zh1 (A8.take (k:=hi) zo);have q1:(0:Int)≤hi:=zo;have q2:(hi:Int)≤nl:=zo;have q3:(hi:Int)≤cl':=zo;have q4:hi≤cl':=zo;have hok:∀b∈t.leaves.take hi,BsOk b:=fun b hb=>(AJ.leafb b (tB7 hb)).bs
 obtain⟨AN,HW⟩:=zh2 hok (show c.width=c.width from rfl);clear hok;go_upto_region 12 with(fail)
 obtain⟨S,HS9⟩:=zS fun w'=>Zb W0 w'
 refine zrs S 20 (zq 0 14 ((14,true)::zq 15 5 [])) ((HS9.o _).mpr ((tA5 _ _).drew)) ?_;obtain⟨F0,F1,F2,F3⟩:=zh4 (zF HS9 AH.o) (zF HS9 C5.o) (zF HS9 AC.o) (zF HS9 C0.o);clear k0 k41 k42;iterate 14 (refine zr4 ?_)
 obtain⟨Wd,hWd,BD⟩:=zdr W0;rw[←hWd];clear hWd;have CL:=zh1 (qry c.width (t.leaves.take hi) (some ⟨g0,o0,none⟩) lo hi cl' Wd plo plh (AM.call BD.o) q4 zo zo AN.o (AG.below BD.o AG.size));refine zw ?_;go_simp;refine CL.o.mono ?_;rintro e w1 ⟨v1,rfl,o1,b1⟩;obtain⟨A3,n3,c3,rfl,-,-,-,-⟩:=o1.sl;have B1:=zh1 (BD.trans (b1.mono BD.size));obtain⟨Z9,AE,O1,S9⟩:=zh4 (Z0.below B1.o Z0.lt) (A6.call B1.o) o1 (show w.heap.size+1<Wd.heap.size by have:=BD.size;have:=Z0.lt;omega);clear o1 b1;refine⟨(HS9.o _).mpr B1.o,zput ?_⟩;iterate 5 (refine zrb ?_)
 refine qbf ?_;clear HS9 F0 F1 F2 F3;have k42:=qai AC.o B1.o;obtain⟨X,hX⟩:=eqx (rspv (({qir with n:=hi,hashes:=subH (cutW c.width) (t.leaves.take hi) lo true}:Rsp)) (.slice none 0 0) (.slice A3 n3 c3) (.slice none 0 0));have lX:X.length=106:=by rw[hX];exact qpv _ _ _ _ (qni Hd.zero_Ok) (by simp[qir,qgq])
 have oX:∀u∈X,u.oneCell'=true:=by rw[hX];exact qpw _ _ _ _ rfl rfl rfl
 have bT:Tryz.prog.built 57 [(1,.int .u64 (hi:Int)),(3,.slice A3 n3 c3)]=some X.toArray:=by rw[hX];exact qs1 (hi:Int) A3 n3 c3
 obtain⟨LX,OX,HX,BT,A7,A4⟩:=zh6 lX oX hX bT (zI 57 lX) qqb;clear lX oX hX bT;go_wp2_with (first
  |(refine qbj rfl ⟨.agg X.toArray,qgn 57 _ rfl _ _ BT.o (by simp[Act.eval]),?_⟩)
  |(refine zst Z9.o A7.o (by simp[LX.o,A4.o]) OX.o ?_))
 have z9:=Z9.setRow X.toArray;have AF:=qap z9 0 X zjq;refine zrt AF zu57 A7.o ?_;have dd9:=AE.row0 HK.o X.toArray A5.o zo;first
  |exact⟨_,rfl,col,(by rw[A0.o,HX.o];exact⟨_,_,_,rfl,OwnB.nil _ _,(fun h=>⟨h.1,qdb h.2 (by have:=S9.o;omega)⟩:OwnD _ Wd.heap.size _ _→OwnD _ _ _ _) (O1.grown (qam _ _ _) Z9.o zdc),OwnC.nil _ _,(fun g e=>by cases e),(fun g e=>by by_cases h0:col g=0;exact h0;exact absurd ((World.ownsRow.lt O1.o.2 g e).1) (by have:=H.fin g h0;have:=S9.o;omega)),(fun g e=>by cases e)⟩),dd9⟩
  |exact⟨_,col,rfl,(by rw[A0.o,HX.o];exact⟨_,_,_,rfl,OwnB.nil _ _,(fun h=>⟨h.1,qdb h.2 (by have:=S9.o;omega)⟩:OwnD _ Wd.heap.size _ _→OwnD _ _ _ _) (O1.grown (qam _ _ _) Z9.o zdc),OwnC.nil _ _,(fun g e=>by cases e),(fun g e=>by by_cases h0:col g=0;exact h0;exact absurd ((World.ownsRow.lt O1.o.2 g e).1) (by have:=H.fin g h0;have:=S9.o;omega)),(fun g e=>by cases e)⟩),dd9⟩
theorem qs3(h:cs.length=new.length):over cs 0 new=new:=by
 unfold over;simp[h]
theorem Mdl.treSet(h:Mdl w col k g c s L css)(hk:Kind k)(hs:s.Ok)(ht:s.tres[n]? =some t)
 (hT:Turns (fun _=>false) w col w' col')(hf:Fin_ col' w')(f:Tre→Tre)(new:List Value)(hl:new.length=75)(hnew:TreAt w' col' n new (f t)):
 Mdl (w'.setCells L.rg (n*75) new) col' k g c (s.setT n f) L (css.modify n fun _=>new)∧TrsAt (w'.setCells L.rg (n*75) new) col' css s.tres∧Turns (inP k) w col (w'.setCells L.rg (n*75) new) col':=by
 have hn:n<s.tres.length:=by obtain⟨h,_⟩:=tA8 ht;exact h
 have hn16:n<16:=by rw[←hs.tresn];exact hn
 have hlen:=h.st.trs.lens (fun t ht=>(hs.tres t ht).hd);have hcl:css.length=16:=by rw[h.st.trs.1,hs.tresn]
 have hfl:css.flatten.length=1200:=by rw[qnd hlen,hcl]
 have mA:Mdl w' col' k g c s L css:=h.keep hT rfl rfl rfl rfl rfl (fun _ _=>rfl) hf;obtain⟨cs,hcs,-⟩:=mA.st.trs.2 n t ht;have hT2:Turns (· ==k+1) w' col' (w'.setCells L.rg (n*75) new) col':=Turns.setCells new (by simp[mA.st.tres.1]);have keepB:∀i,i≠k+1→KeepsCol i w' col' (w'.setCells L.rg (n*75) new) col':=fun i hi=>hT2.keeps (by simpa using hi)
 have hbig:∀i,i=5∨10≤i→i≠k+1:=fun i hi=>by rcases hk with rfl|rfl<;>omega
 have hne:g≠L.rg:=by
  intro e;have a:=mA.own;rw[e,mA.st.tres.1]at a;rcases hk with rfl|rfl<;>cases a
 refine⟨⟨?_,mA.own,⟨tB1 mA.base.1 hT2.size,mA.base.2⟩,mA.fin.mono hT2.size,mA.seed.keep (keepB 5 (hbig 5 (.inl rfl))),?_⟩,mA.st.trs.keep fun i hi=>keepB i (hbig i hi),?_⟩
 · exact mA.blk.grown (qn5 L.rg new _ w') (by intro e;injection e with e;exact hne e)
 ·
  refine⟨mA.st.tens.keep (keepB k zo),?_,mA.st.gras.keep (keepB (k+2) zo),?_⟩
  · have h1:=mA.st.tres.over (o:=n*75) (cs:=new) (by rw[hfl];omega)
    have h2:=qne new hlen (n:=n) (j:=0) (by rw[hcl];exact hn16) zo;rw[Nat.add_zero]at h2;rw[h2]at h1;have e:(css.modify n fun x=>over x 0 new)=css.modify n fun _=>new:=qr6 fun x hx=>qs3 (by rw[hlen x (tB2 hx),hl])
    rwa[e]at h1
  refine⟨by rw[List.length_modify,h.st.trs.1];simp[Sta.setT],fun i t' ht'=>?_⟩;by_cases e:n=i
  · subst e
    rw[show (s.setT n f).tres=s.tres.modify n f from rfl,qo5 f ht]at ht';injection ht' with ht';subst ht';exact⟨new,qo5 _ hcs,hnew.keep fun i hi=>keepB i (hbig i hi)⟩
  rw[show (s.setT n f).tres=s.tres.modify n f from rfl,qo6 _ f e]at ht';obtain⟨c0,h1,h2⟩:=mA.st.trs.2 i t' ht';exact⟨c0,by rw[qo6 _ _ e];exact h1,h2.keep fun i hi=>keepB i (hbig i hi)⟩
 refine(hT.mono (q:=inP k) fun i hi=>by cases hi).trans (hT2.mono (q:=inP k) fun i hi=>?_);obtain rfl:i=k+1:=by simpa using hi
 unfold inP;simp
theorem qs4(tn wg:Int)(A:Option Addr)(n c:Nat):Tryz.prog.built 74 [(0,.int .i64 1),(1,.int .i64 tn),(2,.int .i64 wg),(4,.slice A n c)]=some (trev {Tre.zero with state:=1,tenant:=tn,weight:=wg} (.slice A n c) (.slice none 0 0) (.slice none 0 0)).toArray:=by kernel_rfl
theorem qs5(c:Cfg)(s:Sta)(L:Loc)(col:Col)(k g:Nat)(css:List (List Value))(R:Req)(Ac:Option Addr)(cc:Nat)(Al:Option Addr)(cl:Nat)(w:World)(hk:Kind k)(hc:c.Ok)(hs:s.Ok)(h:Mdl w col k g c s L css)
 (hr:Asked w col R Ac cc Al cl)(hT:Tabs w)(hpos:0≤R.tree):
 Zc 132 #[.pointer (some ⟨g,0,none⟩),.agg (reqv R (.slice Ac R.cavs.length cc) (.slice Al R.leaf.length cl)).toArray] w fun e w'=>∃v col',e=.returned v∧RspV w' col' w.heap.size v (qmo c s R).2∧Did w col w' col' k g c css s (qmo c s R).1:=by
 obtain⟨Q,hQ,rlen,rest,W0,hW0,q0,z0,b0⟩:=qr4 R Ac cc Al cl w hr.good.tag;rw[hQ];have hG0:=h.fin.none (b:=w.heap.size+1) zo;have D0:=Did.same (css:=css) h b0;obtain⟨H,AC,Q0,Z0,B0,A2,A7,HK⟩:=zh8 h hW0 q0 z0 b0 hG0 D0 hk;obtain⟨HS,HR,RL,A4,HQ⟩:=zh5 hs hr rlen rest hQ;clear h hW0 q0 z0 b0 hG0 D0 hk hs hr rlen rest hQ;obtain⟨HC,TT⟩:=zh2 hc hT;clear hc hT;obtain⟨n,hn⟩:∃i:Nat,R.tree=i:=⟨R.tree.toNat,by omega⟩;obtain⟨tn,htn⟩:=xeq R.tenant;obtain⟨wg,hwg⟩:=xeq R.weight;have k35:=(Q0.cell 35).trans (show Q.toArray[35]? =some (.int .i64 (n:Int)) by rw[tA3,←hn];exact A4.o 0);have k36:=(Q0.cell 36).trans (show Q.toArray[36]? =some (.int .i64 tn) by rw[tA3,←htn];exact A4.o 1);have k39:=(Q0.cell 39).trans (show Q.toArray[39]? =some (.int .i64 wg) by rw[tA3,←hwg];exact A4.o 4);obtain⟨A8,AJ,AD,C8,AK,HN,A5,A6⟩:=zh8 k35 k36 k39 (qai H.c8 B0.o) (qqe tn c s L col k g css W0 (H.call B0.o)) hn htn hwg;rw[AC.o]at k36;clear hn htn hwg k35 k39 hpos;go_enter Tryz.func132,Tryz.ntmps132
 go_wp2_with fail
 rw[←AC.o];refine AK.o.mono ?_;rintro e w' ⟨rfl,rfl⟩;clear k36;obtain⟨pv,hpv⟩:∃p:Value × Bool,p=if 0≤tn∧tn<16 then(.pointer (some ⟨L.tg,tn.toNat*6,none⟩),true) else(.pointer none,false):=⟨_,rfl⟩
 obtain⟨pt,pb⟩:=pv;rw[show (if 0≤tn∧tn<16 then Value.tuple #[.pointer (some ⟨L.tg,tn.toNat*6,none⟩),.bool true] else .tuple #[.pointer none,.bool false])=.tuple #[pt,.bool pb] by
  by_cases h:0≤tn∧tn<16
  · rw[if_pos h]at hpv ⊢;injection hpv with a b;subst a b;rfl
  rw[if_neg h]at hpv ⊢;injection hpv with a b;subst a b;rfl]
 have AE:=zh1 hpv;clear hpv;go_upto_region 2 with(fail)
 obtain⟨S,HS9⟩:=zS fun w'=>Zb W0 w'
 refine zrs S 25 (zq 0 25 []) ((HS9.o _).mpr ((tA5 _ _).drew)) ?_;obtain⟨F0,F1,F2⟩:=zh3 (zF HS9 A8.o) (zF HS9 AD.o) (zF HS9 C8.o);by_cases h0:n=0
 ·
  subst h0;iterate 25 (first|refine zsk ?_|refine zr3 ?_)
  refine qbf ?_;clear HS9 F0 F1 F2;obtain⟨W1,hW1,B1⟩:=zdr W0;rw[←hW1];clear hW1;obtain⟨Z1,A3⟩:=zh2 (Z0.below B1.o Z0.lt) (A7.call B1.o);have hdo:qmo c s R=(s,rWhy 25):=by
   unfold qmo;rw[if_pos (by rw[HN.o,A6.o,HS.tresn];omega)]
  have A0:=zh1 hdo;clear hdo;go_wp2_with fail
  exact qr5 A0 HK (A2.o) (qqd 25 W1) (Z1.o) (A3.o)
 have q0:((n:Int)==0)=false:=by simp;omega
 by_cases h16:16≤n
 ·
  have q1:(16:Int)≤n:=zo;iterate 25 (first|refine zsk ?_|refine zr3 ?_)
  refine qbf ?_;clear HS9 F0 F1 F2;obtain⟨W1,hW1,B1⟩:=zdr W0;rw[←hW1];clear hW1;obtain⟨Z1,A3⟩:=zh2 (Z0.below B1.o Z0.lt) (A7.call B1.o);have hdo:qmo c s R=(s,rWhy 25):=by
   unfold qmo;rw[if_pos (by rw[HN.o,A6.o,HS.tresn];omega)]
  have A0:=zh1 hdo;clear hdo;go_wp2_with fail
  exact qr5 A0 HK (A2.o) (qqd 25 W1) (Z1.o) (A3.o)
 have q1:¬(16:Int)≤n:=zo;by_cases hw1:wg<1
 ·
  iterate 25 (first|refine zsk ?_|refine zr3 ?_)
  refine qbf ?_;clear HS9 F0 F1 F2;obtain⟨W1,hW1,B1⟩:=zdr W0;rw[←hW1];clear hW1;obtain⟨Z1,A3⟩:=zh2 (Z0.below B1.o Z0.lt) (A7.call B1.o);have hdo:qmo c s R=(s,rWhy 25):=by
   unfold qmo;rw[if_pos (by rw[HN.o,A6.o,HS.tresn];omega)]
  have A0:=zh1 hdo;clear hdo;go_wp2_with fail
  exact qr5 A0 HK (A2.o) (qqd 25 W1) (Z1.o) (A3.o)
 by_cases hw4:4<wg
 ·
  iterate 25 (refine zr3 ?_)
  refine qbf ?_;clear HS9 F0 F1 F2;obtain⟨W1,hW1,B1⟩:=zdr W0;rw[←hW1];clear hW1;obtain⟨Z1,A3⟩:=zh2 (Z0.below B1.o Z0.lt) (A7.call B1.o);have hdo:qmo c s R=(s,rWhy 25):=by
   unfold qmo;rw[if_pos (by rw[HN.o,A6.o,HS.tresn];omega)]
  have A0:=zh1 hdo;clear hdo;go_wp2_with fail
  exact qr5 A0 HK (A2.o) (qqd 25 W1) (Z1.o) (A3.o)
 iterate 25 (refine zr3 ?_)
 refine qbf ?_;clear HS9 F0 F1 F2;obtain⟨W1,hW1,B1⟩:=zdr W0;rw[←hW1];clear hW1;obtain⟨Z1,A3⟩:=zh2 (Z0.below B1.o Z0.lt) (A7.call B1.o);have h16':n<16:=zo;obtain⟨t,ht⟩:∃t,s.tres[n]? =some t:=⟨_,tA7 (by rw[HS.tresn];exact h16')⟩;obtain⟨-,Ad,cd,Al',cl',Aq,cq,hcs,hcell,-,-,-⟩:=H.st.tree HS.o ht;have C0:=zh1 (qai (hcell 0 (.int .i64 t.state) rfl) B0.o);simp only[Nat.add_zero]at C0;obtain⟨HT,AN⟩:=zh2 ht (HS.tre ht);have n1:1≤n:=zo;have HB:=zh1 (⟨n1,h16',hw1,hw4⟩:1≤n∧n<16∧¬wg<1∧¬4<wg);have hd1:qmo c s R=(if t.state≠0 then(s,rWhy 27)
  else match s.tenant R.tenant with
   |none=>(s,rWhy 23)
   |some x=>if !x.on then(s,rWhy 23) else((s.setT R.tree.toNat fun _=>{Tre.zero with state:=1,tenant:=R.tenant,weight:=R.weight,draws:=[s.draw]}).pub c R.tree.toNat,qmk R.tree.toNat)):=by
  unfold qmo;rw[if_neg (by rw[HN.o,A6.o,HS.tresn];omega),HN.o,tBe,ht];rfl
 have A9:=zh1 hd1;clear ht hcs hcell hd1 hw1 hw4 h0 h16;have q2:(0:Int)≤n:=zo;have q3:(n:Int)<16:=zo;go_upto_region 4 with(fail)
 obtain⟨S,HS9⟩:=zS fun w'=>Zb W1 w'
 refine zrs S 12 (zq 0 12 []) ((HS9.o _).mpr ((tA5 _ _).drew)) ?_;obtain⟨F0,F1,F2⟩:=zh3 (zF HS9 (qai A8.o B1.o)) (zF HS9 (qai C0.o B1.o)) (zF HS9 (qai C8.o B1.o));obtain⟨ts,hts⟩:=xeq t.state;rw[hts]at C0 F1 A9;iterate 12 (refine zr3 ?_)
 refine qbf ?_;clear HS9 F0 F1 F2;obtain⟨W2,hW2,B2⟩:=zdr W1;rw[←hW2];clear hW2;obtain⟨Z2,AA,A1⟩:=zh3 (Z1.below B2.o Z1.lt) (A3.call B2.o) (B1.trans (B2.mono B1.size));by_cases hs0:ts=0
 ·
  subst hs0;have hd2:=A9.o;rw[if_neg zm]at hd2;have AB:=zh1 hd2;clear hd2;by_cases hok:0≤tn∧tn<16
  ·
   have hpv:=AE.o;rw[if_pos hok]at hpv;injection hpv with hp1 hp2;subst hp1 hp2;obtain⟨m,rfl⟩:∃m:Nat,tn=m:=⟨tn.toNat,by omega⟩;rw[tBe];obtain⟨x,hx⟩:∃x,s.tens[m]? =some x:=⟨_,tA7 (by rw[HS.tensn];omega)⟩;have hten:s.tenant R.tenant=some x:=by unfold Sta.tenant;rw[A5.o,if_pos zo,tBe];exact hx
   have con:w.cell? ⟨L.tg,m*6,none⟩=some (.bool x.on):=H.st.tens.cell ((qnk hx (by omega:(0:Nat)<6)).trans rfl);have con2:=qai (qai con B0.o) A1.o;obtain⟨on,hon⟩:=xeq x.on;rw[hon]at con2;cases on with
   |false=>
    have hdo:qmo c s R=(s,rWhy 23):=by
     rw[AB.o,hten];simp[hon]
    have A0:=zh1 hdo;clear hdo hx hten con;go_wp2_with fail
    clear con2;exact qr5 A0 HK (A2.o) (qqd 23 W2) (Z2.o) (AA.o)
   |true=>
    have hdo:qmo c s R=((s.setT n fun _=>{Tre.zero with state:=1,tenant:=(m:Int),weight:=wg,draws:=[s.draw]}).pub c n,qmk n):=by
     rw[AB.o,hten];simp only[hon];rw[HN.o,A5.o,A6.o,tBe];rfl
    have A0:=zh1 hdo;clear hdo hx hten con;go_upto_region 8 with(fail)
    clear con2;have C5:=zh1 (qai (qai H.c5 B0.o) A1.o);have cW:col w.heap.size=0:=by
     by_cases e:col w.heap.size=0
     · exact e
     have:=H.fin _ e;omega
    have CW:=zh1 cW;obtain⟨dr,hdr⟩:=xeq s.draw;have hdb:dr<4294967296:=by rw[←hdr];exact HS.draw
    rw[hdr]at C5 A0;have AO:=zh1 hdr;clear cW hdr;obtain⟨S,HS9⟩:=zS fun w'=>Zb W2 w'
    refine zrs S 19 (zq 0 16 [(16,true),(17,false),(18,false),(19,true)]) ((HS9.o _).mpr ((tA5 _ _).drew)) ?_;obtain⟨F0,F1,F2,F3,F4⟩:=zh5 (zF HS9 (qai A8.o A1.o)) (zF HS9 (qai AD.o A1.o)) (zF HS9 (qai C8.o A1.o)) (zF HS9 (qai AJ.o A1.o)) (zF HS9 C5.o);iterate 16 (refine zr5 ?_)
    obtain⟨Wd,hWd,BD⟩:=zdr W2;rw[←hWd];clear hWd;refine zw ?_;go_simp;obtain⟨wB,hwB⟩:=eqx (Wd.alloc (.cells #[.int .u32 (dr:Int)] 22));rw[←hwB];have bB:=zMa hwB;have blB:=zNa hwB;have BB:=zh1 (BD.trans (bB.mono BD.size));obtain⟨AF,SW,AG⟩:=zh3 (B0.trans ((A1.trans (BB.mono A1.size)).mono B0.size)) (show w.heap.size+1<Wd.heap.size by have:=BD.size;have:=A1.size;have:=Z0.lt;omega) blB;clear hwB bB blB;refine⟨(HS9.o _).mpr BB.o,zput ?_⟩;obtain⟨X,hX⟩:=eqx (trev {Tre.zero with state:=1,tenant:=(m:Int),weight:=wg,draws:=[dr]} (.slice (some ⟨Wd.heap.size,0,none⟩) 1 1) (.slice none 0 0) (.slice none 0 0));have bT:Tryz.prog.built 74 [(0,.int .i64 1),(1,.int .i64 (m:Int)),(2,.int .i64 wg),(4,.slice (some ⟨Wd.heap.size,0,none⟩) 1 1)]=some X.toArray:=by rw[hX];exact qs4 (m:Int) wg _ 1 1
    obtain⟨BT,HX,LX,OX⟩:=zh4 bT hX (show X.length=75 by rw[hX];exact qnj _ _ _ Hd.zero_Ok) (show ∀u∈X,u.oneCell'=true by rw[hX];exact qqk _ _ _ _ rfl rfl rfl);clear bT hX;refine qbg rfl rfl ⟨.agg X.toArray,fun w1 hS=>qgn 74 _ rfl _ _ BT.o (by simp[Act.eval]),?_⟩;refine zP ?_;iterate 1 (refine zrb ?_)
    obtain⟨col1,hcol⟩:∃f:Col,f=fun b=>if b=Wd.heap.size then 10+3*n else col b:=⟨_,rfl⟩
    have cd1:col1 Wd.heap.size=10+3*n:=by rw[hcol];simp
    have cl1:∀b,b<Wd.heap.size→col1 b=col b:=fun b hb=>by rw[hcol];simp;omega
    have fin1:Fin_ col1 wB:=by
     intro b hb;rw[hcol]at hb;by_cases e:b=Wd.heap.size
     · rw[e];exact AG.lt
     simp[e]at hb;have:=H.fin b hb;have:=AF.size;omega
    have TB:Turns (fun _=>false) w col wB col1:=(Turns.of_below _ AF.o).recolour fun b hb=>cl1 b (by have:=SW.o;omega)
    have hnew:TreAt wB col1 n X ({Tre.zero with state:=1,tenant:=(m:Int),weight:=wg,draws:=[dr]}:Tre):=
     ⟨_,_,_,HX.o,⟨rfl,.inr ⟨Wd.heap.size,0,1,[.int .u32 (dr:Int)],rfl,cd1,AG.o,tA4 _,by simp[maxLen],by simp,rfl⟩⟩,TextsC.nil _ _ _,TextsC.nil _ _ _⟩
    obtain⟨N1,N2,N3⟩:=H.treSet HK.o HS.o HT.o TB fin1 (fun _=>{Tre.zero with state:=1,tenant:=(m:Int),weight:=wg,draws:=[dr]}) X LX.o hnew;have MB:=H.keep TB rfl rfl rfl rfl rfl (fun _ _=>rfl) fin1;have hth:=MB.st.tres.there (o:=n*75) (m:=75) (by rw[qnd (MB.st.trs.lens (fun t ht=>(HS.tres t ht).hd)),MB.st.trs.1,HS.tresn];have:=HB.o;omega);have hfok:({Tre.zero with state:=1,tenant:=(m:Int),weight:=wg,draws:=[dr]}:Tre).Ok:=by
     have hz:=Tre.zero_ok;have hb:=HB.o;exact⟨⟨by simp,by simp⟩,⟨by simp,by simp;omega⟩,⟨by simp;omega,by simp;omega⟩,rfl,fun _=>⟨by simp;omega,by simp⟩,by simp,by simp;exact hdb,hz.leaves,hz.leafb,hz.queue,hz.queueb,hz.hd,hz.hdt,hz.hde,hz.hds⟩
    have sok:(s.setT n fun _=>{Tre.zero with state:=1,tenant:=(m:Int),weight:=wg,draws:=[dr]}).Ok:=HS.setT (fun _ _ _=>hfok) (fun e=>absurd e (by have:=HB.o;omega));have ht2:(s.setT n fun _=>{Tre.zero with state:=1,tenant:=(m:Int),weight:=wg,draws:=[dr]}).tres[n]? =some {Tre.zero with state:=1,tenant:=(m:Int),weight:=wg,draws:=[dr]}:=qo5 _ HT.o;have AH:=TT.turns N3 (qr1 HK.o) H.base;have AI:=zh1 (qpj c _ L col1 k g _ n _ _ HK.o HC.o sok N1 ht2 zm AH);have z4:Blk (wB.setCells L.rg (n*75) X) (w.heap.size+1) 57 Tryz.zeroCells57:=
     ((Z2.below BB.o Z2.lt)).grown (qn5 L.rg X _ wB) (by
      intro e;injection e with e;have:=A2.o;rw[e,H.st.tres.1]at this;omega)
    have k35:(wB.setCells L.rg (n*75) X).cell? ⟨w.heap.size,35,none⟩=some (.int .i64 (n:Int)):=
     qo7 (p:=(· ==k+1)) (col:=col) (qai (qai A8.o A1.o) BB.o) (Turns.setCells X (by simp[H.st.tres.1])) (by rw[CW.o];simp)
    have g1:col1 (w.heap.size+1)=0:=(cl1 _ SW.o).trans A2.o;refine zw ?_;refine wp_store_mid 74 (.tmp 82) (.tmp 81) rfl L.rg (n*75) X.toArray rfl rfl (by rw[tB6,LX.o];exact hth) (by rw[tB6,LX.o];kernel_rfl) (by simpa using OX.o) ?_;refine⟨fun h=>absurd h zdc,zput ?_⟩;refine qbf ?_;obtain⟨W4,hW4⟩:=eqx (wB.setCells L.rg (n*75) X);obtain⟨K4,Z4,N2',N3',G1,G2⟩:=zh6 k35 z4 N2 N3 g1 ((cl1 w.heap.size (by have:=SW.o;omega)).trans CW.o);have e9:(wB.setCells L.rg (n*75) X.toArray.toList)=W4:=by rw[hW4]
    rw[e9];rw[←hW4]at K4 Z4 N2' N3' AI;clear HS9 F0 F1 F2 F3 F4 hcol cd1 cl1 fin1 TB hnew N1 N2 N3 MB hth hfok sok ht2 AH z4 k35 g1 hW4 e9;have k35:=K4.o;go_wp2_with fail
    refine AI.o.mono ?_;rintro e W5 ⟨rfl,⟨css5,M5⟩,T5⟩;have D5:Did w col W5 col1 k g c css s ((s.setT n fun _=>{Tre.zero with state:=1,tenant:=(m:Int),weight:=wg,draws:=[dr]}).pub c n):=
     ⟨⟨L,css5,M5⟩,N2'.keep fun i hi=>T5.keeps (by have:=HK.o;rcases this with rfl|rfl<;>simp<;>omega),N3'.trans (T5.mono fun i hi=>(show i=k+1 by simpa using hi)▸(by unfold inP;simp))⟩
    have z5:Blk W5 (w.heap.size+1) 57 Tryz.zeroCells57:=(T5.block _ Z4.lt (by rw[G1.o];simp)).trans Z4.o;have k35:=qo7 K4.o T5 (by rw[G2.o];simp);obtain⟨AL,AM⟩:=zh2 D5 z5;clear D5 z5 M5 T5;have hnb:n<16:=HB.o.2.1;go_wp2_with fail
    exact qr5 A0 HK (G1.o) (qqc n W5 zo) (AM.o) (AL.o)
  have hpv:=AE.o;rw[if_neg hok]at hpv;injection hpv with hp1 hp2;subst hp1 hp2;have hdo:qmo c s R=(s,rWhy 23):=by
   rw[AB.o];unfold Sta.tenant;rw[A5.o];by_cases h0:0≤tn
   · rw[if_pos h0,List.getElem?_eq_none (by rw[HS.tensn];omega)]
   rw[if_neg h0]
  have A0:=zh1 hdo;clear hdo hok;go_wp2_with fail
  exact qr5 A0 HK (A2.o) (qqd 23 W2) (Z2.o) (AA.o)
 have qs:(ts==0)=false:=by simp;exact hs0
 have hdo:qmo c s R=(s,rWhy 27):=by rw[A9.o,if_pos hs0]
 have A0:=zh1 hdo;clear hdo;go_wp2_with fail
 exact qr5 A0 HK (A2.o) (qqd 27 W2) (Z2.o) (AA.o)
end Go.Proofs.YthomgopipiomhaaGreatDoor

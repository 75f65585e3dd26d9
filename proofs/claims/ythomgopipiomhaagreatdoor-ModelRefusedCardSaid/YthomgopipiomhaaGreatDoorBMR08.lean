/- Lemmas. -/
import Derived.Test.YthomgopipiomhaaGreatDoorBMR07
namespace Go.Proofs.YthomgopipiomhaaGreatDoor
open Go.RowKit
set_option linter.unusedVariables false
set_option linter.unusedSimpArgs false
set_option maxRecDepth 100000
set_option maxHeartbeats 32000000
variable {bs:List Nat}{u v' vd vl vq v va vr vg:Value}{vs xs X cs vs2 vsj:List Value}{t:Tre}{n k g id y size G base' i cl cc j kk gw tb b B sz:Nat}{css:List (List Value)}{L:Loc}{s s':Sta}{c:Cfg}{col col' colW colW':Col}{w w' W W' w0 w2:World}{r R:Req}{e tt rt gt:TypeId}{Al Ac A:Option Addr}{q:Int}{P:Program}{Q:Exit→Act→World→Prop}{K:Act→World→Prop}{a:Act}{o:Oper}
def qvf (c:Cfg)(s:Sta):Nat:=if 1024≤(s.tres[0]?.getD Tre.zero).leaves.length then 4 else if c.store<stored s+64 then 26 else 0
theorem qvg(c:Cfg)(s s1:Sta)(L L1:Loc)(col:Col)(g:Nat)(css css1:List (List Value))(w:World)(hc:c.Ok)(hs:s.Ok)(h:Mdl w col 6 g c s1 L1 css1)(hst:StAt 92 74 66 w col 2 L css s):
 Zc 56 #[.pointer (some ⟨g,0,none⟩),.agg (stav s L).toArray] w fun e w'=>e=.returned (.int .i64 ((qvf c s:Nat):Int))∧Zb w w':=by
 show Zc 56 #[.pointer (some ⟨g,0,none⟩),.agg #[.int .u64 (s.clock:Int),.int .u32 (s.draw:Int),.int .i64 s.lane,.slice (some ⟨L.tg,0,none⟩) 16 L.tc,.slice (some ⟨L.rg,0,none⟩) 16 L.rc,.slice (some ⟨L.gg,0,none⟩) s.gras.length L.gc]] w _;obtain⟨t,ht,-,-⟩:=hs.first;obtain⟨-,Ad,cd,Al,cl,Aq,cq,-,hcell,-,-,-⟩:=hst.tree hs ht;have hto:=hs.tre ht;obtain⟨nl,hnl⟩:=xeq t.leaves.length;have e5:=hcell 5 (.slice Al t.leaves.length cl) rfl;rw[hnl]at e5;rw[show 0*75+5=5 from rfl]at e5;have nb:nl≤1024:=by have:=hto.leaves;omega
 have hsb:stored s≤16*851968:=by rw[←qrk s hs];exact qrj hs.tres 16
 have hfw:qvf c s=if 1024≤nl then 4 else if c.store<stored s+64 then 26 else 0:=by
  unfold qvf;rw[ht,Option.getD_some,hnl]
 rw[hfw];have CS:=zh1 (fun(w':World)(hb:Zb w w')=>qrl s L col 2 css w' hs (hst.keep ((Turns.of_below (fun _=>false) hb).keeps rfl) ((Turns.of_below (fun _=>false) hb).keeps rfl) ((Turns.of_below (fun _=>false) hb).keeps rfl) fun i _=>(Turns.of_below (fun _=>false) hb).keeps rfl));obtain⟨st,hstd⟩:=xeq (stored s);rw[hstd]at CS hsb ⊢;have csb:c.store≤32768:=hc.store;obtain⟨cst,hcst⟩:=xeq c.store;have c2:=h.c2;rw[hcst]at c2 csb ⊢;obtain⟨E5,C2⟩:=zh2 e5 c2;clear hcell ht hto hnl e5 hfw hstd hcst c2 h hst hc hs;obtain⟨W0,hW0⟩:=eqx (w.alloc (.cells #[.int .u64 (s.clock:Int),.int .u32 (s.draw:Int),.int .i64 s.lane,.slice (some ⟨L.tg,0,none⟩) 16 L.tc,.slice (some ⟨L.rg,0,none⟩) 16 L.rc,.slice (some ⟨L.gg,0,none⟩) s.gras.length L.gc] 49));have B0:=zh1 (show Zb w W0 by rw[hW0];exact qah (tA5 _ _) _);have z0:=zNa hW0;have Z0:=zh1 z0;have e5:=qai E5.o B0.o;rw[hW0]at e5;clear z0;obtain⟨fw,hfw⟩:∃n:Nat,(if 1024≤nl then 4 else if cst<st+64 then 26 else 0)=n:=⟨_,rfl⟩;rw[hfw];have A0:=zh1 hfw;clear hfw;go_enter Tryz.func56,Tryz.ntmps56
 by_cases hl:1024≤nl
 ·
  have ql:(1024:Int)≤nl:=zo;have HF:=zh1 (show fw=4 by rw[←A0.o,if_pos hl]);clear hl;go_wp2
  go_ret
  exact⟨by rw[HF.o];rfl,by rw[←hW0];exact B0.o⟩
 have ql:¬(1024:Int)≤nl:=zo;have A1:=zh1 hl;clear hl;go_upto_region 3 with(fail)
 rw[←hW0];clear e5 hW0;obtain⟨S,HS9⟩:=zS fun w'=>Zb W0 w'
 refine zrs S 11 ((0,false)::zq 3 6 [(1,true),(2,true),(9,false),(10,false)]) ((HS9.o _).mpr ((tA5 _ _).drew)) ?_;obtain⟨F2,FS,SI⟩:=zh3 (zF HS9 (qai C2.o B0.o)) (fun(w':World)(h:S w')=>qap (Z0.below ((HS9.o w').mp h) Z0.lt) 0 (stav s L) (fun j u hu=>by simpa [stav] using hu)) (show (Tryz.prog.info? 49).map (·.size)=some 6 by kernel_rfl);refine qos rfl rfl 49 (.tmp 3) rfl w.heap.size 0 rfl (stav s L) _ FS.o Tryz.underlying49 rfl SI.o ?_;refine zP ?_;have w1:IntKind.u64.wrap (cst:Int)=(cst:Int):=tBa _ zo;iterate 6 (refine zre rfl rfl (fun w1 hS=>by have g2:=F2.o w1 hS;clear hS;go_simp;try rfl) ?_)
 obtain⟨Wd,hWd,BD⟩:=zdr W0;rw[←hWd];clear hWd;refine zw ?_;go_simp;refine zcb (CS.o Wd (B0.trans (BD.mono B0.size))) fun w1 b1=>?_
 have B1:=zh1 (BD.trans (b1.mono BD.size));clear b1;refine⟨(HS9.o _).mpr B1.o,zput ?_⟩;refine zw ?_;go_simp;refine(qqr (st:Int) 64 w1 zo zo zo zo).mono ?_;rintro e w2 ⟨rfl,rfl⟩;rw[show sumI (st:Int) 64=((st+64:Nat):Int) by unfold sumI;rw[if_neg zo];omega];refine⟨(HS9.o _).mpr B1.o,zput ?_⟩;by_cases hf:cst<st+64
 ·
  have qf:(cst:Int)<((st+64:Nat):Int):=zo;have qf2:(cst:Int)<(st:Int)+64:=zo;have HF:=zh1 (show fw=26 by rw[←A0.o,if_neg A1.o,if_pos hf]);clear hf;iterate 2 (refine zrb ?_)
  refine qbg ?_;clear HS9 F2 FS;go_wp2
  go_ret
  exact⟨by rw[HF.o];rfl,B0.trans (B1.mono B0.size)⟩
 have qf:¬(cst:Int)<((st+64:Nat):Int):=zo;have qf2:¬(cst:Int)<(st:Int)+64:=zo;have HF:=zh1 (show fw=0 by rw[←A0.o,if_neg A1.o,if_neg hf]);clear hf;iterate 2 (refine zrb ?_)
 refine qbg ?_;clear HS9 F2 FS;go_wp2
 go_ret
 exact⟨by rw[HF.o];rfl,B0.trans (B1.mono B0.size)⟩
theorem Mdl.leafAdd(h:Mdl w col k g c s L css)(hk:Kind k)(hs:s.Ok)(ht:s.tres[n]? =some t)(hcs:css[n]? =some (trev t vd vl vq))(hlen:vs.length=t.leaves.length)
 (htx:∀(i:Nat) (bs:List Nat),t.leaves[i]? =some bs→∃u,vs[i]? =some u∧TextC w col u bs)(hu:TextC w col u bs)(ha:AppendedC w col w' col' (11+3*n) vl v' 23 1 t.leaves.length 1 vs [u]):
 Mdl (w'.setCell ⟨L.rg,n*75+5,none⟩ v') col' k g c (s.setT n fun t=>{t with leaves:=t.leaves++[bs]}) L (css.modify n fun x=>x.set 5 v')∧TrsAt (w'.setCell ⟨L.rg,n*75+5,none⟩ v') col' css s.tres∧Turns (inP k) w col (w'.setCell ⟨L.rg,n*75+5,none⟩ v') col':=by
 obtain⟨r1,r2,r3⟩:=h.rows ht hcs;have kp:∀i,i≠11+3*n→KeepsCol i w col w' col':=fun i hi=>ha.turns.keeps (by simpa using hi)
 obtain⟨t1,t2⟩:=qs1 ha hlen htx hu (kp 5 zo);exact h.treRow hk hs ht hcs (.inr (.inl rfl)) ha.turns (ha.fin h.fin) _ v' zo
  ⟨vd,vl,vq,rfl,r1.keep (kp _ zo),t1,r3.keep (kp _ zo) (kp 5 zo)⟩
  ⟨vd,v',vq,rfl,r1.keep (kp _ zo),t2,r3.keep (kp _ zo) (kp 5 zo)⟩
theorem qvh(c:Cfg)(s:Sta)(L:Loc)(col:Col)(k g:Nat)(css:List (List Value))(R:Req)(Ac:Option Addr)(cc:Nat)(Al:Option Addr)(cl:Nat)(w:World)(hk:Kind k)(hc:c.Ok)(hs:s.Ok)(h:Mdl w col k g c s L css)
 (hr:Asked w col R Ac cc Al cl)(hT:Tabs w)(ha:qlm R.op=true)(hl:∀t,s.tres[0]? =some t→t.leaves.length<1024):
 Zc 57 #[.pointer (some ⟨g,0,none⟩),.agg (reqv R (.slice Ac R.cavs.length cc) (.slice Al R.leaf.length cl)).toArray] w fun e w'=>∃col',e=.returned (.tuple #[])∧Did w col w' col' k g c css s ((s.setT 0 fun t=>{t with leaves:=t.leaves++[qni s R]}).pub c 0):=by
 have rlen:=qjd R (.slice Ac R.cavs.length cc) (.slice Al R.leaf.length cl) hr.good.tag;have rtok:=qje R (.slice Ac R.cavs.length cc) (.slice Al R.leaf.length cl);obtain⟨Q,hQ⟩:=xeq (reqv R (.slice Ac R.cavs.length cc) (.slice Al R.leaf.length cl));have CB:=fun(w':World)(hb:Zb w w')=>qij R (.slice Ac R.cavs.length cc) Al cl w' hr.good.fit (hr.leaf.call hb) hr.leafc hr.leafm
 rw[hQ]at rlen rtok CB ⊢;obtain⟨t,ht,hst,hq0⟩:=hs.first;obtain⟨-,Ad,cd,Al',cl',Aq,cq,hcs,hcell,-,-,-⟩:=h.st.tree hs ht;have hto:=hs.tre ht;have hl0:=hl t ht;obtain⟨W0,hW0⟩:=eqx (w.alloc (.cells Q.toArray 34));have q0:=zNa hW0;have b0:=zMa hW0;obtain⟨ti,hti⟩:=xeq R.tid;have tb:ti<4294967296:=by rw[←hti];exact hr.good.tid
 have k1:Q.toArray[1]? =some (.int .u32 (ti:Int)):=by rw[tA3,←hti];exact rtok 0 _ rfl
 obtain⟨clk,hclk⟩:=xeq s.clock;have cb:clk<18446744073709551616:=by rw[←hclk];exact hs.clock
 have c4:=h.c4;rw[hclk]at c4;have hnd:qni s R=be clk 8++(be ti 4++(qi9 R).2):=by unfold qni;rw[hclk,hti]
 have hlo:=qtt s R hr.good ha;have bl:=qts R ha;rw[hnd]at hlo ⊢;obtain⟨bd,hbd⟩:=xeq ((qi9 R).2);rw[hbd]at hlo bl CB ⊢;obtain⟨nl,hnl⟩:=xeq t.leaves.length;have e5:=hcell 5 (.slice Al' t.leaves.length cl') rfl;rw[hnl,show 0*75+5=5 from rfl]at e5;rw[hnl]at hl0;obtain⟨H,A4,A5,HK,HC,HS,HR,TT⟩:=zh8 h q0 b0 hk hc hs hr hT;obtain⟨RL,K1,C4,AH,HT,AI,AJ,A1⟩:=zh8 rlen k1 c4 CB ht hto hcs hnl;obtain⟨E5,AK,AL,AM,AN,A2,AO⟩:=zh7 e5 hlo bl hst hq0 (show w.heap.size<W0.heap.size by rw[hW0];simp) (zI 34 rlen);clear h q0 b0 hk hc hs hr hT rlen rtok k1 c4 CB ht hto hcs hcell hnl e5 hlo bl hst hq0 hQ hti hclk hnd hbd ha hl;go_enter Tryz.func57,Tryz.ntmps57
 go_wp2_with fail
 rw[←hW0];refine(qd3 W0).mono ?_;rintro e w1 ⟨rfl,h1,b1⟩;obtain⟨hww1,Zw1,Bw1⟩:=zh3 h1 (A4.below b1 A4.lt) (A5.trans (b1.mono A5.size));clear h1 b1 hW0;have c4:=qai C4.o Bw1.o;go_wp2_with fail
 refine(qd2 _ _ (clk) 8 _ w1 hww1.o zo (by simp only[tA6,qaw,List.length_nil,qow,qox,qoy];omega)).mono ?_;rintro e w2 ⟨rfl,hw2,bw2,-⟩;simp only[qow,qox,qoy]at hw2;obtain⟨hww2,Zw2,Bw2⟩:=zh3 hw2 (Zw1.below bw2 (by first|exact A2.o|omega)) (Bw1.trans (bw2.mono (by first|exact Nat.le_of_lt A2.o|omega)));clear hw2 bw2;clear c4;have k1:=(Zw2.cell 1).trans K1.o;have u1:IntKind.u64.wrap (ti:Int)=(ti:Int):=tBa _ zo;go_wp2_with fail
 refine(qd2 _ _ (ti) 4 _ w2 hww2.o zo (by simp only[tA6,qaw,List.length_nil,qow,qox,qoy];omega)).mono ?_;rintro e w3 ⟨rfl,hw3,bw3,-⟩;simp only[qow,qox,qoy]at hw3;obtain⟨hww3,Zw3,Bw3⟩:=zh3 hw3 (Zw2.below bw3 (by first|exact A2.o|omega)) (Bw2.trans (bw3.mono (by first|exact Nat.le_of_lt A2.o|omega)));clear hw3 bw3;clear k1 u1;have AP:=zh1 (qap Zw3.o 0 Q zjq);go_wp2_with (refine zld AP.o zu34 AO.o ?_)
 refine(AH.o w3 Bw3.o).mono ?_;rintro e w4 ⟨vb,rfl,ob,b4⟩;obtain⟨Ab,nb,cb,rfl,-,-,rb⟩:=OwnB.sl ob;obtain⟨hww4,Bw4,RB⟩:=zh3 (hww3.kept_call b4) (Bw3.trans (b4.mono Bw3.size)) rb;clear b4 rb ob;have c8:=qai H.c8 Bw4.o;go_upto_region 6 with(fail)
 clear c8;have AQ:=zh1 (qai E5.o Bw4.o);obtain⟨S,HS9⟩:=zS fun w'=>w'.cell? ⟨L.rg,5,none⟩=some (.slice Al' nl cl')
 refine zrs S 14 (zq 0 6 [(7,false),(6,true),(8,true),(9,true),(10,true),(11,true),(12,false),(13,false),(14,true)]) ((HS9.o _).mpr (AQ.o)) ?_;have F0:=zh1 (fun(w':World)(h:S w')=>(HS9.o w').mp h);iterate 7 (refine zr1 ?_)
 obtain⟨Wd,hWd,BD⟩:=zdr w4;rw[←hWd];clear hWd;have Bwd:=zh1 (Bw4.trans (BD.mono Bw4.size));refine zw ?_;go_simp;refine(qd5 _ _ _ Wd (hww4.kept_call BD.o) (by simp only[tA6,qaw,List.length_nil];omega)).mono ?_;rintro e w6 ⟨v6,rfl,o6,b6⟩;replace o6:OwnB w6 Wd.heap.size v6 (be clk 8++be ti 4):=OwnB.cast (OwnB.of o6) (by simp only[List.nil_append]);obtain⟨A6,n6,c6,rfl,-,-,r6⟩:=o6.sl;have l6:=qb5 r6;obtain⟨Bw6,R6,L6,A7⟩:=zh4 (Bwd.trans (b6.mono Bwd.size)) r6 l6 ((RB.call BD.o).call b6);clear o6 b6 r6 l6;refine⟨(HS9.o _).mpr (qai E5.o Bw6.o),zput ?_⟩;refine zw ?_;go_simp;obtain⟨w7,hw7⟩:=eqx (w6.alloc (.cells #[.slice A6 n6 c6,.slice Ab nb cb] 23));rw[←hw7];have b67:=zMa hw7;have x0:w7.cell? ⟨w6.heap.size,0,none⟩=some (.slice A6 n6 c6):=by rw[hw7];exact(qak w6 _ _ 0).trans rfl
 have x1:w7.cell? ⟨w6.heap.size,1,none⟩=some (.slice Ab nb cb):=by rw[hw7];exact(qak w6 _ _ 1).trans rfl
 have lb:=qb5 A7.o;have J:=qjt w6.heap.size n6 c6 nb cb _ _ (be clk 8++be ti 4) bd w7 x0 x1 (R6.call b67) (A7.call b67) (by have h1:=L6.o;have h2:=AL.o;simp only[tA6,qaw]at h1;omega);obtain⟨HJ,Bw7⟩:=zh2 J (Bw6.trans (b67.mono Bw6.size));clear J x0 x1 b67 hw7 lb;refine⟨(HS9.o _).mpr (qai E5.o Bw7.o),zput ?_⟩;refine zw ?_;go_simp;refine HJ.o.mono ?_;rintro e w8 ⟨v8,rfl,o8,b8⟩;replace o8:OwnB w8 w7.heap.size v8 (be clk 8++(be ti 4++bd)):=OwnB.cast o8 (by simp only[List.append_assoc]);have Bw8:=zh1 (Bw7.trans (b8.mono Bw7.size));have M8:=H.call Bw8.o;obtain⟨A8,n8,c8,rfl,-,-,-⟩:=o8.sl;obtain⟨col1,hc1,tx1,fin1⟩:=qs2 (w:=w7) (col:=col) o8 (tA4 _) b8.size (H.fin.mono Bw7.size);have T1:Turns (fun _=>false) w7 col w8 col1:=(Turns.of_below _ b8).recolour hc1;obtain⟨AR,AS,AT⟩:=zh3 tx1 fin1 ((Turns.of_below (fun _=>false) Bw7.o).trans T1);clear tx1 fin1 T1 o8 hc1 M8 b8;refine⟨(HS9.o _).mpr (qai E5.o Bw8.o),zput ?_⟩;refine zw ?_;go_simp;obtain⟨wB,hwB⟩:=eqx (w8.alloc (.cells #[.slice A8 n8 c8] 23));rw[←hwB];have bB:=zMa hwB;have blB:=zNa hwB;have TB:=AT.trans (Turns.of_below (fun _=>false) bB);obtain⟨BB,AA,A3,BwB⟩:=zh4 bB blB TB (Bw8.trans (bB.mono Bw8.size));clear hwB bB blB TB;refine⟨(HS9.o _).mpr (qai E5.o BwB.o),zput ?_⟩;have MB:=H.keep A3.o rfl rfl (by have:=HK.o;rcases this with rfl|rfl<;>rfl) (by have:=HK.o;rcases this with rfl|rfl<;>rfl) (by have:=HK.o;rcases this with rfl|rfl<;>rfl) (fun _ _=>rfl) (AS.mono BB.size);have A0:css[0]? =some (trev t (.slice Ad t.draws.length cd) (.slice Al' nl cl') (.slice Aq t.queue.length cq)):=by rw[AJ.o,A1.o]
 obtain⟨vs,hrow,htx⟩:=(MB.rows HT.o A0).2.1;rw[A1.o]at hrow;have hvl:vs.length=t.leaves.length:=by have:=hrow.1;have:=A1.o;omega
 obtain⟨i0,hi0,hz0,hz1,hz2⟩:=info_parts Tryz.madd_info;have hr1:Reads wB wB.heap.size 1 (some ⟨w8.heap.size,0,none⟩) 1 [.slice A8 n8 c8]:=⟨rfl,fun _=>⟨_,rfl,AA.lt,fun j u hu=>by rw[Addr.add_mid,AA.cell (0+j)];simpa using hu⟩⟩;have AB:=AR.keep ((Turns.of_below (col:=col1) (fun _=>false) BB.o).keeps rfl);have colR1:col1 L.rg=k+1:=(A3.same L.rg H.st.tres.lt).trans H.st.tres.1;refine zw ?_;refine qnv wB (.tmp 37) (.tmp 43) _ _ rfl col1 (11+3*0) 23 i0 _ 1 24 Tryz.underlying72 hi0 hz0 hz1 hz2 rfl (.slice Al' nl cl') nl vs rfl hrow (.slice (some ⟨w8.heap.size,0,none⟩) 1 1) 1 [.slice A8 n8 c8] rfl (Src.reads wB Tryz.underlying72 hr1 (by simp[Value.oneCell']) zdc) (by simp only[maxLen];omega) zo ?_;intro v' wC col2 ap;obtain⟨A9,c9,rfl,-,-,-,-⟩:=ap.row.sl;have ap2:AppendedC wB col1 wC col2 (11+3*0) (.slice Al' nl cl') (.slice A9 (nl+1) c9) 23 1 t.leaves.length 1 vs [.slice A8 n8 c8]:=by rw[A1.o];exact ap
 obtain⟨N1,N2,N3⟩:=MB.leafAdd HK.o HS.o (t:=t) (bs:=be clk 8++(be ti 4++bd)) HT.o A0 hvl htx AB ap2;rw[show 0*75+5=5 from rfl]at N1 N2 N3;have eC:=qor (qai E5.o BwB.o) ap.turns (by rw[colR1];have:=HK.o;rcases this with rfl|rfl<;>rfl);have fC:=(MB.st.tres.keep (ap.turns.keeps (k:=k+1) (by have:=HK.o;rcases this with rfl|rfl<;>rfl))).frozen 5;have T9:=(A3.mono (q:=inP k) (fun i h=>by cases h)).trans N3;have AC:=TT.turns T9 (qru HK.o) H.base;obtain⟨AD,AE,AF,AG⟩:=zh4 N1 N2 T9 AC;clear N1 N2 N3 T9 AC MB hrow htx hvl hi0 hz0 hz1 hz2 hr1 AB colR1 ap ap2 A0;refine⟨fun _=>(HS9.o _).mpr eC,zput ?_⟩;iterate 2 (refine zrb ?_)
 refine zw ?_;go_simp;refine qbg ?_;clear HS9 F0 eC fC;obtain⟨W9,hW9⟩:=eqx (wC.setCell ⟨L.rg,5,none⟩ (.slice A9 (nl+1) c9));rw[←hW9]at AD AE AF AG ⊢;clear hW9;have sok:(s.setT 0 fun t=>{t with leaves:=t.leaves++[be clk 8++(be ti 4++bd)]}).Ok:=HS.setT (fun y hy o=>by
  rw[HT.o]at hy;injection hy with hy;subst hy;have h1:=A1.o;have h2:=o.leaves;have h3:=AN.o;exact {o with
   leaves:=by simp[h3];omega
   leafb:=fun b hb=>by
    rcases List.mem_append.1 hb with h|h
    · exact o.leafb b h
    obtain rfl:=List.mem_singleton.1 h;exact AK.o
   hds:=by have:=o.hds;simp;omega}) (fun _ y _ h1 h2=>⟨h1,h2⟩)
 have ht2:(s.setT 0 fun t=>{t with leaves:=t.leaves++[be clk 8++(be ti 4++bd)]}).tres[0]? =some {t with leaves:=t.leaves++[be clk 8++(be ti 4++bd)]}:=qop _ HT.o;have CP:=zh1 (qq3 c _ L col2 k g _ 0 _ W9 HK.o HC.o sok AD.o ht2 (AI.live (by rw[AM.o];decide)).2 AG.o);clear sok ht2;go_wp2_with fail
 refine CP.o.mono ?_;rintro e W5 ⟨rfl,⟨css5,M5⟩,T5⟩;have D5:Did w col W5 col2 k g c css s ((s.setT 0 fun t=>{t with leaves:=t.leaves++[be clk 8++(be ti 4++bd)]}).pub c 0):=
  ⟨⟨L,css5,M5⟩,AE.keep fun i hi=>T5.keeps (by have:=HK.o;rcases this with rfl|rfl<;>simp<;>omega),AF.trans (T5.mono fun i hi=>(show i=k+1 by simpa using hi)▸(by unfold inP;simp))⟩
 have HD:=zh1 D5;clear D5 M5 T5;go_wp2
 go_end0
 exact⟨col2,rfl,HD.o⟩
def byR (c:Cfg)(id:Nat)(r:Req):Req:={r with tid:=id,cavs:=[],tag:=qke (qmw c.seed) id}
theorem qvi(root:List Nat)(id:Nat):qkr root (id,[],qke root id)=true:=by
 unfold qkr;simp[qko,qkq]
theorem qvj {R R':Req}(h1:∀f,qi7 R f=qi7 R' f)(h2:∀f,fldB R f=fldB R' f):∀(l:List Fld) (acc:List Nat),qi8 R l acc=qi8 R' l acc
 |[],acc=>rfl
 |f::l,acc=>by
  rw[qi8,qi8,h1,h2,qvj h1 h2 l]
theorem qvk(c:Cfg)(id:Nat)(r:Req):qi9 (byR c id r)=qi9 r:=by
 unfold qi9;show (match fieldsOf r.op with|none=>_|some l=>_)=_;cases fieldsOf r.op with
 |none=>rfl
 |some l=>
  show qi8 (byR c id r) l (be r.op.toNat 1)=qi8 r l (be r.op.toNat 1);exact qvj (R:=byR c id r) (R':=r) (fun f=>rfl) (fun f=>rfl) l _
theorem qvl{g:Gra}{x:Ten}(hb:(qi9 r).1=0)(hg:s.gras[id]? =some g)(hv:g.revoked=false)(he:s.clock<g.expires)(hx:s.tenant g.tenant=some x)(hk:qn4 r.op r.leaf.length≤x.tok):
 qn5 c s (byR c id r)=if qn1 g.role r.op g.tenant (qn3 s r g.tenant) then 0 else 21:=by
 have h1:(qjc (byR c id r)).1=0:=by
  unfold qjc;rw[if_pos (by rw[qvk];exact hb),if_pos (by rfl)]
 have h2:(byR c id r).tid=id:=rfl;unfold qn5;rw[if_neg (by rw[h1];decide),h2,hg];show (if (!qkr (qmw c.seed) (id,[],qke (qmw c.seed) id))=true then _ else _)=_;rw[qvi,if_neg zdc];rw[if_neg (by rw[hv];simp[qkz,byR];exact he)];show (if (!qn1 g.role r.op g.tenant (qn3 s r g.tenant))=true then _ else _)=_;cases hd:qn1 g.role r.op g.tenant (qn3 s r g.tenant) with
 |true=>
  rw[if_neg zdc,hx];show (if x.tok<qn4 r.op r.leaf.length then 22 else 0)=_;rw[if_neg zo];rfl
 |false=>rfl
def qvm (c:Cfg)(s:Sta)(r:Req):Sta:=
 let s2:=(qnh c s r).1.setX (((s.gras[r.tid]?).getD ⟨0,0,0,false⟩).tenant).toNat fun x=>{x with tok:=x.tok - qn4 r.op r.leaf.length}
 (s2.setT 0 fun t=>{t with leaves:=t.leaves++[qni s2 r]}).pub c 0
def qvn (c:Cfg)(s:Sta)(r:Req):Sta:=
 (qnh c s r).1.setX (((s.gras[r.tid]?).getD ⟨0,0,0,false⟩).tenant).toNat fun x=>{x with tok:=x.tok - qn4 r.op r.leaf.length}
theorem qvo(hm:qn5 c s r=0)(hw:(qnh c s r).2.why=0)(ha:qlm r.op=true)(hl:(s.tres[0]?.getD Tre.zero).leaves.length<1024)(hst:stored s+64≤c.store)(h9:r.op≠9):doS c s r=(qvm c s r,(qnh c s r).2):=by
 unfold doS;rw[if_neg (by rw[hm];decide)];obtain⟨s1,a,h⟩:∃s1 a,qnh c s r=(s1,a):=⟨_,_,rfl⟩;unfold qvm;rw[h]at hw ⊢;dsimp only at hw ⊢;rw[if_neg (by rw[hw];decide),if_neg (by simp;intro _;omega),if_neg (by simp;intro _;omega),if_pos ha,if_neg h9]
theorem qvp(hm:qn5 c s r=0)(hw:(qnh c s r).2.why=0)(ha:qlm r.op=false):doS c s r=(qvn c s r,(qnh c s r).2):=by
 unfold doS;rw[if_neg (by rw[hm];decide)];obtain⟨s1,a,h⟩:∃s1 a,qnh c s r=(s1,a):=⟨_,_,rfl⟩;unfold qvn;rw[h]at hw ⊢;dsimp only at hw ⊢;rw[if_neg (by rw[hw];decide),ha,if_neg zm,if_neg zm,if_neg zdc]
theorem qvq(hm:qn5 c s r=y)(h0:y≠0):doS c s r=(s,rWhy y):=by
 unfold doS;rw[if_pos (by rw[hm];exact h0),hm]
theorem qvr(hm:qn5 c s r=0)(hw:(qnh c s r).2.why=(y:Int))(h0:y≠0):doS c s r=(s,rWhy y):=by
 unfold doS;rw[if_neg (by rw[hm];decide)];obtain⟨s1,a,h⟩:∃s1 a,qnh c s r=(s1,a):=⟨_,_,rfl⟩;rw[h]at hw ⊢;dsimp only at hw ⊢;rw[if_pos (by rw[hw];omega),hw,tBe]
def KC:Cfg:=⟨32,1,32768,[115]⟩
def qvs:Req:={qin with op:=12,tenant:=1,rate:=9,burst:=9,store:=999}
def qvt:Req:={qin with op:=6,tree:=1,tenant:=1,weight:=1}
def qvu:Req:={qin with op:=10,tenant:=1,role:=2,expires:=99}
def kAdd:Req:={qin with op:=1,tree:=1,leaf:=[97]}
def qvv:Req:={qin with op:=2,tree:=1}
def qvw:Req:={qin with op:=6,tree:=3,tenant:=1,weight:=1}
theorem KC_ok:KC.Ok:=⟨by decide,by decide,by decide,by decide,by decide,by decide,by decide⟩
def K1:Sta:=qvm KC (newS KC) (byR KC 0 qvs)
def K2:Sta:=qvm KC K1 (byR KC 0 qvt)
def K3:Sta:=qvm KC K2 (byR KC 0 qvu)
def K4:Sta:=qvn KC K3 (byR KC 1 kAdd)
def K5:Sta:=seqS KC K4
def K6:Sta:=qvn KC K5 (byR KC 1 qvv)
theorem qvx:doS KC (newS KC) (byR KC 0 qvs)=(K1,qn6 1):=
 qvo ((qvl (g:=⟨0,4,18446744073709551615,false⟩) zdc rfl rfl zdc rfl zdc).trans (by rfl)) rfl rfl (by decide+kernel) (by decide+kernel) zdc
theorem qvy:doS KC K1 (byR KC 0 qvt)=(K2,qn6 1):=
 qvo ((qvl (g:=⟨0,4,18446744073709551615,false⟩) zdc rfl rfl zdc rfl zdc).trans (by rfl)) rfl rfl (by decide+kernel) (by decide+kernel) zdc
theorem qvz:doS KC K2 (byR KC 0 qvu)=(K3,{qn6 1 with tok:=(1,[],qke (qmw KC.seed) 1)}):=
 qvo ((qvl (g:=⟨0,4,18446744073709551615,false⟩) zdc rfl rfl zdc rfl zdc).trans (by rfl)) rfl rfl (by decide+kernel) (by decide+kernel) zdc
theorem qw0:doS KC K3 (byR KC 1 kAdd)=(K4,qn6 0):=
 qvp ((qvl (g:=⟨1,2,99,false⟩) zdc rfl rfl zdc rfl zdc).trans (by rfl)) rfl rfl
theorem qwb:(doS KC K5 (byR KC 1 qvv)).1=K6∧(doS KC K5 (byR KC 1 qvv)).2.hd.size=1:=by
 rw[qvp ((qvl (g:=⟨1,2,99,false⟩) zdc rfl rfl zdc rfl zdc).trans (by rfl)) rfl rfl];exact⟨rfl,rfl⟩
theorem qwc:doS KC K6 (byR KC 1 qvw)=(K6,rWhy 21):=
 qvq ((qvl (g:=⟨1,2,99,false⟩) zdc rfl rfl zdc rfl zdc).trans (by rfl)) zdc
theorem qwe:∃t,K6.tres[0]? =some t∧t.leaves.length=3:=⟨_,rfl,rfl⟩
theorem qwf(h:(doS c s r).2.why≠0):∃y:Nat,y≠0∧doS c s r=(s,rWhy y):=by
 unfold doS at h ⊢;split
 · rename_i h0
   exact⟨_,h0,rfl⟩
 rename_i h0
 rw[if_neg h0]at h;obtain⟨s1,a,e⟩:∃s1 a,qnh c s r=(s1,a):=⟨_,_,rfl⟩;rw[e]at h ⊢;dsimp only at h ⊢;split
 · rename_i h1
   rw[if_pos h1]at h;exact⟨_,by intro e0;apply h;show ((a.why.toNat:Nat):Int)=0;rw[e0];rfl,rfl⟩
 rename_i h1
 rw[if_neg h1]at h;split
 · exact⟨4,by decide,rfl⟩
 rename_i h2
 rw[if_neg h2]at h;split
 · exact⟨26,by decide,rfl⟩
 rename_i h3
 rw[if_neg h3]at h;exfalso
 apply h;split
 · dsimp only
   split
   · exact Decidable.byContradiction h1
   exact Decidable.byContradiction h1
 exact Decidable.byContradiction h1
theorem qwg(c:Cfg)(s:Sta)(r:Req):0≤(qnh c s r).2.why:=by
 have add:∀t,0≤(qn8 c s r t).2.why:=fun t=>by
  unfold qn8;repeat' split
  all_goals first|exact Int.natCast_nonneg _|exact Int.le_refl _
 have look:∀t,0≤(qn9 c s r t).why:=fun t=>by
  unfold qn9;repeat' split
  all_goals first|exact Int.natCast_nonneg _|exact Int.le_refl _
 have create:0≤(qna c s r).2.why:=by
  unfold qna;repeat' split
  all_goals first|exact Int.natCast_nonneg _|exact Int.le_refl _
 have change:∀t,0≤(qnb c s r t).2.why:=fun t=>by
  unfold qnb;split
  · exact Int.natCast_nonneg _
  exact Int.le_refl _
 have weigh:0≤(qnc s r).2.why:=by
  unfold qnc;repeat' split
  all_goals first|exact Int.natCast_nonneg _|exact Int.le_refl _
 have rotate:∀t,0≤(qnd c s r t).2.why:=fun t=>by
  unfold qnd;split
  · exact Int.natCast_nonneg _
  exact Int.le_refl _
 have grant:0≤(qne c s r).2.why:=by
  unfold qne;repeat' split
  all_goals first|exact Int.natCast_nonneg _|exact Int.le_refl _
 have revoke:0≤(qnf s r).2.why:=by
  unfold qnf;repeat' split
  all_goals first|exact Int.natCast_nonneg _|exact Int.le_refl _
 have limit:0≤(qng s r).2.why:=by
  unfold qng;repeat' split
  all_goals first|exact Int.natCast_nonneg _|exact Int.le_refl _
 unfold qnh;split
 · exact create
 split
 · exact grant
 split
 · exact revoke
 split
 · exact limit
 split
 · exact Int.natCast_nonneg _
 split
 · exact add _
 split
 · exact change _
 split
 · exact weigh
 split
 · exact rotate _
 exact look _
theorem qwh(hm:qn5 c s r=0)(hw:(qnh c s r).2.why=0)(ha:qlm r.op=true)(hf:qvf c s=y)(hy:y≠0):doS c s r=(s,rWhy y):=by
 unfold doS;rw[if_neg (by rw[hm];decide)];obtain⟨s1,a,h⟩:∃s1 a,qnh c s r=(s1,a):=⟨_,_,rfl⟩;rw[h]at hw ⊢;dsimp only at hw ⊢;rw[if_neg (by rw[hw];decide),ha];unfold qvf at hf;by_cases h1:1024≤(s.tres[0]?.getD Tre.zero).leaves.length
 · rw[if_pos h1]at hf
   rw[if_pos (by simp;exact h1),hf]
 rw[if_neg h1]at hf;by_cases h2:c.store<stored s+64
 · rw[if_pos h2]at hf
   rw[if_neg (by simp;omega),if_pos (by simp;omega),hf]
 rw[if_neg h2]at hf;exact absurd hf.symm hy
theorem qwi(hf:qvf c s=0):(s.tres[0]?.getD Tre.zero).leaves.length<1024∧stored s+64≤c.store:=by
 unfold qvf at hf;by_cases h1:1024≤(s.tres[0]?.getD Tre.zero).leaves.length
 · rw[if_pos h1]at hf
   cases hf
 rw[if_neg h1]at hf;by_cases h2:c.store<stored s+64
 · rw[if_pos h2]at hf
   cases hf
 omega
theorem qwj(hm:qn5 c s r=0)(hw:(qnh c s r).2.why=0)(ha:qlm r.op=true)(hf:qvf c s=0)(h9:r.op=9):doS c s r=(qvm c s r,{(qnh c s r).2 with hd:=((qvm c s r).tres[r.tree.toNat]?.getD Tre.zero).hd}):=by
 obtain⟨hl,hst⟩:=qwi hf;unfold doS;rw[if_neg (by rw[hm];decide)];obtain⟨s1,a,h⟩:∃s1 a,qnh c s r=(s1,a):=⟨_,_,rfl⟩;unfold qvm;rw[h]at hw ⊢;dsimp only at hw ⊢;rw[if_neg (by rw[hw];decide),if_neg (by simp;intro _;omega),if_neg (by simp;intro _;omega),if_pos ha,if_pos h9]
section
variable {w w' : World} {col col' : Col} {p : Nat → Bool}
theorem qwk{base:Nat}(h:w.ownsRow base e size v n xs)(h0:∀g,v.ownBlock=some g→col g=0)(ht:Turns p w col w' col')(hp:p 0=false):w'.ownsRow base e size v n xs∧∀g,v.ownBlock=some g→col' g=0:=by
 refine⟨⟨h.1,?_⟩,fun g hg=>?_⟩
 · rcases h.2 with h1|⟨g,cap,cur,rfl,hg,hh,rest⟩
   · exact .inl h1
   have hl:Blk w g e cur:=hh;exact .inr ⟨g,cap,cur,rfl,hg,(ht.block g hl.lt (by rw[h0 g rfl];exact hp)).trans hh,rest⟩
 exact(ht.same g (World.ownsRow.lt h g hg).2).trans (h0 g hg)
theorem RspV.turns{base:Nat}{A:Rsp}(h:RspV w col base v A)(ht:Turns p w col w' col')(hp:p 0=false):RspV w' col' base v A:=by
 obtain⟨bv,hv,cav,e,h1,h2,h3,h4,h5,h6⟩:=h;obtain⟨a1,b1⟩:=qwk h1 h4 ht hp;obtain⟨a2,b2⟩:=qwk h2.2 h5 ht hp;obtain⟨a3,b3⟩:=qwk h3 h6 ht hp;exact⟨bv,hv,cav,e,a1,⟨h2.1,a2⟩,a3,b1,b2,b3⟩
theorem RspV.call{base:Nat}{A:Rsp}(h:RspV w col base v A)(hb:Zb w w'):RspV w' col base v A:=h.turns (Turns.of_below (fun _=>false) hb) rfl
theorem RspV.grown{base:Nat}{A:Rsp}{cs:Array Value}(h:RspV w col base v A)(hz:Blk w G 57 cs)(hg:w.grownBy w' (some G)):RspV w' col base v A:=by
 obtain⟨bv,hv,cav,e,h1,h2,h3,h4,h5,h6⟩:=h;exact⟨bv,hv,cav,e,tB3 h1 hg (.inr (qa3 h1 hz zdc)),⟨h2.1,tB3 h2.2 hg (.inr (qa3 h2.2 hz zdc))⟩,tB3 h3 hg (.inr (qa3 h3 hz zdc)),h4,h5,h6⟩
theorem RspV.base{base:Nat}{A:Rsp}(h:RspV w col base v A)(hb:base'≤base):RspV w col base' v A:=by
 obtain⟨bv,hv,cav,e,h1,h2,h3,h4,h5,h6⟩:=h;exact⟨bv,hv,cav,e,qdf h1 hb,⟨h2.1,qdf h2.2 hb⟩,qdf h3 hb,h4,h5,h6⟩
theorem Turns.only0(h:w.grownBy w' (some G))(h0:col G=0):Turns (· ==0) w col w' col:=
 Turns.of_grown h (fun g e=>by injection e with e;subst e;simp[h0]) (fun _ _=>rfl)
theorem Mdl.grown0(h:Mdl w col k g c s L css)(hk:Kind k)(hg:w.grownBy w' (some G))(h0:col G=0):Mdl w' col k g c s L css:=
 h.keep (Turns.only0 hg h0) rfl rfl (by rcases hk with rfl|rfl<;>rfl) (by rcases hk with rfl|rfl<;>rfl) (by rcases hk with rfl|rfl<;>rfl) (fun i hi=>by simp;omega) (h.fin.mono hg.size)
theorem StAt.grown0(h:StAt tt rt gt w col k L css s)(hk:Kind k)(hg:w.grownBy w' (some G))(h0:col G=0):StAt tt rt gt w' col k L css s:=by
 have T:=Turns.only0 hg h0;exact h.keep (T.keeps (by rcases hk with rfl|rfl<;>rfl)) (T.keeps (by rcases hk with rfl|rfl<;>rfl)) (T.keeps (by rcases hk with rfl|rfl<;>rfl)) fun i hi=>T.keeps (by simp;omega)
theorem StAt.call(h:StAt tt rt gt w col k L css s)(hb:Zb w w'):StAt tt rt gt w' col k L css s:=
 h.keep ((Turns.of_below (fun _=>false) hb).keeps rfl) ((Turns.of_below (fun _=>false) hb).keeps rfl) ((Turns.of_below (fun _=>false) hb).keeps rfl) fun i _=>(Turns.of_below (fun _=>false) hb).keeps rfl
theorem Rest.newer(h:Rest w col W colW)(hg:W.grownBy W' (some G))(hG:w.heap.size≤G):Rest w col W' colW:=
 ⟨hg.os.trans h.os,hg.tape.trans h.tape,hg.output.trans h.output,tB1 h.size hg.size,fun b hb hc=>by
  obtain⟨h1,h2⟩:=h.block b hb hc;exact⟨(hg.block b (tB0 hb h.size) (by intro e;injection e with e;omega)).trans h1,h2⟩⟩
theorem Rest.step(h:Rest w col W colW)(ht:Turns p W colW W' colW')(hp:p 0=false):Rest w col W' colW':=h.trans (Rest.of_turns ht hp)
end
theorem qwl{l:List Tre}(h:TrsAt w col css l):∀u∈css.flatten,u.oneCell'=true:=by
 intro u hu;obtain⟨cs,hcs,hu⟩:=List.mem_flatten.1 hu;obtain⟨i,hi⟩:=List.mem_iff_getElem?.1 hcs;have hlt:i<l.length:=by
  obtain⟨h1,_⟩:=tA8 hi;rw[←h.1];exact h1
 obtain⟨cs',h1,vd,vl,vq,e,r1,r2,r3⟩:=h.2 i _ (tA7 hlt);rw[hi]at h1;injection h1 with h1;subst h1;obtain⟨A1,c1,e1,-⟩:=r1.sl;obtain⟨vs2,A2,c2,e2,-⟩:=r2.sl;obtain⟨vs3,A3,c3,e3,-⟩:=r3.sl;subst e e1 e2 e3;exact qrd _ _ _ _ rfl rfl rfl u hu
theorem qwm(l:List Ten):∀u∈l.flatMap tenv,u.oneCell'=true:=by
 intro u hu;obtain⟨x,_,hx⟩:=List.mem_flatMap.1 hu;unfold tenv at hx;simp only[List.mem_cons,List.not_mem_nil,or_false]at hx;rcases hx with rfl|rfl|rfl|rfl|rfl|rfl<;>rfl
theorem qwn(l:List Gra):∀u∈l.flatMap grav,u.oneCell'=true:=by
 intro u hu;obtain⟨x,_,hx⟩:=List.mem_flatMap.1 hu;unfold grav at hx;simp only[List.mem_cons,List.not_mem_nil,or_false]at hx;rcases hx with rfl|rfl|rfl|rfl<;>rfl
theorem qwo(s:Sta)(L:Loc):∀u∈stav s L,u.oneCell'=true:=by
 intro u hu;unfold stav at hu;simp only[List.mem_cons,List.not_mem_nil,or_false]at hu;rcases hu with rfl|rfl|rfl|rfl|rfl|rfl<;>rfl
theorem qwp(A:Rsp)(h:Hd)(bv hv cav:Value)(h1:A.hd.Ok)(h2:h.Ok):over (rspv A bv hv cav) 4 (hdv h)=rspv {A with hd:=h} bv hv cav:=by
 unfold over rspv;have l1:=qo2 h1;have l2:=qo2 h2;rw[l2];simp only[List.take_succ_cons,List.take_zero,List.drop_succ_cons,List.cons_append,List.nil_append];rw[show 4+64=(hdv A.hd).length by rw[l1],List.drop_left]
theorem qwq{l:List Value}(h:l.toArray[i]? =some u):l.toArray.setIfInBounds i u=l.toArray:=by
 rw[List.setIfInBounds_toArray];congr 1
 rw[tA3]at h;obtain⟨hi,e⟩:=tA8 h;rw[←e,List.set_getElem_self]
theorem Mdl.there4(h:Mdl w col k g c s L css):w.there g 4 6:=fun j hj=>
 ⟨by rw[h.blk.cell,Array.getElem?_eq_getElem (by simp[mdlv];omega)];simp,h.blk.frozen _⟩
theorem Tabs.rest(h:Tabs w)(hr:Rest w col w' col')(hb:3≤w.heap.size∧∀b,b<3→col b=0):Tabs w':=h.below (hr.below hb.2 hb.1).1 (tA4 _)
theorem Asked.rest(h:Asked w col R Ac cc Al cl)(hr:Rest w col w' col'):Asked w' col' R Ac cc Al cl:=
 ⟨h.good,hr.reads h.leaf h.leaf0,h.leafc,h.leafm,hr.reads h.cavs h.cavs0,h.cavc,h.cavm,
  fun hn ad e=>by
   obtain⟨ad',e',hb,_⟩:=h.leaf.2 hn;rw[e]at e';injection e' with e';subst e';exact(hr.block _ hb (h.leaf0 hn ad e)).2,
  fun hn ad e=>by
   obtain⟨ad',e',hb,_⟩:=h.cavs.2 hn;rw[e]at e';injection e' with e';subst e';exact(hr.block _ hb (h.cavs0 hn ad e)).2⟩
theorem RspV.cell0{base:Nat}{A:Rsp}(h:RspV W col base (.agg X.toArray) A):X.toArray[0]? =some (.int .i64 A.why):=by
 obtain⟨bv,hv,cav,e,-⟩:=h;injection e with e;rw[e];rfl
theorem RspV.head{base:Nat}{A:Rsp}{h:Hd}(hr:RspV W col base (.agg X.toArray) A)(h1:A.hd.Ok)(h2:h.Ok):RspV W col base (.agg (over X 4 (hdv h)).toArray) {A with hd:=h}:=by
 obtain⟨bv,hv,cav,e,h3,h4,h5,h6,h7,h8⟩:=hr;injection e with e;have e':X=rspv A bv hv cav:=by simpa using e
 rw[e',qwp A h bv hv cav h1 h2];exact⟨bv,hv,cav,rfl,h3,h4,h5,h6,h7,h8⟩
theorem qwr(h9:r.op=9)(hw:(qnh c s r).2.why=0):∃t,s.tree r.tree=some t:=by
 cases h:s.tree r.tree with
 |some t=>exact⟨t,rfl⟩
 |none=>
  unfold qnh at hw;rw[h,if_neg zo,if_neg zo,if_neg zo,if_neg zo]at hw;have hw':(23:Int)=0:=hw;exact absurd hw' zdc
theorem qws(c:Cfg)(s:Sta)(L:Loc)(col:Col)(g:Nat)(css:List (List Value))(R:Req)(Ac:Option Addr)(cc:Nat)(Al:Option Addr)(cl:Nat)(w:World)(hc:c.Ok)(hs:s.Ok)(h:Mdl w col 2 g c s L css)
 (hr:Asked w col R Ac cc Al cl)(hT:Tabs w)(hE:w.cell? ⟨0,0,none⟩=some (.iface 327 (.agg #[.pointer (some ⟨3,81,none⟩)]))):
 Zc 17 #[.pointer (some ⟨g,0,none⟩),.agg (reqv R (.slice Ac R.cavs.length cc) (.slice Al R.leaf.length cl)).toArray] w fun e w'=>∃v col' L' css',e=.returned v∧RspV w' col' w.heap.size v (doS c s R).2∧Mdl w' col' 2 g c (doS c s R).1 L' css'∧Rest w col w' col':=by
 have hk:Kind 2:=.inl rfl;have CM:=fun(w':World)(hb:Zb w w')=>qv2 c s L col 2 g css R Ac cc Al cl w' hk hc hs (h.call hb) (hr.call hb) (hT.below hb hT.size) (qai hE hb)
 have CD:=fun (w':World) (col':Col) (L6:Loc) (hM:Mdl w' col' 6 g c s L6 css) (hA:Asked w' col' R Ac cc Al cl) (hT':Tabs w') (he:(qjc R).1=0)=>qvd c s L6 col' 6 g css R Ac cc Al cl w' (.inr rfl) hc hs hM hA hT' he
 have CN:=fun (w':World) (col':Col) (s2:Sta) (L6:Loc) (css2:List (List Value)) (hs2:s2.Ok) (hM:Mdl w' col' 6 g c s2 L6 css2) (hA:Asked w' col' R Ac cc Al cl) (hT':Tabs w') (ha:qlm R.op=true) (hl:∀t,s2.tres[0]? =some t→t.leaves.length<1024)=>qvh c s2 L6 col' 6 g css2 R Ac cc Al cl w' (.inr rfl) hc hs2 hM hA hT' ha hl
 obtain⟨Q,hQ,rlen,rest,W0,hW0,q0,z0,b0⟩:=qrx R Ac cc Al cl w hr.good.tag;rw[hQ];have hG0:=h.fin.none (b:=w.heap.size+1) zo;have D0:=Did.same (css:=css) h b0;obtain⟨H,DC,Q0,Z0,B0,DD,DX,HK⟩:=zh8 h hW0 q0 z0 b0 hG0 D0 hk;obtain⟨HS,HR,RL,BK,HQ⟩:=zh5 hs hr rlen rest hQ;clear h hW0 q0 z0 b0 hG0 D0 hk hs hr rlen rest hQ;rw[HQ.o]at CM CD CN;obtain⟨DE,DF,DG,HC,TT⟩:=zh5 CM CD CN hc hT;have B4:=DD;obtain⟨DH,BL,B5⟩:=zh3 (qap Q0.o 0 Q zjq) (zI 34 RL.o) (show Q.toArray[0]? =some (.int .i64 R.op) by rw[tA3,←HQ.o];rfl);obtain⟨wy,hwy⟩:=xeq (qn5 c s R);have AD:=zh1 hwy;clear hc hT hE hwy CM CD CN;go_enter Tryz.func17,Tryz.ntmps17
 go_upto_region 1 with(fail)
 rw[←DC.o];go_wp2_with (refine zld DH.o zu34 BL.o ?_)
 refine(DE.o W0 B0.o).mono ?_;rintro e w1 ⟨y,cost,rfl,hy,b1⟩;rw[AD.o]at hy ⊢;obtain⟨tn,htn⟩:=xeq y.tenant;obtain⟨X,hX⟩:=xeq (grav y);rw[show (#[.int .i64 y.tenant,.int .i64 y.role,.int .u64 (y.expires:Int),.bool y.revoked]:Array Value)=X.toArray by rw[←hX];rfl];have lX:X.length=4:=by rw[←hX];rfl
 have oX:∀u∈X,u.oneCell'=true:=by
  rw[←hX];intro u hu;unfold grav at hu;simp only[List.mem_cons,List.not_mem_nil,or_false]at hu;rcases hu with rfl|rfl|rfl|rfl<;>rfl
 obtain⟨X0,LX,OX,HY,B6,DI,B1,GN⟩:=zh8 (show X.toArray[0]? =some (.int .i64 tn) by rw[←hX,←htn];rfl) lX oX hy htn (zI 66 lX) b1 (Blk.new w1 66 #[.int .i64 0,.int .i64 0,.int .u64 0,.bool false]);clear hX lX oX hy htn b1;go_upto_region 2 with(refine zst GN.o DI.o (by simp[LX.o]) OX.o ?_)
 obtain⟨W1,hW1⟩:=eqx ((w1.alloc (.cells #[.int .i64 0,.int .i64 0,.int .u64 0,.bool false] 66)).setRow w1.heap.size X.toArray);rw[←hW1];obtain⟨G,hG⟩:=eqx w1.heap.size;rw[←hG];have g1:Blk W1 G 66 X.toArray:=by rw[hW1,hG];exact(Blk.new _ _ _).setRow _
 have b01:Zb W0 W1:=by rw[hW1];exact below_setRow (B1.alloc B1.size _) B1.size _
 obtain⟨G1,DY,AE,Z1,Q1,GS⟩:=zh6 g1 b01 (B0.trans (b01.mono B0.size)) (Z0.below b01 Z0.lt) (Q0.below b01 Q0.lt) (show W0.heap.size≤G by rw[hG];exact B1.size);clear hW1 hG g1 b01;by_cases hw0:wy=0
 ·
  subst hw0;obtain⟨hyg,rfl⟩:=HY.o rfl;have CA:=zh1 hyg;have henc:=que AD.o;have CC:=zh1 henc;have hyo:=HS.gra hyg;obtain⟨tn,rfl⟩:∃m:Nat,tn=m:=⟨tn.toNat,by have:=hyo.tenant;rw[B6.o]at this;omega⟩;have tn16:tn<16:=by have:=hyo.tenant;rw[B6.o]at this;omega
  obtain⟨cost,hcost⟩:=xeq (qn4 R.op R.leaf.length);have costb:=qux R.op R.leaf.length;rw[hcost]at costb ⊢;obtain⟨CE,AJ,CH⟩:=zh3 hcost tn16 costb;obtain⟨SV,hSV⟩:=xeq (stav s L);have lSV:SV.length=6:=by rw[←hSV];rfl
  have oSV:∀u∈SV,u.oneCell'=true:=by rw[←hSV];exact qwo s L
  obtain⟨S3,S4,S5,SR,BM,BN,CI,AK⟩:=zh8 (show SV.toArray[3]? =some (.slice (some ⟨L.tg,0,none⟩) 16 L.tc) by rw[←hSV];rfl) (show SV.toArray[4]? =some (.slice (some ⟨L.rg,0,none⟩) 16 L.rc) by rw[←hSV];rfl) (show SV.toArray[5]? =some (.slice (some ⟨L.gg,0,none⟩) s.gras.length L.gc) by rw[←hSV];rfl) (show W1.rangeAt g 4 SV by rw[←hSV];exact(H.call AE.o).stRange) hSV lSV oSV (zI 49 lSV);obtain⟨CJ,CK,SN⟩:=zh3 (show (Tryz.prog.info? 49).map (·.size)=some SV.toArray.size by rw[tB6];exact AK.o) (all_oneCell_toArray CI.o) (Blk.new W1 49 #[.int .u64 0,.int .u32 0,.int .i64 0,.slice none 0 0,.slice none 0 0,.slice none 0 0]);clear hyg henc hyo tn16 hcost costb hSV lSV oSV;go_upto_region 5 with(first
   |(refine zld SR.o zu49 AK.o ?_)
   |(refine zst SN.o AK.o (by simp[BN.o]) CI.o ?_))
  obtain⟨W2,hW2⟩:=eqx ((W1.alloc (.cells #[.int .u64 0,.int .u32 0,.int .i64 0,.slice none 0 0,.slice none 0 0,.slice none 0 0] 49)).setRow W1.heap.size SV.toArray);rw[←hW2];obtain⟨B8,hB8⟩:=eqx W1.heap.size;rw[←hB8];have s2:Blk W2 B8 49 SV.toArray:=by rw[hW2,hB8];exact(Blk.new _ _ _).setRow _
  have b12:Zb W1 W2:=by rw[hW2];exact below_setRow ((tA5 _ _).alloc (tA4 _) _) (tA4 _) _
  obtain⟨A3,DZ,CL,Z2,Q2,G2,BO⟩:=zh7 s2 b12 (AE.trans (b12.mono AE.size)) (Z1.below b12 Z1.lt) (Q1.below b12 Q1.lt) (G1.below b12 G1.lt) (show W1.heap.size≤B8 by omega);clear hW2 hB8 s2 b12;obtain⟨S,HS9⟩:=zS fun w'=>Blk w' B8 49 SV.toArray
  refine zrs S 23 (zq 0 5 ((6,false)::(7,false)::(9,false)::(10,false)::(5,true)::(8,true)::(11,true)::zq 12 3 ((15,true)::zq 16 3 ((19,true)::zq 20 3 [(23,true)])))) ((HS9.o _).mpr (A3.o)) ?_;obtain⟨F3,F4,F5⟩:=zh3 (fun(w':World)(h:S w')=>(((HS9.o w').mp h).cell 3).trans S3.o) (fun(w':World)(h:S w')=>(((HS9.o w').mp h).cell 4).trans S4.o) (fun(w':World)(h:S w')=>(((HS9.o w').mp h).cell 5).trans S5.o);iterate 9 (refine zre rfl rfl (fun w1 hS=>by have g3:=F3.o w1 hS;have g4:=F4.o w1 hS;have g5:=F5.o w1 hS;clear hS;go_simp;try rfl) ?_)
  obtain⟨Wd,hWd,BD⟩:=zdr W2;rw[←hWd];clear hWd;have CO:=zh1 (CL.trans (BD.mono CL.size));have HD:=zh1 (H.call CO.o);have gl:=HS.grasn;refine zw ?_;go_simp;refine(qs8 (some ⟨L.tg,0,none⟩) 16 L.tc (s.tens.flatMap tenv) Wd HD.st.tens.reads zdc (qwm _)).mono ?_;rintro e wa ⟨va,rfl,oa,ba⟩;obtain⟨BA,OA⟩:=zh2 ba oa;clear oa ba;refine⟨(HS9.o _).mpr (A3.below (BD.trans (BA.mono BD.size)) A3.lt),zput ?_⟩;refine zw ?_;go_simp;refine(qs9 (some ⟨L.rg,0,none⟩) 16 L.rc css.flatten wa ((HD.call BA.o).st.tres.reads) zdc (qwl H.st.trs)).mono ?_;rintro e wb ⟨vb,rfl,ob,bb⟩;obtain⟨BB,OB,AN⟩:=zh3 bb ob (BA.trans (bb.mono BA.size));clear ob bb;refine⟨(HS9.o _).mpr (A3.below (BD.trans (AN.mono BD.size)) A3.lt),zput ?_⟩;refine zw ?_;go_simp;refine(qsa (some ⟨L.gg,0,none⟩) s.gras.length L.gc (s.gras.flatMap grav) wb ((HD.call AN.o).st.gras.reads) zo (qwn _)).mono ?_;rintro e wc ⟨vc,rfl,oc,bc⟩;obtain⟨BC,OC,B7⟩:=zh3 bc oc (AN.trans (bc.mono AN.size));clear oc bc;refine⟨(HS9.o _).mpr (A3.below (BD.trans (B7.mono BD.size)) A3.lt),zput ?_⟩;obtain⟨L6,col4,e1,e2,e3,M4,CP,T4⟩:=HD.fork HS.o B7.o (qrw (qrw OA.o BB.o) BC.o) (qdf (qrw OB.o BC.o) BA.size) (qdf OC.o AN.size);subst e1 e2 e3;have AL:=HD.call B7.o;have c7:=AL.c7;have c8:=AL.c8;have c9:=AL.c9;have f7:=AL.blk.frozen 7;obtain⟨CR,CS,BP,CT,AA,A8⟩:=zh6 (A3.below (BD.trans (B7.mono BD.size)) A3.lt) AL.blk (show B8≠g by have h1:=H.blk.lt;have h2:=BO.o;have h3:=AE.size;omega) M4 CP T4;clear M4 CP T4 AL;iterate 3 (refine zre rfl rfl (fun w1 hS=>by clear hS;go_simp;try rfl) ?_)
  refine zw ?_;go_simp;refine⟨(HS9.o _).mpr (CR.far (p:=⟨g,7,none⟩) BP.o _),zput ?_⟩;iterate 3 (refine zre rfl rfl (fun w1 hS=>by clear hS;go_simp;try rfl) ?_)
  refine zw ?_;have f8:=CS.frozen 8;have f9:=CS.frozen 9;go_simp;refine⟨(HS9.o _).mpr ((CR.far (p:=⟨g,7,none⟩) BP.o _).far (p:=⟨g,8,none⟩) BP.o _),zput ?_⟩;iterate 3 (refine zre rfl rfl (fun w1 hS=>by clear hS;go_simp;try rfl) ?_)
  refine zw ?_;go_simp;refine zP ?_;refine qbg ?_;clear HS9 F3 F4 F5 c7 c8 c9 f7 f8 f9 gl;obtain⟨W4,hW4⟩:=eqx (((wc.setCell ⟨g,7,none⟩ (.slice (some ⟨L6.tg,0,none⟩) 16 L6.tc)).setCell ⟨g,8,none⟩ (.slice (some ⟨L6.rg,0,none⟩) 16 L6.rc)).setCell ⟨g,9,none⟩ (.slice (some ⟨L6.gg,0,none⟩) s.gras.length L6.gc));rw[←hW4]at CT AA A8 ⊢;clear hW4;have hcz:∀b,w.heap.size≤b→col b=0:=fun b hb=>by
   by_cases e:col b=0
   · exact e
   have:=H.fin b e;omega
  have q4:=Q2.below BD.o Q2.lt;have g4:=G2.below BD.o G2.lt;have s4:=A3.below BD.o A3.lt;have z4:=Z2.below BD.o Z2.lt;have cQ:col4 w.heap.size=0:=(A8.same _ q4.lt).trans (hcz _ (tA4 _));have cG:col4 G=0:=(A8.same _ g4.lt).trans (hcz _ (by have:=GS.o;have:=B0.size;omega));have cB:col4 B8=0:=(A8.same _ s4.lt).trans (hcz _ (by have:=BO.o;have:=AE.size;omega));have cZ:col4 (w.heap.size+1)=0:=(A8.same _ z4.lt).trans (hcz _ zo);obtain⟨Q4,G4,BQ,Z4,R4,CQ,CG,CB⟩:=zh8 (show Blk W4 w.heap.size 34 Q.toArray from(A8.block _ q4.lt (by rw[hcz _ (tA4 _)];rfl)).trans q4) (show Blk W4 G 66 X.toArray from(A8.block _ g4.lt (by rw[hcz _ (by have:=GS.o;have:=B0.size;omega)];rfl)).trans g4) (show Blk W4 B8 49 SV.toArray from(A8.block _ s4.lt (by rw[hcz _ (by have:=BO.o;have:=AE.size;omega)];rfl)).trans s4) (show Blk W4 (w.heap.size+1) 57 Tryz.zeroCells57 from(A8.block _ z4.lt (by rw[hcz _ zo];rfl)).trans z4) ((Rest.of_below (col:=col) CO.o).step A8.o rfl) cQ cG cB;have CZ:=zh1 cZ;clear q4 g4 s4 z4 cQ cG cB cZ hcz;have BR:=zh1 (qap Q4.o 0 Q zjq);go_wp2_with (refine zld BR.o zu34 BL.o ?_)
  refine(DF.o W4 col4 L6 CT.o (HR.rest R4.o) (TT.rest R4.o H.base) CC.o).mono ?_;rintro e w5 ⟨v5,col5,rfl,r5,d5⟩;have hsh:=qv7 (c:=c) (R:=R) HS.o;have sok1:=qub (c:=c) HS.o HR.good (qty CC.o);have hnn:=qwg c s R;have ws:W4.heap.size≤w5.heap.size:=d5.turns.size;obtain⟨s1,hs1⟩:=xeq ((qnh c s R).1);obtain⟨a,haa⟩:=xeq ((qnh c s R).2);rw[hs1]at d5 sok1;rw[haa]at r5 hsh hnn;obtain⟨X5,rfl,lX5,oX5⟩:=r5.cells hsh;obtain⟨aw,haw⟩:∃n:Nat,a.why=n:=⟨a.why.toNat,by omega⟩;have x50:=r5.cell0;rw[haw]at x50;obtain⟨BS,AO,CU,A2,CV,A9,BU,AP⟩:=zh8 hs1 haa hsh sok1 haw lX5 oX5 x50;obtain⟨DJ,BE,N5,D5,R5,Q5,G5,BV⟩:=zh8 (zI 57 lX5) qr4 (Blk.new w5 57 Tryz.zeroCells57) d5 r5 (show Blk w5 w.heap.size 34 Q.toArray from(d5.turns.block _ Q4.lt (by rw[CQ.o];rfl)).trans Q4.o) (show Blk w5 G 66 X.toArray from(d5.turns.block _ G4.lt (by rw[CG.o];rfl)).trans G4.o) (show Blk w5 B8 49 SV.toArray from(d5.turns.block _ BQ.lt (by rw[CB.o];rfl)).trans BQ.o);obtain⟨Z5,E0,E1,AF,BW,BX⟩:=zh6 (show Blk w5 (w.heap.size+1) 57 Tryz.zeroCells57 from(d5.turns.block _ Z4.lt (by rw[CZ.o];rfl)).trans Z4.o) ((d5.turns.same _ G4.lt).trans CG.o) ((d5.turns.same _ BQ.lt).trans CB.o) ((d5.turns.same _ Z4.lt).trans CZ.o) ((d5.turns.same _ Q4.lt).trans CQ.o) (R4.step d5.turns rfl);have hw5:w.heap.size+1<w5.heap.size:=Z5.lt;clear hsh sok1 hnn hs1 haa haw lX5 oX5 x50 d5 r5;go_upto_region 7 with(refine zst N5.o DJ.o (by simp[A9.o,BE.o]) BU.o ?_)
  obtain⟨W6,hW6⟩:=eqx ((w5.alloc (.cells Tryz.zeroCells57 57)).setRow w5.heap.size X5.toArray);rw[←hW6];obtain⟨B9,hB9⟩:=eqx w5.heap.size;rw[←hB9];have n6:Blk W6 B9 57 X5.toArray:=by rw[hW6,hB9];exact(Blk.new _ _ _).setRow _
  have b56:Zb w5 W6:=by rw[hW6];exact below_setRow ((tA5 _ _).alloc (tA4 _) _) (tA4 _) _
  obtain⟨E2,N6,CW⟩:=zh3 b56 n6 (show w5.heap.size≤B9 by omega);have AB:=zh1 (show col5 B9=0 by
   by_cases e:col5 B9=0
   · exact e
   obtain⟨Lx,cx,mx⟩:=D5.mdl;have:=mx.fin B9 e;omega)
  obtain⟨Q6,G6,BF,Z6,D6,CX,BY,BZ⟩:=zh8 (Q5.below b56 Q5.lt) (G5.below b56 G5.lt) (BV.below b56 BV.lt) (Z5.below b56 Z5.lt) (D5.call b56) (R5.call b56) (BX.trans (Rest.of_below b56)) (show StAt 92 74 66 W6 col5 2 L css s from StAt.call ⟨AA.tens.keep (D5.turns.keeps rfl),AA.tres.keep (D5.turns.keeps rfl),AA.gras.keep (D5.turns.keeps rfl),D5.old⟩ b56);obtain⟨L1,css1,m6⟩:=D6.mdl;have M6:=zh1 m6;have B4:=AF;obtain⟨CY,DK,DL,DM,E3⟩:=zh5 (show B9≠w.heap.size+1 by omega) (show B9≠B8 by have:=BV.lt;omega) (show B9≠G by have:=G5.lt;omega) (show B9≠w.heap.size by omega) (show B9≠g by intro e;have h1:=AB.o;rw[e,m6.own]at h1;cases h1);clear hW6 hB9 n6 b56 m6;have n0:=(N6.cell 0).trans AP.o;by_cases ha0:aw=0
  ·
   subst ha0;have hw:=CV.o;have hwhy:(qnh c s R).2.why=0:=by rw[AO.o];exact hw
   have A4:=zh1 hwhy;have kop:=(Q6.cell 0).trans B5.o;clear hw hwhy;go_upto_region 7 with(fail)
   go_wp2_with fail
   refine zca (qln R.op W6) ?_;cases hadm:qlm R.op with
   |false=>
    have A0:=zh1 hadm;clear hadm kop;have N7:=N6;have G7:=G6;have Q7:=Q6;have Z7:=Z6;have M7:=M6;have AM:=BY;have C0:=CX;have sokx:=A2.o;obtain⟨x1,hx1⟩:∃x,s1.tens[tn]? =some x:=⟨_,tA7 (by rw[sokx.tensn];exact AJ.o)⟩;obtain⟨tk,htk⟩:=xeq x1.tok;have tkb:tk<4294967296:=by have h1:=(sokx.ten hx1).tok;have h2:=(sokx.ten hx1).burst;omega
    have cob:=CH.o;obtain⟨AQ,AR⟩:=zh2 hx1 htk;have q16:(tn:Int)<16:=by have:=AJ.o;omega
    have q16n:=AJ.o;have q0:(0:Int)≤tn:=zo;clear sokx hx1 htk;go_upto_region 12 with(fail)
    obtain⟨S,HS9⟩:=zS fun w'=>Zb (W6) w'
    refine zrs S 10 (zq 0 10 []) ((HS9.o _).mpr ((tA5 _ _).drew)) ?_;obtain⟨F7,F0⟩:=zh2 (fun(w':World)(h:S w')=>(M7.call ((HS9.o w').mp h)).c7) (fun(w':World)(h:S w')=>((G7.below ((HS9.o w').mp h) G7.lt).cell 0).trans X0.o);iterate 10 (refine zre rfl rfl (fun w1 hS=>by have g7:=F7.o w1 hS;have g0:=F0.o w1 hS;clear hS;go_simp;try rfl) ?_)
    refine qbg ?_;clear HS9 F7 F0;obtain⟨W8,hW8⟩:=eqx ((W6).drew);have AC:=zh1 (show Zb (W6) W8 by rw[hW8];exact(tA5 _ _).drew);rw[←hW8];clear hW8;have C3:=zh1 (fun (w':World) (hb:Zb (W6) w')=>(show w'.cell? ⟨L1.tg,tn*6+3,none⟩=some (.int .u32 (tk:Int)) from(M7.call hb).st.tens.cell ((qo4 AQ.o zo).trans (by rw[←AR.o];rfl))));go_upto_region 13 with(fail)
    obtain⟨S,HS9⟩:=zS fun w'=>Zb W8 w'
    refine zrs S 13 (zq 0 13 [(13,true)]) ((HS9.o _).mpr ((tA5 _ _).drew)) ?_;have F3:=zh1 (fun(w':World)(h:S w')=>C3.o w' (AC.trans (((HS9.o w').mp h).mono AC.size)));have wv:(tk:Int) - min (cost:Int) (tk:Int)=((tk - cost:Nat):Int):=zo;obtain⟨v,hv⟩:=xeq (tk - cost);rw[hv]at wv;have wv2:IntKind.u32.wrap ((tk:Int) - min (cost:Int) (tk:Int))=(v:Int):=by rw[tBf _ zo];exact wv
    have wv3:IntKind.u32.wrap (v:Int)=(v:Int):=tBf _ zo;have HV:=zh1 hv;clear hv;iterate 13 (refine zre rfl rfl (fun w1 hS=>by have g3:=F3.o w1 hS;clear hS;go_simp;try rfl) ?_)
    obtain⟨Wt,hWt⟩:=eqx W8.drew;have B7t:=zh1 (show Zb (W6) Wt by rw[hWt];exact AC.trans (((tA5 _ _).drew).mono AC.size));rw[←hWt];clear hWt;have c3:=C3.o Wt B7t.o;have Mt:=M7.call B7t.o;have f3:=Mt.st.tens.frozen (tn*6+3);have m9:=Mt.tenOver (.inr rfl) A2.o AQ.o (j:=3) (cs:=[.int .u32 (v:Int)]) (fun x=>{x with tok:=x.tok - cost}) zm (by rw[←HV.o,←AR.o];simp[over,tenv]);rw[show Wt.setCells L1.tg (tn*6+3) [.int .u32 (v:Int)]=Wt.setCell ⟨L1.tg,tn*6+3,none⟩ (.int .u32 (v:Int)) from rfl]at m9;have t9:Turns (· ==6) Wt col5 (Wt.setCell ⟨L1.tg,tn*6+3,none⟩ (.int .u32 (v:Int))) col5:=Turns.setCell _ (by simp[Mt.st.tens.1]);obtain⟨M9,T9⟩:=zh2 m9 t9;clear m9 t9 Mt;refine zw ?_;go_simp;refine zP ?_;refine qbg ?_;rw[show tn*6+1+2=tn*6+3 from rfl];try rw[wv3]
    clear HS9 F3 c3 f3 wv wv2 wv3;obtain⟨W9,hW9⟩:=eqx (Wt.setCell ⟨L1.tg,tn*6+3,none⟩ (.int .u32 (v:Int)));rw[←hW9]at M9 T9 ⊢;clear hW9;have n9:=N7.below B7t.o N7.lt;have q9:=Q7.below B7t.o Q7.lt;have z9:=Z7.below B7t.o Z7.lt;obtain⟨N9,Q9,Z9,AS,C1,AH⟩:=zh6 (show Blk W9 B9 57 X5.toArray from(T9.block _ n9.lt (by rw[AB.o];rfl)).trans n9) (show Blk W9 w.heap.size 34 Q.toArray from(T9.block _ q9.lt (by rw[BW.o];rfl)).trans q9) (show Blk W9 (w.heap.size+1) 57 Tryz.zeroCells57 from(T9.block _ z9.lt (by rw[AF.o];rfl)).trans z9) ((AM.trans (Rest.of_below B7t.o)).step T9.o rfl) ((C0.call B7t.o).turns T9.o rfl) (A2.setX (n:=tn) (f:=fun x=>{x with tok:=x.tok - cost}) (fun x _ o=>{o with tok:=by have:=o.tok;show x.tok - cost≤x.burst;omega}));clear n9 q9 z9;have hs2:qvn c s R=s1.setX tn fun x=>{x with tok:=x.tok - cost}:=by
     unfold qvn;rw[CA.o,Option.getD_some,B6.o,tBe,CE.o,BS.o]
    have A1:=zh1 (show doS c s R=(s1.setX tn fun x=>{x with tok:=x.tok - cost},a) by rw[qvp AD.o A4.o A0.o,hs2,AO.o]);clear hs2;have kop:=(Q9.cell 0).trans B5.o;go_wp2_with fail
    refine zca (qln R.op W9) ?_;rw[A0.o];have BG:=AF;obtain⟨AT,A5⟩:=zh2 (qap (N9.o) 0 X5 zjq) (show (Tryz.prog.info? 57).map (·.size)=some (X5).length by rw[(A9).o];kernel_rfl);go_wp2_with (first
     |(refine zld AT.o zu57 A5.o ?_)
     |(refine wpList_store_row rfl 57 (.tmp 4) (.tmp 114) rfl (w.heap.size+1) (X5).toArray rfl rfl 57 _ (Z9.o) (by simpa using A5.o) (by simp[(A9).o,BE.o]) (by simpa using (BU).o) ?_))
    have A6:=qap ((Z9.o).setRow (X5).toArray) 0 X5 zjq;refine zrt A6 zu57 A5.o ⟨_,Col.back col5,?_,?_,rfl,?_,?_,((AS.o).newer (qam _ (w.heap.size+1) (X5).toArray) zo).back⟩;rotate_left 2
    · rw[A1.o]
      exact(((C1.o).grown (Z9.o) (qam _ (w.heap.size+1) (X5).toArray)).base (by have:=R4.size;omega)).back
    rw[A1.o];exact((M9.o).grown0 (.inr rfl) (qam _ (w.heap.size+1) (X5).toArray) (BG.o)).back
   |true=>
    obtain⟨A0,AU⟩:=zh2 hadm (qap BF.o 0 SV zjq);have cf:=qvg c s s1 L L1 col5 g css css1 W6 HC.o HS.o M6.o BZ.o;rw[BM.o]at cf;obtain⟨fw,hfw⟩:=xeq (qvf c s);rw[hfw]at cf;obtain⟨CF,C2⟩:=zh2 cf hfw;clear hadm kop cf hfw n0;go_wp2_with (refine zld AU.o zu49 AK.o ?_)
    refine zcb CF.o fun w7 b7=>?_
    have n6:=N6.below b7 N6.lt;have n0:=(n6.cell 0).trans AP.o;have f0:=n6.frozen 0;have gr:=qab (tB9 w7 (some B9)) (p:=⟨B9,0,none⟩) (.inl rfl) (.int .i64 (fw:Int));have n7:=n6.set_ 0 (.int .i64 (fw:Int));have z7:=(Z6.below b7 Z6.lt).grown gr (by intro e;injection e with e;exact CY.o e.symm);have q7:=(Q6.below b7 Q6.lt).grown gr (by intro e;injection e with e;exact DM.o e.symm);have g7:=(G6.below b7 G6.lt).grown gr (by intro e;injection e with e;exact DL.o e.symm);have sb7:=(BF.below b7 BF.lt).grown gr (by intro e;injection e with e;exact DK.o e.symm);have m7:=(M6.call b7).grown0 (.inr rfl) gr AB.o;have st7:=(BZ.call b7).grown0 (.inl rfl) gr AB.o;have r7:=(BY.trans (Rest.of_below b7)).newer gr (by have:=BX.size;have:=CW.o;omega);have rv7:=(CX.call b7).grown n6 gr;go_upto_region 9 with(fail)
    obtain⟨W7,hW7⟩:=eqx (w7.setCell ⟨B9,0,none⟩ (.int .i64 (fw:Int)));rw[←hW7]at n7 z7 q7 g7 sb7 m7 st7 r7 rv7 ⊢;obtain⟨N7a,Z7,Q7,G7,DN,M7,DO,AM⟩:=zh8 n7 z7 q7 g7 sb7 m7 st7 r7;have C0:=zh1 rv7;clear hW7 n6 n0 f0 gr n7 z7 q7 g7 sb7 m7 st7 r7 rv7 b7;by_cases hf0:fw=0
    ·
     subst hf0;have N7:=zh1 (show Blk W7 B9 57 X5.toArray by have h:=N7a.o;rwa[qwq AP.o]at h);have n0:=(N7.cell 0).trans AP.o;have sokx:=A2.o;obtain⟨x1,hx1⟩:∃x,s1.tens[tn]? =some x:=⟨_,tA7 (by rw[sokx.tensn];exact AJ.o)⟩;obtain⟨tk,htk⟩:=xeq x1.tok;have tkb:tk<4294967296:=by have h1:=(sokx.ten hx1).tok;have h2:=(sokx.ten hx1).burst;omega
     have cob:=CH.o;obtain⟨AQ,AR⟩:=zh2 hx1 htk;have q16:(tn:Int)<16:=by have:=AJ.o;omega
     have q16n:=AJ.o;have q0:(0:Int)≤tn:=zo;clear sokx hx1 htk;go_upto_region 12 with(fail)
     obtain⟨S,HS9⟩:=zS fun w'=>Zb (W7) w'
     refine zrs S 10 (zq 0 10 []) ((HS9.o _).mpr ((tA5 _ _).drew)) ?_;obtain⟨F7,F0⟩:=zh2 (fun(w':World)(h:S w')=>(M7.call ((HS9.o w').mp h)).c7) (fun(w':World)(h:S w')=>((G7.below ((HS9.o w').mp h) G7.lt).cell 0).trans X0.o);iterate 10 (refine zre rfl rfl (fun w1 hS=>by have g7:=F7.o w1 hS;have g0:=F0.o w1 hS;clear hS;go_simp;try rfl) ?_)
     refine qbg ?_;clear HS9 F7 F0;obtain⟨W8,hW8⟩:=eqx ((W7).drew);have AC:=zh1 (show Zb (W7) W8 by rw[hW8];exact(tA5 _ _).drew);rw[←hW8];clear hW8;have C3:=zh1 (fun (w':World) (hb:Zb (W7) w')=>(show w'.cell? ⟨L1.tg,tn*6+3,none⟩=some (.int .u32 (tk:Int)) from(M7.call hb).st.tens.cell ((qo4 AQ.o zo).trans (by rw[←AR.o];rfl))));go_upto_region 13 with(fail)
     obtain⟨S,HS9⟩:=zS fun w'=>Zb W8 w'
     refine zrs S 13 (zq 0 13 [(13,true)]) ((HS9.o _).mpr ((tA5 _ _).drew)) ?_;have F3:=zh1 (fun(w':World)(h:S w')=>C3.o w' (AC.trans (((HS9.o w').mp h).mono AC.size)));have wv:(tk:Int) - min (cost:Int) (tk:Int)=((tk - cost:Nat):Int):=zo;obtain⟨v,hv⟩:=xeq (tk - cost);rw[hv]at wv;have wv2:IntKind.u32.wrap ((tk:Int) - min (cost:Int) (tk:Int))=(v:Int):=by rw[tBf _ zo];exact wv
     have wv3:IntKind.u32.wrap (v:Int)=(v:Int):=tBf _ zo;have HV:=zh1 hv;clear hv;iterate 13 (refine zre rfl rfl (fun w1 hS=>by have g3:=F3.o w1 hS;clear hS;go_simp;try rfl) ?_)
     obtain⟨Wt,hWt⟩:=eqx W8.drew;have B7t:=zh1 (show Zb (W7) Wt by rw[hWt];exact AC.trans (((tA5 _ _).drew).mono AC.size));rw[←hWt];clear hWt;have c3:=C3.o Wt B7t.o;have Mt:=M7.call B7t.o;have f3:=Mt.st.tens.frozen (tn*6+3);have m9:=Mt.tenOver (.inr rfl) A2.o AQ.o (j:=3) (cs:=[.int .u32 (v:Int)]) (fun x=>{x with tok:=x.tok - cost}) zm (by rw[←HV.o,←AR.o];simp[over,tenv]);rw[show Wt.setCells L1.tg (tn*6+3) [.int .u32 (v:Int)]=Wt.setCell ⟨L1.tg,tn*6+3,none⟩ (.int .u32 (v:Int)) from rfl]at m9;have t9:Turns (· ==6) Wt col5 (Wt.setCell ⟨L1.tg,tn*6+3,none⟩ (.int .u32 (v:Int))) col5:=Turns.setCell _ (by simp[Mt.st.tens.1]);obtain⟨M9,T9⟩:=zh2 m9 t9;clear m9 t9 Mt;refine zw ?_;go_simp;refine zP ?_;refine qbg ?_;rw[show tn*6+1+2=tn*6+3 from rfl];try rw[wv3]
     clear HS9 F3 c3 f3 wv wv2 wv3;obtain⟨W9,hW9⟩:=eqx (Wt.setCell ⟨L1.tg,tn*6+3,none⟩ (.int .u32 (v:Int)));rw[←hW9]at M9 T9 ⊢;clear hW9;have n9:=N7.below B7t.o N7.lt;have q9:=Q7.below B7t.o Q7.lt;have z9:=Z7.below B7t.o Z7.lt;obtain⟨N9,Q9,Z9,AS,C1,AH⟩:=zh6 (show Blk W9 B9 57 X5.toArray from(T9.block _ n9.lt (by rw[AB.o];rfl)).trans n9) (show Blk W9 w.heap.size 34 Q.toArray from(T9.block _ q9.lt (by rw[BW.o];rfl)).trans q9) (show Blk W9 (w.heap.size+1) 57 Tryz.zeroCells57 from(T9.block _ z9.lt (by rw[AF.o];rfl)).trans z9) ((AM.trans (Rest.of_below B7t.o)).step T9.o rfl) ((C0.call B7t.o).turns T9.o rfl) (A2.setX (n:=tn) (f:=fun x=>{x with tok:=x.tok - cost}) (fun x _ o=>{o with tok:=by have:=o.tok;show x.tok - cost≤x.burst;omega}));clear n9 q9 z9;clear n0;have hs3:qvm c s R=((s1.setX tn fun x=>{x with tok:=x.tok - cost}).setT 0 fun t=>{t with leaves:=t.leaves++[qni (s1.setX tn fun x=>{x with tok:=x.tok - cost}) R]}).pub c 0:=by
      unfold qvm;rw[CA.o,Option.getD_some,B6.o,tBe,CE.o,BS.o]
     obtain⟨hl1,hl2⟩:=qwi C2.o;have hle:=qug (s:=s) (s':=s1.setX tn fun x=>{x with tok:=x.tok - cost}) (by have h:=qud (c:=c) (s:=s) A0.o;rw[BS.o]at h;exact h) hl1;have CN:=zh1 (DG.o W9 col5 _ L1 _ AH.o M9.o (HR.rest AS.o) (TT.rest AS.o H.base) A0.o hle);have sok3:=(quf AH.o HR.good A0.o hle (s1.setX tn fun x=>{x with tok:=x.tok - cost})).pub c (n:=0) zdc;obtain⟨s3,h3⟩:=xeq (((s1.setX tn fun x=>{x with tok:=x.tok - cost}).setT 0 fun t=>{t with leaves:=t.leaves++[qni (s1.setX tn fun x=>{x with tok:=x.tok - cost}) R]}).pub c 0);rw[h3]at hs3 sok3 CN;obtain⟨D1,AI,C4⟩:=zh3 hs3 sok3 (qap Q9.o 0 Q zjq);have kop:=(Q9.cell 0).trans B5.o;obtain⟨DP,DQ⟩:=zh2 hl1 hl2;clear hs3 sok3 h3 hle hl1 hl2;go_wp2_with fail
     refine zca (qln R.op W9) ?_;rw[A0.o];clear kop;go_wp2_with (refine zld C4.o zu34 BL.o ?_)
     refine CN.o.mono ?_;rintro e w11 ⟨col6,rfl,d11⟩;obtain⟨L3,css3,m11⟩:=d11.mdl;obtain⟨C5,C6,AV,BG,C7,AW,AX,BI⟩:=zh8 (show Blk w11 B9 57 X5.toArray from(d11.turns.block _ N9.lt (by rw[AB.o];rfl)).trans N9.o) (show Blk w11 w.heap.size 34 Q.toArray from(d11.turns.block _ Q9.lt (by rw[BW.o];rfl)).trans Q9.o) (show Blk w11 (w.heap.size+1) 57 Tryz.zeroCells57 from(d11.turns.block _ Z9.lt (by rw[AF.o];rfl)).trans Z9.o) ((d11.turns.same _ Z9.lt).trans AF.o) ((d11.turns.same _ N9.lt).trans AB.o) (AS.step d11.turns rfl) (C1.turns d11.turns rfl) m11;clear m11 d11;have kop:=(C6.cell 0).trans B5.o;by_cases h9:R.op=9
     ·
      have q9:(R.op==9)=true:=by simpa using h9
      have A1:=zh1 (show doS c s R=(s3,{a with hd:=(s3.tres[R.tree.toNat]?.getD Tre.zero).hd}) by rw[qwj AD.o A4.o A0.o C2.o h9,D1.o,AO.o]);obtain⟨t0,ht0⟩:=qwr h9 A4.o;obtain⟨hp,ht1,-,-⟩:=Sta.tree_some ht0;obtain⟨n,hn⟩:∃n:Nat,R.tree=n:=⟨R.tree.toNat,by omega⟩;have hn16:n<16:=by
       obtain⟨h1,_⟩:=tA8 ht1;rw[HS.tresn]at h1;omega
      obtain⟨t3,ht3⟩:∃t,s3.tres[n]? =some t:=⟨_,tA7 (by rw[AI.tresn];exact hn16)⟩;rw[hn,tBe,ht3,Option.getD_some]at A1;have k35:Q.toArray[35]? =some (.int .i64 (n:Int)):=by rw[tA3,←hn];exact BK.o 0
      have DR:=zh1 k35;have h3o:=(AI.tre ht3).hd;have DS:=zh1 ht3;have q16:(n:Int)<16:=zo;have q0:(0:Int)≤n:=zo;clear ht0 hp ht1 hn ht3 k35 h9;obtain⟨HV,hHV⟩:=xeq (hdv t3.hd);have lHV:HV.length=68:=by rw[←hHV];exact qo2 h3o
      have oHV:∀u∈HV,u.oneCell'=true:=by rw[←hHV];exact qmr _
      have DT:=zh1 (fun(w':World)(hb:Zb w11 w')=>(show w'.rangeAt L3.rg (n*75+7) HV from by
       obtain⟨-,Ad,cd,Al',cl',Aq,cq,-,hcell,-,-,-⟩:=(BI.call hb).st.tree AI.o DS.o;intro j u hu;have h7:=hcell (7+j) u ((qva _ _ _ _ j).trans (by rw[hHV];exact hu));rw[←Nat.add_assoc]at h7;exact h7))
      obtain⟨D2,DU,C8,DV,D3⟩:=zh5 (zI 55 lHV) hHV lHV oHV h3o;clear hHV lHV oHV h3o;go_upto_region 17 with(fail)
      clear kop;obtain⟨S,HS9⟩:=zS fun w'=>Zb w11 w'
      refine zrs S 11 (zq 0 11 [(11,true)]) ((HS9.o _).mpr ((tA5 _ _).drew)) ?_;obtain⟨F8,D4,FH⟩:=zh3 (fun(w':World)(h:S w')=>(BI.call ((HS9.o w').mp h)).c8) (fun(w':World)(h:S w')=>((C6.below ((HS9.o w').mp h) C6.lt).cell 35).trans DR.o) (fun(w':World)(h:S w')=>DT.o w' ((HS9.o w').mp h));iterate 9 (refine zre rfl rfl (fun w1 hS=>by have g8:=F8.o w1 hS;have g35:=D4.o w1 hS;clear hS;go_simp;try rfl) ?_)
      refine qos rfl rfl 55 (.tmp 111) rfl L3.rg (n*75+7) rfl HV _ FH.o Tryz.underlying55 rfl D2.o ?_;refine zP ?_;iterate 1 (refine zrb ?_)
      obtain⟨Wh,hWh,BH⟩:=zdr w11;rw[←hWh];clear hWh;have nh:=C5.below BH.o C5.lt;refine zw ?_;refine wp_store_mid 55 (.tmp 113) (.tmp 112) rfl B9 4 HV.toArray rfl rfl (fun j hj=>⟨by rw[nh.cell,tA3,tA7 (by have h0:HV.toArray.size=68:=List.size_toArray.trans C8.o;rw[A9.o];omega)];simp,nh.frozen _⟩) (by have h0:HV.toArray.size=HV.length:=tB6;rw[h0];exact D2.o) (by simpa using DV.o) ?_;have gr:=qnp B9 HV 4 Wh;have n12:=qno HV 4 Wh X5 nh (by rw[A9.o,C8.o];decide);have z12:=(AV.below BH.o AV.lt).grown gr (by intro e;injection e with e;exact CY.o e.symm);have m12:=(BI.call BH.o).grown0 (.inr rfl) gr C7.o;have r12:=(AW.trans (Rest.of_below BH.o)).newer gr (by have:=BX.size;have:=CW.o;omega);have rv12:=((AX.call BH.o).grown nh gr).head CU.o.1 D3.o;rw[DU.o]at rv12;obtain⟨X6,hX6⟩:=xeq (over X5 4 HV);have lX6:X6.length=106:=by rw[←hX6,qnn (by rw[A9.o,C8.o];decide)];exact A9.o
      rw[hX6]at n12 rv12;obtain⟨X7,e7,lX7,oX7⟩:=rv12.cells ⟨D3.o,CU.o.2⟩;have e67:X6=X7:=by injection e7 with e7;simpa using e7
      rw[←e67]at oX7;clear e7 e67 lX7;obtain⟨D7,DW,D8,BJ,D9,DA,AY⟩:=zh7 lX6 oX7 n12 z12 m12 r12 rv12;clear nh gr n12 z12 m12 r12 rv12 lX6 oX7 hX6;refine⟨fun h=>absurd h zdc,zput ?_⟩;refine qbg ?_;clear HS9 F8 D4 FH;obtain⟨E4,hW12⟩:=eqx (Wh.setCells B9 4 HV);try rw[show HV.toArray.toList=HV from rfl]
      rw[←hW12]at D8 BJ D9 DA AY ⊢;clear hW12;obtain⟨AT,A5⟩:=zh2 (qap (D8.o) 0 X6 zjq) (show (Tryz.prog.info? 57).map (·.size)=some (X6).length by rw[(D7).o];kernel_rfl);go_wp2_with (first
       |(refine zld AT.o zu57 A5.o ?_)
       |(refine wpList_store_row rfl 57 (.tmp 4) (.tmp 114) rfl (w.heap.size+1) (X6).toArray rfl rfl 57 _ (BJ.o) (by simpa using A5.o) (by simp[(D7).o,BE.o]) (by simpa using (DW).o) ?_))
      have A6:=qap ((BJ.o).setRow (X6).toArray) 0 X6 zjq;refine zrt A6 zu57 A5.o ⟨_,Col.back col6,?_,?_,rfl,?_,?_,((DA.o).newer (qam _ (w.heap.size+1) (X6).toArray) zo).back⟩;rotate_left 2
      · rw[A1.o]
        exact(((AY.o).grown (BJ.o) (qam _ (w.heap.size+1) (X6).toArray)).base (by have:=R4.size;omega)).back
      rw[A1.o];exact((D9.o).grown0 (.inr rfl) (qam _ (w.heap.size+1) (X6).toArray) (BG.o)).back
     have q9:(R.op==9)=false:=by simpa using h9
     have A1:=zh1 (show doS c s R=(s3,a) by rw[qvo AD.o A4.o A0.o DP.o DQ.o h9,D1.o,AO.o]);clear h9;go_upto_region 18 with(fail)
     clear kop;obtain⟨AT,A5⟩:=zh2 (qap (C5.o) 0 X5 zjq) (show (Tryz.prog.info? 57).map (·.size)=some (X5).length by rw[(A9).o];kernel_rfl);go_wp2_with (first
      |(refine zld AT.o zu57 A5.o ?_)
      |(refine wpList_store_row rfl 57 (.tmp 4) (.tmp 114) rfl (w.heap.size+1) (X5).toArray rfl rfl 57 _ (AV.o) (by simpa using A5.o) (by simp[(A9).o,BE.o]) (by simpa using (BU).o) ?_))
     have A6:=qap ((AV.o).setRow (X5).toArray) 0 X5 zjq;refine zrt A6 zu57 A5.o ⟨_,Col.back col6,?_,?_,rfl,?_,?_,((AW.o).newer (qam _ (w.heap.size+1) (X5).toArray) zo).back⟩;rotate_left 2
     · rw[A1.o]
       exact(((AX.o).grown (AV.o) (qam _ (w.heap.size+1) (X5).toArray)).base (by have:=R4.size;omega)).back
     rw[A1.o];exact((BI.o).grown0 (.inr rfl) (qam _ (w.heap.size+1) (X5).toArray) (BG.o)).back
    have qa:((fw:Int)==0)=false:=by simp;omega
    have A1:=zh1 (qwh (s:=s) AD.o A4.o A0.o C2.o hf0);obtain⟨Lu,mu,tu⟩:=M7.unfork DO.o;rw[BM.o]at mu tu;obtain⟨MU,TU,AU⟩:=zh3 mu tu (qap DN.o 0 SV zjq);have C9:=zh1 (show W7.there g 4 SV.toArray.size from by
     have h0:SV.toArray.size=6:=List.size_toArray.trans BN.o;rw[h0];exact M7.there4)
    have DB:=zh1 (show (X5.toArray.setIfInBounds 0 (.int .i64 (fw:Int)))[0]? =some (.int .i64 (fw:Int)) by rw[Array.getElem?_setIfInBounds_self_of_lt (by rw[tB6,A9.o];decide)]);have n0:=(N7a.cell 0).trans DB.o;clear mu tu hf0;go_upto_region 11 with(first
     |(refine zld AU.o zu49 AK.o ?_)
     |(refine wpList_store_mid rfl 49 (.tmp 68) (.tmp 66) rfl g 4 SV.toArray rfl rfl C9.o CJ.o CK.o ?_))
    clear n0;obtain⟨Wu,hWu⟩:=eqx (W7.setCells g 4 SV);try rw[show SV.toArray.toList=SV from rfl]
    rw[←hWu]at MU TU ⊢;clear hWu;have n7:=(TU.block _ N7a.lt (by rw[AB.o];rfl)).trans N7a.o;have z7:Blk Wu (w.heap.size+1) 57 Tryz.zeroCells57:=(TU.block _ Z7.lt (by rw[AF.o];rfl)).trans Z7.o;obtain⟨Z7u,R7u⟩:=zh2 z7 (AM.step TU.o rfl);have n0:=(Blk.cell (w:=Wu) n7 0).trans DB.o;clear n7 z7;obtain⟨X9,hX9⟩:=xeq (qr1 (rWhy fw));have lX9:X9.length=106:=by rw[←hX9];exact qr2 _ Hd.zero_Ok (by simp[rWhy,qj2,qgu])
    have oX9:∀u∈X9,u.oneCell'=true:=by rw[←hX9];exact qr3 _
    obtain⟨BT,AZ,B2,B3,AG,A7⟩:=zh6 (show Tryz.prog.built 57 [(0,.int .i64 ((fw:Nat):Int))]=some X9.toArray by rw[←hX9];exact qr0 _) hX9 lX9 oX9 (zI 57 lX9) qr4;clear hX9 lX9 oX9;go_wp2_with (first
     |(refine qbk rfl ⟨.agg X9.toArray,qgr 57 _ rfl _ _ BT.o (by simp[Act.eval,Act.put]),?_⟩)
     |(refine zst (Z7u.o) AG.o (by simp[B2.o,A7.o]) B3.o ?_))
    have A6:=qap ((Z7u.o).setRow X9.toArray) 0 X9 zjq;refine zrt A6 zu57 AG.o ⟨_,col5,?_,?_,rfl,?_,?_,(R7u.o).newer (qam _ (w.heap.size+1) X9.toArray) zo⟩;rotate_left 2
    · rw[(A1.o),←AZ.o]
      exact RspV.plain _ _ _ _ rfl rfl rfl
    rw[(A1.o)];exact(MU.o).grown0 (.inl rfl) (qam _ (w.heap.size+1) X9.toArray) B4.o
  ·
   have qa:((aw:Int)==0)=false:=by simp;omega
   have A1:=zh1 (qvr (s:=s) AD.o (show (qnh c s R).2.why=(aw:Int) by rw[AO.o];exact CV.o) ha0);obtain⟨Lu,mu,tu⟩:=M6.unfork BZ.o;rw[BM.o]at mu tu;obtain⟨MU,TU,AU⟩:=zh3 mu tu (qap BF.o 0 SV zjq);have C9:=zh1 (show W6.there g 4 SV.toArray.size from by
    have h0:SV.toArray.size=6:=List.size_toArray.trans BN.o;rw[h0];exact M6.there4)
   clear mu tu ha0;go_upto_region 11 with(first
    |(refine zld AU.o zu49 AK.o ?_)
    |(refine wpList_store_mid rfl 49 (.tmp 68) (.tmp 66) rfl g 4 SV.toArray rfl rfl C9.o CJ.o CK.o ?_))
   clear n0;obtain⟨W7,hW7⟩:=eqx (W6.setCells g 4 SV);try rw[show SV.toArray.toList=SV from rfl]
   rw[←hW7]at MU TU ⊢;clear hW7;have n7:Blk W7 B9 57 X5.toArray:=(TU.block _ N6.lt (by rw[AB.o];rfl)).trans N6.o;have z7:Blk W7 (w.heap.size+1) 57 Tryz.zeroCells57:=(TU.block _ Z6.lt (by rw[AF.o];rfl)).trans Z6.o;obtain⟨Z7,AM⟩:=zh2 z7 (BY.step TU.o rfl);have n0:=(n7.cell 0).trans AP.o;clear n7 z7;obtain⟨X9,hX9⟩:=xeq (qr1 (rWhy aw));have lX9:X9.length=106:=by rw[←hX9];exact qr2 _ Hd.zero_Ok (by simp[rWhy,qj2,qgu])
   have oX9:∀u∈X9,u.oneCell'=true:=by rw[←hX9];exact qr3 _
   obtain⟨BT,AZ,B2,B3,AG,A7⟩:=zh6 (show Tryz.prog.built 57 [(0,.int .i64 ((aw:Nat):Int))]=some X9.toArray by rw[←hX9];exact qr0 _) hX9 lX9 oX9 (zI 57 lX9) qr4;clear hX9 lX9 oX9;go_wp2_with (first
    |(refine qbk rfl ⟨.agg X9.toArray,qgr 57 _ rfl _ _ BT.o (by simp[Act.eval,Act.put]),?_⟩)
    |(refine zst (Z7.o) AG.o (by simp[B2.o,A7.o]) B3.o ?_))
   have A6:=qap ((Z7.o).setRow X9.toArray) 0 X9 zjq;refine zrt A6 zu57 AG.o ⟨_,col5,?_,?_,rfl,?_,?_,(AM.o).newer (qam _ (w.heap.size+1) X9.toArray) zo⟩;rotate_left 2
   · rw[(A1.o),←AZ.o]
     exact RspV.plain _ _ _ _ rfl rfl rfl
   rw[(A1.o)];exact(MU.o).grown0 (.inl rfl) (qam _ (w.heap.size+1) X9.toArray) B4.o
 have A1:=zh1 (qvq AD.o hw0);have qn:((wy:Int)==0)=false:=by simp;omega
 obtain⟨M1,R1⟩:=zh2 (H.call AE.o) (Rest.of_below (col:=col) AE.o);clear hw0;obtain⟨X9,hX9⟩:=xeq (qr1 (rWhy wy));have lX9:X9.length=106:=by rw[←hX9];exact qr2 _ Hd.zero_Ok (by simp[rWhy,qj2,qgu])
 have oX9:∀u∈X9,u.oneCell'=true:=by rw[←hX9];exact qr3 _
 obtain⟨BT,AZ,B2,B3,AG,A7⟩:=zh6 (show Tryz.prog.built 57 [(0,.int .i64 ((wy:Nat):Int))]=some X9.toArray by rw[←hX9];exact qr0 _) hX9 lX9 oX9 (zI 57 lX9) qr4;clear hX9 lX9 oX9;go_wp2_with (first
  |(refine qbk rfl ⟨.agg X9.toArray,qgr 57 _ rfl _ _ BT.o (by simp[Act.eval,Act.put]),?_⟩)
  |(refine zst (Z1.o) AG.o (by simp[B2.o,A7.o]) B3.o ?_))
 have A6:=qap ((Z1.o).setRow X9.toArray) 0 X9 zjq;refine zrt A6 zu57 AG.o ⟨_,col,?_,?_,rfl,?_,?_,(R1.o).newer (qam _ (w.heap.size+1) X9.toArray) zo⟩;rotate_left 2
 · rw[(A1.o),←AZ.o]
   exact RspV.plain _ _ _ _ rfl rfl rfl
 rw[(A1.o)];exact(M1.o).grown0 (.inl rfl) (qam _ (w.heap.size+1) X9.toArray) B4.o
def qwt (s:Sta)(k:Nat):Sta:={s with clock:=if s.clock<18446744073709551615 then s.clock+1 else s.clock,tens:=s.tens.mapIdx fun i x=>if i<k∧x.on=true then {x with tok:=if x.burst<x.tok+x.rate then x.burst else x.tok+x.rate} else x}
theorem qwu(s:Sta):qwt s 0={s with clock:=if s.clock<18446744073709551615 then s.clock+1 else s.clock}:=by
 unfold qwt;congr 1
 apply List.ext_getElem?;intro i;rw[List.getElem?_mapIdx];cases s.tens[i]? <;>simp
theorem qwv(h:s.tens.length=16):qwt s 16=qnj s:=by
 unfold qwt qnj;congr 1
 apply List.ext_getElem?;intro i;rw[List.getElem?_mapIdx,tBj];cases hi:s.tens[i]? with
 |none=>rfl
 |some x=>
  obtain⟨h1,_⟩:=tA8 hi;simp[show i<16 by omega]
theorem qww{x:Ten}(h:s.tens[i]? =some x):(qwt s k).tens[i]? =some (if i<k∧x.on=true then {x with tok:=if x.burst<x.tok+x.rate then x.burst else x.tok+x.rate} else x):=by
 show (s.tens.mapIdx _)[i]? =_;rw[List.getElem?_mapIdx,h];rfl
theorem qwx{x:Ten}(h:s.tens[k]? =some x)(ho:x.on=false):qwt s (k+1)=qwt s k:=by
 unfold qwt;congr 1
 apply List.ext_getElem?;intro i;rw[List.getElem?_mapIdx,List.getElem?_mapIdx];by_cases e:i=k
 · subst e
   rw[h];simp[ho]
 cases s.tens[i]? with
 |none=>rfl
 |some y=>
  have e2:i<k+1 ↔ i<k:=zo;simp only[Option.map_some,e2]
theorem qwy{x:Ten}(h:s.tens[k]? =some x)(ho:x.on=true):qwt s (k+1)=(qwt s k).setX k fun y=>{y with tok:=if y.burst<y.tok+y.rate then y.burst else y.tok+y.rate}:=by
 unfold qwt Sta.setX;congr 1
 apply List.ext_getElem?;intro i;by_cases e:i=k
 ·
  subst e;rw[qop (x:=x)]
  · rw[List.getElem?_mapIdx,h]
    simp[ho]
  dsimp only;rw[List.getElem?_mapIdx,h];simp
 rw[qoq _ _ (Ne.symm e)];dsimp only;rw[List.getElem?_mapIdx,List.getElem?_mapIdx];cases s.tens[i]? with
 |none=>rfl
 |some y=>
  have e2:i<k+1 ↔ i<k:=zo;simp only[Option.map_some,e2]
theorem qwz(hs:s.Ok)(k:Nat):(qwt s k).Ok:=by
 have hc:(if s.clock<18446744073709551615 then s.clock+1 else s.clock)<18446744073709551616:=by have:=hs.clock;split<;>omega
 refine {hs with clock:=hc,tensn:=by simpa [qwt] using hs.tensn,tens:=fun x hx=>?_};obtain⟨i,hi,rfl⟩:=List.mem_mapIdx.1 hx;have o:=hs.tens _ (List.getElem_mem hi);split
 · exact {o with tok:=by have:=o.tok;dsimp only;split<;>omega}
 exact o
theorem qx0(c:Cfg)(s:Sta)(L:Loc)(col:Col)(g:Nat)(css:List (List Value))(w:World)(hs:s.Ok)(h:Mdl w col 2 g c s L css):
 Zc 34 #[.pointer (some ⟨g,0,none⟩)] w fun e w'=>e=.returned (.tuple #[])∧Mdl w' col 2 g c (qnj s) L css∧Rest w col w' col:=by
 have clb:=hs.clock;obtain⟨clk,hclk⟩:=xeq s.clock;have c4:=h.c4;have f4:=h.blk.frozen 4;rw[hclk]at c4 clb;obtain⟨cl2,hcl2⟩:∃n:Nat,(if clk<18446744073709551615 then clk+1 else clk)=n:=⟨_,rfl⟩;have hsum:sumI (clk:Int) 1=(cl2:Int):=by
  unfold sumI;rw[←hcl2];split<;>split<;>omega
 have m1:=h.own1 (.inl rfl) 4 (.int .u64 (cl2:Int)) (s':=qwt s 0) (by rw[qwu];simp only[hclk,hcl2];rfl) (by rw[qwu]) (by rw[qwu]) (by rw[qwu]);have t1:Turns (· ==1) w col (w.setCell ⟨g,4,none⟩ (.int .u64 (cl2:Int))) col:=Turns.setCell _ (by simp[h.own]);have r1:=Rest.of_turns t1 rfl;obtain⟨HS,A0,A4,A1⟩:=zh4 hs m1 r1 hsum;clear hs h hclk hcl2 hsum m1 t1 r1;go_enter Tryz.func34,Tryz.ntmps34
 go_wp2_with fail
 refine zca (qqr (clk:Int) 1 w zo zo zo zo) ?_;rw[A1.o];go_upto_region 1 with(fail)
 obtain⟨W1,hW1⟩:=eqx (w.setCell ⟨g,4,none⟩ (.int .u64 (cl2:Int)));rw[←hW1]at A0 A4 ⊢;clear hW1 c4 f4;have c7:=A0.c7;go_wp2_with fail
 clear c7;go_loopw [20] (fun i wr=>∃j:Nat,j≤16∧i=.int .i64 j∧Hid (Mdl wr col 2 g c (qwt s j) L css∧Rest w col wr col)) (fun i _=>16 - (intOf i).toNat)
 case atStart=>exact⟨0,by omega,rfl,zh1 ⟨A0.o,A4.o⟩⟩
 case round=>
  obtain⟨j,hj,rfl,hl⟩:=hrel;by_cases hjn:j<16
  ·
   have qj:(j:Int)<16:=zo;have qj0:(0:Int)≤j:=zo;obtain⟨x,hx⟩:∃x,s.tens[j]? =some x:=⟨_,tA7 (by rw[HS.tensn];exact hjn)⟩;have hxo:=HS.ten hx;have hxj:(qwt s j).tens[j]? =some x:=by rw[qww hx];simp
   have c7:=hl.o.1.c7;have tc:∀i u,i<6→(tenv x)[i]? =some u→wr.cell? ⟨L.tg,j*6+i,none⟩=some u:=fun i u hi hu=>hl.o.1.st.tens.cell ((qo4 hxj hi).trans hu)
   have t0:=tc 0 (.bool x.on) zo rfl;rw[Nat.add_zero]at t0;obtain⟨on,hon⟩:=xeq x.on;rw[hon]at t0;obtain⟨HL,HX,A2,A6,A5,A7⟩:=zh6 hl.o hx hxo hxj hon tc;clear hl hx hxo hxj hon tc;cases on with
   |false=>
    go_wp2
    go_roundw
    case rel=>exact⟨j+1,by omega,by go_num,zh1 (by rw[qwx HX.o A5.o];exact HL.o)⟩
    case measure=>simp[intOf];omega
   |true=>
    obtain⟨ra,hra⟩:=xeq x.rate;obtain⟨bu,hbu⟩:=xeq x.burst;obtain⟨tk,htk⟩:=xeq x.tok;obtain⟨tk2,htk2⟩:∃n:Nat,(if bu<tk+ra then bu else tk+ra)=n:=⟨_,rfl⟩;have b1:=A2.rate;have b2:=A2.burst;have b3:=A2.tok;rw[hra]at b1;rw[hbu]at b2;rw[htk,hbu]at b3;have hti:qqq (ra:Int) bu tk 1=(tk2:Int):=by
     unfold qqq;rw[←htk2];split<;>split<;>omega
    have A8:=zh1 (show wr.rangeAt L.tg (j*6+1) [.int .u32 (ra:Int),.int .u32 (bu:Int),.int .u32 (tk:Int)] from fun i u hu=>by
     obtain⟨hi,_⟩:=tA8 hu;have hi3:i<3:=by simpa using hi
     rw[Nat.add_assoc];refine A7.o (1+i) u zo ?_;rw[←hu,←hra,←hbu,←htk];unfold tenv;match i,hi3 with
     |0,_=>rfl
     |1,_=>rfl
     |2,_=>rfl)
    obtain⟨A9,AA,AB,AC,A3⟩:=zh5 hti hra hbu htk htk2;clear hti hra hbu htk htk2;go_wp2_with (first
     |(refine qaq rfl 90 (.tmp 37) rfl L.tg (j*6+1) rfl [.int .u32 (ra:Int),.int .u32 (bu:Int),.int .u32 (tk:Int)] _ A8.o Tryz.underlying90 rfl zk ?_)
     |((with_reducible refine(qqu (ra:Int) bu tk 1 wr zo zo zo zo zo zo zo zo).mono ?_);rintro e w5 ⟨rfl,hb5⟩;have hth:=(HL.o.1.call hb5).st.tens.there (o:=j*6+1) (m:=3) (by rw[qo6,show (qwt s j).tens.length=16 from(qwz HS.o j).tensn];omega);rw[A9.o])
     |(refine wpList_store_mid rfl 90 (.tmp 41) (.tmp 39) rfl L.tg (j*6+1) #[.int .u32 (ra:Int),.int .u32 (bu:Int),.int .u32 (tk2:Int)] rfl rfl hth zk (by simp[Value.oneCell']) ?_))
    obtain⟨M5,R5⟩:=zh2 (HL.o.1.call hb5) (HL.o.2.trans (Rest.of_below hb5));have m6:=M5.tenOver (.inl rfl) (qwz HS.o j) A6.o (j:=1) (cs:=[.int .u32 (ra:Int),.int .u32 (bu:Int),.int .u32 (tk2:Int)]) (fun y=>{y with tok:=if y.burst<y.tok+y.rate then y.burst else y.tok+y.rate}) zm (by simp[over,tenv,AA.o,AB.o,AC.o,A3.o]);have t6:Turns (· ==2) w5 col (w5.setCells L.tg (j*6+1) [.int .u32 (ra:Int),.int .u32 (bu:Int),.int .u32 (tk2:Int)]) col:=Turns.setCells _ (by simp[M5.st.tens.1]);obtain⟨M6,R6⟩:=zh2 m6 (R5.step t6 rfl);clear m6 t6 hb5 t0 c7;try go_wp2
    go_roundw
    case rel=>
     have MR:=zh1 (And.intro M6.o R6.o);rw[←qwy HX.o A5.o]at MR;exact⟨j+1,by omega,by go_num,MR⟩
    case measure=>simp[intOf];omega
  obtain rfl:j=16:=zo;have HL:=zh1 hl.o;clear hl;go_wp2
  go_end0
  exact⟨rfl,by rw[←qwv HS.tensn];exact HL.o.1,HL.o.2⟩
abbrev LaneI:=Int × Int × Int
def qx1 (x:LaneI):List Value:=[.int .i64 x.1,.int .i64 x.2.1,.int .i64 x.2.2]
def qx2 (l:List LaneI):List Value:=l.flatMap qx1
theorem qx3(l:List LaneI):(qx2 l).length=l.length*3:=by
 unfold qx2;rw[List.flatMap_def,qnx (sz:=3) (fun c hc=>by obtain⟨y,_,rfl⟩:=List.mem_map.1 hc;rfl),tBl]
theorem qx4{l:List LaneI}{x:LaneI}(h:l[n]? =some x)(hj:j<3):(qx2 l)[n*3+j]? =(qx1 x)[j]? :=by
 unfold qx2;rw[List.flatMap_def];exact qnw (fun c hc=>by obtain⟨y,_,rfl⟩:=List.mem_map.1 hc;rfl) (by rw[tBj,h];rfl) hj
theorem qx5(l:List LaneI):∀u∈qx2 l,u.oneCell'=true:=by
 intro u hu;obtain⟨x,_,hx⟩:=List.mem_flatMap.1 hu;unfold qx1 at hx;simp only[List.mem_cons,List.not_mem_nil,or_false]at hx;rcases hx with rfl|rfl|rfl<;>rfl
theorem qx6{ws:List Int}{a:Nat}(hk:k<ws.length)(hb:∀j,j<k→ws.getD ((a+j) % ws.length) 0<1)(h:1≤ws.getD ((a+k) % ws.length) 0):qnl ws a=some ((a+k) % ws.length):=by
 unfold qnl;rw[List.find?_map,(List.find?_range_eq_some (i:=k)).2 ⟨by simpa using h,List.mem_range.2 hk,fun j hj=>by
  have:=hb j hj;simp only[Function.comp];rw[decide_eq_false zo];rfl⟩]
 rfl
theorem qx7{ws:List Int}{a:Nat}(hb:∀j,j<ws.length→ws.getD ((a+j) % ws.length) 0<1):qnl ws a=none:=by
 unfold qnl;rw[List.find?_map,(List.find?_range_eq_none).2 fun j hj=>by
  have:=hb j hj;simp only[Function.comp];rw[decide_eq_false zo];rfl]
 rfl
def qx8 (l:List LaneI)(a:Nat)(q:Int):LaneI × List LaneI:=
 match qnl (l.map (·.1)) a with
 |none=>((-1,0,(a:Int)),l)
 |some k=>
  let x:=l.getD k (0,0,0)
  let d:=x.2.2+min x.1 4*min (max q 1) 2
  let take:=max (min d x.2.1) 0
  (((k:Int),take,(((k+1) % l.length:Nat):Int)),l.set k (x.1,x.2.1 - take,if x.2.1 - take=0 then 0 else d - take))
def LanesOk (l:List LaneI):Prop:=∀x∈l,(0≤x.1∧x.1≤4)∧(0≤x.2.1∧x.2.1≤1048576)∧(0≤x.2.2∧x.2.2≤1048576)
theorem qx9{l:List LaneI}{a:Nat}(h:qnl (l.map (·.1)) a=none):qx8 l a q=((-1,0,(a:Int)),l):=by
 unfold qx8;rw[h]
theorem qxa{l:List LaneI}{a:Nat}{x:LaneI}(h:qnl (l.map (·.1)) a=some k)(hx:l[k]? =some x):
 qx8 l a q=(((k:Int),max (min (x.2.2+min x.1 4*min (max q 1) 2) x.2.1) 0,(((k+1) % l.length:Nat):Int)),
  l.set k (x.1,x.2.1 - max (min (x.2.2+min x.1 4*min (max q 1) 2) x.2.1) 0,if x.2.1 - max (min (x.2.2+min x.1 4*min (max q 1) 2) x.2.1) 0=0 then 0 else x.2.2+min x.1 4*min (max q 1) 2 - max (min (x.2.2+min x.1 4*min (max q 1) 2) x.2.1) 0)):=by
 unfold qx8;rw[h];simp only[tB4,hx,Option.getD_some]
def qxb (s:Sta):List LaneI:=s.tres.mapIdx fun i t=>(qnm i t,(t.queue.length:Int),t.deficit)
theorem qxc(s:Sta):(qxb s).map (·.1)=s.tres.mapIdx fun i t=>qnm i t:=by
 unfold qxb;apply List.ext_getElem?;intro i;rw[tBj,List.getElem?_mapIdx,List.getElem?_mapIdx];cases s.tres[i]? <;>rfl
theorem qxd(h:s.tres[n]? =some t):(qxb s)[n]? =some (qnm n t,(t.queue.length:Int),t.deficit):=by
 unfold qxb;rw[List.getElem?_mapIdx,h];rfl
theorem qxe(hs:s.Ok):LanesOk (qxb s):=by
 intro x hx;unfold qxb at hx;obtain⟨i,hi,rfl⟩:=List.mem_mapIdx.1 hx;have o:=hs.tres (s.tres[i]) (List.getElem_mem hi);have hw:=o.weight;have hq:=o.queue;have hd:=o.deficit;refine⟨?_,by dsimp only;omega,by dsimp only;omega⟩;dsimp only;unfold qnm;split<;>omega
theorem qxf(hs:s.Ok)(h:qnl (s.tres.mapIdx fun i t=>qnm i t) s.lane.toNat=some k)(ht:s.tres[k]? =some t):
 qx8 (qxb s) s.lane.toNat c.quantum=(((k:Int),(takeN c t:Int),(((k+1) % 16:Nat):Int)),(qxb s).set k (qnm k t,(t.queue.length:Int) - takeN c t,(seqT c t).deficit)):=by
 obtain⟨h0,t1,ht1,hr,hw⟩:=quo h;have e:t1=t:=by
  rw[ht]at ht1;injection ht1 with h;exact h.symm
 subst e;have hlw:qnm k t1=t1.weight:=by
  unfold qnm;rw[if_neg (by rw[hr];simp;exact h0)]
 have hlen:(qxb s).length=16:=by unfold qxb;rw[List.length_mapIdx,hs.tresn]
 rw[qxa (by rw[qxc];exact h) (qxd ht),hlen];dsimp only;rw[hlw];have ht0:((takeN c t1:Nat):Int)=max (min (t1.deficit+min t1.weight 4*min (max c.quantum 1) 2) t1.queue.length) 0:=by
  unfold takeN;rw[Int.toNat_of_nonneg zo]
 rw[←ht0];have hle:takeN c t1≤t1.queue.length:=by unfold takeN;omega
 have hdf:(seqT c t1).deficit=if (t1.queue.length:Int) - takeN c t1=0 then 0 else t1.deficit+min t1.weight 4*min (max c.quantum 1) 2 - takeN c t1:=by
  unfold seqT;dsimp only;by_cases hz:takeN c t1=t1.queue.length
  · rw[if_pos (List.drop_of_length_le zo),if_pos zo]
  rw[if_neg (by
   intro e;have:=congrArg List.length e;rw[tBk]at this;simp at this;omega),if_neg zo]
 rw[hdf]
theorem qxg{base:Nat}{c:Nat}(h:TopAt w col k e g c size n xs)(hb:base≤g):w.ownsRow base e size (.slice (some ⟨g,0,none⟩) n c) n xs:=by
 obtain⟨_,sp,hk,h1,h2,h3,h4⟩:=h;refine⟨h1,.inr ⟨g,c,(xs++sp).toArray,rfl,hb,hk,h2,h3,?_,?_⟩⟩
 · rw[tB6,tA6]
   exact h4
 rw[←h1];simp
theorem qxh:∀{l:List LaneI} {k:Nat} {x:LaneI} (y:LaneI),l[k]? =some x→y.1=x.1→qx2 (l.set k y)=((qx2 l).set (k*3+1) (.int .i64 y.2.1)).set (k*3+2) (.int .i64 y.2.2)
 |[],k,x,y,h,_=>by simp at h
 |a::l,0,x,y,h,e=>by
  simp only[List.getElem?_cons_zero,Option.some.injEq]at h;subst h;show qx1 y++qx2 l=((qx1 a++qx2 l).set 1 _).set 2 _;unfold qx1;rw[e];rfl
 |a::l,k+1,x,y,h,e=>by
  rw[tBc]at h;show qx1 a++qx2 (l.set k y)=((qx1 a++qx2 l).set ((k+1)*3+1) _).set ((k+1)*3+2) _;rw[qxh y h e,show (k+1)*3+1=k*3+1+1+1+1 by omega,show (k+1)*3+2=k*3+2+1+1+1 by omega];rfl
theorem TopAt.row{c:Nat}(h:TopAt w col k e g c size n xs)(hne:g≠G)(X:Array Value):TopAt (w.setRow G X) col k e g c size n xs:=by
 obtain⟨hc,sp,hb,h1⟩:=h;exact⟨hc,sp,((qam w G X).block g hb.lt (by intro e;injection e with e;exact hne e)).trans hb,h1⟩
theorem qxi(l:List LaneI)(a q:Nat)(A:Option Addr)(c:Nat)(w:World)(hr:Reads w w.heap.size 3 A l.length (qx2 l))(hl:LanesOk l)(hn:l.length≤1000)(ha:a<l.length)(hq:1≤q∧q≤2)(hc:l.length≤c):
 Zc 63 #[.slice A l.length c,.int .i64 (a:Int),.int .i64 (q:Int)] w fun e w'=>∃v,e=.returned (.tuple #[.agg #[.int .i64 (qx8 l a q).1.1,.int .i64 (qx8 l a q).1.2.1,.int .i64 (qx8 l a q).1.2.2],v])∧w'.ownsRow w.heap.size 136 3 v l.length (qx2 (qx8 l a q).2)∧Zb w w':=by
 obtain⟨S1,hS1⟩:=xeq (qx8 l a q);rw[hS1];obtain⟨⟨r0,r1,r2⟩,lo⟩:=S1;dsimp only;obtain⟨n,hln⟩:=xeq l.length;rw[hln]at hr hn ha hc ⊢;obtain⟨b0,o0,eA,-,hc0⟩:=hr.mid zo zdc;subst eA;obtain⟨W0,hW0⟩:=eqx (w.alloc (.cells #[.int .i64 0,.int .i64 0,.int .i64 0] 138));have z0:=zNa hW0;obtain⟨B0,A3,A0,HL,Z0⟩:=zh5 (show Zb w W0 by rw[hW0];exact qah (tA5 _ _) _) hS1 hln hl z0;obtain⟨CL,A5⟩:=zh2 (qsb (some ⟨b0,o0,none⟩) n c (qx2 l) W0 (hr.call B0.o) zo (qx5 l)) (show ∀w',Zb w w'→∀j u,(qx2 l)[j]? =some u→w'.cell? ⟨b0,o0+j,none⟩=some u from fun w' hb j u hu=>qai (hc0 j u hu) hb);clear hS1 hln hl z0 hr hc0;have qa:(a:Int)<n:=zo;have qa0:¬(a:Int)<0:=zo;have qan:¬(n:Int)≤a:=zo;have A6:=zh1 (show ∀(j:Nat) (x:LaneI),l[j]? =some x→(0≤x.1∧x.1≤4)∧(0≤x.2.1∧x.2.1≤1048576)∧(0≤x.2.2∧x.2.2≤1048576) from fun j x h=>HL.o x (tB2 h));go_enter Tryz.func63,Tryz.ntmps63
 go_upto_region 1 with(fail)
 rw[←hW0];clear hW0;go_step3
 go_wp2_with ((with_reducible refine CL.o.mono ?_);rintro e w1 ⟨v1,rfl,o1,b1⟩;obtain⟨g1,c1,hv1,t1,t2,⟨tcs,t3⟩,t4⟩:=qve o1 zo;subst hv1)
 obtain⟨B1,Z1,T1,GS⟩:=zh4 (B0.trans (b1.mono B0.size)) (Z0.below b1 Z0.lt) (t4 (fun b=>if b=g1 then 1 else 0) 1 zm) (tB1 (show w.heap.size+1≤W0.heap.size from Nat.succ_le_of_lt Z0.lt) t1);clear o1 b1 t2 t3 t4 t1 CL;go_step3
 go_wp2_with fail
 go_loopw [9,27] (fun v i wr=>∃j:Nat,j≤n∧i=.int .i64 j∧v=.int .i64 (-1)∧Hid (∀m,m<j→(l.map (·.1)).getD ((a+m) % n) 0<1)∧wr=w1) (fun v i _=>n - (intOf i).toNat)
 case atStart=>exact⟨0,by omega,rfl,rfl,zh1 fun m hm=>absurd hm zo,rfl⟩
 case round=>
  obtain⟨j,hj,rfl,rfl,hb,rfl⟩:=hrel;by_cases hjn:j<n
  ·
   have qj:(j:Int)<n:=zo;obtain⟨k,hk⟩:=xeq ((a+j) % n);have hkn:k<n:=by rw[←hk];exact Nat.mod_lt _ zo
   have qm:((a:Int)+j).tmod n=(k:Int):=by
    rw[←hk,Int.tmod_eq_emod_of_nonneg zo];simp
   have qk:(k:Int)<n:=zo;obtain⟨⟨wt,qu,de⟩,hx⟩:∃x,l[k]? =some x:=⟨_,tA7 (by rw[A0.o];exact hkn)⟩;have c0:wr.cell? ⟨b0,o0+k*3,none⟩=some (.int .i64 wt):=by
    have:=A5.o wr B1.o (k*3+0) (.int .i64 wt) ((qx4 hx zo).trans rfl);rwa[Nat.add_zero]at this
   obtain⟨HX,HK⟩:=zh2 hx hk;clear hx hk;by_cases hw1:wt<1
   ·
    go_wp2
    go_roundw
    case rel=>exact⟨j+1,by omega,by go_num,rfl,zh1 fun m hm=>(by
     rcases Nat.lt_or_ge m j with h|h
     · exact hb.o m h
     obtain rfl:m=j:=zo;rw[HK.o,tB4,tBj,HX.o];exact hw1),trivial⟩
    case measure=>simp[intOf];omega
   have hlo:qnl (l.map (·.1)) a=some k:=by
    have:=qx6 (ws:=l.map (·.1)) (a:=a) (k:=j) (by rw[tBl,A0.o];exact hjn) (by rw[tBl,A0.o];exact hb.o) (by
     rw[tBl,A0.o,HK.o,tB4,tBj,HX.o];show 1≤wt;omega)
    rwa[tBl,A0.o,HK.o]at this
   have hsv:=qxa (q:=(q:Int)) hlo HX.o;rw[A3.o]at hsv;dsimp only at hsv;obtain⟨⟨w0,w4⟩,⟨q0,q1⟩,⟨d0,d1⟩⟩:=A6.o k (wt,qu,de) HX.o;dsimp only at w0 w4 q0 q1 d0 d1;have A7:=zh1 hsv;clear hlo hsv;have qk0:¬(k:Int)<0:=zo;have e0:wr.cell? ⟨g1,k*3,none⟩=some (.int .i64 wt):=by
    have:=T1.cell (i:=k*3+0) ((qx4 HX.o zo).trans rfl);rwa[Nat.add_zero]at this
   have e1:wr.cell? ⟨g1,k*3+1,none⟩=some (.int .i64 qu):=T1.cell ((qx4 HX.o zo).trans rfl);have e2:wr.cell? ⟨g1,k*3+2,none⟩=some (.int .i64 de):=T1.cell ((qx4 HX.o zo).trans rfl);go_upto_region 16 with(fail)
   obtain⟨D,hD⟩:∃D:Int,min wt 4*min (max (q:Int) 1) 2=D:=⟨_,rfl⟩;have hD8:0≤D∧D≤8:=by
    rw[←hD];rcases(by omega:q=1∨q=2) with h|h
    · subst h
      rw[show min (max ((1:Nat):Int) 1) 2=1 by decide];omega
    subst h;rw[show min (max ((2:Nat):Int) 1) 2=2 by decide];omega
   obtain⟨D0,D8⟩:=hD8;obtain⟨tk,htk⟩:∃tk:Int,max (min (de+D) qu) 0=tk:=⟨_,rfl⟩;have htk3:0≤tk∧tk≤qu∧tk≤de+D:=zo;obtain⟨tk0,tk1,tk2⟩:=htk3;rw[hD,show wrap64 D=D from IntWalk.wrap64_in _ zo];have hs2:=A7.o;rw[hD,htk,A0.o]at hs2;injection hs2 with h1 h2;injection h1 with h3 h4;injection h4 with h4 h5;obtain⟨A4,A8⟩:=zh2 h2 htk;have h4:=h4.symm;subst h3 h4 h5;have q16:¬(9223372036854775807 - D<de):=zo;have f2:=T1.frozen (k*3+2);have hl3:(qx2 l).length=n*3:=by rw[qx3,A0.o]
   have A1:=zh1 hl3;clear hD h2 htk hl3;go_upto_region 19 with(fail)
   obtain⟨W2,hW2⟩:=eqx (wr.setCell ⟨g1,k*3+2,none⟩ (.int .i64 (de+D)));rw[←hW2];obtain⟨B2,Z2,T2⟩:=zh3 (show Zb w W2 by rw[hW2];exact B1.setCell (by have:=GS.o;show w.heap.size≤g1;omega) _) (show Blk W2 w.heap.size 138 #[.int .i64 0,.int .i64 0,.int .i64 0] by rw[hW2];exact Z1.far (by have:=GS.o;show w.heap.size≠g1;omega) _) (show TopAt W2 _ _ _ _ _ _ _ _ by rw[hW2];exact T1.set1 (o:=k*3+2) (.int .i64 (de+D)) (by rw[A1.o];omega));clear hW2 f2 e0 e1 e2;have e1:W2.cell? ⟨g1,k*3+1,none⟩=some (.int .i64 qu):=T2.cell (by rw[List.getElem?_set_ne zo];exact(qx4 HX.o zo).trans rfl);have e2:W2.cell? ⟨g1,k*3+2,none⟩=some (.int .i64 (de+D)):=T2.cell (by rw[List.getElem?_set_self (by rw[A1.o];omega)]);obtain⟨S,HS9⟩:=zS fun w'=>w'.cell? ⟨g1,k*3+2,none⟩=some (.int .i64 (de+D))∧w'.cell? ⟨g1,k*3+1,none⟩=some (.int .i64 qu)
   refine zrs S 11 (zq 0 11 []) ((HS9.o _).mpr (⟨e2,e1⟩)) ?_;have F0:=zh1 (fun(w':World)(h:S w')=>(HS9.o w').mp h);repeat(refine zre rfl rfl (fun w1 hS=>by have g0:=(F0.o w1 hS).1;have g3:=(F0.o w1 hS).2;clear hS;go_simp;try rfl) ?_)
   refine qbg ?_;rw[A8.o];clear F0 HS9;obtain⟨W3,hW3⟩:=eqx W2.drew;rw[←hW3];have bd:Zb W2 W3:=by rw[hW3];exact(tA5 _ _).drew
   obtain⟨B3,Z3,T3⟩:=zh3 (B2.trans (bd.mono B2.size)) (Z2.below bd Z2.lt) (T2.keep ((Turns.of_below (fun _=>false) bd).keeps rfl));clear hW3 bd e1 e2;have e1:W3.cell? ⟨g1,k*3+1,none⟩=some (.int .i64 qu):=T3.cell (by rw[List.getElem?_set_ne zo];exact(qx4 HX.o zo).trans rfl);have e2:W3.cell? ⟨g1,k*3+2,none⟩=some (.int .i64 (de+D)):=T3.cell (by rw[List.getElem?_set_self (by rw[A1.o];omega)]);have f2:=T3.frozen (k*3+2);go_upto_region 21 with(fail)
   obtain⟨W4,hW4⟩:=eqx (W3.setCell ⟨g1,k*3+2,none⟩ (.int .i64 (de+D - tk)));rw[←hW4];obtain⟨B4,Z4,T4⟩:=zh3 (show Zb w W4 by rw[hW4];exact B3.setCell (by have:=GS.o;show w.heap.size≤g1;omega) _) (show Blk W4 w.heap.size 138 #[.int .i64 0,.int .i64 0,.int .i64 0] by rw[hW4];exact Z3.far (by have:=GS.o;show w.heap.size≠g1;omega) _) (show TopAt W4 (fun b=>if b=g1 then 1 else 0) 1 136 g1 c1 3 n ((qx2 l).set (k*3+2) (.int .i64 (de+D - tk))) by rw[hW4,←List.set_set (a:=Value.int .i64 (de+D))];exact T3.set1 (o:=k*3+2) (.int .i64 (de+D - tk)) (by rw[List.length_set,A1.o];omega));clear hW4 f2 e1 e2;have e1:W4.cell? ⟨g1,k*3+1,none⟩=some (.int .i64 qu):=T4.cell (by rw[List.getElem?_set_ne zo];exact(qx4 HX.o zo).trans rfl);have f1:=T4.frozen (k*3+1);go_upto_region 22 with(fail)
   obtain⟨W5,hW5⟩:=eqx (W4.setCell ⟨g1,k*3+1,none⟩ (.int .i64 (qu - tk)));rw[←hW5];obtain⟨B5,Z5,T5⟩:=zh3 (show Zb w W5 by rw[hW5];exact B4.setCell (by have:=GS.o;show w.heap.size≤g1;omega) _) (show Blk W5 w.heap.size 138 #[.int .i64 0,.int .i64 0,.int .i64 0] by rw[hW5];exact Z4.far (by have:=GS.o;show w.heap.size≠g1;omega) _) (show TopAt W5 (fun b=>if b=g1 then 1 else 0) 1 136 g1 c1 3 n (((qx2 l).set (k*3+1) (.int .i64 (qu - tk))).set (k*3+2) (.int .i64 (de+D - tk))) by rw[hW5,List.set_comm _ _ zo];exact T4.set1 (o:=k*3+1) (.int .i64 (qu - tk)) (by rw[List.length_set,A1.o];omega));clear hW5 f1 e1;have e1:W5.cell? ⟨g1,k*3+1,none⟩=some (.int .i64 (qu - tk)):=T5.cell (by rw[List.getElem?_set_ne zo,List.getElem?_set_self (by rw[A1.o];omega)]);have f2:=T5.frozen (k*3+2);have e2:W5.cell? ⟨g1,k*3+2,none⟩=some (.int .i64 (de+D - tk)):=T5.cell (by rw[List.getElem?_set_self (by rw[List.length_set,A1.o];omega)]);have qm2:((k:Int)+1).tmod n=(((k+1) % n:Nat):Int):=by
    rw[Int.tmod_eq_emod_of_nonneg zo];simp
   by_cases hz:qu - tk=0
   ·
    have hlo:qx2 lo=((qx2 l).set (k*3+1) (.int .i64 (qu - tk))).set (k*3+2) (.int .i64 0):=by
     rw[A4.o,qxh (wt,qu - tk,if qu - tk=0 then 0 else de+D - tk) HX.o rfl];dsimp only;rw[if_pos hz]
    have A9:=zh1 hlo;clear hlo;rw[hz]at e1;go_upto_region 24 with(fail)
    obtain⟨W6,hW6⟩:=eqx (W5.setCell ⟨g1,k*3+2,none⟩ (.int .i64 0));rw[←hW6];obtain⟨B6,Z6,T6⟩:=zh3 (show Zb w W6 by rw[hW6];exact B5.setCell (by have:=GS.o;show w.heap.size≤g1;omega) _) (show Blk W6 w.heap.size 138 #[.int .i64 0,.int .i64 0,.int .i64 0] by rw[hW6];exact Z5.far (by have:=GS.o;show w.heap.size≠g1;omega) _) (show TopAt W6 (fun b=>if b=g1 then 1 else 0) 1 136 g1 c1 3 n (qx2 lo) by rw[hW6,A9.o,←List.set_set (a:=Value.int .i64 (de+D - tk))];exact T5.set1 (o:=k*3+2) (.int .i64 0) (by rw[List.length_set,List.length_set,A1.o];omega));clear hW6 f2 e1 e2 hz;go_wp2_with (refine wpList_store_row rfl 138 (.tmp 6) (.tmp 120) rfl w.heap.size #[.int .i64 (k:Int),.int .i64 tk,.int .i64 (((k+1) % n:Nat):Int)] rfl rfl 138 _ Z6.o zk zm (by simp[Value.oneCell']) ?_)
    try rw[Exit.noGoto_ret]
    have A2:=qap (Z6.setRow #[.int .i64 (k:Int),.int .i64 tk,.int .i64 (((k+1) % n:Nat):Int)]) 0 [.int .i64 (k:Int),.int .i64 tk,.int .i64 (((k+1) % n:Nat):Int)] zjq;refine bodyPost_ret (qgv rfl rfl (run_loadVar_mid _ _ 0 _ [.int .i64 (k:Int),.int .i64 tk,.int .i64 (((k+1) % n:Nat):Int)] _ A2 Tryz.underlying138 rfl zk)) rfl ⟨_,rfl,qxg (T6.row (by have:=GS.o;omega) _) (by have:=GS.o;omega),below_setRow B6.o (tA4 _) _⟩
   have hlo:qx2 lo=((qx2 l).set (k*3+1) (.int .i64 (qu - tk))).set (k*3+2) (.int .i64 (de+D - tk)):=by
    rw[A4.o,qxh (wt,qu - tk,if qu - tk=0 then 0 else de+D - tk) HX.o rfl];dsimp only;rw[if_neg hz]
   rw[←hlo]at T5;clear hlo f2 e2;go_wp2_with (refine wpList_store_row rfl 138 (.tmp 6) (.tmp 120) rfl w.heap.size #[.int .i64 (k:Int),.int .i64 tk,.int .i64 (((k+1) % n:Nat):Int)] rfl rfl 138 _ Z5.o zk zm (by simp[Value.oneCell']) ?_)
   try rw[Exit.noGoto_ret]
   have A2:=qap (Z5.setRow #[.int .i64 (k:Int),.int .i64 tk,.int .i64 (((k+1) % n:Nat):Int)]) 0 [.int .i64 (k:Int),.int .i64 tk,.int .i64 (((k+1) % n:Nat):Int)] zjq;refine bodyPost_ret (qgv rfl rfl (run_loadVar_mid _ _ 0 _ [.int .i64 (k:Int),.int .i64 tk,.int .i64 (((k+1) % n:Nat):Int)] _ A2 Tryz.underlying138 rfl zk)) rfl ⟨_,rfl,qxg (T5.row (by have:=GS.o;omega) _) (by have:=GS.o;omega),below_setRow B5.o (tA4 _) _⟩
  have hlo:qnl (l.map (·.1)) a=none:=qx7 (by
   rw[tBl,A0.o];intro m hm;exact hb.o m zo)
  have hsv:=qx9 (q:=(q:Int)) hlo;rw[A3.o]at hsv;injection hsv with h1 h2;injection h1 with h3 h4;injection h4 with h4 h5;subst h2 h3 h4 h5;clear hlo;obtain rfl:j=n:=zo;go_wp2_with (refine wpList_store_row rfl 138 (.tmp 6) (.tmp 47) rfl w.heap.size #[.int .i64 (-1),.int .i64 0,.int .i64 (a:Int)] rfl rfl 138 _ Z1.o zk zm (by simp[Value.oneCell']) ?_)
  try rw[Exit.noGoto_ret]
  have A2:=qap (Z1.setRow #[.int .i64 (-1),.int .i64 0,.int .i64 (a:Int)]) 0 [.int .i64 (-1),.int .i64 0,.int .i64 (a:Int)] zjq;refine bodyPost_ret (qgv rfl rfl (run_loadVar_mid _ _ 0 _ [.int .i64 (-1),.int .i64 0,.int .i64 (a:Int)] _ A2 Tryz.underlying138 rfl zk)) rfl ⟨_,rfl,qxg (T1.row (by have:=GS.o;omega) _) (by have:=GS.o;omega),below_setRow B1.o (tA4 _) _⟩
theorem RowC.clip{c:Nat}(h:RowC w col k (.slice A n c) e size n xs):RowC w col k (.slice A n n) e size n xs:=by
 refine⟨h.1,?_⟩;rcases h.2 with⟨rfl,h0|⟨g,o,h0⟩⟩|⟨g,o,c',cur,hv,hk,hb,hn,hc,hl,ht⟩
 · injection h0 with h1 h2 h3
   subst h1;exact .inl ⟨rfl,.inl rfl⟩
 · injection h0 with h1 h2 h3
   subst h1;exact .inl ⟨rfl,.inr ⟨g,o,rfl⟩⟩
 injection hv with h1 h2 h3;subst h1 h3;exact .inr ⟨g,o,n,cur,rfl,hk,hb,tA4 _,by omega,by have:=Nat.mul_le_mul_right size hn;omega,ht⟩
theorem qxk{base:Nat}(ho:w'.ownsRow base e size v n xs)(hb:w.heap.size≤base)(hs:w.heap.size≤w'.heap.size)(hf:Fin_ col w):
 ∃col1:Col,(∀b,b<base→col1 b=col b)∧RowC w' col1 k v e size n xs∧Fin_ col1 w':=by
 refine⟨fun b=>if v.ownBlock=some b then k else col b,fun b hb'=>?_,RowC.of_own ho fun g hg=>?_,fun b hb'=>?_⟩
 · show (if v.ownBlock=some b then k else col b)=col b
   rw[if_neg];intro e;have:=(World.ownsRow.lt ho b e).1;omega
 · simp[hg]
 by_cases e:v.ownBlock=some b
 · exact(World.ownsRow.lt ho b e).2
 change (if v.ownBlock=some b then k else col b)≠0 at hb';rw[if_neg e]at hb';exact tB0 (hf b hb') hs
theorem qxl(w:World)(col:Col)(k:Nat)(t tx ty e:TypeId)(i:TypeInfo)(z:Value)(size bytes:Nat)(ht:P.underlying t=some (.slice e))(hi:P.info? e=some i)(hz:i.zero=some z)
 (hsize:i.size=size)(hby:i.bytes=bytes)(hzs:z.cells.size=size)
 (A:Option Addr)(n:Nat)(xs:List Value)(hrow:RowC w col k (.slice A n n) e size n xs)(x:Value)(m:Nat)(news:List Value)(hsrc:Src P size tx x m news w)
 (h63:n+m≤maxLen)(hbytes:(n+m)*bytes≤140737488355328)(hf:Fin_ col w):
 ∃v' w' col',(Builtin.append_ #[t,tx] ty #[.slice A n n,x]).run P w=.ok v' w'∧RowC w' col' k v' e size (n+m) (xs++news)∧Turns (fun _=>false) w col w' col'∧Fin_ col' w'∧Zb w w':=by
 have hl:=hsrc.newsLen;subst hsize;subst hby;by_cases hm:m=0
 ·
  subst hm;have hn:news=[]:=tB8 (by simpa using hl);subst hn;have hr0:RowC w col k (.slice A n n) e i.size (n+0) (xs++[]):=by simpa using hrow
  rcases hrow.2 with⟨rfl,h0|⟨g,o,h0⟩⟩|⟨g,o,c',cur,hv,hk,hb,hn,hc,hol,htk⟩
  · injection h0 with h1
    subst h1;refine⟨_,w,col,?_,hr0,Turns.refl _ _ _,hf,tA5 _ _⟩;have hc:=hsrc.cells;have hlo:=hsrc.len w;rcases hsrc.kind with⟨e',hk⟩|hk<;>simp[Builtin.append_,run_underlying ht,run_underlying hk,sizeOf,typeInfo,hi,hlo,hc,storeCells]
  · injection h0 with h1
    subst h1;exact⟨_,w,col,run_append_room_src (P:=P) w t tx ty e i ht hi g o 0 0 x 0 [] hsrc zo (fun j hj=>absurd hj zm) (fun j hj=>absurd hj zm),hr0,Turns.refl _ _ _,hf,tA5 _ _⟩
  injection hv with h1 h2 h3;subst h1;exact⟨_,w,col,run_append_room_src (P:=P) w t tx ty e i ht hi g o n n x 0 [] hsrc zo (fun j hj=>absurd hj zm) (fun j hj=>absurd hj zm),hr0,Turns.refl _ _ _,hf,tA5 _ _⟩
 have hge:=grownCap_ge w (n+m) n e;have hcm:grownCap w (n+m) n e≤maxLen:=grownCap_le_maxLen w (n+m) n e h63;have hlen:(xs++news).length=(n+m)*i.size:=by rw[tA6,hrow.1,hl,Nat.add_mul]
 have old:(Builtin.firstCells i.size n (.slice A n n)).run P w.drew=.ok xs.toArray w.drew:=by
  rcases hrow.2 with⟨rfl,h0|⟨g,o,h0⟩⟩|⟨g,o,c',cur,hv,hk,hb,hn,hc,hol,htk⟩
  · injection h0 with h1
    subst h1;have hx:xs=[]:=tB8 (by simpa using hrow.1);subst hx;exact run_firstCells_none w.drew i.size 0 0 0
  · injection h0 with h1
    subst h1;have hx:xs=[]:=tB8 (by simpa using hrow.1);subst hx;exact run_firstCells_some w.drew i.size 0 ⟨g,o,none⟩ 0 0 [] zm (fun j u hu=>by simp at hu)
  injection hv with h1 h2 h3;subst h1;refine run_firstCells_some w.drew i.size n ⟨g,o,none⟩ n n xs hrow.1 (fun j u hu=>?_);rw[World.cell?_drew,Addr.add_mid,hb.cell,tA3];rw[←htk,List.getElem?_take]at hu;split at hu
  · rwa[List.getElem?_drop]at hu
  cases hu
 have hr:=run_append_grow_src (P:=P) w t tx ty e i z ht hi hz A n n xs old x m news hsrc zo (by simp only[maxLen]at h63;omega) (growslice_fits zo hbytes);obtain⟨Z,hZ⟩:∃Z:List Value,Z.toArray=Builtin.zeroCells z.cells (grownCap w (n+m) n e - (n+m)):=⟨_,Array.toArray_toList⟩;have hZl:Z.length=(grownCap w (n+m) n e - (n+m))*i.size:=by
  have:=congrArg Array.size hZ;rw[size_zeroCells,hzs,tB6]at this;exact this
 rw[←hZ,List.append_toArray]at hr;have hcl:(xs++news++Z).length=grownCap w (n+m) n e*i.size:=by
  rw[tA6,hlen,hZl,←Nat.add_mul];congr 1
  omega
 have htk:(xs++news++Z).take ((n+m)*i.size)=xs++news:=by rw[←hlen];exact List.take_left
 have hb:Zb w (w.drew.alloc (.cells (xs++news++Z).toArray e)):=⟨rfl,rfl,rfl,by simp,fun b hb=>Below.heap_alloc w.drew _ b hb⟩;have ho:(w.drew.alloc (.cells (xs++news++Z).toArray e)).ownsRow w.heap.size e i.size (.slice (some ⟨w.heap.size,0,none⟩) (n+m) (grownCap w (n+m) n e)) (n+m) (xs++news):=by
  refine⟨hlen,.inr ⟨w.heap.size,_,(xs++news++Z).toArray,rfl,tA4 _,heap_alloc_new _ _,hge,hcm,by rw[tB6];exact hcl,by simpa using htk⟩⟩
 obtain⟨col1,h1,h2,h3⟩:=qxk (w:=w) (col:=col) (k:=k) ho (tA4 _) hb.size hf;exact⟨_,_,col1,hr,h2,(Turns.of_below _ hb).recolour h1,h3,hb⟩
theorem qxm(w:World)(s x:Operand)(t tx:TypeId)
 (ho:o.op=.call {callee:=.builtin .append,args:=#[s,x],argTypes:=#[t,tx]})
 (col:Col)(k:Nat)(e:TypeId)(i:TypeInfo)(z:Value)(size bytes:Nat)(ht:P.underlying t=some (.slice e))(hi:P.info? e=some i)(hz:i.zero=some z)
 (hsize:i.size=size)(hby:i.bytes=bytes)(hzs:z.cells.size=size)
 (A:Option Addr)(n:Nat)(xs:List Value)(hs:a.eval s=.slice A n n)(hrow:RowC w col k (.slice A n n) e size n xs)(xv:Value)(m:Nat)(news:List Value)(hx:a.eval x=xv)(hsrc:Src P size tx xv m news w)
 (h63:n+m≤maxLen)(hbytes:(n+m)*bytes≤140737488355328)(hf:Fin_ col w)
 (h:∀v' w' col',RowC w' col' k v' e size (n+m) (xs++news)→Turns (fun _=>false) w col w' col'→Fin_ col' w'→Zb w w'→K (a.put o.dst v') w'):o.wp P a w K Q:=by
 obtain⟨v',w',col',hrun,h2,h3,h4,h5⟩:=qxl (P:=P) w col k t tx o.type e i z size bytes ht hi hz hsize hby hzs A n xs hrow xv m news hsrc h63 hbytes hf;unfold Oper.wp execOp;simp only[ho,resolve,invoke,builtin,Sem.run_bind,Sem.run_pure,Result.andThen_ok,List.map_toArray,List.map_cons,List.map_nil,hs,hx,hrun];exact h v' w' col' h2 h3 h4 h5
theorem Mdl.treRowW(h:Mdl w col k g c s L css)(hk:Kind k)(h16:s.tres.length=16)(hh:∀t∈s.tres,t.hd.Ok)(ht:s.tres[n]? =some t)(hcs:css[n]? =some cs)(hkk:kk=10+3*n∨kk=11+3*n∨kk=12+3*n)
 (hT:Turns (· ==kk) w col w' col')(hf:Fin_ col' w')(f:Tre→Tre)(v':Value)(hj:j<75)(hold:TreAt w' col' n cs t)(hnew:TreAt w' col' n (cs.set j v') (f t)):
 Mdl (w'.setCell ⟨L.rg,n*75+j,none⟩ v') col' k g c (s.setT n f) L (css.modify n fun x=>x.set j v')∧TrsAt (w'.setCell ⟨L.rg,n*75+j,none⟩ v') col' css s.tres∧Turns (inP k) w col (w'.setCell ⟨L.rg,n*75+j,none⟩ v') col':=by
 have hn:n<s.tres.length:=by obtain⟨h,_⟩:=tA8 ht;exact h
 have hn16:n<16:=by rw[←h16];exact hn
 have hlen:=h.st.trs.lens (fun t ht=>hh t ht);have hcl:css.length=16:=by rw[h.st.trs.1,h16]
 have hfl:css.flatten.length=1200:=by rw[qnx hlen,hcl]
 have keepA:∀i,i≠kk→KeepsCol i w col w' col':=fun i hi=>hT.keeps (by simpa using hi)
 have mA:Mdl w' col' k g c s L css:=by
  refine⟨(hT.block g h.blk.lt (by rw[h.own];simp;omega)).trans h.blk,(hT.same g h.blk.lt).trans h.own,⟨tB1 h.base.1 hT.size,fun b hb=>(hT.same b (tB0 hb h.base.1)).trans (h.base.2 b hb)⟩,hf,h.seed.keep (keepA 5 zo),?_⟩;refine⟨h.st.tens.keep (keepA k (by rcases hk with rfl|rfl<;>omega)),h.st.tres.keep (keepA (k+1) (by rcases hk with rfl|rfl<;>omega)),h.st.gras.keep (keepA (k+2) (by rcases hk with rfl|rfl<;>omega)),h.st.trs.1,fun i t' ht'=>?_⟩;by_cases e:n=i
  · subst e
    rw[ht]at ht';injection ht' with ht';subst ht';exact⟨cs,hcs,hold⟩
  obtain⟨c0,h1,vd,vl,vq,e1,r1,r2,r3⟩:=h.st.trs.2 i t' ht';exact⟨c0,h1,vd,vl,vq,e1,r1.keep (keepA _ zo),r2.keep (keepA _ zo) (keepA 5 zo),r3.keep (keepA _ zo) (keepA 5 zo)⟩
 have hT2:Turns (· ==k+1) w' col' (w'.setCell ⟨L.rg,n*75+j,none⟩ v') col':=Turns.setCell v' (by simp[mA.st.tres.1]);have keepB:∀i,i≠k+1→KeepsCol i w' col' (w'.setCell ⟨L.rg,n*75+j,none⟩ v') col':=fun i hi=>hT2.keeps (by simpa using hi)
 have hbig:∀i,i=5∨10≤i→i≠k+1:=fun i hi=>by rcases hk with rfl|rfl<;>omega
 have hne:g≠L.rg:=by
  intro e;have a:=mA.own;rw[e,mA.st.tres.1]at a;rcases hk with rfl|rfl<;>cases a
 refine⟨⟨?_,mA.own,⟨tB1 mA.base.1 hT2.size,mA.base.2⟩,mA.fin.mono hT2.size,mA.seed.keep (keepB 5 (hbig 5 (.inl rfl))),?_⟩,mA.st.trs.keep fun i hi=>keepB i (hbig i hi),?_⟩
 · exact(mA.blk.far (p:=⟨L.rg,n*75+j,none⟩) hne v')
 ·
  refine⟨mA.st.tens.keep (keepB k zo),?_,mA.st.gras.keep (keepB (k+2) zo),?_⟩
  · have h1:=mA.st.tres.set1 (o:=n*75+j) v' (by rw[hfl];omega)
    rw[←qnz _ _ _ (by rw[hfl];omega),qny [v'] hlen (by rw[hcl];exact hn16) (by simp;omega)]at h1;have e:(css.modify n fun x=>over x j [v'])=css.modify n fun x=>x.set j v':=qrz fun x hx=>qnz x j v' (by rw[hlen x (tB2 hx)];exact hj)
    rwa[e]at h1
  refine⟨by rw[List.length_modify,h.st.trs.1];simp[Sta.setT],fun i t' ht'=>?_⟩;by_cases e:n=i
  · subst e
    rw[show (s.setT n f).tres=s.tres.modify n f from rfl,qop f ht]at ht';injection ht' with ht';subst ht';exact⟨cs.set j v',qop _ hcs,hnew.keep fun i hi=>keepB i (hbig i hi)⟩
  rw[show (s.setT n f).tres=s.tres.modify n f from rfl,qoq _ f e]at ht';obtain⟨c0,h1,h2⟩:=mA.st.trs.2 i t' ht';exact⟨c0,by rw[qoq _ _ e];exact h1,h2.keep fun i hi=>keepB i (hbig i hi)⟩
 refine(hT.mono (q:=inP k) fun i hi=>?_).trans (hT2.mono (q:=inP k) fun i hi=>?_)
 · obtain rfl:i=kk:=by simpa using hi
   unfold inP;simp;omega
 obtain rfl:i=k+1:=by simpa using hi
 unfold inP;simp
theorem qxn{l2:List (List Nat)}(hr:RowC w' col' k v' 23 1 l2.length vs2)
 (h2:∀(i:Nat) (bs:List Nat),l2[i]? =some bs→∃u,vs2[i]? =some u∧TextC w col u bs)(h5:KeepsCol 5 w col w' col'):TextsC w' col' k v' l2:=
 ⟨vs2,hr,fun i bs hi=>by
  obtain⟨u,hu,ht⟩:=h2 i bs hi;exact⟨u,hu,ht.keep h5⟩⟩
theorem qxo{ls l2:List (List Nat)}(hvl:vs.length=ls.length)
 (h1:∀(i:Nat) (bs:List Nat),ls[i]? =some bs→∃u,vs[i]? =some u∧TextC w col u bs)(h2:∀(i:Nat) (bs:List Nat),l2[i]? =some bs→∃u,vs2[i]? =some u∧TextC w col u bs):
 ∀(i:Nat) (bs:List Nat),(ls++l2)[i]? =some bs→∃u,(vs++vs2)[i]? =some u∧TextC w col u bs:=by
 intro i bs hi;rw[List.getElem?_append]at hi;split at hi
 · obtain⟨u,hu,ht⟩:=h1 i bs hi
   exact⟨u,by rw[tBm zo];exact hu,ht⟩
 rename_i hge
 obtain⟨u,hu,ht⟩:=h2 (i - ls.length) bs hi;exact⟨u,by rw[tBn zo,hvl];exact hu,ht⟩
theorem qxp{ls:List (List Nat)}(k:Nat)(h1:∀(i:Nat) (bs:List Nat),ls[i]? =some bs→∃u,vs[i]? =some u∧TextC w col u bs):
 ∀(i:Nat) (bs:List Nat),(ls.take k)[i]? =some bs→∃u,(vs.take k)[i]? =some u∧TextC w col u bs:=by
 intro i bs hi;rw[List.getElem?_take]at hi;split at hi
 · rename_i hk
   obtain⟨u,hu,ht⟩:=h1 i bs hi;exact⟨u,by rw[List.getElem?_take,if_pos hk];exact hu,ht⟩
 cases hi
theorem qxq{ls:List (List Nat)}(k:Nat)(h1:∀(i:Nat) (bs:List Nat),ls[i]? =some bs→∃u,vs[i]? =some u∧TextC w col u bs):
 ∀(i:Nat) (bs:List Nat),(ls.drop k)[i]? =some bs→∃u,(vs.drop k)[i]? =some u∧TextC w col u bs:=by
 intro i bs hi;rw[List.getElem?_drop]at hi;obtain⟨u,hu,ht⟩:=h1 _ bs hi;exact⟨u,by rw[List.getElem?_drop];exact hu,ht⟩
theorem Mdl.leavesNew(h:Mdl w col k g c s L css)(hk:Kind k)(h16:s.tres.length=16)(hh:∀t∈s.tres,t.hd.Ok)(ht:s.tres[n]? =some t)(hcs:css[n]? =some (trev t vd vl vq))
 (hT:Turns (fun _=>false) w col w' col')(hf:Fin_ col' w'){ls:List (List Nat)}(hl:TextsC w' col' (11+3*n) v' ls):
 ∃css',css'[n]? =some (trev {t with leaves:=ls} vd v' vq)∧Mdl (w'.setCell ⟨L.rg,n*75+5,none⟩ v') col' k g c (s.setT n fun t=>{t with leaves:=ls}) L css'∧Turns (inP k) w col (w'.setCell ⟨L.rg,n*75+5,none⟩ v') col':=by
 obtain⟨r1,r2,r3⟩:=h.rows ht hcs;have kp:∀i,KeepsCol i w col w' col':=fun i=>hT.keeps rfl
 obtain⟨m,-,tt⟩:=h.treRowW (j:=5) hk h16 hh ht hcs (.inr (.inl rfl)) (hT.mono fun i h=>by cases h) hf (fun t=>{t with leaves:=ls}) v' zo
  ⟨vd,vl,vq,rfl,r1.keep (kp _),r2.keep (kp _) (kp 5),r3.keep (kp _) (kp 5)⟩
  ⟨vd,v',vq,rfl,r1.keep (kp _),hl,r3.keep (kp _) (kp 5)⟩
 exact⟨_,(qop (fun x=>x.set 5 v') hcs).trans rfl,m,tt⟩
theorem Mdl.queueNew(h:Mdl w col k g c s L css)(hk:Kind k)(h16:s.tres.length=16)(hh:∀t∈s.tres,t.hd.Ok)(ht:s.tres[n]? =some t)(hcs:css[n]? =some (trev t vd vl vq))
 (hT:Turns (fun _=>false) w col w' col')(hf:Fin_ col' w'){ls:List (List Nat)}(hl:TextsC w' col' (12+3*n) v' ls):
 ∃css',Mdl (w'.setCell ⟨L.rg,n*75+6,none⟩ v') col' k g c (s.setT n fun t=>{t with queue:=ls}) L css'∧Turns (inP k) w col (w'.setCell ⟨L.rg,n*75+6,none⟩ v') col':=by
 obtain⟨r1,r2,r3⟩:=h.rows ht hcs;have kp:∀i,KeepsCol i w col w' col':=fun i=>hT.keeps rfl
 obtain⟨m,-,tt⟩:=h.treRowW (j:=6) hk h16 hh ht hcs (.inr (.inr rfl)) (hT.mono fun i h=>by cases h) hf (fun t=>{t with queue:=ls}) v' zo
  ⟨vd,vl,vq,rfl,r1.keep (kp _),r2.keep (kp _) (kp 5),r3.keep (kp _) (kp 5)⟩
  ⟨vd,vl,v',rfl,r1.keep (kp _),r2.keep (kp _) (kp 5),hl⟩
 exact⟨_,m,tt⟩
theorem Tryz.lane_info:(Tryz.prog.info? 136).map (fun i=>(i.zero,i.size,i.bytes))=some (some (.agg #[.int .i64 0,.int .i64 0,.int .i64 0]),3,24):=by kernel_rfl
theorem qxr(l:List LaneI)(x:LaneI):qx2 (l++[x])=qx2 l++qx1 x:=by simp[qx2]
theorem qxs{ops:Array Oper}{rest:List Oper}(hgd:o.guard=none)(s x:Operand)
 (ho:o.op=.call {callee:=.builtin .append,args:=#[s,x],argTypes:=#[134,134]})
 (base:Nat)(v:Value)(n:Nat)(l:List LaneI)(hs:a.eval s=v)(hown:w.ownsRow base 136 3 v n (qx2 l))(A:Option Addr)(c:Nat)(y:LaneI)(hx:a.eval x=.slice A 1 c)(hr:Reads w w.heap.size 3 A 1 (qx1 y))
 (hlen:n≤65536)(hbase:base≤w.heap.size)
 (h:∀v' w',w'.ownsRow base 136 3 v' (n+1) (qx2 (l++[y]))→Below base w w'→wpList Tryz.prog ops Q rest (a.put o.dst v') w'):wpList Tryz.prog ops Q (o::rest) a w:=by
 obtain⟨i0,hi0,hz0,hz1,hz2⟩:=info_parts Tryz.lane_info;refine qa7 (P:=Tryz.prog) w hgd s x _ ho base 136 i0 _ 3 24 Tryz.underlying134 hi0 hz0 hz1 hz2 rfl zo v n (qx2 l) hs hown w.heap.size A 1 c (qx1 y) hx hr (by unfold qx1;simp[Value.oneCell']) (by simp only[maxLen];omega) zo hbase ?_;intro v' w' h1 h2 h3;refine h v' w' ?_ ?_
 · rw[qxr]
   exact h1
 exact qae (tA5 _ _) hown h2 (tA4 _) hbase
theorem qxt(h:s.tres[n]? =some t):(qxb s).take (n+1)=(qxb s).take n++[(qnm n t,(t.queue.length:Int),t.deficit)]:=by
 have:=qxd h;obtain⟨h1,h2⟩:=tA8 this;rw[List.take_succ_eq_append_getElem h1,h2]
theorem qxu{ls:List (List Nat)}(hl:vs.length=ls.length)(h:∀(i:Nat) (bs:List Nat),ls[i]? =some bs→∃u,vs[i]? =some u∧TextC w col u bs):∀u∈vs,u.oneCell'=true:=by
 intro u hu;obtain⟨i,hi,rfl⟩:=List.getElem_of_mem hu;obtain⟨u',hu',ht⟩:=h i (ls[i]'zo) (tA7 _);rw[tA7 hi]at hu';injection hu' with hu';rw[hu'];exact ht.one
theorem qxv(ht:s.tres[k]? =some t){f:Tre→Tre}(hf:f t=t):s.setT k f=s:=by
 unfold Sta.setT;have:s.tres.modify k f=s.tres:=by
  apply List.ext_getElem?;intro i;rw[List.getElem?_modify];by_cases e:k=i
  · subst e
    simp[ht,hf]
  simp[e]
 rw[this]
theorem qxw(c:Cfg)(s:Sta)(L:Loc)(col:Col)(g:Nat)(css:List (List Value))(w:World)(hc:c.Ok)(hs:s.Ok)(h:Mdl w col 2 g c s L css)(hT:Tabs w):
 Zc 26 #[.pointer (some ⟨g,0,none⟩)] w fun e w'=>e=.returned (.tuple #[])∧∃col' css',Mdl w' col' 2 g c (seqS c s) L css'∧Rest w col w' col':=by
 obtain⟨S1,hS1⟩:=xeq (seqS c s);rw[hS1];obtain⟨AR,BG,HS,HC,H,BH⟩:=zh6 hS1 h.st hs hc h hT;have c8:=h.c8;clear hS1 hs hc h hT;go_enter Tryz.func26,Tryz.ntmps26
 go_wp2_with fail
 clear c8;go_loopw [2,14] (fun v i wr=>∃n:Nat,n≤16∧i=.int .i64 n∧Hid (wr.ownsRow w.heap.size 136 3 v n (qx2 ((qxb s).take n))∧Below w.heap.size w wr)) (fun v i _=>16 - (intOf i).toNat)
 case atStart=>exact⟨0,by omega,rfl,zh1 ⟨by simpa [qx2] using World.ownsRow_nil ..,tA5 _ _⟩⟩
 case round=>
  obtain⟨n,hn,rfl,hl⟩:=hrel;by_cases hn16:n<16
  ·
   have qn:(n:Int)<16:=zo;have qn0:(0:Int)≤n:=zo;obtain⟨t,ht⟩:∃t,s.tres[n]? =some t:=⟨_,tA7 (by rw[HS.tresn];exact hn16)⟩;obtain⟨D,Ad,cd,Al,cl,Aq,cq,hD,lD,oD,hrg,l1,l2,l3,q1,q2,q3⟩:=BG.treeD HS.o ht;obtain⟨AS,AT,BI,BJ⟩:=zh4 (show D[0]? =some (.int .i64 t.state) by rw[hD];rfl) (show D[2]? =some (.int .i64 t.weight) by rw[hD];rfl) (show D[3]? =some (.int .i64 t.deficit) by rw[hD];rfl) (show D[6]? =some (.slice Aq t.queue.length cq) by rw[hD];rfl);have hb:=hl.o.2;obtain⟨BK,Y0,HI,OD,LD,HZ,HT⟩:=zh7 (hrg wr hb) (Blk.new wr 74 Tryz.zeroCells74) (zI 74 lD) oD lD (show Tryz.zeroCells74.size=75 by kernel_rfl) ht;clear hD lD oD hrg l1 l2 l3 q1 q2 q3 ht;go_upto_region 4 with(first
    |(refine zld BK.o zu74 HI.o ?_)
    |(refine zst Y0.o HI.o (by simp[LD.o,HZ.o]) OD.o ?_))
   obtain⟨W1,hW1⟩:=eqx ((wr.alloc (.cells Tryz.zeroCells74 74)).setRow wr.heap.size D.toArray);rw[←hW1];obtain⟨G,hG⟩:=eqx wr.heap.size;rw[←hG];have y1:Blk W1 G 74 D.toArray:=by rw[hW1,hG];exact Y0.setRow _
   have b1:Below wr.heap.size wr W1:=by rw[hW1];exact below_setRow ((tA5 _ _).alloc (tA4 _) _) (tA4 _) _
   obtain⟨Y1,B1,HB,GE⟩:=zh4 y1 b1 hb (show wr.heap.size≤G by omega);have e0:=(y1.cell 0).trans (show D.toArray[0]? =some (.int .i64 t.state) by rw[tA3];exact AS.o);have e2:=(y1.cell 2).trans (show D.toArray[2]? =some (.int .i64 t.weight) by rw[tA3];exact AT.o);have e3:=(y1.cell 3).trans (show D.toArray[3]? =some (.int .i64 t.deficit) by rw[tA3];exact BI.o);have e6:=(y1.cell 6).trans (show D.toArray[6]? =some (.slice Aq t.queue.length cq) by rw[tA3];exact BJ.o);clear hW1 hG y1 b1 hb;go_upto_region 5 with(fail)
   obtain⟨P,hP⟩:=eqx W1.heap.size;obtain⟨W2,hW2⟩:=eqx (W1.alloc (.cells #[.int .i64 0,.int .i64 (t.queue.length:Int),.int .i64 t.deficit] 136));rw[←hW2,←hP];have z2:Blk W2 P 136 #[.int .i64 0,.int .i64 (t.queue.length:Int),.int .i64 t.deficit]:=by rw[hW2,hP];exact Blk.new _ _ _
   have b2:=zMa hW2;have b3:Below wr.heap.size wr W2:=B1.trans (b2.mono B1.size);obtain⟨Z2,PG,B2,O2⟩:=zh4 z2 (show wr.heap.size≤P by have:=B1.size;omega) b3 (qrw hl.o.1 b3);have e0:=(Y1.below b2 Y1.lt).cell 0 |>.trans (show D.toArray[0]? =some (.int .i64 t.state) by rw[tA3];exact AS.o);have e2:=(Y1.below b2 Y1.lt).cell 2 |>.trans (show D.toArray[2]? =some (.int .i64 t.weight) by rw[tA3];exact AT.o);clear hP hW2 z2 b2 b3 e3 e6;obtain⟨AU,BM⟩:=zh2 (HB.trans (B2.mono HB.size)) HB.size;obtain⟨rb,hrb⟩:=xeq (ql4 t.state);have BN:=zh1 hrb;obtain⟨wb,hwb⟩:=xeq (decide (0<n)&&rb);have AE:=zh1 hwb;clear hwb;go_cut [31] (fun s31 wx=>s31=.bool wb∧wx=W2)
   case first=>
    by_cases h0:n=0
    · have qz:¬(0:Int)<n:=zo
      have eb:wb=false:=by rw[←AE.o];simp[h0]
      subst eb;clear h0 hrb hl;go_wp2
      go_meet
      case rel=>exact⟨rfl,rfl⟩
    have qz:(0:Int)<n:=zo;have eb:wb=rb:=by rw[←AE.o];simp;omega
    subst eb;clear h0 hrb hl;go_wp2_with fail
    refine(qlc t.state _).mono ?_;rintro e w5 ⟨rfl,rfl⟩;rw[BN.o];go_wp2
    go_meet
    case rel=>exact⟨rfl,rfl⟩
   case rest=>
    obtain⟨rfl,rfl⟩:=hcut;obtain⟨W2,rfl⟩:=eqx wc;go_upto_if 31 with(fail)
    go_cut [] (fun wx=>∃wt:Int,Hid (qnm n t=wt)∧Hid (Blk wx P 136 #[.int .i64 wt,.int .i64 (t.queue.length:Int),.int .i64 t.deficit])∧Hid (wx.ownsRow w.heap.size 136 3 u2 n (qx2 ((qxb s).take n)))∧Hid (Below w.heap.size w wx))
    case first=>
     cases wb with
     |false=>
      have A6:=zh1 (show qnm n t=0 by
       have h:=AE.o;unfold qnm;rw[if_pos];rw[hrb];cases rb
       · exact .inr rfl
       exact .inl (by simpa using h))
      clear e0 e2 hrb hl;go_wp2
      go_meet
      case rel=>exact⟨0,A6,Z2,O2,AU⟩
     |true=>
      have A6:=zh1 (show qnm n t=t.weight by
       have h:=AE.o;simp at h;unfold qnm;rw[if_neg (by rw[hrb,h.2];simp;omega)])
      have hl0:=hl;have f0:=Z2.frozen 0;have p0:=Z2.cell 0;simp only[tA3,List.getElem?_cons_zero,tBc]at p0;clear hrb hl;go_wp2_with fail
      obtain⟨Z3,O3,AF⟩:=zh3 (show Blk (W2.setCell ⟨P,0,none⟩ (.int .i64 t.weight)) P 136 #[.int .i64 t.weight,.int .i64 (t.queue.length:Int),.int .i64 t.deficit] from Z2.set_ 0 _) (show (W2.setCell ⟨P,0,none⟩ (.int .i64 t.weight)).ownsRow w.heap.size 136 3 u2 n (qx2 ((qxb s).take n)) from qal O2.o (fun e=>by have:=(World.ownsRow.lt hl0.o.1 P e).2;have:=PG.o;omega) _) (show Below w.heap.size w (W2.setCell ⟨P,0,none⟩ (.int .i64 t.weight)) from AU.setCell (by have:=PG.o;have:=BM.o;show w.heap.size≤P;omega) _);go_meet
      case rel=>exact⟨t.weight,A6,Z3,O3,AF⟩
    case rest=>
     obtain⟨wt,A6,Z3,O3,AF⟩:=hcut;obtain⟨W3,rfl⟩:=eqx wc;clear e0 e2 hrb hl;have own7:=zh1 ((O3.o).alloc (.cells #[.int .i64 (wt),.int .i64 (t.queue.length:Int),.int .i64 t.deficit] 136));have rd7:Reads ((W3).alloc (.cells #[.int .i64 (wt),.int .i64 (t.queue.length:Int),.int .i64 t.deficit] 136)) ((W3).alloc (.cells #[.int .i64 (wt),.int .i64 (t.queue.length:Int),.int .i64 t.deficit] 136)).heap.size 3 (some ⟨(W3).heap.size,0,none⟩) 1 (qx1 (wt,(t.queue.length:Int),t.deficit)):=by
      have:=Reads.new (W3) 136 (qx1 (wt,(t.queue.length:Int),t.deficit)) 3 1 rfl;rwa[qar]
     obtain⟨BO,B7,AG⟩:=zh3 rd7 (qah (AF.o) (.cells #[.int .i64 (wt),.int .i64 (t.queue.length:Int),.int .i64 t.deficit] 136)) (show (qxb s).take (n+1)=(qxb s).take n++[(wt,(t.queue.length:Int),t.deficit)] by rw[qxt HT.o,A6.o]);have p0:=(Z3.o).cell 0;have p1:=(Z3.o).cell 1;have p2:=(Z3.o).cell 2;simp only[tA3,List.getElem?_cons_zero,tBc]at p0 p1 p2;clear rd7;go_wp2_with (at_builtin;refine qxs rfl (.tmp 35) (.tmp 37) rfl w.heap.size u2 n ((qxb s).take n) rfl own7.o (some ⟨(W3).heap.size,0,none⟩) 1 (wt,(t.queue.length:Int),t.deficit) rfl BO.o zo B7.size ?_)
     intro v' w7 own8 b8;go_wp2
     go_roundw
     case rel=>exact⟨n+1,by omega,by go_num,zh1 ⟨by rw[AG.o];exact own8,B7.trans b8⟩⟩
     case measure=>simp[intOf];omega
  have qn:¬(n:Int)<16:=zo;obtain rfl:n=16:=zo;have hown:=hl.o.1;rw[tB5 (by unfold qxb;rw[List.length_mapIdx,HS.tresn];omega)]at hown;obtain⟨OL,BL⟩:=zh2 hown hl.o.2;clear hown hl;go_upto_region 9 with(fail)
  obtain⟨A,cc,hv2,hcc,hcm,hrd⟩:=qaf OL.o;subst hv2;have hso:=HS.o;obtain⟨a,ha⟩:∃a:Nat,s.lane=a:=⟨s.lane.toNat,by have:=hso.lane;omega⟩;obtain⟨q,hq⟩:∃q:Nat,c.quantum=q:=⟨c.quantum.toNat,by have:=HC.q1;omega⟩;have hlen:(qxb s).length=16:=by unfold qxb;rw[List.length_mapIdx,hso.tresn]
  obtain⟨⟨⟨r0,r1,r2⟩,lo⟩,hsv⟩:∃x,qx8 (qxb s) a q=x:=⟨_,rfl⟩;have AH:=fun w1 (b:Below wr.heap.size wr w1)=>qxi (qxb s) a q A cc w1 (by rw[hlen];exact hrd.call b) (qxe hso) (by rw[hlen];omega) (by rw[hlen];have:=hso.lane;omega) (by have:=HC.q1;have:=HC.q2;omega) (by rw[hlen];exact hcc)
  simp only[hlen,hsv]at AH;have M0:=H.call BL.o;have c6:=M0.c6;have c1:=M0.c1;rw[ha]at c6;rw[hq]at c1;obtain⟨BP,A7,AV,HA,HQ,C6,C1⟩:=zh7 M0 AH hsv ha hq c6 c1;clear hso ha hq hlen hsv AH M0 c6 c1 hrd;obtain⟨S,HS9⟩:=zS fun w'=>Below wr.heap.size wr w'
  refine qk3 S 18 [52,40,53,54,6] [(0,false),(1,false),(2,false),(3,false),(4,false),(5,false),(6,false),(7,false),(8,false),(9,false),(10,false)] 5 (.two 11 (.read 12 (.read 13 (.read 14 (.one 15 .done)))) 15 (.one 11 (.read 12 (.read 13 (.read 14 .done))))) [(16,true),(17,false)] #[true,true,true,true,true,true,true,true,true,true,true,false,false,false,false,false,false,false] #[true,true,true,true,true,true,true,true,true,true,true,true,true,true,true,true,false,false] zk rfl zk zk zk zk zk (fun _ _ d _ _ h=>by cases d<;>exact h) ((HS9.o _).mpr ((tA5 _ _).drew)) ?_;obtain⟨F0,F1⟩:=zh2 (zF HS9 C6.o) (zF HS9 C1.o);iterate 11 (refine qkb rfl rfl ⟨?_,fun w1 hS=>?_,?_⟩;rotate_left;(focus(have g0:=F0.o w1 hS;have g1:=F1.o w1 hS;clear hS;go_simp;try rfl));simp only[Act.put,tA0,tA1,tA2])
  refine qka ?_;obtain⟨Wd,hWd,BD⟩:=zdr wr;rw[←hWd];clear hWd;refine⟨fun vs w'=>∃g9 v,vs=[.tuple #[.agg #[.int .i64 r0,.int .i64 r1,.int .i64 r2],v],.tuple #[.agg #[.int .i64 r0,.int .i64 r1,.int .i64 r2],v],.agg #[.int .i64 r0,.int .i64 r1,.int .i64 r2],v,.pointer (some ⟨g9,0,none⟩)]∧Blk w' g9 138 #[.int .i64 0,.int .i64 0,.int .i64 0]∧wr.heap.size≤g9∧w'.ownsRow wr.heap.size 136 3 v 16 (qx2 lo)∧Below wr.heap.size wr w',?_,?_⟩
  ·
   refine qk9 rfl rfl rfl rfl ?_ ?_
   ·
    go_simp;refine(A7.o Wd BD.o).mono ?_;rintro e w2 ⟨v,rfl,o2,b2⟩;obtain⟨B2,O2⟩:=zh2 (BD.trans (b2.mono BD.size)) (qdf o2 BD.size);clear b2 o2;refine⟨(HS9.o _).mpr B2.o,?_⟩;refine zP ?_;iterate 3 (refine ztr ?_)
    refine qk7 rfl rfl ?_;go_simp;refine⟨(HS9.o _).mpr (B2.alloc B2.size _),qk4 ⟨[_,_,_,_,_],rfl,w2.heap.size,v,rfl,Blk.new _ _ _,B2.size,qrw O2.o (qah (tA5 _ _) _),B2.alloc B2.size _⟩⟩
   go_simp;obtain⟨w2,hw2⟩:=eqx (Wd.alloc (.cells #[.int .i64 0,.int .i64 0,.int .i64 0] 138));rw[←hw2];obtain⟨Z2,B2⟩:=zh2 (show Blk w2 Wd.heap.size 138 #[.int .i64 0,.int .i64 0,.int .i64 0] by rw[hw2];exact Blk.new _ _ _) (show Below wr.heap.size wr w2 by rw[hw2];exact BD.alloc BD.size _);clear hw2;refine⟨(HS9.o _).mpr B2.o,?_⟩;refine zP ?_;refine qk7 rfl rfl ?_;go_simp;refine(A7.o w2 B2.o).mono ?_;rintro e w3 ⟨v,rfl,o3,b3⟩;obtain⟨B3,O3,Z3⟩:=zh3 (B2.trans (b3.mono B2.size)) (qdf o3 B2.size) (Z2.below b3 Z2.lt);clear b3 o3;refine⟨(HS9.o _).mpr B3.o,?_⟩;refine zP ?_;iterate 3 (refine ztr ?_)
   refine qk4 ⟨[_,_,_,_,_],rfl,Wd.heap.size,v,rfl,Z3.o,BD.size,O3.o,B3.o⟩
  rintro vs w4 - ⟨g9,v,rfl,z4,l4,o4,b4⟩;simp only[puts,Act.put,tA0,tA1,tA2];refine qbj rfl rfl ?_;refine wp_store_row 138 (.tmp 6) (.tmp 53) rfl g9 #[.int .i64 r0,.int .i64 r1,.int .i64 r2] rfl rfl 138 _ z4 zk zm (by simp[Value.oneCell']) ?_;obtain⟨W5,hW5⟩:=eqx (w4.setRow g9 #[.int .i64 r0,.int .i64 r1,.int .i64 r2]);rw[←hW5];obtain⟨H5,B5,O5,BQ⟩:=zh4 (show Blk W5 g9 138 #[.int .i64 r0,.int .i64 r1,.int .i64 r2] by rw[hW5];exact z4.setRow _) (show Below wr.heap.size wr W5 by rw[hW5];exact below_setRow b4 l4 _) (show W5.ownsRow wr.heap.size 136 3 v 16 (qx2 lo) by rw[hW5];exact tB3 o4 (qam _ _ _) (.inr (qa3 o4 z4 zdc))) l4;clear hW5 z4 l4 o4 b4;refine⟨fun _=>(HS9.o _).mpr B5.o,?_⟩;refine zP ?_;iterate 1 (refine zrb ?_)
  refine qbg ?_;clear HS9 F0 F1;obtain⟨g7,c7,hv7,t1,t2,-,t4⟩:=qve O5.o zo;subst hv7;obtain⟨T7,BR⟩:=zh2 (t4 (fun b=>if b=g7 then 1 else 0) 1 zm) t1;clear t1 t2 t4;have M5:=BP.call B5.o;have c6:=M5.c6;have f6:=M5.blk.frozen 6;rw[HA.o]at c6;have h90:=H5.cell 0;have h92:=H5.cell 2;simp only[tA3,List.getElem?_cons_zero,tBc]at h90 h92;have m6:=M5.own1 (.inl rfl) 6 (.int .i64 r2) (s':={s with lane:=r2}) rfl rfl rfl rfl;have t6:Turns (· ==1) W5 col (W5.setCell ⟨g,6,none⟩ (.int .i64 r2)) col:=Turns.setCell _ (by simp[M5.own]);have r6:=((Rest.of_below (col:=col) BL.o).trans (Rest.of_below B5.o)).step t6 rfl;obtain⟨A5,AI,AJ⟩:=zh3 m6 r6 M5.blk.lt;clear M5 m6 r6 t6;go_upto_region 11 with(fail)
  clear c6 f6 h90 h92;obtain⟨W6,hW6⟩:=eqx (W5.setCell ⟨g,6,none⟩ (.int .i64 r2));rw[←hW6]at A5 AI ⊢;have hgw:=H.blk.lt;have hws:=BL.size;obtain⟨H6,T6,C7⟩:=zh3 (show Blk W6 g9 138 #[.int .i64 r0,.int .i64 r1,.int .i64 r2] by rw[hW6];exact H5.far (by have:=BQ.o;show g9≠g;omega) _) (show TopAt W6 (fun b=>if b=g7 then 1 else 0) 1 136 g7 c7 3 16 (qx2 lo) by rw[hW6];exact T7.far (by have:=BR.o;show g7≠g;omega) _) hws;clear hW6 hgw hws;rcases hl:qnl (s.tres.mapIdx fun i t=>qnm i t) s.lane.toNat with _|k
  ·
   have h1:=qx9 (q:=c.quantum) (l:=qxb s) (a:=s.lane.toNat) (by rw[qxc];exact hl);rw[HA.o,HQ.o,tBe,AV.o]at h1;injection h1 with h1 h2;injection h1 with h3 h4;injection h4 with h4 h5;subst h3 h4 h5;have hS:S1=s:=by rw[←AR.o];exact qur HS.o hl
   have hs6:({s with lane:=(a:Int)}:Sta)=s:=by rw[←HA.o]
   rw[hs6]at A5;have AA:=zh1 hS;have h90:=H6.cell 0;simp only[tA3,List.getElem?_cons_zero,tBc]at h90;clear hS hs6 hl h2;go_wp2_with fail
   refine bodyPost_ret (results_none rfl _ _ _) rfl ?_;exact⟨rfl,col,⟨css,by rw[AA.o];exact A5.o⟩,AI.o⟩
  obtain⟨hk0,t,ht,hrun,hwt⟩:=quo hl;have hS2:=qut (c:=c) HS.o hl ht;rw[AR.o]at hS2;have h1:=qxf (c:=c) HS.o hl ht;rw[HA.o,HQ.o,tBe,AV.o]at h1;have hto:=HS.tre ht;have hle:takeN c t≤t.queue.length:=by unfold takeN;omega
  have hqo:(seqT c t).Ok:=qup hto (q:=c.quantum) _ _ rfl rfl;have hdf:=hqo.deficit;obtain⟨tk,htk⟩:=xeq (takeN c t);have hsq:seqT c t={t with deficit:=0,leaves:=t.leaves++t.queue.take tk,queue:=t.queue.drop tk}:=by
   have e:seqT c t={t with deficit:=(seqT c t).deficit,leaves:=t.leaves++t.queue.take (takeN c t),queue:=t.queue.drop (takeN c t)}:=rfl;rw[hdf,htk]at e;exact e
  rw[htk,hdf]at h1;rw[htk]at hS2 hle;injection h1 with h1 h2;injection h1 with h3 h4;injection h4 with h4 h5;subst h3 h4 h5;have hk16:k<16:=by obtain⟨h,_⟩:=tA8 ht;rw[HS.tresn]at h;exact h
  have hll:(qxb s).length=16:=by unfold qxb;rw[List.length_mapIdx,HS.tresn]
  have hlo:(qx2 lo)[k*3+2]? =some (.int .i64 0):=by
   rw[h2];exact(qx4 (x:=(qnm k t,(t.queue.length:Int) - tk,0)) (by rw[List.getElem?_set_self zo]) zo).trans rfl
  have hl1:(0:Int)≤(((k+1) % 16:Nat):Int)∧(((k+1) % 16:Nat):Int)<16:=zo;obtain⟨s6,hs6⟩:=eqx ({s with lane:=(((k+1) % 16:Nat):Int)}:Sta);rw[←hs6]at A5 hS2;have s6ok:s6.Ok:=by rw[hs6];exact {HS.o with lane:=hl1}
  have ht6:s6.tres[k]? =some t:=by rw[hs6];exact ht
  have qk:(k:Int)<16:=zo;have qk0:(0:Int)≤k:=zo;obtain⟨A2,A3,AB,BS,BT,BU,BV,BW⟩:=zh8 s6ok ht6 hto hlo hS2 hsq hqo hle;obtain⟨BX,AK⟩:=zh2 hk0 hrun;have h90:=H6.cell 0;simp only[tA3,List.getElem?_cons_zero,tBc]at h90;clear hk0 ht hrun hwt hS2 hto hle hqo hdf htk hsq h2 hl hll hlo hl1 hs6 s6ok ht6;go_upto_region 12 with(fail)
  have c8:=A5.c8;obtain⟨S,HS9⟩:=zS fun w'=>w'.cell? ⟨g9,0,none⟩=some (.int .i64 (k:Int))∧w'.cell? ⟨g,8,none⟩=some (.slice (some ⟨L.rg,0,none⟩) 16 L.rc)
  refine zrs S 9 (zq 0 9 []) ((HS9.o _).mpr (⟨h90,c8⟩)) ?_;have F0:=zh1 (fun(w':World)(h:S w')=>(HS9.o w').mp h);repeat(refine zre rfl rfl (fun w1 hS=>by have g0:=(F0.o w1 hS).1;have g1:=(F0.o w1 hS).2;clear hS;go_simp;try rfl) ?_)
  refine qbg ?_;clear F0 HS9 c8 h90;obtain⟨W7,hW7⟩:=eqx W6.drew;rw[←hW7];have b7:Below W6.heap.size W6 W7:=by rw[hW7];exact(tA5 _ _).drew
  obtain⟨H7,T7b⟩:=zh2 (H6.below b7 H6.lt) (T6.keep ((Turns.of_below (fun _=>false) b7).keeps rfl));have M7:=A5.call b7;have R7:=zh1 (AI.trans (Rest.of_below b7));clear hW7 b7;obtain⟨-,Ad,cd,Al,cl,Aq,cq,hcs,hcell,hrd,hrl,hrq⟩:=M7.st.tree A2.o A3.o;have e3:=hcell 3 (.int .i64 t.deficit) rfl;have f3:=M7.st.tres.frozen (k*75+3);have l3:W7.cell? ⟨g7,k*3+2,none⟩=some (.int .i64 0):=T7b.cell BS.o;have h90:=H7.cell 0;simp only[tA3,List.getElem?_cons_zero,tBc]at h90;have m8:=M7.deficit1 (.inl rfl) A2.o A3.o 0;rw[qxv A3.o (show ({t with deficit:=0}:Tre)=t by have:=AB.deficit;rw[←this])]at m8;have t8:Turns (· ==3) W7 col (W7.setCell ⟨L.rg,k*75+3,none⟩ (.int .i64 0)) col:=Turns.setCell _ (by simp[M7.st.tres.1]);have hgL:g9≠L.rg:=by
   intro e;have h1:=H7.o;obtain⟨-,sp,h2,-⟩:=M7.st.tres;rw[←e]at h2;unfold Blk at h1 h2;rw[h1]at h2;injection h2 with h2;injection h2 with _ h2;revert h2
   decide
  obtain⟨AL,AW,AJ,H8⟩:=zh4 m8 t8 hgL (H7.far (p:=⟨L.rg,k*75+3,none⟩) hgL (.int .i64 0));clear hcs hcell hrd hrl hrq M7 m8 t8 hgL;go_upto_region 14 with(fail)
  clear e3 f3 l3 h90;obtain⟨W8,hW8⟩:=eqx (W7.setCell ⟨L.rg,k*75+3,none⟩ (.int .i64 0));rw[←hW8]at AL AW H8 ⊢;clear hW8;obtain⟨-,Ad,cd,Al,cl,Aq,cq,hcs,hcell,hrd,hrl,hrq⟩:=AL.st.tree A2.o A3.o;obtain⟨nl,hnl⟩:=xeq t.leaves.length;obtain⟨nq,hnq⟩:=xeq t.queue.length;have hb1:=AB.leaves;have hb2:=AB.queue;have hle:=BW.o;rw[hnl,hnq]at hb1;rw[hnq]at hb2 hle;rw[hnl,hnq]at hcell;obtain⟨vs,hrow1,htx1⟩:=hrl;obtain⟨vs2,hrow2,htx2⟩:=hrq;rw[hnl]at hrow1;rw[hnq]at hrow2;obtain⟨A0,c0,ev,hlc,hlm,-,-⟩:=hrow1.sl;injection ev with ev1 _ ev3;subst ev1 ev3;obtain⟨A0,c0,ev,hqc,hqm,hrd2,-⟩:=hrow2.sl;injection ev with ev1 _ ev3;subst ev1 ev3;have e5:=hcell 5 (.slice Al nl cl) rfl;have e6:=hcell 6 (.slice Aq nq cq) rfl;have h91:=H8.cell 1;simp only[tA3,List.getElem?_cons_zero,tBc]at h91;have qt0:(0:Int)≤tk:=zo;have qt1:(tk:Int)≤nq:=zo;have qt2:(tk:Int)≤cq:=zo;have qn2:(nq:Int)≤cq:=zo;obtain⟨BY,AX,BZ,C0,AY,AZ,AC,AM⟩:=zh8 hcs hrow1 hrow2 htx1 htx2 hnl hnq hrd2;obtain⟨E6,C2⟩:=zh2 e6 hlc;clear hcs hcell hrd hrow1 hrow2 htx1 htx2 hnl hnq hrd2 hlc;obtain⟨S,HS9⟩:=zS fun w'=>w'.cell? ⟨L.rg,k*75+5,none⟩=some (.slice Al nl cl)∧w'.cell? ⟨L.rg,k*75+6,none⟩=some (.slice Aq nq cq)∧w'.cell? ⟨g9,1,none⟩=some (.int .i64 (tk:Int))
  refine zrs S 16 (zq 0 5 (zq 6 7 [(5,true),(13,true),(14,false),(15,false),(16,true)])) ((HS9.o _).mpr (⟨e5,e6,h91⟩)) ?_;obtain⟨F0,C5,B0⟩:=zh3 (fun(w':World)(h:S w')=>(HS9.o w').mp h) e5 h91;clear e5 e6 h91;iterate 12 (refine zre rfl rfl (fun w1 hS=>by have g0:=(F0.o w1 hS).1;have g1:=(F0.o w1 hS).2.1;have g2:=(F0.o w1 hS).2.2;clear hS;go_simp;try rfl) ?_)
  obtain⟨Wd,hWd,BD⟩:=zdr W8;rw[←hWd];clear hWd;obtain⟨MD,HD⟩:=zh2 (AL.call BD.o) (H8.below BD.o H8.lt);refine qbj rfl rfl ?_;go_simp;refine(qxj Al nl cl Wd C2.o zo).mono ?_;rintro e w1 ⟨rfl,rfl⟩;refine⟨(HS9.o _).mpr ⟨qai C5.o BD.o,qai E6.o BD.o,qai B0.o BD.o⟩,?_⟩;refine zP ?_;obtain⟨i0,hi0,hz0,hz1,hz2⟩:=info_parts Tryz.madd_info;have hv2:vs2.length=t.queue.length:=by have:=BZ.o.1;have:=AC.o;omega
  have hv1:vs.length=t.leaves.length:=by have:=AX.o.1;have:=AZ.o;omega
  refine qbj rfl rfl ?_;refine qxm Wd (.tmp 86) (.tmp 93) _ _ rfl col (11+3*k) 23 i0 _ 1 24 Tryz.underlying72 hi0 hz0 hz1 hz2 rfl Al nl vs rfl ((AX.call BD.o).clip) (.slice Aq tk cq) tk (vs2.take tk) rfl (Src.reads Wd Tryz.underlying72 ((AM.call BD.o).pre hle) (fun u hu=>qxu hv2 AY.o u (tB7 hu)) zdc) (by simp only[maxLen];omega) zo MD.fin ?_;intro v' wC col2 r2 t2 f2 b2;obtain⟨A9,c9,rfl,-,-,-,-⟩:=r2.sl;have BC:=zh1 (BD.trans (b2.mono BD.size));have KD:=(Turns.of_below (col:=col) (fun _=>false) BD.o).keeps (k:=5) rfl;have hX1d:∀(i:Nat) (bs:List Nat),t.leaves[i]? =some bs→∃u,vs[i]? =some u∧TextC Wd col u bs:=fun i bs h=>by
   obtain⟨u,h1,h2⟩:=C0.o i bs h;exact⟨u,h1,h2.keep KD⟩
  have hX2d:∀(i:Nat) (bs:List Nat),t.queue[i]? =some bs→∃u,vs2[i]? =some u∧TextC Wd col u bs:=fun i bs h=>by
   obtain⟨u,h1,h2⟩:=AY.o i bs h;exact⟨u,h1,h2.keep KD⟩
  have hlt:(t.leaves++t.queue.take tk).length=nl+tk:=by rw[tA6,tBd,AZ.o,AC.o];omega
  have htx:=qxn (l2:=t.leaves++t.queue.take tk) (by rw[hlt];exact r2) (qxo hv1 hX1d (qxp tk hX2d)) (t2.keeps rfl);have hh:∀t∈s6.tres,t.hd.Ok:=fun t ht=>(A2.tres t ht).hd
  obtain⟨css9,hcs9,m9,t9⟩:=MD.leavesNew (.inl rfl) A2.tresn hh A3.o BY.o t2 f2 htx;obtain⟨AD,AN,B4,C8⟩:=zh4 hcs9 m9 (((R7.step AW.o rfl).trans (Rest.of_below BD.o)).step t9 (qru (.inl rfl))) f2;have c5w:=qai C5.o BC.o;have f5w:=(MD.st.tres.keep (t2.keeps rfl)).frozen (k*75+5);clear hv1 hX1d hX2d hlt htx hh hcs9 m9 t9 f2 KD r2 b2 t2;refine⟨fun _=>(HS9.o _).mpr ⟨c5w,qai E6.o BC.o,qai B0.o BC.o⟩,?_⟩;refine zP ?_;iterate 2 (refine zrb ?_)
  refine qbj rfl rfl ?_;go_simp;refine qbg ?_;obtain⟨W9,hW9⟩:=eqx (wC.setCell ⟨L.rg,k*75+5,none⟩ (.slice A9 (nl+tk) c9));rw[←hW9]at AN B4 ⊢;have H9:=zh1 (show Blk W9 g9 138 #[.int .i64 (k:Int),.int .i64 (tk:Int),.int .i64 (((k+1) % 16:Nat):Int)] by rw[hW9];exact(H8.below BC.o H8.lt).far (p:=⟨L.rg,k*75+5,none⟩) AJ.o _);have e6:W9.cell? ⟨L.rg,k*75+6,none⟩=some (.slice Aq nq cq):=by
   rw[hW9];exact(World.cell?_setCell_other wC _ _ _ (by intro e;injection e with e1 e2;omega)).trans (qai E6.o BC.o)
  clear hW9 c5w f5w;have h91:=H9.cell 1;simp only[tA3,List.getElem?_cons_zero,tBc]at h91;have C9:=zh1 hv2;have ht9:(s6.setT k fun y=>{y with leaves:=t.leaves++t.queue.take tk}).tres[k]? =some {t with leaves:=t.leaves++t.queue.take tk}:=qop _ A3.o;have hr9:=(AN.rows ht9 AD.o).2.2;obtain⟨vs3,hr3,hx3⟩:=hr9;obtain⟨HT9b,E6b,C91b⟩:=zh3 ht9 e6 h91;clear ht9;change RowC W9 col2 (12+3*k) (.slice Aq t.queue.length cq) 23 1 t.queue.length vs3 at hr3;change ∀(i:Nat) (bs:List Nat),t.queue[i]? =some bs→_ at hx3;rw[AC.o]at hr3;obtain⟨A0,c0,ev,-,-,hrd3,-⟩:=hr3.sl;injection ev with ev1 _ ev3;subst ev1 ev3;obtain⟨C3,AO,B6⟩:=zh3 (show vs3.length=t.queue.length by have:=hr3.1;have:=AC.o;omega) hrd3 hx3;clear hr3 hx3 hrd3 hv2;go_upto_region 15 with(fail)
  obtain⟨S,HS9⟩:=zS fun w'=>w'.cell? ⟨L.rg,k*75+6,none⟩=some (.slice Aq nq cq)∧w'.cell? ⟨g9,1,none⟩=some (.int .i64 (tk:Int))
  refine zrs S 11 (zq 0 8 [(8,true),(9,false),(10,false),(11,true)]) ((HS9.o _).mpr (⟨E6b.o,C91b.o⟩)) ?_;have F0:=zh1 (fun(w':World)(h:S w')=>(HS9.o w').mp h);clear e6 h91;iterate 8 (refine zre rfl rfl (fun w1 hS=>by have g0:=(F0.o w1 hS).1;have g1:=(F0.o w1 hS).2;clear hS;go_simp;try rfl) ?_)
  obtain⟨We,hWe,BE⟩:=zdr W9;rw[←hWe];clear hWe;refine qbj rfl rfl ?_;go_simp;have rd8:Reads We We.heap.size 1 (if cq=tk then Aq else Option.map (fun x=>x.add tk) Aq) (nq - tk) (vs3.drop tk):=by
   have:=(AO.call BE.o).cut (k:=tk) (cap:=cq) hle zo;simpa using this
  obtain⟨A8,hA8⟩:∃x,(if cq=tk then Aq else Option.map (fun x=>x.add tk) Aq)=x:=⟨_,rfl⟩;rw[hA8]at rd8 ⊢;obtain⟨C4,ME⟩:=zh2 rd8 (AN.call BE.o);clear hA8 rd8;refine(qs7 A8 (nq - tk) (cq - tk) (vs3.drop tk) We C4.o zo (fun u hu=>qxu C3.o B6.o u (List.mem_of_mem_drop hu))).mono ?_;rintro e w1 ⟨vA,rfl,oA,bA⟩;obtain⟨A9',c9',hvA,-,-,-⟩:=qaf oA;obtain⟨col3,hc3,r3,f3⟩:=qxk (w:=We) (col:=col2) (k:=12+3*k) oA (tA4 _) bA.size ME.fin;subst hvA;have t3:Turns (fun _=>false) We col2 w1 col3:=(Turns.of_below _ bA).recolour hc3;have KE:=(Turns.of_below (col:=col2) (fun _=>false) BE.o).keeps (k:=5) rfl;have hX3e:∀(i:Nat) (bs:List Nat),t.queue[i]? =some bs→∃u,vs3[i]? =some u∧TextC We col2 u bs:=fun i bs h=>by
   obtain⟨u,h1,h2⟩:=B6.o i bs h;exact⟨u,h1,h2.keep KE⟩
  have htx3:=qxn (l2:=t.queue.drop tk) (by rw[tBk,AC.o];exact r3) (qxq tk hX3e) (t3.keeps rfl);have hh:∀t∈s6.tres,t.hd.Ok:=fun t ht=>(A2.tres t ht).hd
  obtain⟨css10,m10,t10⟩:=ME.queueNew (.inl rfl) (by simp[Sta.setT,A2.tresn]) (qok (P:=fun t:Tre=>t.hd.Ok) hh (fun y _ o=>o)) HT9b.o AD.o t3 f3 htx3;have hst:((s6.setT k fun y=>{y with leaves:=t.leaves++t.queue.take tk}).setT k fun y=>{y with queue:=t.queue.drop tk})=s6.setT k fun _=>seqT c t:=by
   unfold Sta.setT;dsimp only;rw[qse,qrz (g:=fun _=>seqT c t) (fun y hy=>by
    rw[A3.o]at hy;injection hy with hy;subst hy;rw[BU.o];have:=AB.deficit;rw[←this])]
  rw[hst]at m10;obtain⟨A4,A1,BF⟩:=zh3 m10 ((B4.trans (Rest.of_below BE.o)).step t10 (qru (.inl rfl))) (BE.trans (bA.mono BE.size));have e6w:=qai E6b.o BF.o;have f6w:=(ME.st.tres.keep (t3.keeps rfl)).frozen (k*75+6);clear hst m10 t10 hh htx3 hX3e KE t3 hc3 r3 f3 oA bA;refine⟨(HS9.o _).mpr ⟨e6w,qai C91b.o BF.o⟩,?_⟩;refine zP ?_;iterate 2 (refine zrb ?_)
  refine qbj rfl rfl ?_;go_simp;refine qbg ?_;obtain⟨B8,hW10⟩:=eqx (w1.setCell ⟨L.rg,k*75+6,none⟩ (.slice A9' (nq - tk) c9'));rw[←hW10]at A4 A1 ⊢;have B9:=zh1 (show Blk B8 g9 138 #[.int .i64 (k:Int),.int .i64 (tk:Int),.int .i64 (((k+1) % 16:Nat):Int)] by rw[hW10];exact(H9.below BF.o H9.lt).far (p:=⟨L.rg,k*75+6,none⟩) AJ.o _);clear hW10 e6w f6w;have h90:=B9.cell 0;have h91:=B9.cell 1;simp only[tA3,List.getElem?_cons_zero,tBc]at h90 h91;have hS:=BT.o;by_cases h0:tk=0
  ·
   have qz:¬(0:Int)<tk:=zo;rw[if_pos h0]at hS;have AA:=zh1 hS;clear hS h0 hle hb1 hb2;go_wp2
   go_end0
   exact⟨rfl,col3,⟨css10,by rw[AA.o];exact A4.o⟩,A1.o⟩
  have qz:(0:Int)<tk:=zo;rw[if_neg h0]at hS;have AA:=zh1 hS;have sok:(s6.setT k fun _=>seqT c t).Ok:=A2.setT (fun y hy o=>BV.o) (fun e=>absurd e BX.o);have CP:=zh1 (qq3 c _ L col3 2 g css10 k (seqT c t) B8 (.inl rfl) HC.o sok A4.o (qop (fun _=>seqT c t) A3.o) ((AB.live (fun e=>by have h:=AK.o;rw[e]at h;revert h;decide)).2) (BH.rest A1.o H.base));clear hS h0 hle hb1 hb2 sok;go_wp2_with fail
  refine CP.o.mono ?_;rintro e W11 ⟨rfl,⟨css11,BA⟩,BB⟩;obtain⟨AP,AQ⟩:=zh2 BA (A1.step BB rfl);clear BA BB;go_wp2
  go_end0
  exact⟨rfl,col3,css11,by rw[AA.o];exact AP.o,AQ.o⟩
structure WldAt (w:World)(gw tb:Nat)(c:Cfg)(A:Option Addr)(n k:Nat):Prop where
 blk:Blk w gw 63 #[.pointer (some ⟨tb,0,none⟩),.int .i64 c.width,.int .i64 c.quantum,.int .u32 (c.store:Int),.slice A n k]
 tab:RTab w tb
 seed:Reads w w.heap.size 1 A n (byv c.seed)
theorem WldAt.call(h:WldAt w gw tb c A n k)(hb:Zb w w'):WldAt w' gw tb c A n k:=
 ⟨h.blk.below hb h.blk.lt,Blk.below h.tab hb (Blk.lt h.tab),h.seed.call hb⟩
theorem xai(gw tb:Nat)(c:Cfg)(A:Option Addr)(n k:Nat)(w:World)(h:WldAt w gw tb c A n k)(hs:∀x∈c.seed,x<256)(hn:c.seed.length≤64):
 Zc 20 #[.pointer (some ⟨gw,0,none⟩)] w fun e w'=>e=.returned (.agg (byv (qmw c.seed)).toArray)∧Zb w w':=by
 have ln:=qb5 h.seed;obtain⟨W0,hW0⟩:=eqx (w.alloc (.cells zLD 29));have z0:Blk W0 w.heap.size 29 (byv (List.replicate 32 0)).toArray:=by rw[hW0];exact Blk.new w _ _
 have b0:=zMa hW0;obtain⟨H,HS,A2,Z0,B0,HN⟩:=zh6 h hs hW0 z0 b0 (show n≤64 by omega);clear h hs hW0 z0 b0 ln hn;go_enter Tryz.func20,Tryz.ntmps20
 go_upto_region 1 with(fail)
 rw[←A2.o];obtain⟨S,HS9⟩:=zS fun w'=>Zb W0 w'
 refine zrs S 11 (zq 0 9 [(9,true),(10,true),(11,true),(12,true)]) ((HS9.o _).mpr ((tA5 _ _).drew)) ?_;obtain⟨F0,F4⟩:=zh2 (fun(w':World)(h:S w')=>((((H.call B0.o).call ((HS9.o w').mp h)).blk).cell 0).trans (show (#[.pointer (some ⟨tb,0,none⟩),.int .i64 c.width,.int .i64 c.quantum,.int .u32 (c.store:Int),.slice A n k]:Array Value)[0]? =some (.pointer (some ⟨tb,0,none⟩)) from rfl)) (fun(w':World)(h:S w')=>((((H.call B0.o).call ((HS9.o w').mp h)).blk).cell 4).trans (show (#[.pointer (some ⟨tb,0,none⟩),.int .i64 c.width,.int .i64 c.quantum,.int .u32 (c.store:Int),.slice A n k]:Array Value)[4]? =some (.slice A n k) from rfl));iterate 9 (refine zre rfl rfl (fun w1 hS=>by have g0:=F0.o w1 hS;have g4:=F4.o w1 hS;clear hS;go_simp;try rfl) ?_)
 obtain⟨Wd,hWd,BD⟩:=zdr W0;rw[←hWd];clear hWd;obtain⟨w1,hw1⟩:=eqx (Wd.alloc (.cells (byv qmt).toArray 5));have e1:w1.heap[Wd.heap.size]? =some (.cells (byv qmt).toArray 5 (0,0)):=by rw[hw1];exact heap_alloc_new Wd _
 have b1:=zMa hw1;have s1:w1.heap.size=Wd.heap.size+1:=by rw[hw1,qar]
 obtain⟨E1,S1⟩:=zh2 hw1 s1;clear hw1 s1;refine zw ?_;go_simp;refine⟨(HS9.o _).mpr ?_,?_⟩
 · show Zb W0 (Wd.alloc (.cells (byv qmt).toArray 5))
   exact BD.alloc BD.size _
 change qba _ _ _ _ _ _ _ (Wd.alloc (.cells (byv qmt).toArray 5));rw[←E1.o];refine zP ?_;refine zw ?_;refine qki (.tmp 12) rfl Wd.heap.size 4 4 rfl _ e1 ?_;intro w2 g2 l2;have b2:Zb Wd w2:=b1.grown g2 (by have:=S1.o;omega) (by intro g hg;injection hg with hg;omega);have B2:=zh1 (BD.trans (b2.mono BD.size));have r2:=l2.reads;have H2:=(H.call B0.o).call B2.o;have M2:=xac tb n k 4 4 A _ c.seed qmt w2 H2.tab H2.seed r2 HS.o qou HN.o zdc;have A3:=zh1 M2;clear M2 r2 H2 b2 b1 e1 g2 l2;refine⟨fun _=>(HS9.o _).mpr B2.o,zput ?_⟩;refine zw ?_;go_simp;refine zcb A3.o fun w9 b9=>?_
 have B9:=zh1 (B2.trans (b9.mono B2.size));obtain⟨Z9,BB⟩:=zh2 (Z0.below B9.o Z0.lt) (B0.trans (B9.mono B0.size));clear b9;refine zP ?_;obtain⟨X9,hX9⟩:=xeq (byv (mac c.seed qmt));have lX9:X9.length=32:=by rw[←hX9,qat];exact qkf _ _
 have oX9:∀u∈X9,u.oneCell'=true:=by rw[←hX9];exact qau _
 rw[hX9];have A4:=zh1 hX9;have A0:(Tryz.prog.info? 29).map (·.size)=some X9.length:=by rw[lX9];exact Tryz.dig_info
 refine zw ?_;refine wp_store_row 29 (.tmp 2) (.tmp 14) rfl (w.heap.size) X9.toArray rfl rfl 29 _ Z9.o (by simpa using A0) (by simp[lX9,qat]) (by simpa using oX9) ?_;refine⟨fun h=>absurd h zdc,zput ?_⟩;refine qbg ?_;have z9:=Z9.setRow X9.toArray;have A1:=qap z9 0 X9 zjq;obtain⟨A5,A6⟩:=zh2 A1 A0;clear hX9 lX9 oX9 A0 z9 A1;go_wp2_with fail
 exact zrt A5.o zu29 A6.o ⟨(by rw[←A4.o];try rfl),below_setRow BB.o (by first|omega|exact tA4 _) _⟩
theorem xaj(R:Req)(c:Cfg)(id:Nat)(cav leafv:Value)(ht:R.tag.length=32):over (reqv R cav leafv) 1 (tokv id (.slice none 0 0) (qke (qmw c.seed) id))=reqv (byR c id R) (.slice none 0 0) leafv:=by
 have l1:=qdg R.tid cav R.tag ht;have l2:=qdg id (.slice none 0 0) (qke (qmw c.seed) id) (qkf _ _);unfold over reqv;rw[l2];simp only[List.cons_append,List.take_succ_cons,List.take_zero,List.nil_append];rw[show 1+34=34+1 by rfl,List.drop_succ_cons,←l1,List.drop_left];rfl
theorem xak(gw tb:Nat)(c:Cfg)(A:Option Addr)(n k:Nat)(id:Nat)(R:Req)(cav leafv:Value)(w:World)(h:WldAt w gw tb c A n k)(hs:∀x∈c.seed,x<256)(hn:c.seed.length≤64)(hid:id<4294967296)(ht:R.tag.length=32)(h1:cav.oneCell'=true)(h2:leafv.oneCell'=true):
 Zc 28 #[.pointer (some ⟨gw,0,none⟩),.int .u32 (id:Int),.agg (reqv R cav leafv).toArray] w fun e w'=>e=.returned (.agg (reqv (byR c id R) (.slice none 0 0) leafv).toArray)∧Zb w w':=by
 have hby:=xaj R c id cav leafv ht;have lQ:=qjd R cav leafv ht;have lP:=qjd (byR c id R) (.slice none 0 0) leafv (qkf _ _);have oP:=xag (byR c id R) (.slice none 0 0) leafv rfl h2;obtain⟨Q,hQ⟩:=xeq (reqv R cav leafv);obtain⟨P,hP⟩:=xeq (reqv (byR c id R) (.slice none 0 0) leafv);rw[hQ,hP]at hby;rw[hQ]at lQ;rw[hP]at lP oP;rw[hQ,hP];obtain⟨W0,hW0⟩:=eqx ((w.alloc (.cells Q.toArray 34)).alloc (.cells zLQ 34));have q0:=zNb hW0;have z0:=zNc hW0;have b0:=zMb hW0;obtain⟨H,A3,Q0,Z0,B0,A1,LQ,LP⟩:=zh8 h hW0 q0 z0 b0 hby lQ lP;obtain⟨OP,HS,HN⟩:=zh3 oP hs hn;clear h hW0 q0 z0 b0 hby lQ lP oP hs hn hQ hP h1 h2 ht;go_enter Tryz.func28,Tryz.ntmps28
 go_upto_region 1 with(fail)
 rw[←A3.o];obtain⟨S,HS9⟩:=zS fun w'=>Zb W0 w'
 refine zrs S 9 (zq 0 5 [(6,false),(5,true),(7,true),(8,false),(9,true)]) ((HS9.o _).mpr ((tA5 _ _).drew)) ?_;have F0:=zh1 (fun(w':World)(h:S w')=>((((H.call B0.o).call ((HS9.o w').mp h)).blk).cell 0).trans (show (#[.pointer (some ⟨tb,0,none⟩),.int .i64 c.width,.int .i64 c.quantum,.int .u32 (c.store:Int),.slice A n k]:Array Value)[0]? =some (.pointer (some ⟨tb,0,none⟩)) from rfl));iterate 6 (refine zr1 ?_)
 obtain⟨Wd,hWd,BD⟩:=zdr W0;rw[←hWd];clear hWd;refine zw ?_;go_simp;refine zcb (xai gw tb c A n k Wd ((H.call B0.o).call BD.o) HS.o HN.o) fun w1 b1=>?_
 have B1:=zh1 (BD.trans (b1.mono BD.size));clear b1;refine⟨(HS9.o _).mpr B1.o,zput ?_⟩;refine zw ?_;go_simp;refine zcb (xad tb (qmw c.seed) id w1 (qkf _ _) (qkg _ _) hid ((H.call B0.o).call B1.o).tab) fun w2 b2=>?_
 have B2:=zh1 (B1.trans (b2.mono B1.size));clear b2;obtain⟨T,hT⟩:=xeq (tokv id (.slice none 0 0) (qke (qmw c.seed) id));have lT:T.length=34:=by rw[←hT];exact qdg _ _ _ (qkf _ _)
 have oT:∀u∈T,u.oneCell'=true:=by rw[←hT];exact qeh _ _ rfl _
 rw[hT]at A1 ⊢;obtain⟨Q2,Z2,LT,OT⟩:=zh4 (Q0.below B2.o Q0.lt) (Z0.below B2.o Z0.lt) lT oT;clear hT lT oT;refine⟨(HS9.o _).mpr B2.o,zput ?_⟩;iterate 1 (refine zrb ?_)
 refine zw ?_;refine wp_store_mid 31 (.tmp 15) (.tmp 14) rfl w.heap.size 1 T.toArray rfl rfl (fun j hj=>⟨by rw[Q2.cell,tA3,tA7 (by have h0:T.toArray.size=34:=List.size_toArray.trans LT.o;rw[LQ.o];omega)];simp,Q2.frozen _⟩) (by rw[tB6,LT.o];kernel_rfl) (by simpa using OT.o) ?_;have q3:=qno T 1 w2 Q Q2.o (by rw[LQ.o,LT.o];decide);rw[A1.o]at q3;have g3:=qnp w.heap.size T 1 w2;have z3:=Z2.grown g3 (by intro e;injection e with e;omega);have b3:Zb w (w2.setCells w.heap.size 1 T):=(B0.trans (B2.mono B0.size)).grown g3 (tB1 B0.size B2.size) (by intro g hg;injection hg with hg;omega);obtain⟨Q3,Z3,B3⟩:=zh3 q3 z3 b3;clear q3 g3 z3 b3;refine⟨fun h=>absurd h zdc,zput ?_⟩;refine qbg ?_;clear HS9 F0;obtain⟨W3,hW3⟩:=eqx (w2.setCells w.heap.size 1 T);obtain⟨A2,A0⟩:=zh2 (qap Q3.o 0 P zjq) (zI 34 LP.o);rw[←hW3]at A2 Q3 Z3 B3 ⊢;clear hW3;go_wp2_with (first
  |(refine zld A2.o zu34 A0.o ?_)
  |(refine zst Z3.o A0.o (by simp[LP.o]) OP.o ?_))
 have A4:=qap (Z3.setRow P.toArray) 0 P zjq;exact zrt A4 zu34 A0.o ⟨rfl,below_setRow B3.o zo _⟩
theorem xal(n:Nat):(rWhy n).Ok:=⟨by show (0:Nat)<18446744073709551616;omega,fun x h=>(nomatch h),fun x h=>(nomatch h),Hd.zero_Ok,qj1⟩
theorem xam(h:n<18446744073709551616):(qn6 n).Ok:=⟨h,fun x h=>(nomatch h),fun x h=>(nomatch h),Hd.zero_Ok,qj1⟩
theorem xan{l:List (List Nat)}{b:List Nat}(h:qn7 l b=some k):k<l.length:=by
 unfold qn7 at h;obtain⟨h1,_⟩:=List.findIdx?_eq_some_iff_getElem.1 h;exact h1
theorem xao{x:Int}(h:(Lit.int .i64 x).wf=true):x.toNat<18446744073709551616:=by
 have:=(Go.Lit.wf_int_iff _ _).1 h;rw[IntKind.min_i64,IntKind.max_i64]at this;omega
theorem xap(o:t.Ok)(hr:R.Good):(qn9 c s R t).Ok:=by
 have h1:=hr.lo;have h2:=hr.hi;unfold qn9;split
 · exact⟨by show (0:Nat)<_;omega,fun x h=>(nomatch h),fun x h=>(nomatch h),o.hd,qj1⟩
 split
 · split
   · exact xal _
   rename_i b hb
   exact⟨h1,fun x hx=>(o.leafb b (tB2 hb)).bs.2 x hx,fun x h=>(nomatch h),Hd.zero_Ok,qj1⟩
 split
 · split
   · exact xal _
   exact⟨h2,fun x h=>(nomatch h),(qsm _ (qfp c.width).2 _ _ _ (tA4 _)).2,Hd.zero_Ok,qj1⟩
 split
 · exact xal _
 exact⟨h2,fun x h=>(nomatch h),(qsn _ (qfp c.width).2 _ _ _ _ (tA4 _)).2,Hd.zero_Ok,qj1⟩
theorem xaq(hs:s.Ok)(hr:R.Good):(qnh c s R).2.Ok:=by
 have w1:=xao hr.tree;have w2:=xao hr.tenant;have w3:=xao hr.state;have w4:=xao hr.weight;have w5:=hr.id;have hg:=hs.grasn;unfold qnh;split
 · unfold qna
   repeat' split
   all_goals first|exact xal _|exact xam zo
 split
 · unfold qne
   repeat' split
   all_goals first
    |exact xal _
    |exact⟨by show s.gras.length<_;omega,fun x h=>(nomatch h),fun x h=>(nomatch h),Hd.zero_Ok,⟨by show s.gras.length<_;omega,fun x h=>(nomatch h),qkf _ _,qkg _ _⟩⟩
 split
 · unfold qnf
   repeat' split
   all_goals first|exact xal _|exact xam zo
 split
 · unfold qng
   repeat' split
   all_goals first|exact xal _|exact xam zo
 split
 · exact xal _
 rename_i t ht
 have o:t.Ok:=by
  obtain⟨_,h,_⟩:=Sta.tree_some ht;exact hs.tre h
 have ol:=o.leaves;have od:=o.draws;split
 ·
  unfold qn8;split
  · exact xal _
  split
  · rename_i k hk
    exact xam (by have:=xan hk;omega)
  split
  · rename_i k hk
    exact xam (by have:=xan hk;omega)
  split
  · exact xal _
  split
  · exact xal _
  split
  · exact xal _
  exact xam zo
 split
 · unfold qnb
   split
   · exact xal _
   exact xam w3
 split
 ·
  unfold qnc;split
  · exact xal _
  split
  · exact xal _
  exact xam w4
 split
 · unfold qnd
   split
   · exact xal _
   exact xam zo
 exact xap (s:=s) o hr
theorem xar(hs:s.Ok)(n:Nat):(s.tres[n]?.getD Tre.zero).hd.Ok:=by
 cases h:s.tres[n]? with
 |none=>exact Hd.zero_Ok
 |some t=>exact(hs.tre h).hd
theorem xas(hs:s.Ok)(hr:R.Good):(doS c s R).2.Ok:=by
 have h1:=xaq (c:=c) hs hr;have h2:=quh (c:=c) hs hr;unfold doS at h2 ⊢;dsimp only at h2 ⊢;split
 · exact xal _
 rename_i e1
 rw[if_neg e1]at h2;split
 · exact xal _
 rename_i e2
 rw[if_neg e2]at h2;split
 · exact xal _
 rename_i e3
 rw[if_neg e3]at h2;split
 · exact xal _
 rename_i e4
 rw[if_neg e4]at h2;split
 ·
  rename_i e5
  rw[if_pos e5]at h2;dsimp only at h2 ⊢;split
  · exact⟨h1.n,h1.bytes,h1.hashes,xar h2 _,h1.tok⟩
  exact h1
 exact h1
abbrev ErrT (w:World):Prop:=w.cell? ⟨0,0,none⟩=some (.iface 327 (.agg #[.pointer (some ⟨3,81,none⟩)]))
structure Sit (W:World)(B:Nat)(w:World)(col:Col)(g gw tb:Nat)(c:Cfg)(s:Sta):Prop where
 ok:s.Ok
 mdl:∃L css,Mdl w col 2 g c s L css
 wld:∃A n k,WldAt w gw tb c A n k∧(0<n→∀ad,A=some ad→col ad.block=0∧ad.block<B)
 gws:col gw=0∧gw<B
 tbs:col tb=0∧tb<B
 tabs:Tabs w
 err:ErrT w
 low:∀b,b<W.heap.size→col b=0
 base:3≤W.heap.size∧W.heap.size≤B∧B≤w.heap.size
 below:Zb W w
section
variable {W w w' : World} {col col' : Col} {B g gw tb : Nat} {c : Cfg} {s s' : Sta}
theorem Sit.next(h:Sit W B w col g gw tb c s)(hr:Rest w col w' col')(hs:s'.Ok)(hm:∃L css,Mdl w' col' 2 g c s' L css):Sit W B w' col' g gw tb c s':=by
 obtain⟨L,css,h2⟩:=h.mdl;obtain⟨A,n,k,hw,hA⟩:=h.wld;have hb:=hr.below h.low h.below.size;have h3:=hr.below (B:=3) h2.base.2 h2.base.1;refine⟨hs,hm,⟨A,n,k,⟨hr.blk hw.blk h.gws.1,Rest.blk hr hw.tab h.tbs.1,hr.reads hw.seed (fun hn ad e=>(hA hn ad e).1)⟩,fun hn ad e=>⟨?_,(hA hn ad e).2⟩⟩,⟨(hr.block gw hw.blk.lt h.gws.1).2,h.gws.2⟩,⟨(hr.block tb (Blk.lt hw.tab) h.tbs.1).2,h.tbs.2⟩,h.tabs.below h3.1 (tA4 _),?_,hb.2,⟨h.base.1,h.base.2.1,tB1 h.base.2.2 hr.size⟩,h.below.trans hb.1⟩
 · obtain⟨ad',e',hlt,_⟩:=hw.seed.2 hn
   rw[e]at e';injection e' with e';subst e';exact(hr.block _ hlt (hA hn ad e).1).2
 exact(h3.1.cell (p:=⟨0,0,none⟩) (by show (0:Nat)<3;decide)).trans h.err
theorem Sit.call(h:Sit W B w col g gw tb c s)(hb:Zb w w'):Sit W B w' col g gw tb c s:=by
 obtain⟨L,css,h2⟩:=h.mdl;exact h.next (Rest.of_below hb) h.ok ⟨L,css,h2.call hb⟩
theorem Sit.alloc(h:Sit W B w col g gw tb c s)(o:Obj):Sit W B (w.alloc o) col g gw tb c s:=h.call ((tA5 _ _).alloc (tA4 _) o)
theorem Sit.drew(h:Sit W B w col g gw tb c s):Sit W B w.drew col g gw tb c s:=h.call (tA5 _ _).drew
theorem Sit.new0(h:Sit W B w col g gw tb c s)(hb:w.heap.size≤b):col b=0:=by
 obtain⟨L,css,h2⟩:=h.mdl;by_cases e:col b=0
 · exact e
 have:=h2.fin b e;omega
end
theorem xat(h:Sit W B w col g gw tb c s)(hc:c.Ok)(R:Req)(Ac:Option Addr)(cc:Nat)(Al:Option Addr)(cl:Nat)(hA:Asked w col R Ac cc Al cl):
 Zc 17 #[.pointer (some ⟨g,0,none⟩),.agg (reqv R (.slice Ac R.cavs.length cc) (.slice Al R.leaf.length cl)).toArray] w fun e w'=>∃v col',e=.returned v∧RspV w' col' w.heap.size v (doS c s R).2∧Sit W B w' col' g gw tb c (doS c s R).1∧Rest w col w' col':=by
 obtain⟨L,css,h2⟩:=h.mdl;refine(qws c s L col g css R Ac cc Al cl w hc h.ok h2 hA h.tabs h.err).mono ?_;rintro e w' ⟨v,col',L',css',rfl,h3,h4,h5⟩;exact⟨v,col',rfl,h3,h.next h5 (quh h.ok hA.good) ⟨L',css',h4⟩,h5⟩
theorem xau(h:Sit W B w col g gw tb c s)(hc:c.Ok):
 Zc 26 #[.pointer (some ⟨g,0,none⟩)] w fun e w'=>e=.returned (.tuple #[])∧∃col',Sit W B w' col' g gw tb c (seqS c s)∧Rest w col w' col':=by
 obtain⟨L,css,h2⟩:=h.mdl;refine(qxw c s L col g css w hc h.ok h2 h.tabs).mono ?_;rintro e w' ⟨rfl,col',css',h4,h5⟩;exact⟨rfl,col',h.next h5 (quu h.ok) ⟨L,css',h4⟩,h5⟩
theorem xav(h:Sit W B w col g gw tb c s):
 Zc 34 #[.pointer (some ⟨g,0,none⟩)] w fun e w'=>e=.returned (.tuple #[])∧Sit W B w' col g gw tb c (qnj s)∧Rest w col w' col:=by
 obtain⟨L,css,h2⟩:=h.mdl;refine(qx0 c s L col g css w h.ok h2).mono ?_;rintro e w' ⟨rfl,h4,h5⟩;exact⟨rfl,h.next h5 (qum h.ok) ⟨L,css,h4⟩,h5⟩
theorem xaw(h:Sit W B w col g gw tb c s)(n:Nat)(hn:n<4294967296):
 Zc 49 #[.pointer (some ⟨g,0,none⟩),.int .u32 (n:Int)] w fun e w'=>e=.returned (.tuple #[])∧Sit W B w' col g gw tb c (qnk s n)∧Rest w col w' col:=by
 obtain⟨L,css,h2⟩:=h.mdl;refine(qra n c s L col 2 g css w (.inl rfl) h2).mono ?_;rintro e w' ⟨rfl,h4,h5⟩;have hr:=Rest.of_turns h5 rfl;exact⟨rfl,h.next hr (qul h.ok hn) ⟨L,css,h4⟩,hr⟩
structure RspX (X:List Value)(a:Rsp):Prop where
 len:X.length=106
 one:∀u∈X,u.oneCell'=true
 why:X[0]? =some (.int .i64 a.why)
 n:X[1]? =some (.int .u64 (a.n:Int))
 hashes:∃A k,X[3]? =some (.slice A a.hashes.length k)
 size:X[6]? =some (.int .u64 (a.hd.size:Int))
theorem RspV.x{base:Nat}{a:Rsp}(h:RspV W col base v a)(hs:a.Shape):∃X:List Value,v=.agg X.toArray∧RspX X a:=by
 obtain⟨bv,hv,cav,e,h1,h2,h3,-⟩:=h;obtain⟨A1,n1,c1,rfl,-⟩:=h1.sl;obtain⟨A2,c2,rfl,-⟩:=qaf h2.2;obtain⟨A3,n3,c3,rfl,-⟩:=h3.sl;exact⟨_,e,qqj _ _ _ _ (qo2 hs.1) hs.2,qqk _ _ _ _ rfl rfl rfl,rfl,rfl,⟨_,_,rfl⟩,rfl⟩
structure BoxAt (w:World)(col:Col)(B b:Nat)(X:List Value):Prop where
 blk:Blk w b 57 X.toArray
 col:col b=0
 low:B≤b
theorem BoxAt.rest(h:BoxAt w col B b X)(hr:Rest w col w' col'):BoxAt w' col' B b X:=⟨hr.blk h.blk h.col,(hr.block b h.blk.lt h.col).2,h.low⟩
theorem xax{v:World}(h:Sit W B v col g gw tb c s)(cs:Array Value)(X:List Value):
 Sit W B ((v.alloc (.cells cs 57)).setRow v.heap.size X.toArray) col g gw tb c s∧BoxAt ((v.alloc (.cells cs 57)).setRow v.heap.size X.toArray) col B v.heap.size X∧Zb v ((v.alloc (.cells cs 57)).setRow v.heap.size X.toArray):=by
 have hb:Zb v ((v.alloc (.cells cs 57)).setRow v.heap.size X.toArray):=below_setRow ((tA5 _ _).alloc (tA4 _) _) (tA4 _) _;obtain⟨L,css,h2⟩:=h.mdl;refine⟨h.call hb,⟨(Blk.new _ _ _).setRow _,?_,h.base.2.2⟩,hb⟩;by_cases e:col v.heap.size=0
 · exact e
 have:=h2.fin _ e;omega
theorem RspX.pk{a:Rsp}(h:RspX X a):RspK X:=⟨h.len,h.one⟩
theorem xay{v:World}(h:Sit W B v col g gw tb c s)(X:List Value):∃W' G,(v.alloc (.cells Tryz.zeroCells57 57)).setRow v.heap.size X.toArray=W'∧v.heap.size=G∧Hid (Sit W B W' col g gw tb c s)∧Hid (BoxAt W' col B G X)∧Hid (Zb v W'):=by
 obtain⟨h1,h2,h3⟩:=xax h Tryz.zeroCells57 X;exact⟨_,_,rfl,rfl,h1,h2,h3⟩
theorem xaz(h:Sit W B w col g gw tb c s)(hc:c.Ok)(id:Nat)(ii:Int)(hii:ii=(id:Int))(hid:id<4294967296)(R:Req)(ht:R.tag.length=32)(cav leafv:Value)(h1:cav.oneCell'=true)(h2:leafv.oneCell'=true):
 Zc 28 #[.pointer (some ⟨gw,0,none⟩),.int .u32 ii,.agg (reqv R cav leafv).toArray] w fun e w'=>e=.returned (.agg (reqv (byR c id R) (.slice none 0 0) leafv).toArray)∧Sit W B w' col g gw tb c s∧Zb w w':=by
 obtain⟨A,n,k,hw,-⟩:=h.wld;subst hii;refine zcb (xak gw tb c A n k id R cav leafv w hw hc.seedb hc.seed hid ht h1 h2) fun w' b=>?_
 exact⟨rfl,h.call b,b⟩
theorem xb0{a:Rsp}(h:Sit W B w col g gw tb c s)(hc:c.Ok)(id:Nat)(R:Req)(Al:Option Addr)(n cl:Nat)(hn:R.leaf.length=n)(hdo:doS c s (byR c id R)=(s',a))(hg:(byR c id R).Good)
 (hl:Reads w w.heap.size 1 Al n (byv R.leaf))(hnc:n≤cl)(hcm:cl≤maxLen)(h0:0<n→∀ad,Al=some ad→col ad.block=0):
 Zc 17 #[.pointer (some ⟨g,0,none⟩),.agg (reqv (byR c id R) (.slice none 0 0) (.slice Al n cl)).toArray] w fun e w'=>∃X col',e=.returned (.agg X.toArray)∧RspX X a∧Sit W B w' col' g gw tb c s'∧Rest w col w' col':=by
 subst hn;have hA:Asked w col (byR c id R) none 0 Al cl:=⟨hg,hl,hnc,hcm,⟨rfl,fun h=>absurd h (by show ¬0<0;omega)⟩,tA4 _,by simp[maxLen],h0,fun h=>absurd h (by show ¬0<0;omega)⟩;have hr:=xas (c:=c) h.ok hg;have CD:=xat h hc (byR c id R) none 0 Al cl hA;rw[hdo]at CD hr;refine CD.mono ?_;rintro e w' ⟨v,col',rfl,h3,h4,h5⟩;obtain⟨X,rfl,hX⟩:=h3.x ⟨hr.hd,hr.tok.2.2.1⟩;exact⟨X,col',rfl,hX,h4,h5⟩
def OwnTexts (w:World)(base:Nat)(v:Value)(ls:List (List Nat)):Prop:=
 ∃vs:List Value,w.ownsRow base 23 1 v ls.length vs∧∀(i:Nat) (bs:List Nat),ls[i]? =some bs→∃u,vs[i]? =some u∧OwnB w base u bs
def Col.ext (col:Col)(base size:Nat)(g:Option Nat)(k k':Nat):Col:=fun b=>if base≤b∧b<size then(if g=some b then k else k') else col b
section
variable {w w' : World} {col : Col} {base size k k' : Nat} {g : Option Nat} {v : Value} {ls : List (List Nat)}
theorem Col.ext_old(h:b<base):col.ext base size g k k' b=col b:=by unfold Col.ext;rw[if_neg zo]
theorem Col.ext_at(h:base≤b)(h':b<size)(e:g=some b):col.ext base size g k k' b=k:=by unfold Col.ext;rw[if_pos ⟨h,h'⟩,if_pos e]
theorem Col.ext_in(h:base≤b)(h':b<size)(e:g≠some b):col.ext base size g k k' b=k':=by unfold Col.ext;rw[if_pos ⟨h,h'⟩,if_neg e]
theorem Col.ext_new{lo:Nat}(h:∀b,col b≠0→lo≤b∧b<base)(hl:lo≤base)(hs:base≤size)(hb:col.ext base size g k k' b≠0):lo≤b∧b<size:=by
 unfold Col.ext at hb;by_cases e:base≤b∧b<size
 · omega
 rw[if_neg e]at hb;have:=h b hb;omega
theorem xb1(h:w.ownsRow base e sz v n xs){g:Nat}(hg:v.ownBlock=some g):base≤g∧g<w.heap.size:=by
 rcases h.2 with⟨rfl,_⟩|⟨g',cap,cur,rfl,hb,hh,_⟩
 · cases hg
 obtain rfl:g'=g:=by simpa [Value.ownBlock] using hg
 exact⟨hb,Blk.lt (show Blk w g' e cur from hh)⟩
theorem xb2(h:w.ownsRow base e sz v n xs)(k':Nat):RowC w (col.ext base w.heap.size v.ownBlock k k') k v e sz n xs:=
 RowC.of_own h fun g hg=>Col.ext_at (xb1 h hg).1 (xb1 h hg).2 hg
theorem OwnTexts.textsC(h:OwnTexts w base v ls):TextsC w (col.ext base w.heap.size v.ownBlock k 5) k v ls:=by
 obtain⟨vs,h1,h2⟩:=h;refine⟨vs,xb2 h1 5,fun i bs hi=>?_⟩;obtain⟨u,hu,ho⟩:=h2 i bs hi;refine⟨u,hu,TextC.own ho fun g hg=>?_⟩;have hb:=xb1 ho hg;refine Col.ext_in hb.1 hb.2 fun e=>?_
 rcases qsl ho h1 zdc with h0|h0
 · rw[h0]at hg;cases hg
 exact h0 (hg.trans e.symm)
theorem xb3(h:w.ownsRow base e sz v n xs)(hn:0<n):∃g c,v=.slice (some ⟨g,0,none⟩) n c∧base≤g∧g<w.heap.size∧∀(col:Col) (k:Nat),col g=k→TopAt w col k e g c sz n xs:=by
 rcases h.2 with⟨_,h0⟩|⟨g,cap,cur,rfl,hb,hh,hnc,hc,hsz,ht⟩
 · omega
 have hlt:=Blk.lt (show Blk w g e cur from hh);refine⟨g,cap,rfl,hb,hlt,fun col k hk=>⟨hk,cur.toList.drop (n*sz),?_,h.1,hnc,hc,?_⟩⟩
 · rw[←ht,List.take_append_drop]
   exact hh
 rw[h.1,tBk,Array.length_toList,hsz];have:n*sz≤cap*sz:=Nat.mul_le_mul_right _ hnc;omega
end
structure Cpy (w0:World)(lo:Nat)(w:World)(col:Col)(L:Loc)(css0 css:List (List Value))(j:Nat)(s:Sta):Prop where
 tens:TopAt w col 2 92 L.tg L.tc 6 16 (s.tens.flatMap tenv)
 tres:TopAt w col 3 74 L.rg L.rc 75 16 css.flatten
 gras:TopAt w col 4 66 L.gg L.gc 4 s.gras.length (s.gras.flatMap grav)
 len:css.length=16
 lens:∀c∈css,c.length=75
 done_:∀i t,i<j→s.tres[i]? =some t→∃cs,css[i]? =some cs∧TreAt w col i cs t
 rest:∀i,j≤i→css[i]? =css0[i]?
 new:∀b,col b≠0→lo≤b∧b<w.heap.size
 low:w0.heap.size≤lo∧lo≤w.heap.size
 below:Zb w0 w
section
variable {w0 w w' w1 w2 w3 : World} {col : Col} {L : Loc} {css0 css : List (List Value)} {j lo : Nat} {s : Sta}
theorem Cpy.keeps(h:Cpy w0 lo w col L css0 css j s)(ht:Turns (fun _=>false) w col w' col')(hn:∀b,col' b≠0→lo≤b∧b<w'.heap.size):Cpy w0 lo w' col' L css0 css j s:=
 ⟨h.tens.keep (ht.keeps rfl),h.tres.keep (ht.keeps rfl),h.gras.keep (ht.keeps rfl),h.len,h.lens,fun i t hi h1=>by
  obtain⟨cs,h2,h3⟩:=h.done_ i t hi h1;exact⟨cs,h2,h3.keep fun k _=>ht.keeps rfl⟩,h.rest,hn,⟨h.low.1,tB1 h.low.2 ht.size⟩,h.below.trans (ht.below (B:=w0.heap.size) (fun _ _=>rfl) h.below.size)⟩
theorem Cpy.call(h:Cpy w0 lo w col L css0 css j s)(hb:Zb w w'):Cpy w0 lo w' col L css0 css j s:=
 h.keeps (Turns.of_below _ hb) fun b hb'=>⟨(h.new b hb').1,tB0 (h.new b hb').2 hb.size⟩
theorem Cpy.ext(h:Cpy w0 lo w col L css0 css j s)(hb:Zb w w')(g:Option Nat)(k k':Nat):Cpy w0 lo w' (col.ext w.heap.size w'.heap.size g k k') L css0 css j s:=
 h.keeps ((Turns.of_below _ hb).recolour fun b hb'=>Col.ext_old hb') fun b hb'=>Col.ext_new h.new h.low.2 hb.size hb'
theorem xb4(t:Tre)(a b c a' b' c':Value):over (trev t a b c) 4 [a',b',c']=trev t a' b' c':=by
 unfold over trev;simp
theorem Cpy.step(h:Cpy w0 lo w col L css0 css j s)(ht:s.tres[j]? =some t)(hs:s.tres.length=16){a b c:Value}(h0:css0[j]? =some (trev t a b c))
 (hd:w1.ownsRow w.heap.size 22 1 vd t.draws.length (drwv t.draws))(b1:Zb w w1)(hl:OwnTexts w2 w1.heap.size vl t.leaves)(b2:Zb w1 w2)(hq:OwnTexts w3 w2.heap.size vq t.queue)(b3:Zb w2 w3):
 ∃col',Cpy w0 lo (w3.setCells L.rg (j*75+4) [vd,vl,vq]) col' L css0 (css.modify j fun x=>over x 4 [vd,vl,vq]) (j+1) s:=by
 obtain⟨hj,_⟩:=tA8 ht;have c1:=h.ext b1 vd.ownBlock (10+3*j) 0;have c2:=c1.ext b2 vl.ownBlock (11+3*j) 5;have c3:=c2.ext b3 vq.ownBlock (12+3*j) 5;have r1:RowC w1 (col.ext w.heap.size w1.heap.size vd.ownBlock (10+3*j) 0) (10+3*j) vd _ _ _ _:=xb2 hd 0;have r2:TextsC w2 ((col.ext w.heap.size w1.heap.size vd.ownBlock (10+3*j) 0).ext w1.heap.size w2.heap.size vl.ownBlock (11+3*j) 5) (11+3*j) vl t.leaves:=hl.textsC;have r3:TextsC w3 (((col.ext w.heap.size w1.heap.size vd.ownBlock (10+3*j) 0).ext w1.heap.size w2.heap.size vl.ownBlock (11+3*j) 5).ext w2.heap.size w3.heap.size vq.ownBlock (12+3*j) 5) (12+3*j) vq t.queue:=hq.textsC;obtain⟨C1,hC1⟩:=eqx (col.ext w.heap.size w1.heap.size vd.ownBlock (10+3*j) 0);rw[←hC1]at c1 c2 c3 r1 r2 r3;obtain⟨C2,hC2⟩:=eqx (C1.ext w1.heap.size w2.heap.size vl.ownBlock (11+3*j) 5);rw[←hC2]at c2 c3 r2 r3;obtain⟨C3,hC3⟩:=eqx (C2.ext w2.heap.size w3.heap.size vq.ownBlock (12+3*j) 5);rw[←hC3]at c3 r3;have t2:Turns (fun _=>false) w1 C1 w2 C2:=(Turns.of_below _ b2).recolour fun b hb=>by rw[hC2];exact Col.ext_old hb
 have t3:Turns (fun _=>false) w2 C2 w3 C3:=(Turns.of_below _ b3).recolour fun b hb=>by rw[hC3];exact Col.ext_old hb
 have r1':=r1.keep ((t2.trans t3).keeps rfl);have r2':=r2.keep (t3.keeps rfl) (t3.keeps rfl);have hT:Turns (· ==3) w3 C3 (w3.setCells L.rg (j*75+4) [vd,vl,vq]) C3:=Turns.setCells _ (by simp[c3.tres.1]);have k1:∀i,i≠3→KeepsCol i w3 C3 (w3.setCells L.rg (j*75+4) [vd,vl,vq]) C3:=fun i hi=>hT.keeps (by simpa using hi)
 have hcj:css[j]? =some (trev t a b c):=(h.rest j (tA4 _)).trans h0;have hfl:css.flatten.length=1200:=by rw[qnx h.lens,h.len]
 refine⟨C3,c3.tens.keep (k1 2 zdc),?_,c3.gras.keep (k1 4 zdc),by rw[List.length_modify];exact h.len,?_,?_,?_,fun b hb=>⟨(c3.new b hb).1,tB0 (c3.new b hb).2 hT.size⟩,⟨c3.low.1,tB1 c3.low.2 hT.size⟩,c3.below.trans (hT.below (B:=w0.heap.size) (fun b hb=>?_) c3.below.size)⟩
 · have:=c3.tres.over (o:=j*75+4) (cs:=[vd,vl,vq]) (by rw[hfl];simp only[tBi,List.length_nil];omega)
   rwa[qny _ h.lens (by rw[h.len];omega) zm]at this
 · intro x hx
   rcases qoj hx with h1|⟨y,h1,rfl⟩
   · exact h.lens x h1
   rw[qnn (by rw[h.lens y (tB2 h1)];simp)];exact h.lens y (tB2 h1)
 ·
  intro i t' hi ht';by_cases e:j=i
  · subst e
    rw[ht]at ht';injection ht' with ht';subst ht';refine⟨_,qop _ hcj,vd,vl,vq,xb4 ..,r1'.keep (k1 _ zo),r2'.keep (k1 _ zo) (k1 5 zdc),r3.keep (k1 _ zo) (k1 5 zdc)⟩
  obtain⟨cs,h1,h2⟩:=c3.done_ i t' zo ht';exact⟨cs,by rw[qoq _ _ e];exact h1,h2.keep fun k hk=>k1 k zo⟩
 · intro i hi
   rw[qoq _ _ zo];exact h.rest i zo
 by_cases e:C3 b=0
 · rw[e];rfl
 have:=(c3.new b e).1;have:=c3.low.1;omega
theorem Cpy.box(h:Cpy w0 lo w col L css0 css j s)(hg:w.grownBy w' (some b))(h1:w0.heap.size≤b)(h2:b<lo):Cpy w0 lo w' col L css0 css j s:=by
 have h0:col b=0:=by
  by_cases e:col b=0
  · exact e
  have:=(h.new b e).1;omega
 have ht:Turns (· ==0) w col w' col:=Turns.of_grown hg (fun k e=>by injection e with e;subst e;simp[h0]) (fun _ _=>rfl);exact⟨h.tens.keep (ht.keeps rfl),h.tres.keep (ht.keeps rfl),h.gras.keep (ht.keeps rfl),h.len,h.lens,fun i t hi h1=>by
  obtain⟨cs,h2,h3⟩:=h.done_ i t hi h1;exact⟨cs,h2,h3.keep fun k hk=>ht.keeps (by simp;omega)⟩,h.rest,fun b hb=>⟨(h.new b hb).1,tB0 (h.new b hb).2 hg.size⟩,⟨h.low.1,tB1 h.low.2 hg.size⟩,h.below.grown hg h.below.size (fun k e=>by injection e with e;omega)⟩
theorem Cpy.start{css:List (List Value)}(hs:s.Ok)(hl:css.length=16)(h75:∀c∈css,c.length=75)(ha:w.ownsRow lo 92 6 va 16 (s.tens.flatMap tenv))(hr:w.ownsRow lo 74 75 vr 16 css.flatten)(hg:w.ownsRow lo 66 4 vg s.gras.length (s.gras.flatMap grav))
 (h0:w0.heap.size≤lo)(h1:lo≤w.heap.size)(hb:Zb w0 w):
 ∃col L,va=.slice (some ⟨L.tg,0,none⟩) 16 L.tc∧vr=.slice (some ⟨L.rg,0,none⟩) 16 L.rc∧vg=.slice (some ⟨L.gg,0,none⟩) s.gras.length L.gc∧Cpy w0 lo w col L css css 0 s:=by
 have sg:0<s.gras.length:=by obtain⟨h,_⟩:=tA8 hs.owner;exact h
 have n1:=qsl ha hr zdc;have n2:=qsl ha hg zdc;have n3:=qsl hr hg zdc;obtain⟨tg,tc,rfl,t1,t2,tt⟩:=xb3 ha zdc;obtain⟨rg,rc,rfl,r1,r2,rt⟩:=xb3 hr zdc;obtain⟨gg,gc,rfl,g1,g2,gt⟩:=xb3 hg sg;simp only[Value.ownBlock,Option.some.injEq,reduceCtorEq,false_or,ne_eq]at n1 n2 n3;refine⟨fun b=>if b=tg then 2 else if b=rg then 3 else if b=gg then 4 else 0,⟨tg,tc,rg,rc,gg,gc,none,0,0⟩,rfl,rfl,rfl,tt _ _ zm,rt _ _ ?_,gt _ _ ?_,hl,h75,fun i t hi=>absurd hi zo,fun _ _=>rfl,fun b hb=>?_,⟨h0,h1⟩,hb⟩
 · rw[if_neg (fun e=>n1 e.symm),if_pos rfl]
 · rw[if_neg (fun e=>n2 e.symm),if_neg (fun e=>n3 e.symm),if_pos rfl]
 by_cases e1:b=tg
 · omega
 by_cases e2:b=rg
 · omega
 by_cases e3:b=gg
 · omega
 rw[if_neg e1,if_neg e2,if_neg e3]at hb;exact absurd rfl hb
theorem Cpy.stAt(h:Cpy w0 lo w col L css0 css 16 s)(hs:s.tres.length=16):StAt 92 74 66 w col 2 L css s:=
 ⟨h.tens,h.tres,h.gras,h.len.trans hs.symm,fun i t ht=>h.done_ i t (by obtain⟨hi,_⟩:=tA8 ht;omega) ht⟩
end
structure CpT (w0 w:World)(base:Nat)(v:Value)(n:Nat)(vs vsj:List Value)(ls:List (List Nat))(j:Nat):Prop where
 row:w.ownsRow base 23 1 v n vsj
 done_:∀(i:Nat) (bs:List Nat),i<j→ls[i]? =some bs→∃u,vsj[i]? =some u∧OwnB w base u bs
 rest:∀i,j≤i→vsj[i]? =vs[i]?
 low:base≤w.heap.size
 below:Below base w0 w
theorem xb5{base c:Nat}(h:w.ownsRow base e 1 (.slice (some ⟨g,0,none⟩) n c) n xs)(u:Value):(w.setCell ⟨g,j,none⟩ u).ownsRow base e 1 (.slice (some ⟨g,0,none⟩) n c) n (xs.set j u):=by
 refine⟨by rw[List.length_set];exact h.1,?_⟩;rcases h.2 with⟨e0,_⟩|⟨g',cap,cur,e0,hb,hh,hnc,hc,hsz,ht⟩
 · cases e0
 injection e0 with e1 e2 e3;injection e1 with e1;injection e1 with e1;subst e1 e3;have h2:=Blk.set_ (show Blk w g e cur from hh) j u;refine .inr ⟨g,c,cur.setIfInBounds j u,rfl,hb,h2,hnc,hc,by rw[Array.size_setIfInBounds];exact hsz,?_⟩;rw[Array.toList_setIfInBounds,List.take_set,ht]
theorem CpT.step{base c:Nat}{ls:List (List Nat)}(h:CpT w0 w base (.slice (some ⟨g,0,none⟩) n c) n vs vsj ls j)(hj:ls[j]? =some bs)(hjn:j<n)(hn:vsj.length=n)
 (b2:Zb w w2)(ho:OwnB w2 w.heap.size u bs)(hg:base≤g):CpT w0 (w2.setCell ⟨g,j,none⟩ u) base (.slice (some ⟨g,0,none⟩) n c) n vs (vsj.set j u) ls (j+1):=by
 have h2:=qrw h.row b2;have far:∀{x:Value} {l:List Nat} {b:Nat},OwnB w2 b x l→OwnB (w2.setCell ⟨g,j,none⟩ u) b x l:=fun hx=>hx.far (by
  rcases qsl hx h2 zdc with e|e
  · rw[e];simp
  exact e) u
 refine⟨xb5 h2 u,fun i b hi hb=>?_,fun i hi=>?_,?_,?_⟩
 ·
  by_cases e:j=i
  · subst e
    rw[hj]at hb;injection hb with hb;subst hb;exact⟨u,by rw[List.getElem?_set_self zo],far (ho.mono h.low)⟩
  obtain⟨x,h3,h4⟩:=h.done_ i b zo hb;exact⟨x,by rw[List.getElem?_set_ne e];exact h3,far (h4.kept b2)⟩
 · rw[List.getElem?_set_ne zo]
   exact h.rest i zo
 · exact tB1 h.low (tB1 b2.size (qab (tB9 w2 (some g)) (p:=⟨g,j,none⟩) (.inl rfl) u).size)
 refine h.below.trans ((b2.mono h.low).grown (qab (tB9 w2 (some g)) (p:=⟨g,j,none⟩) (.inl rfl) u) ?_ ?_)
 · exact tB1 h.low b2.size
 intro k hk;injection hk with hk;omega
end Go.Proofs.YthomgopipiomhaaGreatDoor

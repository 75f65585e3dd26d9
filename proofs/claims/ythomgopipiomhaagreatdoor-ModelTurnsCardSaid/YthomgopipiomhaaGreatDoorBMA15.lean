/- Lemmas. -/
import Derived.Test.YthomgopipiomhaaGreatDoorBMA08
import Derived.Test.YthomgopipiomhaaGreatDoorBMA14
import Derived.Lib.SmallJoins
namespace Go.Proofs.YthomgopipiomhaaGreatDoor
open Go.RowKit
set_option linter.unusedVariables false
set_option linter.unusedSimpArgs false
set_option maxRecDepth 100000
set_option maxHeartbeats 32000000
theorem xan (c:Cfg)(As:Option Addr)(ns cs:Nat)(w:World)(hc:c.Ok)(hr:Reads w w.heap.size 1 As ns (byv c.seed))(hT:Tabs w):
 Zc 46 #[.agg #[.int .i64 c.width,.int .i64 c.quantum,.int .u32 (c.store:Int),.slice As ns cs]] w fun e w'=>∃col L css,e=.returned (.tuple #[.agg (stav (newS c) L).toArray,.int .i64 0])∧StAt 92 74 66 w' col 2 L css (newS c)∧(∀b,col b≠0→w.heap.size≤b∧b<w'.heap.size)∧Below w.heap.size w w':=by
 obtain⟨W0,hW0⟩:=eqx ((w.alloc (.cells #[.int .i64 c.width,.int .i64 c.quantum,.int .u32 (c.store:Int),.slice As ns cs] 25)).alloc (.cells #[.int .u64 0,.int .u32 0,.int .i64 0,.slice none 0 0,.slice none 0 0,.slice none 0 0] 49));have k0:Blk W0 w.heap.size 25 #[.int .i64 c.width,.int .i64 c.quantum,.int .u32 (c.store:Int),.slice As ns cs]:=by rw[hW0];exact(Blk.new w _ _).alloc _
 have z0:Blk W0 (w.heap.size+1) 49 #[.int .u64 0,.int .u32 0,.int .i64 0,.slice none 0 0,.slice none 0 0,.slice none 0 0]:=by
  have h:=Blk.new (w.alloc (.cells #[.int .i64 c.width,.int .i64 c.quantum,.int .u32 (c.store:Int),.slice As ns cs] 25)) 49 #[.int .u64 0,.int .u32 0,.int .i64 0,.slice none 0 0,.slice none 0 0,.slice none 0 0];rw[qar]at h;rw[hW0];exact h
 have b0:Below w.heap.size w W0:=by rw[hW0];exact qah (qah (tA5 _ _) _) _
 have hn:=qb4 hr;have hs64:=hc.seed;have q1:¬c.width<1:=by have:=hc.w1;omega
 have q2:¬(32:Int)<c.width:=by have:=hc.w2;omega
 have q3:¬c.quantum<1:=by have:=hc.q1;omega
 have q4:¬(2:Int)<c.quantum:=by have:=hc.q2;omega
 have q5:¬(32768:Int)<(c.store:Int):=by have:=hc.store;omega
 have q6:¬(64:Int)<(ns:Int):=zo;obtain⟨AE,K0,Z0,B0,HC,HR,HT,A3⟩:=zh8 hW0 k0 z0 b0 hc hr hT (show W0.heap.size=w.heap.size+1+1 by rw[hW0,qar,qar]);clear hW0 k0 z0 b0 hc hr hT hn hs64;go_enter Tryz.func46,Tryz.ntmps46
 go_upto_region 3 with(fail)
 rw[←AE.o];clear q1 q2 q3 q4 q5 q6;obtain⟨S,HS⟩:=zS fun w'=>Below W0.heap.size W0 w'
 refine qox S 6 [37,38,40,41,4] [(2,false)] 5 [(0,[]),(1,[]),(3,[]),(4,[0,1,3]),(5,[])] [(6,true)] #[false,false,true,false,false,false,false] #[true,true,true,true,true,true,false] zk rfl zk zk zk zk zk zk (fun _ _ d _ _ h=>by cases d<;>exact h) ((HS.o _).mpr (tA5 _ W0).drew) ?_;refine qjr rfl rfl ⟨?_,fun w1 hS=>?_,?_⟩;rotate_left
 · go_simp
   try rfl
 try simp only[Act.put,tA0,tA1,tA2]
 refine qjq ?_;have keepS:∀w' o,S w'→W0.heap.size≤w'.heap.size→S (w'.alloc o):=fun w' o h hl=>by
  rw[HS.o]at h ⊢;exact h.alloc hl _
 refine⟨fun Dn vs w'=>∃v1 v2 v3 v5 v4,vs=[v1,v2,v3,v5,v4]∧NewI W0.heap.size w' (Dn 0) (Dn 1) (Dn 3) (Dn 5) (Dn 4) v1 v2 v3 v4 v5,⟨[_,_,_,_,_],rfl,_,_,_,_,_,rfl,?_⟩,⟨?_,?_,?_,?_,?_,trivial⟩,?_⟩
 · exact⟨fun h=>(nomatch h),fun h=>(nomatch h),fun h=>(nomatch h),fun h=>(nomatch h),fun h=>(nomatch h),tA4 _⟩
 ·
  rintro Dn vs w' hS ⟨v1,v2,v3,v5,v4,rfl,hI⟩ hD hd;simp only[puts,Act.put,tA0,tA1,tA2];have hm:=xac w';refine qp0 fun K hK=>qjn rfl rfl ?_
  go_simp;exact hK _ _ ⟨keepS _ _ hS hI.low,[_,_,_,_,_],rfl,_,_,_,_,_,rfl,by simpa using hI.a1 hD true⟩
 ·
  rintro Dn vs w' hS ⟨v1,v2,v3,v5,v4,rfl,hI⟩ hD hd;simp only[puts,Act.put,tA0,tA1,tA2];have hm:=xad w';refine qp0 fun K hK=>qjn rfl rfl ?_
  go_simp;exact hK _ _ ⟨keepS _ _ hS hI.low,[_,_,_,_,_],rfl,_,_,_,_,_,rfl,by simpa using hI.a2 hD true⟩
 · rintro Dn vs w' hS ⟨v1,v2,v3,v5,v4,rfl,hI⟩ hD hd
   simp only[puts,Act.put,tA0,tA1,tA2];refine qp0 fun K hK=>qjn rfl rfl ?_
   go_simp;exact hK _ _ ⟨keepS _ _ hS hI.low,[_,_,_,_,_],rfl,_,_,_,_,_,rfl,by simpa using hI.a3 hD true⟩
 ·
  rintro Dn vs w' hS ⟨v1,v2,v3,v5,v4,rfl,hI⟩ hD hd;simp only[puts,Act.put,tA0,tA1,tA2];have d0:=hd 0 zm;have d1:=hd 1 zm;have d3:=hd 3 zm;obtain⟨g1,rfl,-⟩:=hI.tens d0;obtain⟨g2,rfl,-⟩:=hI.tres d1;obtain⟨g3,rfl,-⟩:=hI.gras d3;refine qp0 fun K hK=>qjn rfl rfl ?_
  go_simp;exact hK _ _ ⟨hS,[_,_,_,_,_],rfl,_,_,_,_,_,rfl,by simpa [d0,d1,d3] using hI.a5 d0 d1 d3 true⟩
 · rintro Dn vs w' hS ⟨v1,v2,v3,v5,v4,rfl,hI⟩ hD hd
   simp only[puts,Act.put,tA0,tA1,tA2];refine qp0 fun K hK=>qjn rfl rfl ?_
   go_simp;exact hK _ _ ⟨keepS _ _ hS hI.low,[_,_,_,_,_],rfl,_,_,_,_,_,rfl,by simpa using hI.a4 true⟩
 rintro vs w5 hS5 ⟨v1,v2,v3,v5,v4,rfl,hI⟩;simp only[puts,Act.put,tA0,tA1,tA2];obtain⟨tg,rfl,lt,bt⟩:=hI.tens rfl;obtain⟨rg,rfl,lr,br⟩:=hI.tres rfl;obtain⟨gg,rfl,lg,bg⟩:=hI.gras rfl;obtain⟨sg,rfl,ls,bs⟩:=hI.box rfl;obtain⟨-,-,-,rfl⟩:=hI.sv rfl;rw[HS.o]at hS5;have b5:=hS5;clear hI keepS hS5 HS;obtain⟨SV,hSV⟩:∃SV:List Value,[.int .u64 0,.int .u32 0,.int .i64 0,.slice (some ⟨tg,0,none⟩) 16 16,.slice (some ⟨rg,0,none⟩) 16 16,.slice (some ⟨gg,0,none⟩) 1 1]=SV:=⟨_,rfl⟩;refine qbi rfl rfl ?_;refine wp_store_row 49 (.tmp 4) (.tmp 41) rfl sg #[.int .u64 0,.int .u32 0,.int .i64 0,.slice (some ⟨tg,0,none⟩) 16 16,.slice (some ⟨rg,0,none⟩) 16 16,.slice (some ⟨gg,0,none⟩) 1 1] rfl rfl 49 _ bs zk zm (by simp[Value.oneCell']) ?_;refine⟨fun h=>absurd h zdc,?_⟩;obtain⟨W1,hW1⟩:=eqx (w5.setRow sg #[.int .u64 0,.int .u32 0,.int .i64 0,.slice (some ⟨tg,0,none⟩) 16 16,.slice (some ⟨rg,0,none⟩) 16 16,.slice (some ⟨gg,0,none⟩) 1 1]);rw[←hW1];obtain⟨S1,A4,A5,A6,B1,LT,LR,LG⟩:=zh8 (show Blk W1 sg 49 #[.int .u64 0,.int .u32 0,.int .i64 0,.slice (some ⟨tg,0,none⟩) 16 16,.slice (some ⟨rg,0,none⟩) 16 16,.slice (some ⟨gg,0,none⟩) 1 1] by rw[hW1];exact bs.setRow _) (show Blk W1 tg 92 zTen.toArray by rw[hW1];exact bt.setRow_far (bt.ne_ bs zdc) _) (show Blk W1 rg 74 zTre.toArray by rw[hW1];exact br.setRow_far (br.ne_ bs zdc) _) (show Blk W1 gg 66 #[.int .i64 0,.int .i64 4,.int .u64 18446744073709551615,.bool false] by rw[hW1];exact bg.setRow_far (bg.ne_ bs zdc) _) (show Below W0.heap.size W0 W1 by rw[hW1];exact below_setRow b5 ls _) lt lr lg;have LS:=zh1 ls;clear hW1 bt br bg bs b5 lt lr lg ls hSV;try simp only[Act.put,tA0,tA1,tA2]
 refine qbf ?_;go_wp2_with fail
 refine zcb (qq3 1048576 1048576 W1 zo zo) fun w2 b2=>?_
 go_upto_region 5 with(fail)
 obtain⟨W3,hW3⟩:=eqx (w2.alloc (.cells #[.int .u32 1048576,.int .u32 1048576,.int .u32 1048576] 90));obtain⟨bg,hbg⟩:=eqx w2.heap.size;try rw[←hW3]
 rw[←hbg];have b13:Below W1.heap.size W1 W3:=by rw[hW3];exact b2.alloc b2.size _
 have q3:Blk W3 bg 90 #[.int .u32 1048576,.int .u32 1048576,.int .u32 1048576]:=by rw[hW3,hbg];exact Blk.new _ _ _
 obtain⟨B3,S3,A0,A7,A8,Q3⟩:=zh6 (B1.trans (b13.mono B1.size)) (S1.below b13 S1.lt) (A4.below b13 A4.lt) (A5.below b13 A5.lt) (A6.below b13 A6.lt) q3;have s3:=S3.cell 3;have p0:=Q3.cell 0;have p1:=Q3.cell 1;have p2:=Q3.cell 2;have hth:=qeh A0.o 0 6 zdc;clear hW3 hbg b13 q3 b2;go_upto_region 6 with(refine wpList_store_mid rfl 92 (.tmp 50) (.tmp 49) rfl tg 0 #[.bool true,.int .u32 1048576,.int .u32 1048576,.int .u32 1048576,.int .u32 32768,.int .u32 0] rfl rfl hth zk (by simp[Value.oneCell']) ?_)
 obtain⟨W4,hW4⟩:=eqx (W3.setCells tg 0 (tenv ten0));change Code.wp _ _ _ _ (W3.setCells tg 0 (tenv ten0));rw[←hW4];have g34:W3.grownBy W4 (some tg):=by rw[hW4];exact qn6 tg _ 0 W3
 have t4:=qn5 (tenv ten0) 0 W3 zTen A0.o zdc;rw[←hW4]at t4;have A9:=zh1 t4;have NT:∀{x:Nat} {t:TypeId} {cs:Array Value},Blk W3 x t cs→92≠t→some x≠some tg:=fun hb hne e=>by injection e with e;exact A0.ne_ hb hne e.symm
 obtain⟨S4,A1,AA,B4⟩:=zh4 (S3.grown g34 (NT S3.o zdc)) (A7.grown g34 (NT A7.o zdc)) (A8.grown g34 (NT A8.o zdc)) (B3.grown g34 B3.size (fun k e=>by injection e with e;have:=LT.o;omega));have s4:=S4.cell 4;clear hW4 g34 t4 NT s3 p0 p1 p2 hth;obtain⟨DV,hDV⟩:=xeq (trev (tre0 Hd.zero) (.slice (some ⟨W4.heap.size,0,none⟩) 1 1) (.slice none 0 0) (.slice none 0 0));obtain⟨BT,LD,OD⟩:=zh3 (show Tryz.prog.built 74 [(0,.int .i64 1),(2,.int .i64 1),(4,.slice (some ⟨W4.heap.size,0,none⟩) 1 1)]=some DV.toArray by rw[←hDV];kernel_rfl) (show DV.length=75 by rw[←hDV];exact qnk _ _ _ Hd.zero_Ok) (show ∀u∈DV,u.oneCell'=true by rw[←hDV];exact qql _ _ _ _ rfl rfl rfl);obtain⟨HI,AF⟩:=zh2 (zI 74 LD.o) hDV;have hth:=qeh (A1.alloc (.cells #[.int .u32 0] 22)) 0 75 (by rw[show zTre.length=1200 from by rw[show zTre=(List.replicate 16 z75).flatten from rfl,qne (sz:=75) (fun c hc=>by rw[List.eq_of_mem_replicate hc];exact xab)];rfl];omega);rw[←LD.o]at hth;have AG:=zh1 hth;clear hDV hth;go_upto_region 7 with(first
  |(refine qbj rfl ⟨.agg DV.toArray,qgn 74 _ rfl _ _ BT.o (by simp[Act.eval]),?_⟩)
  |(refine wpList_store_mid rfl 74 (.tmp 55) (.tmp 54) rfl rg 0 DV.toArray rfl rfl (by rw[tB6];exact AG.o) (by rw[tB6];exact HI.o) (all_oneCell_toArray OD.o) ?_))
 simp only[Act.put];obtain⟨W5,hW5⟩:=eqx ((W4.alloc (.cells #[.int .u32 0] 22)).setCells rg 0 DV);rw[←hW5];have hgr:(W4.alloc (.cells #[.int .u32 0] 22)).grownBy W5 (some rg):=by rw[hW5];exact qn6 rg _ 0 _
 obtain⟨dg,hdg⟩:=xeq W4.heap.size;have NR:∀{x:Nat} {t:TypeId} {cs:Array Value},Blk (W4.alloc (.cells #[.int .u32 0] 22)) x t cs→74≠t→some x≠some rg:=fun hb hne e=>by injection e with e;exact(A1.alloc _).ne_ hb hne e.symm
 have d5:Blk W5 dg 22 #[.int .u32 0]:=by rw[←hdg];exact(Blk.new W4 _ _).grown hgr (NR (Blk.new W4 _ _) zdc)
 have r5:Blk W5 rg 74 (cssH dg Hd.zero).flatten.toArray:=by
  have h:=qn5 DV 0 _ zTre (A1.alloc (.cells #[.int .u32 0] 22)) (by rw[LD.o,show zTre=(List.replicate 16 z75).flatten from rfl,qne (sz:=75) (fun c hc=>by rw[List.eq_of_mem_replicate hc];exact xab),List.length_replicate];omega);rw[←hW5,←AF.o,hdg,xaj]at h;exact h
 have t5:Blk W5 tg 92 ((newH Hd.zero).tens.flatMap tenv).toArray:=by
  have h:=(A9.alloc (.cells #[.int .u32 0] 22)).grown hgr (NR (A9.alloc _) zdc);rw[xai Hd.zero]at h;exact h
 have g5:=(AA.alloc (.cells #[.int .u32 0] 22)).grown hgr (NR (AA.alloc _) zdc);have s5:=(S4.alloc (.cells #[.int .u32 0] 22)).grown hgr (NR (S4.alloc _) zdc);have b5:Below W0.heap.size W0 W5:=(B4.alloc B4.size _).grown hgr (by have:=B4.size;rw[qar];omega) (fun k e=>by injection e with e;have:=LR.o;omega);have ldg:W0.heap.size≤dg:=by rw[←hdg];exact B4.size
 obtain⟨col0,st0,-⟩:=xam Hd.zero_Ok t5 r5 g5 d5 LT.o LR.o LG.o ldg;obtain⟨hd,hhd⟩:=xeq (pubT c 0 0 (tre0 Hd.zero));have hdok:hd.Ok:=by rw[←hhd];exact qo5 c 0 0 (tre0 Hd.zero) zdc zdc
 obtain⟨HV,hHV⟩:=xeq (hdv hd);have CP:∀w',Below W5.heap.size W5 w'→Zc 121 #[.agg #[.int .i64 c.width,.int .i64 c.quantum,.int .u32 (c.store:Int),.slice As ns cs],.agg #[.int .u64 0,.int .u32 0,.int .i64 0,.slice (some ⟨tg,0,none⟩) 16 16,.slice (some ⟨rg,0,none⟩) 16 16,.slice (some ⟨gg,0,none⟩) 1 1],.int .i64 0] w' fun e w''=>e=.returned (.tuple #[.agg HV.toArray,.int .i64 0])∧Below w'.heap.size w' w'':=fun w' hb=>by
  have h:=qpi c (newH Hd.zero) ⟨tg,16,rg,16,gg,1,none,0,0⟩ col0 2 (cssH dg Hd.zero) 0 (tre0 Hd.zero) As ns cs w' HC.o xaf (HR.call (B0.trans ((b5.trans (hb.mono b5.size)).mono B0.size))) (st0.keep ((Turns.of_below (fun _=>false) hb).keeps rfl) ((Turns.of_below (fun _=>false) hb).keeps rfl) ((Turns.of_below (fun _=>false) hb).keeps rfl) (fun k _=>(Turns.of_below (fun _=>false) hb).keeps rfl)) rfl (by simp[tre0]) (HT.below (B0.trans ((b5.trans (hb.mono b5.size)).mono B0.size)) HT.size);rw[show (newH Hd.zero).clock=0 from rfl,hhd,hHV]at h;exact h
 obtain⟨AH,K5,Z5,D5,R5,T5,G5,S5⟩:=zh8 CP (K0.below b5 K0.lt) (Z0.below b5 Z0.lt) d5 r5 t5 g5 s5;obtain⟨B5,AI,AB,AC,AD,A2,AJ⟩:=zh7 b5 ldg hhd hdok hHV (show HV.length=68 by rw[←hHV];exact qnj hdok) (show ∀u∈HV,u.oneCell'=true by rw[←hHV];exact qm8 _);clear hW5 hgr NR d5 r5 t5 g5 s5 b5 ldg st0 CP hhd hdok hHV s4 hdg;obtain⟨S,HS9⟩:=zS fun w'=>Blk w' w.heap.size 25 #[.int .i64 c.width,.int .i64 c.quantum,.int .u32 (c.store:Int),.slice As ns cs]∧Blk w' sg 49 #[.int .u64 0,.int .u32 0,.int .i64 0,.slice (some ⟨tg,0,none⟩) 16 16,.slice (some ⟨rg,0,none⟩) 16 16,.slice (some ⟨gg,0,none⟩) 1 1]
 refine zrs S 11 (zq 0 4 ((4,true)::zq 5 5 [(10,true)])) ((HS9.o _).mpr (⟨K5.o,S5.o⟩)) ?_;obtain⟨F4,FK,FS⟩:=zh3 (fun(w':World)(h:S w')=>((((HS9.o w').mp h).2.cell 4).trans (show (#[.int .u64 0,.int .u32 0,.int .i64 0,.slice (some ⟨tg,0,none⟩) 16 16,.slice (some ⟨rg,0,none⟩) 16 16,.slice (some ⟨gg,0,none⟩) 1 1]:Array Value)[4]? =some (.slice (some ⟨rg,0,none⟩) 16 16) from rfl))) (fun(w':World)(h:S w')=>qap ((HS9.o w').mp h).1 0 [.int .i64 c.width,.int .i64 c.quantum,.int .u32 (c.store:Int),.slice As ns cs] (fun j u h=>by simpa using h)) (fun(w':World)(h:S w')=>qap ((HS9.o w').mp h).2 0 [.int .u64 0,.int .u32 0,.int .i64 0,.slice (some ⟨tg,0,none⟩) 16 16,.slice (some ⟨rg,0,none⟩) 16 16,.slice (some ⟨gg,0,none⟩) 1 1] (fun j u h=>by simpa using h));iterate 2 (refine zre rfl rfl (fun w1 hS=>by have g4:=F4.o w1 hS;clear hS;go_simp;try rfl) ?_)
 refine qo9 rfl rfl 25 (.tmp 1) rfl w.heap.size 0 rfl [.int .i64 c.width,.int .i64 c.quantum,.int .u32 (c.store:Int),.slice As ns cs] _ FK.o Tryz.underlying25 rfl zk ?_;try simp only[Act.put,tA0,tA1,tA2]
 refine qo9 rfl rfl 49 (.tmp 4) rfl sg 0 rfl [.int .u64 0,.int .u32 0,.int .i64 0,.slice (some ⟨tg,0,none⟩) 16 16,.slice (some ⟨rg,0,none⟩) 16 16,.slice (some ⟨gg,0,none⟩) 1 1] _ FS.o Tryz.underlying49 rfl zk ?_;try simp only[Act.put,tA0,tA1,tA2]
 obtain⟨Wd,hWd,BD⟩:=zdr W5;rw[←hWd];clear hWd;refine qbi rfl rfl ?_;go_simp;refine zcb (AH.o Wd BD.o) fun w6 b6=>?_
 have B6:=zh1 (BD.trans (b6.mono BD.size));clear b6;refine⟨(HS9.o _).mpr ⟨K5.below B6.o K5.lt,S5.below B6.o S5.lt⟩,?_⟩;try simp only[Act.put,tA0,tA1,tA2]
 iterate 5 (refine zrb ?_)
 have r6:=R5.below B6.o R5.lt;have l75:=xag dg Hd.zero_Ok;have hfl:(cssH dg Hd.zero).flatten.length=1200:=by rw[qne l75];rfl
 have hth:=qeh r6 7 HV.toArray.size (by rw[tB6,A2.o,hfl];decide);have r7:=qn5 HV 7 w6 _ r6 (by rw[A2.o,hfl];decide);rw[←AD.o,xak dg AC.o]at r7;rw[AD.o]at r7;refine qbi rfl rfl ?_;refine wp_store_mid 55 (.tmp 65) (.tmp 62) rfl rg 7 HV.toArray rfl rfl hth (by rw[tB6,A2.o];kernel_rfl) (all_oneCell_toArray AJ.o) ?_;obtain⟨W7,hW7⟩:=eqx (w6.setCells rg 7 HV);change _∧qb9 _ _ _ _ _ _ _ (w6.setCells rg 7 HV);rw[←hW7]at r7 ⊢;have g67:w6.grownBy W7 (some rg):=by rw[hW7];exact qn6 rg _ 7 w6
 have NR:∀{x:Nat} {t:TypeId} {cs:Array Value},Blk w6 x t cs→74≠t→some x≠some rg:=fun hb hne e=>by injection e with e;exact r6.ne_ hb hne e.symm
 have mv:∀{x:Nat} {t:TypeId} {cs:Array Value},Blk W5 x t cs→74≠t→Blk W7 x t cs:=fun hb hne=>(hb.below B6.o hb.lt).grown g67 (NR (hb.below B6.o hb.lt) hne)
 have k7:=mv K5.o zdc;have s7:=mv S5.o zdc;have z7:=mv Z5.o zdc;have t7:Blk W7 tg 92 ((newH hd).tens.flatMap tenv).toArray:=mv T5.o zdc;have g7:=mv G5.o zdc;have d7:=mv D5.o zdc;have b7:Below W0.heap.size W0 W7:=(B5.trans (B6.mono B5.size)).grown g67 (tB1 B5.size B6.size) (fun k e=>by injection e with e;have:=LR.o;omega);refine⟨fun _=>(HS9.o _).mpr ⟨k7,s7⟩,?_⟩;obtain⟨col,st,nw⟩:=xam AC.o t7 r7 g7 d7 LT.o LR.o LG.o AI.o;obtain⟨ST,NW,B7,Z7,AK⟩:=zh5 st nw b7 z7 (qap s7 0 [.int .u64 0,.int .u32 0,.int .i64 0,.slice (some ⟨tg,0,none⟩) 16 16,.slice (some ⟨rg,0,none⟩) 16 16,.slice (some ⟨gg,0,none⟩) 1 1] (fun j u h=>by simpa using h));clear hW7 g67 NR mv k7 s7 z7 t7 g7 d7 b7 st nw r6 r7 l75 hfl hth;try simp only[Act.put,tA0,tA1,tA2]
 refine qbf ?_;clear HS9 F4 FK FS;go_wp2_with (first
  |(refine qaq rfl 49 (.tmp 4) rfl sg 0 rfl [.int .u64 0,.int .u32 0,.int .i64 0,.slice (some ⟨tg,0,none⟩) 16 16,.slice (some ⟨rg,0,none⟩) 16 16,.slice (some ⟨gg,0,none⟩) 1 1] _ AK.o Tryz.underlying49 rfl zk ?_)
  |(refine wpList_store_row rfl 49 (.tmp 2) (.tmp 66) rfl (w.heap.size+1) #[.int .u64 0,.int .u32 0,.int .i64 0,.slice (some ⟨tg,0,none⟩) 16 16,.slice (some ⟨rg,0,none⟩) 16 16,.slice (some ⟨gg,0,none⟩) 1 1] rfl rfl 49 _ Z7.o zk zm (by simp[Value.oneCell']) ?_))
 have z9:=Z7.setRow #[.int .u64 0,.int .u32 0,.int .i64 0,.slice (some ⟨tg,0,none⟩) 16 16,.slice (some ⟨rg,0,none⟩) 16 16,.slice (some ⟨gg,0,none⟩) 1 1];have AL:=qap z9 0 [.int .u64 0,.int .u32 0,.int .i64 0,.slice (some ⟨tg,0,none⟩) 16 16,.slice (some ⟨rg,0,none⟩) 16 16,.slice (some ⟨gg,0,none⟩) 1 1] (fun j u h=>by simpa using h);refine bodyPost_ret (qgr rfl rfl (run_loadVar_mid _ _ 0 _ [.int .u64 0,.int .u32 0,.int .i64 0,.slice (some ⟨tg,0,none⟩) 16 16,.slice (some ⟨rg,0,none⟩) 16 16,.slice (some ⟨gg,0,none⟩) 1 1] _ AL Tryz.underlying49 rfl zk)) rfl ⟨col,⟨tg,16,rg,16,gg,1,none,0,0⟩,cssH dg hd,?_,?_,?_,?_⟩
 · rw[xae,AB.o]
   rfl
 ·
  rw[xae,AB.o];have h9:Turns (· ==0) W7 col (W7.setRow (w.heap.size+1) #[.int .u64 0,.int .u32 0,.int .i64 0,.slice (some ⟨tg,0,none⟩) 16 16,.slice (some ⟨rg,0,none⟩) 16 16,.slice (some ⟨gg,0,none⟩) 1 1]) col:=Turns.of_grown (qam W7 (w.heap.size+1) _) (fun k e=>by
   injection e with e;by_cases h0:col k=0
   · rw[h0];rfl
   have:=(NW.o k h0).1;have:=A3.o;omega) (fun _ _=>rfl)
  exact ST.keep (h9.keeps rfl) (h9.keeps rfl) (h9.keeps rfl) (fun k hk=>h9.keeps (by simp;omega))
 · intro b hb
   have h1:=NW.o b hb;have h2:=A3.o;have h3:=(qam W7 (w.heap.size+1) #[.int .u64 0,.int .u32 0,.int .i64 0,.slice (some ⟨tg,0,none⟩) 16 16,.slice (some ⟨rg,0,none⟩) 16 16,.slice (some ⟨gg,0,none⟩) 1 1]).size;omega
 exact below_setRow (B0.trans (B7.mono B0.size)) zo _
theorem xao {w w1 w2:World}{col:Col}{c:Cfg}{s:Sta}{L:Loc}{css:List (List Value)}{A:Option Addr}{n k g:Nat}(hst:StAt 92 74 66 w col 2 L css s)(nw:∀b,col b≠0→b<w.heap.size)(t0:Turns (· ==0) w col w1 col)(ho:OwnB w1 w.heap.size (.slice A n k) c.seed)
 (b2:Below w1.heap.size w1 w2)(hg:Blk w2 g 117 (mdlv c s {L with sa:=A,sn:=n,sc:=k}))(hg1:w1.heap.size≤g)(h3:3≤w.heap.size∧∀b,b<3→col b=0):
 Mdl w2 ((col.ext w.heap.size w1.heap.size (Value.ownBlock (.slice A n k)) 5 0).put g 1) 2 g c s {L with sa:=A,sn:=n,sc:=k} css:=by
 obtain⟨C1,hC1⟩:=eqx (col.ext w.heap.size w1.heap.size (Value.ownBlock (.slice A n k)) 5 0);have t1:Turns (· ==0) w col w1 C1:=t0.recolour fun b hb=>by rw[hC1];exact Col.ext_old hb
 have t2:Turns (· ==0) w1 C1 w2 (C1.put g 1):=(Turns.of_below _ b2).recolour fun b hb=>Col.put_old _ _ zo
 have t12:=t1.trans t2;have f1:∀b,C1 b≠0→b<w1.heap.size:=fun b hb=>by
  rw[hC1]at hb;exact(Col.ext_new (lo:=0) (fun b hb=>⟨Nat.zero_le _,nw b hb⟩) (Nat.zero_le _) t0.size hb).2
 have sd:TextC w1 C1 (.slice A n k) c.seed:=TextC.own ho fun b hb=>by
  have:=xa2 ho hb;rw[hC1];exact Col.ext_at this.1 this.2 hb
 rw[←hC1];refine⟨hg,Col.put_at _ _ _,⟨tB1 h3.1 t12.size,fun b hb=>(t12.same b zo).trans (h3.2 b hb)⟩,fun b hb=>?_,sd.keep (t2.keeps rfl),?_⟩
 · by_cases e:b=g
   · subst e;exact hg.lt
   rw[Col.put_ne _ _ e]at hb;exact tB0 (f1 b hb) b2.size
 have h:=hst.keep (t12.keeps rfl) (t12.keeps rfl) (t12.keeps rfl) (fun k hk=>t12.keeps (by simp;omega));exact⟨h.tens,h.tres,h.gras,h.trs⟩
theorem xap (c:Cfg)(A:Option Addr)(n k:Nat)(w:World)(hc:c.Ok)(hr:Reads w w.heap.size 1 A n (byv c.seed))(hT:Tabs w):
 Zc 13 #[.agg #[.int .i64 c.width,.int .i64 c.quantum,.int .u32 (c.store:Int),.slice A n k]] w fun e w'=>∃g L css col,e=.returned (.tuple #[.pointer (some ⟨g,0,none⟩),.int .i64 0])∧Mdl w' col 2 g c (newS c) L css∧(∀b,b<w.heap.size→col b=0)∧Below w.heap.size w w':=by
 obtain⟨W0,hW0⟩:=eqx (w.alloc (.cells #[.int .i64 c.width,.int .i64 c.quantum,.int .u32 (c.store:Int),.slice A n k] 25));have k0:Blk W0 w.heap.size 25 #[.int .i64 c.width,.int .i64 c.quantum,.int .u32 (c.store:Int),.slice A n k]:=by rw[hW0];exact Blk.new w _ _
 have b0:Below w.heap.size w W0:=by rw[hW0];exact qah (tA5 _ _) _
 have CN:=xan c A n k W0 hc (hr.call b0) (hT.below b0 hT.size);have hn:=qb4 hr;obtain⟨s,hs⟩:=xeq (newS c);rw[hs]at CN ⊢;obtain⟨A4,A5,K0,B0,HC,HR,HT,HN⟩:=zh8 CN hW0 k0 b0 hc hr hT hn;clear CN hW0 k0 b0 hc hr hT hn hs;go_enter Tryz.func13,Tryz.ntmps13
 go_upto_region 1 with(fail)
 rw[←A5.o];have k0:=K0.o;go_wp2_with (refine qaq rfl 25 (.tmp 1) rfl w.heap.size 0 rfl [.int .i64 c.width,.int .i64 c.quantum,.int .u32 (c.store:Int),.slice A n k] _ (qap K0.o 0 [.int .i64 c.width,.int .i64 c.quantum,.int .u32 (c.store:Int),.slice A n k] (fun j u h=>by simpa using h)) Tryz.underlying25 rfl zk ?_)
 refine A4.o.mono ?_;rintro e w1 ⟨col,L,css,rfl,st,nw,b1⟩;obtain⟨SV,hSV⟩:=xeq (stav s L);have lSV:SV.length=6:=by rw[←hSV];rfl
 have oSV:∀u∈SV,u.oneCell'=true:=by rw[←hSV];exact qvp s L
 rw[hSV];obtain⟨ST,NW,B1,A6,A7,A8,A2,SN⟩:=zh8 st nw b1 hSV lSV oSV (zI 49 lSV) (Blk.new w1 49 #[.int .u64 0,.int .u32 0,.int .i64 0,.slice none 0 0,.slice none 0 0,.slice none 0 0]);clear st nw b1 hSV lSV oSV k0;go_upto_region 2 with(refine zst SN.o A2.o (by simp[A7.o]) A8.o ?_)
 obtain⟨W2,hW2⟩:=eqx ((w1.alloc (.cells #[.int .u64 0,.int .u32 0,.int .i64 0,.slice none 0 0,.slice none 0 0,.slice none 0 0] 49)).setRow w1.heap.size SV.toArray);rw[←hW2];obtain⟨sg,hsg⟩:=eqx w1.heap.size;rw[←hsg];have b12:Below w1.heap.size w1 W2:=by rw[hW2];exact below_setRow ((tA5 _ _).alloc (tA4 _) _) (tA4 _) _
 obtain⟨S2,A0⟩:=zh2 (show Blk W2 sg 49 SV.toArray by rw[hW2,hsg];exact(Blk.new _ _ _).setRow _) (show Below W0.heap.size W0 W2 from B1.trans (b12.mono B1.size));obtain⟨K2,A1,A9⟩:=zh3 (K0.below A0.o K0.lt) b12 (show W0.heap.size≤sg by rw[hsg];exact B1.size);clear hW2 hsg b12;have k3:=K2.cell 3;go_upto_region 4 with(fail)
 go_wp2_with fail
 refine(qsn A n k (byv c.seed) W2 (HR.call (B0.trans (A0.mono B0.size))) (by have:=HN.o;have:=HC.seed;omega) (qau _)).mono ?_;rintro e w3 ⟨v3,rfl,o3,b3⟩;have o3':OwnB w3 W2.heap.size v3 c.seed:=by
  have e:=HN.o;subst e;exact o3
 obtain⟨A3,n3,c3,rfl,-,-,-⟩:=o3'.sl;have kk3:=K2.below b3 K2.lt;have k3':=kk3.cell 3;have f3:=kk3.frozen 3;obtain⟨O3,B3,K3,S3⟩:=zh4 o3' b3 kk3 (S2.below b3 S2.lt);clear o3 o3' b3 kk3 k3;go_upto_region 5 with(fail)
 obtain⟨W4,hW4⟩:=eqx (w3.setCell ⟨w.heap.size,3,none⟩ (.slice A3 n3 c3));rw[←hW4];have z0:∀b,b<W0.heap.size→col b=0:=fun b hb=>by
  by_cases e:col b=0
  · exact e
  have:=(NW.o b e).1;omega
 have k4:Blk W4 w.heap.size 25 #[.int .i64 c.width,.int .i64 c.quantum,.int .u32 (c.store:Int),.slice A3 n3 c3]:=by
  have h:=K3.set_ 3 (.slice A3 n3 c3);rw[←hW4]at h;exact h
 have s4:Blk W4 sg 49 SV.toArray:=by rw[hW4];exact S3.far (p:=⟨w.heap.size,3,none⟩) (by have:=A9.o;have:=K0.lt;show sg≠w.heap.size;omega) _
 have o4:OwnB W4 W2.heap.size (.slice A3 n3 c3) c.seed:=by rw[hW4];exact O3.far (p:=⟨w.heap.size,3,none⟩) (O3.blk_ne K3.o zdc) _
 have t4:Turns (· ==0) W2 col W4 col:=by rw[hW4];exact(Turns.of_below _ B3.o).trans (Turns.setCell _ (by rw[z0 _ K0.lt];rfl))
 have b4:Below w.heap.size w W4:=by rw[hW4];exact((B0.trans ((A0.trans (B3.mono A0.size)).mono B0.size))).setCell (p:=⟨w.heap.size,3,none⟩) (tA4 _) _
 have bt:Tryz.prog.built 117 [(0,.agg #[.int .i64 c.width,.int .i64 c.quantum,.int .u32 (c.store:Int),.slice A3 n3 c3]),(1,.agg SV.toArray)]=some (mdlv c s {L with sa:=A3,sn:=n3,sc:=c3}):=by rw[←A6.o];kernel_rfl
 obtain⟨ML,hML⟩:∃ML:List Value,ML.toArray=mdlv c s {L with sa:=A3,sn:=n3,sc:=c3}:=⟨_,Array.toArray_toList⟩;rw[←hML]at bt;have oML:∀u∈ML,u.oneCell'=true:=by
  intro u hu;have h:u∈(mdlv c s {L with sa:=A3,sn:=n3,sc:=c3}):=by rw[←hML];simpa using hu
  unfold mdlv at h;simp only[List.mem_toArray,List.mem_cons,List.not_mem_nil,or_false]at h;rcases h with rfl|rfl|rfl|rfl|rfl|rfl|rfl|rfl|rfl|rfl<;>rfl
 have lML:ML.length=10:=by rw[←tB6,hML];rfl
 obtain⟨BT,AA,RK,RS,O4,T4,B4,Z0⟩:=zh8 bt hML (qap k4 0 [.int .i64 c.width,.int .i64 c.quantum,.int .u32 (c.store:Int),.slice A3 n3 c3] (fun j u h=>by simpa using h)) (qap s4 0 SV (fun j u h=>by simpa using h)) o4 t4 b4 z0;obtain⟨AB,AC,AD⟩:=zh3 (show StAt 92 74 66 W2 col 2 L css s from ST.keep ((Turns.of_below (fun _=>false) A1.o).keeps rfl) ((Turns.of_below (fun _=>false) A1.o).keeps rfl) ((Turns.of_below (fun _=>false) A1.o).keeps rfl) (fun k _=>(Turns.of_below (fun _=>false) A1.o).keeps rfl)) oML lML;clear hW4 z0 k4 s4 o4 t4 b4 bt hML oML lML k3' f3;go_wp2_with (first
  |(refine qaq rfl 25 (.tmp 1) rfl w.heap.size 0 rfl [.int .i64 c.width,.int .i64 c.quantum,.int .u32 (c.store:Int),.slice A3 n3 c3] _ RK.o Tryz.underlying25 rfl zk ?_)
  |(refine zld RS.o zu49 A2.o ?_)
  |(refine qbj rfl ⟨.agg ML.toArray,qgn 117 _ rfl _ _ BT.o (by simp[Act.eval,Act.put]),?_⟩))
 go_ret2
 refine⟨W4.heap.size,_,css,_,rfl,xao AB.o (fun b hb=>tB0 (NW.o b hb).2 A1.size) T4.o O4.o ((tA5 _ _).alloc (tA4 _) _) ?_ (tA4 _) ⟨?_,?_⟩,?_,?_⟩
 · rw[←AA.o]
   exact Blk.new _ _ _
 · have:=HT.size
   have:=B0.size;have:=A0.size;omega
 · intro b hb
   exact Z0.o b (by have:=HT.size;have:=B0.size;omega)
 ·
  intro b hb;have h1:=B0.size;have h2:=A0.size;have h3:=T4.size;rw[Col.put_old _ _ zo,Col.ext_old zo];exact Z0.o b zo
 exact B4.alloc B4.size _
theorem xaq (w:World)(b:Nat)(fr:Nat × Nat):Reads (w.alloc (.cells #[.int .u8 (b:Int)] 5 fr)) (w.alloc (.cells #[.int .u8 (b:Int)] 5 fr)).heap.size 1 (some ⟨w.heap.size,0,none⟩) 1 (byv [b]):=by
 refine⟨rfl,fun _=>⟨_,rfl,by simp,fun j u hu=>?_⟩⟩;rw[Addr.add_mid,Joins.cell_alloc_mark_at w _ _ _ _ _ rfl];simpa [byv] using hu
theorem xar (w:World):
 Zc 67 #[] w fun e w'=>∃A c,e=.returned (.agg #[.int .i64 32,.int .i64 1,.int .u32 32768,.slice A 1 c])∧Reads w' w'.heap.size 1 A 1 (byv [115])∧(∀ad,A=some ad→w.heap.size≤ad.block)∧1≤c∧c≤maxLen∧Below w.heap.size w w':=by
 have hcv:=fun(w:World)(C:Array Value)(n c:Nat)=>Lib.run_convert_bytes_const (P:=Tryz.prog) w 23 5 C n c Tryz.underlying23 Tryz.underlying5
 have h1:=hcv (w.alloc (.cells #[.int .i64 0,.int .i64 0,.int .u32 0,.slice none 0 0] 25)) #[.int .u8 115] 1 1;rw[qar]at h1;clear hcv;go_enter Tryz.func67,Tryz.ntmps67
 go_wp2_with fail
 have hb:Blk ((w.alloc (.cells #[.int .i64 32,.int .i64 1,.int .u32 32768,.slice (some ⟨w.heap.size+1,0,none⟩) 1 1] 25)).alloc (.cells #[.int .u8 115] 5 (1,2))) w.heap.size 25 #[.int .i64 32,.int .i64 1,.int .u32 32768,.slice (some ⟨w.heap.size+1,0,none⟩) 1 1]:=(Blk.new w _ _).alloc _;have HR:=qap hb 0 [.int .i64 32,.int .i64 1,.int .u32 32768,.slice (some ⟨w.heap.size+1,0,none⟩) 1 1] (fun j u h=>by simpa using h);have hr:=xaq (w.alloc (.cells #[.int .i64 32,.int .i64 1,.int .u32 32768,.slice (some ⟨w.heap.size+1,0,none⟩) 1 1] 25)) 115 (1,2);rw[qar w]at hr;refine bodyPost_ret (qao rfl rfl (run_loadVar_mid _ _ 0 _ [.int .i64 32,.int .i64 1,.int .u32 32768,.slice (some ⟨w.heap.size+1,0,none⟩) 1 1] _ HR Tryz.underlying25 rfl zk)) rfl ⟨some ⟨w.heap.size+1,0,none⟩,1,rfl,hr,fun ad e=>?_,tA4 _,by simp[maxLen],((tA5 _ _).alloc (tA4 _) _).alloc zm _⟩;injection e with e;subst e;show w.heap.size≤w.heap.size+1;omega
theorem xas (c:Cfg)(A:Option Addr)(n k:Nat)(w:World)(hr:Reads w w.heap.size 1 A n (byv c.seed)):
 Zc 14 #[.agg #[.int .i64 c.width,.int .i64 c.quantum,.int .u32 (c.store:Int),.slice A n k]] w fun e w'=>∃gw tb,e=.returned (.pointer (some ⟨gw,0,none⟩))∧WldAt w' gw tb c A n k∧w.heap.size≤gw∧w.heap.size≤tb∧Below w.heap.size w w':=by
 have HR:=zh1 hr;clear hr;go_enter Tryz.func14,Tryz.ntmps14
 go_upto_region 1 with(fail)
 obtain⟨W1,hW1⟩:=eqx (w.alloc (.cells #[.int .i64 c.width,.int .i64 c.quantum,.int .u32 (c.store:Int),.slice A n k] 25));rw[←hW1];obtain⟨Z1,B1⟩:=zh2 (show Blk W1 w.heap.size 25 #[.int .i64 c.width,.int .i64 c.quantum,.int .u32 (c.store:Int),.slice A n k] by rw[hW1];exact Blk.new _ _ _) (show Below w.heap.size w W1 by rw[hW1];exact qah (tA5 _ _) _);clear hW1;obtain⟨S,HS9⟩:=zS fun w'=>Below W1.heap.size W1 w'
 refine zrs S 5 [(1,false),(0,true),(2,false),(3,true),(4,false)] ((HS9.o _).mpr ((tA5 _ _).drew)) ?_;have A0:=zh1 (fun(w':World)(h:S w')=>qap (Z1.below ((HS9.o w').mp h) Z1.lt) 0 [.int .i64 c.width,.int .i64 c.quantum,.int .u32 (c.store:Int),.slice A n k] (fun j u h=>by simpa using h));refine qo9 rfl rfl 25 (.tmp 1) rfl w.heap.size 0 rfl [.int .i64 c.width,.int .i64 c.quantum,.int .u32 (c.store:Int),.slice A n k] _ A0.o Tryz.underlying25 rfl zk ?_;try simp only[Act.put,tA0,tA1,tA2]
 obtain⟨W2,hW2,B2⟩:=zdr W1;rw[←hW2];clear hW2;refine zw ?_;go_simp;refine(qyq W2).mono ?_;rintro e w3 ⟨rfl,t3,b3⟩;obtain⟨B3,T3⟩:=zh2 (B2.trans (b3.mono B2.size)) t3;clear t3 b3;refine⟨(HS9.o _).mpr B3.o,zput ?_⟩;iterate 1 (refine zrb ?_)
 refine zw ?_;go_simp;obtain⟨W4,hW4⟩:=eqx (w3.alloc (.cells #[.pointer (some ⟨W2.heap.size,0,none⟩),.int .i64 c.width,.int .i64 c.quantum,.int .u32 (c.store:Int),.slice A n k] 63));rw[←hW4];have b4:Below w3.heap.size w3 W4:=by rw[hW4];exact qah (tA5 _ _) _
 obtain⟨Z4,T4,B4⟩:=zh3 (show Blk W4 w3.heap.size 63 #[.pointer (some ⟨W2.heap.size,0,none⟩),.int .i64 c.width,.int .i64 c.quantum,.int .u32 (c.store:Int),.slice A n k] by rw[hW4];exact Blk.new _ _ _) (show RTab W4 W2.heap.size from Blk.below T3.o b4 (Blk.lt T3.o)) (B3.trans (b4.mono B3.size));clear hW4 b4;refine⟨(HS9.o _).mpr B4.o,zput ?_⟩;iterate 1 (refine zrb ?_)
 refine qbf ?_;clear HS9 A0;have BW:=zh1 (B1.trans (B4.mono B1.size));have s1:=B1.size;have s2:=B2.size;have s3:=B3.size;go_wp2
 go_ret
 exact⟨w3.heap.size,W2.heap.size,rfl,⟨Z4.o,T4.o,HR.call BW.o⟩,by omega,by omega,BW.o⟩
theorem Sit.make {W w w':World}{col:Col}{g gw tb:Nat}{c:Cfg}{s:Sta}{L:Loc}{css:List (List Value)}{A:Option Addr}{n k:Nat}(hs:s.Ok)(hm:Mdl w col 2 g c s L css)(hb:Below w.heap.size w w')(hw:WldAt w' gw tb c A n k)(h1:w.heap.size≤gw)(h2:w.heap.size≤tb)(h3:0<n→∀ad,A=some ad→col ad.block=0)
 (hT:Tabs W)(hE:ErrT W)(low:∀b,b<W.heap.size→col b=0)(hW:Below W.heap.size W w):Sit W w'.heap.size w' col g gw tb c s:=by
 have z:∀b,w.heap.size≤b→col b=0:=fun b hb=>by
  by_cases e:col b=0
  · exact e
  have:=hm.fin b e;omega
 have hW':=hW.trans (hb.mono hW.size);refine⟨hs,⟨L,css,hm.call hb⟩,⟨A,n,k,hw,fun hn ad e=>⟨h3 hn ad e,?_⟩⟩,⟨z gw h1,hw.blk.lt⟩,⟨z tb h2,Blk.lt hw.tab⟩,hT.below hW' hT.size,qai hE hW',low,⟨hT.size,hW'.size,tA4 _⟩,hW'⟩;obtain⟨ad',e',hlt,_⟩:=hw.seed.2 hn;rw[e]at e';injection e' with e';subst e';exact hlt
theorem xb5 {c:Cfg}{id:Nat}{R:Req}(hid:id<4294967296)(hg:R.Good):(byR c id R).Good:=
 {hg with tag:=qjv _ _,tagb:=qjw _ _,tid:=hid,cavn:=fun x hx=>(nomatch hx),cavk:=fun x hx=>(nomatch hx)}
def Req.goodB (R:Req):Bool:=
 decide (R.tag.length=32)&&R.tag.all (fun b=>decide (b<256))&&decide (R.tid<4294967296)&&R.cavs.isEmpty&&(Lit.int .i64 R.op).wf&&(Lit.int .i64 R.tree).wf&&(Lit.int .i64 R.tenant).wf&&(Lit.int .i64 R.role).wf&&(Lit.int .i64 R.state).wf&&(Lit.int .i64 R.weight).wf&&decide (R.id<4294967296)&&decide (R.lo<18446744073709551616)&&decide (R.hi<18446744073709551616)&&decide (R.rate<4294967296)&&decide (R.burst<4294967296)&&decide (R.store<4294967296)&&decide (R.expires<18446744073709551616)&&R.leaf.all (fun b=>decide (b<256))
theorem xb6 (R:Req)(h:R.goodB=true):R.Good:=by
 simp only[Req.goodB,Bool.and_eq_true,decide_eq_true_eq,List.all_eq_true,List.isEmpty_iff]at h;obtain⟨⟨⟨⟨⟨⟨⟨⟨⟨⟨⟨⟨⟨⟨⟨⟨⟨h1,h2⟩,h3⟩,h4⟩,h5⟩,h6⟩,h7⟩,h8⟩,h9⟩,h10⟩,h11⟩,h12⟩,h13⟩,h14⟩,h15⟩,h16⟩,h17⟩,h18⟩:=h;exact⟨h1,h2,h3,(by rw[h4];intro x hx;cases hx),(by rw[h4];intro x hx;cases hx),h5,h6,h7,h8,h9,h10,h11,h12,h13,h14,h15,h16,h17,h18⟩
theorem xb7 (W:World)(hT:Tabs W)(hE:ErrT W):Zc 27 #[] W fun e w'=>∃g gw tb B col,e=.returned (.tuple #[.pointer (some ⟨g,0,none⟩),.pointer (some ⟨gw,0,none⟩),.bool true])∧Sit W B w' col g gw tb KC K3:=by
 obtain⟨HT,HE⟩:=zh2 hT hE;clear hT hE;go_enter Tryz.func27,Tryz.ntmps27
 go_wp2_with fail
 refine(xar W).mono ?_;rintro e w1 ⟨A1,c1,rfl,r1,l1,-,-,b1⟩;have B1:=zh1 b1;have CN:=xap KC A1 1 c1 w1 KC_ok r1 (HT.below b1 HT.size);have AL:=zh1 CN;clear b1 r1 l1 CN;go_wp2_with fail
 refine AL.o.mono ?_;rintro e w2 ⟨g,L,css,col,rfl,m2,z2,b2⟩;obtain⟨M2,Z2,B2⟩:=zh3 m2 z2 b2;clear m2 z2 b2;go_wp2_with fail
 refine(xar w2).mono ?_;rintro e w3 ⟨A3,c3,rfl,r3,l3,-,-,b3⟩;have CW:=xas KC A3 1 c3 w3 r3;obtain⟨AM,B3,L3⟩:=zh3 CW b3 l3;clear CW r3 l3 b3;go_wp2_with fail
 refine AM.o.mono ?_;rintro e w4 ⟨gw,tb,rfl,wa4,lg,lt,b4⟩;have st4:Sit W w4.heap.size w4 col g gw tb KC (newS KC):=by
  have b24:=B3.trans (b4.mono B3.size);refine Sit.make qsh M2.o b24 wa4 (tB1 B3.size lg) (tB1 B3.size lt) (fun _ ad e=>?_) HT.o HE.o (fun b hb=>Z2.o b (tB0 hb B1.size)) (B1.trans (B2.mono B1.size));by_cases e0:col ad.block=0
  · exact e0
  have h1:=M2.fin _ e0;have h2:=L3.o ad e;omega
 obtain⟨B,hB⟩:=xeq w4.heap.size;rw[hB]at st4;have S4:=zh1 st4;clear st4 wa4 lg lt b4 hB;go_upto_region 5 with(fail)
 obtain⟨Q5,hQ5⟩:=xeq (reqv qv2 (.slice none 0 0) (.slice none 0 0));have AN:=zh1 (show Tryz.prog.built 34 [(0,.int .i64 12),(3,.int .i64 1),(10,.int .u32 9),(11,.int .u32 9),(12,.int .u32 999)]=some Q5.toArray by rw[←hQ5];kernel_rfl);have A0:=xa0 S4.o KC_ok 0 0 rfl zdc qv2 zdc (.slice none 0 0) (.slice none 0 0) rfl rfl;rw[hQ5]at A0;have A2:=zh1 A0;clear A0 hQ5;go_wp2_with (refine qbj rfl ⟨.agg Q5.toArray,qgn 34 _ rfl _ _ AN.o (by simp[Act.eval]),?_⟩)
 refine A2.o.mono ?_;rintro e w5 ⟨rfl,s5,b5⟩;have A4:=xa1 s5 KC_ok 0 qv2 none 0 0 rfl qv7 (xb5 zdc (by exact xb6 _ zdc)) ⟨rfl,fun h=>absurd h zdc⟩ (tA4 _) (by simp[maxLen]) (fun h=>absurd h zdc);obtain⟨P5,hP5⟩:=xeq (reqv (byR KC 0 qv2) (.slice none 0 0) (.slice none 0 0));rw[hP5]at A4 ⊢;obtain⟨A5,S5,AO⟩:=zh3 A4 s5 b5;clear A4 hP5 s5 b5;go_wp2_with fail
 refine A5.o.mono ?_;rintro e v5 ⟨X5,col5,rfl,hX5,t5,r5⟩;have pk5:=hX5.pk;obtain⟨AE,R5,AF,N5⟩:=zh4 hX5 r5 (qzz t5 X5) (Blk.new v5 57 Tryz.zeroCells57);clear hX5 t5 r5;go_upto_region 6 with(refine qqj _ _ _ X5 N5.o pk5 ?_)
 obtain⟨W5,G5,hW5,hG5,U5,AP,AQ⟩:=AF.o;rw[hW5,hG5];clear hW5 hG5 AF N5 pk5;have B0:=zh1 (((Rest.of_below AO.o).trans R5.o).trans (Rest.of_below AQ.o));obtain⟨Q6,hQ6⟩:=xeq (reqv qv3 (.slice none 0 0) (.slice none 0 0));have AR:=zh1 (show Tryz.prog.built 34 [(0,.int .i64 6),(2,.int .i64 1),(3,.int .i64 1),(6,.int .i64 1)]=some Q6.toArray by rw[←hQ6];kernel_rfl);have A6:=xa0 U5.o KC_ok 0 0 rfl zdc qv3 zdc (.slice none 0 0) (.slice none 0 0) rfl rfl;rw[hQ6]at A6;have A7:=zh1 A6;clear A6 hQ6;go_wp2_with (refine qbj rfl ⟨.agg Q6.toArray,qgn 34 _ rfl _ _ AR.o (by simp[Act.eval]),?_⟩)
 refine A7.o.mono ?_;rintro e w6 ⟨rfl,s6,b6⟩;have A8:=xa1 s6 KC_ok 0 qv3 none 0 0 rfl qv8 (xb5 zdc (by exact xb6 _ zdc)) ⟨rfl,fun h=>absurd h zdc⟩ (tA4 _) (by simp[maxLen]) (fun h=>absurd h zdc);obtain⟨P6,hP6⟩:=xeq (reqv (byR KC 0 qv3) (.slice none 0 0) (.slice none 0 0));rw[hP6]at A8 ⊢;obtain⟨A9,S6,AS⟩:=zh3 A8 s6 b6;clear A8 hP6 s6 b6;go_wp2_with fail
 refine A9.o.mono ?_;rintro e v6 ⟨X6,col6,rfl,hX6,t6,r6⟩;have pk6:=hX6.pk;obtain⟨AG,R6,AH,N6⟩:=zh4 hX6 r6 (qzz t6 X6) (Blk.new v6 57 Tryz.zeroCells57);clear hX6 t6 r6;go_upto_region 7 with(refine qqj _ _ _ X6 N6.o pk6 ?_)
 obtain⟨W6,G6,hW6,hG6,U6,AT,AU⟩:=AH.o;rw[hW6,hG6];clear hW6 hG6 AH N6 pk6;have AV:=zh1 (((Rest.of_below AS.o).trans R6.o).trans (Rest.of_below AU.o));obtain⟨Q7,hQ7⟩:=xeq (reqv qv4 (.slice none 0 0) (.slice none 0 0));have AW:=zh1 (show Tryz.prog.built 34 [(0,.int .i64 10),(3,.int .i64 1),(4,.int .i64 2),(13,.int .u64 99)]=some Q7.toArray by rw[←hQ7];kernel_rfl);have AA:=xa0 U6.o KC_ok 0 0 rfl zdc qv4 zdc (.slice none 0 0) (.slice none 0 0) rfl rfl;rw[hQ7]at AA;have AB:=zh1 AA;clear AA hQ7;go_wp2_with (refine qbj rfl ⟨.agg Q7.toArray,qgn 34 _ rfl _ _ AW.o (by simp[Act.eval]),?_⟩)
 refine AB.o.mono ?_;rintro e w7 ⟨rfl,s7,b7⟩;have AC:=xa1 s7 KC_ok 0 qv4 none 0 0 rfl qv9 (xb5 zdc (by exact xb6 _ zdc)) ⟨rfl,fun h=>absurd h zdc⟩ (tA4 _) (by simp[maxLen]) (fun h=>absurd h zdc);obtain⟨P7,hP7⟩:=xeq (reqv (byR KC 0 qv4) (.slice none 0 0) (.slice none 0 0));rw[hP7]at AC ⊢;obtain⟨AD,S7,AX⟩:=zh3 AC s7 b7;clear AC hP7 s7 b7;go_wp2_with fail
 refine AD.o.mono ?_;rintro e v7 ⟨X7,col7,rfl,hX7,t7,r7⟩;have pk7:=hX7.pk;obtain⟨AI,R7,AJ,N7⟩:=zh4 hX7 r7 (qzz t7 X7) (Blk.new v7 57 Tryz.zeroCells57);clear hX7 t7 r7;go_upto_region 8 with(refine qqj _ _ _ X7 N7.o pk7 ?_)
 obtain⟨W7,G7,hW7,hG7,U7,AY,AZ⟩:=AJ.o;rw[hW7,hG7];clear hW7 hG7 AJ N7 pk7;have AK:=zh1 (((Rest.of_below AX.o).trans R7.o).trans (Rest.of_below AZ.o));have x5:=(AP.rest AV.o).rest AK.o;have x6:=AT.rest AK.o;have x7:=AY.o;have a0:=(x5.blk.cell 0).trans (show X5.toArray[0]? =some (.int .i64 0) by rw[tA3];exact AE.why);have a1:=(x5.blk.cell 1).trans (show X5.toArray[1]? =some (.int .u64 1) by rw[tA3];exact AE.n);have b0:=(x6.blk.cell 0).trans (show X6.toArray[0]? =some (.int .i64 0) by rw[tA3];exact AG.why);have b1:=(x6.blk.cell 1).trans (show X6.toArray[1]? =some (.int .u64 1) by rw[tA3];exact AG.n);have c0:=(x7.blk.cell 0).trans (show X7.toArray[0]? =some (.int .i64 0) by rw[tA3];exact AI.why);have c1:=(x7.blk.cell 1).trans (show X7.toArray[1]? =some (.int .u64 1) by rw[tA3];exact AI.n);clear x5 x6 x7;obtain⟨S,HS9⟩:=zS fun w'=>(w'.cell? ⟨G5,0,none⟩=some (.int .i64 0)∧w'.cell? ⟨G5,1,none⟩=some (.int .u64 1))∧(w'.cell? ⟨G6,0,none⟩=some (.int .i64 0)∧w'.cell? ⟨G6,1,none⟩=some (.int .u64 1))∧(w'.cell? ⟨G7,0,none⟩=some (.int .i64 0)∧w'.cell? ⟨G7,1,none⟩=some (.int .u64 1))
 refine xb0 S [0,1,2,3,4,5,6,7,8,9,10,11,12,13,14,15,16,17,18,19,20,21,22,23,24,25,26,27,28,29,30,31,32] [(0,none),(1,none),(2,none),(3,some false),(4,none),(5,none),(6,none),(7,some false),(8,none),(9,none),(10,none),(11,none),(12,some false),(13,none),(14,none),(15,none),(16,none),(17,some false),(18,none),(19,none),(20,none),(21,none),(22,some false),(23,none),(24,none),(25,none),(26,none),(27,some false),(28,none),(29,none),(30,none),(31,none),(32,none)] zk rfl zk zk (fun _ _ d _ _ h=>by cases d<;>exact h) ((HS9.o _).mpr (⟨⟨a0,a1⟩,⟨b0,b1⟩,⟨c0,c1⟩⟩)) ?_;have F0:=zh1 (fun(w':World)(h:S w')=>(HS9.o w').mp h);clear a0 a1 b0 b1 c0 c1;iterate 33 (first
  |(refine xb2 rfl rfl ⟨?_,fun w1=>?_,?_⟩;rotate_left;(focus(go_simp;try rfl));simp only[Act.put,tA0,tA1,tA2])
  |(refine xb3 rfl rfl ⟨?_,fun w1 hS=>?_,?_⟩;rotate_left;(focus(obtain⟨⟨a0,a1⟩,⟨b0,b1⟩,⟨c0,c1⟩⟩:=F0.o w1 hS;clear hS;go_simp;try rfl));simp only[Act.put,tA0,tA1,tA2]))
 refine xb1 ?_;clear HS9 F0;go_wp2_with fail
 go_ret3
 exact⟨g,gw,tb,B,col7,rfl,U7.drew⟩
def xba (t:Tok)(x:Int × Nat):Tok:=if (qk2 t x).2=0 then(qk2 t x).1 else t
def xbb (c:Cfg)(S:Stp):Tok:=(S.cavs.take 4).foldl xba (qk7 (qmd c.seed) (S.who % 4294967296).toNat)
def xbc (c:Cfg)(S:Stp):Req:=
 let r:=if 0≤S.who then {S.r with tid:=(xbb c S).1,cavs:=(xbb c S).2.1,tag:=(xbb c S).2.2} else S.r
 {r with leaf:=r.leaf.take 512}
def bytesOf (c:Cfg)(S:Stp):Option (List Nat):=
 if S.kind=5 then some (S.raw.take 400) else if (qit (xbc c S)).1=0 then some (qit (xbc c S)).2 else none
def xbd (c:Cfg)(s:Sta)(S:Stp):Sta × List Nat:=
 if S.kind=2 then(seqS c s,[])
 else if S.kind=3 then(qmy s,[])
 else if S.kind=4 then(qmz s S.n,[])
 else if S.kind=1∨S.kind=5 then(match bytesOf c S with|some b=>askS c s b|none=>(s,[]))
 else(s,[])
theorem xbe {x:Int}(h1:0≤x)(h2:x<256):(Lit.int .i64 x).wf=true:=by
 refine(Go.Lit.wf_int_iff _ _).2 ?_;rw[IntKind.min_i64,IntKind.max_i64];omega
structure Req.Deci (R:Req):Prop where
 ints:∀o,o=35∨o=36∨o=37∨o=38∨o=39→0≤R.num o∧R.num o<256
 mids:∀o,o=40∨o=43∨o=44∨o=45→R.num o<4294967296
 longs:∀o,o=41∨o=42∨o=46→R.num o<18446744073709551616
 leafb:∀b∈R.leaf,b<256
theorem xbf {R:Req}(h:R.Deci){f:Fld}(hf:IsFld f)(n:Nat)(hn:n<256^f.1):(R.put f.2.2 n).Deci:=by
 have h1:=h.ints;have h2:=h.mids;have h3:=h.longs;rcases hf with rfl|rfl|rfl|rfl|rfl|rfl|rfl|rfl|rfl|rfl|rfl|rfl|rfl<;>
 ·
  refine⟨fun o ho=>?_,fun o ho=>?_,fun o ho=>?_,h.leafb⟩
  · have:=h1 o ho
    rcases ho with rfl|rfl|rfl|rfl|rfl<;>simp only[Req.put,Req.num]at hn this ⊢<;>omega
  · have:=h2 o ho
    rcases ho with rfl|rfl|rfl|rfl<;>simp only[Req.put,Req.num]at hn this ⊢<;>omega
  have:=h3 o ho;rcases ho with rfl|rfl|rfl<;>simp only[Req.put,Req.num]at hn this ⊢<;>omega
theorem xbg (bs:List Nat)(hb:∀x∈bs,x<256):∀(l:List Fld) (s:RSt) (R:Req),(∀f∈l,IsFld f)→R.Deci→(qia bs l s R).2.Deci
 |[],s,R,_,h=>h
 |f::l,s,R,hl,h=>by
  unfold qia;split
  · exact xbg bs hb l _ _ (fun g hg=>hl g (List.mem_cons_of_mem _ hg)) ⟨h.ints,h.mids,h.longs,qhl bs s 256 hb⟩
  exact xbg bs hb l _ _ (fun g hg=>hl g (List.mem_cons_of_mem _ hg)) (xbf h (hl f zm) _ (qgd bs s f.1 hb))
theorem xbh (bs:List Nat):∀(l:List Fld) (s:RSt) (R:Req),(qia bs l s R).2.op=R.op∧(qia bs l s R).2.tid=R.tid∧(qia bs l s R).2.cavs=R.cavs∧(qia bs l s R).2.tag=R.tag
 |[],s,R=>⟨rfl,rfl,rfl,rfl⟩
 |f::l,s,R=>by
  unfold qia;split
  · exact xbh bs l _ _
  obtain⟨h1,h2,h3,h4⟩:=xbh bs l (rNum bs s f.1).1 (R.put f.2.2 (rNum bs s f.1).2);obtain⟨e1,e2,e3,-,e5⟩:=qip R f.2.2 (rNum bs s f.1).2;exact⟨h1.trans e5,h2.trans e1,h3.trans e2,h4.trans e3⟩
theorem xbi (bs:List Nat)(hb:∀x∈bs,x<256):∀x∈(qh1 bs).2.2.1,(Lit.int .i64 x.1).wf=true:=by
 cases h:(qh1 bs).1 with
 |none=>
  obtain⟨id,l,tag,e,h1,h2,h3,h4,h5,-⟩:=qhu bs hb h;rw[e];intro x hx;obtain⟨a,b⟩:=qd6 (h3 x hx).1;exact xbe zo zo
 |some x=>
  have e:qh1 bs=(some x,qgq):=by
   unfold qh1 at h ⊢;split
   · rename_i h1
     rw[h1]at h;cases h
   rename_i y h1
   rw[h1]at h;injection h with h;rw[h]
  rw[e];intro c hc;cases hc
theorem xbj {R:Req}(hd:R.Deci)(hT:R.tag.length=32∧(∀b∈R.tag,b<256)∧R.tid<4294967296∧(∀x∈R.cavs,x.2<4294967296)∧∀x∈R.cavs,(Lit.int .i64 x.1).wf=true)(ho:0≤R.op∧R.op<256):R.Good:=by
 have a:=fun o h=>hd.ints o h
 have b:=fun o h=>hd.mids o h
 have d:=fun o h=>hd.longs o h
 have num35:=a 35 zm;have num36:=a 36 zm;have num37:=a 37 zm;have num38:=a 38 zm;have num39:=a 39 zm;have num40:=b 40 zm;have num43:=b 43 zm;have num44:=b 44 zm;have num45:=b 45 zm;have num41:=d 41 zm;have num42:=d 42 zm;have num46:=d 46 zm;simp only[Req.num]at num35 num36 num37 num38 num39 num40 num41 num42 num43 num44 num45 num46;exact⟨hT.1,hT.2.1,hT.2.2.1,hT.2.2.2.1,hT.2.2.2.2,xbe ho.1 ho.2,xbe num35.1 num35.2,xbe num36.1 num36.2,xbe num37.1 num37.2,xbe num38.1 num38.2,xbe num39.1 num39.2,by omega,by omega,by omega,by omega,by omega,by omega,by omega,hd.leafb⟩
theorem xbk (bs:List Nat)(hb:∀x∈bs,x<256):(qie bs).2.Good:=by
 have hlt:=qhl bs (0,none) 77 hb;have hT:=qhv (qhk bs (0,none) 77).2 hlt;have hk:=xbi (qhk bs (0,none) 77).2 hlt;have hn:=qgd bs (qib bs) 1 hb;have d0:∀(T:Tok) (k:Int),(req0 T k).Deci:=fun T k=>⟨fun o ho=>by rcases ho with rfl|rfl|rfl|rfl|rfl<;>simp[req0,Req.num],fun o ho=>by rcases ho with rfl|rfl|rfl|rfl<;>simp[req0,Req.num],fun o ho=>by rcases ho with rfl|rfl|rfl<;>simp[req0,Req.num],by simp[req0]⟩
 have hz:qid.Good:=xbj (d0 _ _) ⟨by simp[qid,req0,qgq],by intro x hx;simp[qid,req0,qgq]at hx;omega,by decide,fun c hc=>(nomatch hc),fun c hc=>(nomatch hc)⟩ zdc;unfold qie;split
 ·
  unfold qic;split
  · exact xbj (d0 _ _) ⟨hT.1.2.2.1,hT.1.2.2.2,hT.1.1,hT.1.2.1,hk⟩ (by show 0≤((rNum bs (qib bs) 1).2:Int)∧_;simp only[req0];omega)
  rename_i l hl
  obtain⟨e1,e2,e3,e4⟩:=xbh bs l (rNum bs (qib bs) 1).1 (req0 (reqT bs) ((rNum bs (qib bs) 1).2:Int));refine xbj (xbg bs hb l _ _ (fun f hm=>qi3 _ l hl f hm) (d0 _ _)) ?_ ?_
  · rw[e2,e3,e4]
    exact⟨hT.1.2.2.1,hT.1.2.2.2,hT.1.1,hT.1.2.1,hk⟩
  rw[e1];simp only[req0];omega
 exact hz
theorem xbl (R:Req)(h1:∀x∈R.leaf,x<256)(h2:∀x∈R.tag,x<256):∀x∈(qit R).2,x<256:=by
 have ht:∀x∈(qd7 R.tid R.cavs R.tag).2,x<256:=by
  unfold qd7;split
  · intro x hx;cases hx
  split
  ·
   intro x hx;simp only[tBg]at hx;rcases hx with((h|h)|h)|h
   · exact qaz _ _ x h
   · exact qaz _ _ x h
   · unfold cavb at h
     obtain⟨y,_,hy⟩:=List.mem_flatMap.1 h;simp only[tBg]at hy;rcases hy with hy|hy<;>exact qaz _ _ x hy
   exact h2 x h
  intro x hx;cases hx
 unfold qit;split
 ·
  split
  ·
   intro x hx;rcases List.mem_append.1 hx with h|h
   · unfold txt at h
     rcases List.mem_append.1 h with h|h
     · exact qaz _ _ x h
     exact ht x (tB7 h)
   exact qrc R h1 x h
  intro x hx;cases hx
 intro x hx;cases hx
theorem xbm (root:List Nat)(id:Nat)(h:id<4294967296):(qk7 root id).Ok∧∀x∈(qk7 root id).2.1,(Lit.int .i64 x.1).wf=true:=⟨qkc root id h,fun x hx=>(nomatch hx)⟩
theorem xbn {t:Tok}{x:Int × Nat}(h:t.Ok∧∀x∈t.2.1,(Lit.int .i64 x.1).wf=true)(hx:x.2<4294967296)(hk:(Lit.int .i64 x.1).wf=true):(xba t x).Ok∧∀y∈(xba t x).2.1,(Lit.int .i64 y.1).wf=true:=by
 unfold xba;split
 ·
  refine⟨qkd t x h.1 hx,?_⟩;unfold qk2;split
  ·
   split
   · intro y hy
     rcases List.mem_append.1 hy with h1|h1
     · exact h.2 y h1
     obtain rfl:=List.mem_singleton.1 h1;exact hk
   intro y hy;cases hy
  intro y hy;cases hy
 exact h
theorem xbo:∀(l:List (Int × Nat)) (t:Tok),(t.Ok∧∀x∈t.2.1,(Lit.int .i64 x.1).wf=true)→(∀x∈l,x.2<4294967296)→(∀x∈l,(Lit.int .i64 x.1).wf=true)→(l.foldl xba t).Ok∧∀y∈(l.foldl xba t).2.1,(Lit.int .i64 y.1).wf=true
 |[],t,h,_,_=>h
 |x::l,t,h,h1,h2=>xbo l _ (xbn h (h1 x zm) (h2 x zm)) (fun y hy=>h1 y (by simp[hy])) (fun y hy=>h2 y (by simp[hy]))
theorem xbp (c:Cfg){S:Stp}(hr:S.r.Good)(h1:∀x∈S.cavs,x.2<4294967296)(h2:∀x∈S.cavs,(Lit.int .i64 x.1).wf=true):(xbc c S).Good:=by
 have ht:=xbo (S.cavs.take 4) (qk7 (qmd c.seed) (S.who % 4294967296).toNat) (xbm _ _ zo) (fun x hx=>h1 x (tB7 hx)) (fun x hx=>h2 x (tB7 hx));have hg:(if 0≤S.who then {S.r with tid:=(xbb c S).1,cavs:=(xbb c S).2.1,tag:=(xbb c S).2.2} else S.r:Req).Good:=by
  split
  · exact {hr with tid:=ht.1.1,cavn:=ht.1.2.1,tag:=ht.1.2.2.1,tagb:=ht.1.2.2.2,cavk:=ht.2}
  exact hr
 unfold xbc;exact {hg with leafb:=fun b hb=>hg.leafb b (tB7 hb)}
theorem xbq (c:Cfg){S:Stp}(hr:S.r.Good)(h1:∀x∈S.cavs,x.2<4294967296)(h2:∀x∈S.cavs,(Lit.int .i64 x.1).wf=true)(h3:∀b∈S.raw,b<256){bs:List Nat}(h:bytesOf c S=some bs):∀x∈bs,x<256:=by
 have hg:=xbp c hr h1 h2;unfold bytesOf at h;split at h
 · injection h with h
   subst h;exact fun x hx=>h3 x (tB7 hx)
 split at h
 · injection h with h
   subst h;exact xbl _ hg.leafb hg.tagb
 cases h
theorem xbr (R:Req)(cav leafv:Value)(hc:cav.oneCell'=true)(hl:leafv.oneCell'=true):∀u∈reqv R cav leafv,u.oneCell'=true:=by
 intro u hu;unfold reqv at hu;rcases List.mem_append.1 hu with hu|hu
 · rcases List.mem_cons.1 hu with rfl|hu
   · rfl
   exact qed _ _ hc _ u hu
 simp[Req.rest]at hu;rcases hu with rfl|rfl|rfl|rfl|rfl|rfl|rfl|rfl|rfl|rfl|rfl|rfl|rfl<;>first|rfl|exact hl
theorem xbs (c:Cfg)(s:Sta)(L:Loc)(col:Col)(g:Nat)(css:List (List Value))(bs:List Nat)(A:Option Addr)(n cc:Nat)(w:World)(hc:c.Ok)(hs:s.Ok)(h:Mdl w col 2 g c s L css)
 (hr:Reads w w.heap.size 1 A n (byv bs))(hn:n≤140737488355328)(hb:∀x∈bs,x<256)(hT:Tabs w)(hE:w.cell? ⟨0,0,none⟩=some (.iface 327 (.agg #[.pointer (some ⟨3,81,none⟩)]))):
 Zc 30 #[.pointer (some ⟨g,0,none⟩),.slice A n cc] w fun e w'=>∃v col' L' css',e=.returned v∧OwnB w' w.heap.size v (askS c s bs).2∧(∀g,v.ownBlock=some g→col' g=0)∧Mdl w' col' 2 g c (askS c s bs).1 L' css'∧Rest w col w' col':=by
 obtain⟨AV,hAV⟩:=xeq (askS c s bs);rw[hAV];have bT:=qq8 (12:Int);rw[show (Value.int .i64 (12:Int)::.int .u64 0::.slice none 0 0::.slice none 0 0::(hdv Hd.zero++tokv qgq.1 (.slice none 0 0) qgq.2.2))=qq9 (rWhy 12) from rfl]at bT;have lX:=qqa (rWhy 12) Hd.zero_Ok (by simp[rWhy,qir,qgq]);have oX:=qqb (rWhy 12);obtain⟨X,hX⟩:=xeq (qq9 (rWhy 12));rw[hX]at bT lX oX;have z0:=Blk.new w 57 Tryz.zeroCells57;obtain⟨Z0,BT,LX,OX,HX,AC,H,HS⟩:=zh8 z0 bT lX oX hX hAV h hs;obtain⟨HC,AD,HE,HR,HB,AE,A7⟩:=zh7 hc hT hE hr hb (zI 57 lX) qqc;clear bT lX oX hX z0 hAV h hs hc hT hE hr hb;go_enter Tryz.func30,Tryz.ntmps30
 go_upto_region 2 with(first
  |(refine qbj rfl ⟨.agg X.toArray,qgn 57 _ rfl _ _ BT.o (by simp[Act.eval]),?_⟩)
  |(refine zst Z0.o AE.o (by simp[LX.o,A7.o]) OX.o ?_))
 obtain⟨W1,hW1⟩:=eqx ((w.alloc (.cells Tryz.zeroCells57 57)).setRow w.heap.size X.toArray);rw[←hW1];obtain⟨Z1,B1⟩:=zh2 (show Blk W1 w.heap.size 57 X.toArray by rw[hW1];exact Z0.setRow _) (show Below w.heap.size w W1 by rw[hW1];exact below_setRow ((tA5 _ _).alloc (tA4 _) _) (tA4 _) _);clear hW1;obtain⟨R,hR⟩:=xeq ((qie bs).2);have CD:=qps bs A n cc W1 (HR.call B1.o) hn HB.o (qai HE.o B1.o);have hG:=xbk bs HB.o;rw[hR]at hG;simp only[hR]at CD;obtain⟨AG,HG,AH⟩:=zh3 CD hG hR;clear CD hG hR;go_upto_region 3 with(fail)
 go_wp2_with fail
 refine AG.o.mono ?_;rintro e w2 ⟨cav,lv,rv,rfl,oc,ol,re,b2⟩;obtain⟨Ac,cc2,hcv,hcc2,hcm2,rdc⟩:=qaf (e:=132) (size:=2) oc;obtain⟨Al,cl2,hlv,hcl2,hlm2,rdl⟩:=qaf (e:=5) (size:=1) ol;have lQ:=qiu R cav lv HG.tag;have oQ:=xbr R cav lv (by rw[hcv];rfl) (by rw[hlv];rfl);obtain⟨Q,hQ⟩:=xeq (reqv R cav lv);rw[hQ]at lQ oQ;rw[hQ];obtain⟨IQ,LQ,OQ,Z2,HQ,AI,AJ,AK⟩:=zh8 (zI 34 lQ) lQ oQ (Blk.new w2 34 zLQ) hQ hcv hlv rdc;obtain⟨AL,OC,OL,RE,B2⟩:=zh5 rdl oc ol re b2;clear lQ oQ hQ hcv hlv rdc rdl oc ol re b2;go_upto_region 3 with(refine wpList_store_row rfl 34 (.tmp 6) (.tmp 14) rfl w2.heap.size Q.toArray rfl rfl 34 _ Z2.o (by rw[tB6];exact IQ.o) (by simp[LQ.o]) (by simpa using OQ.o) ?_)
 obtain⟨W3,hW3⟩:=eqx ((w2.alloc (.cells zLQ 34)).setRow w2.heap.size Q.toArray);rw[←hW3];obtain⟨G6,hG6⟩:=eqx w2.heap.size;rw[←hG6];have q3:Blk W3 G6 34 Q.toArray:=by rw[hW3,hG6];exact Z2.setRow _
 have b3:Below w2.heap.size w2 W3:=by rw[hW3];exact below_setRow ((tA5 _ _).alloc (tA4 _) _) (tA4 _) _
 have b03:Below w.heap.size w W3:=(B1.trans (B2.mono B1.size)).trans (b3.mono (tB1 B1.size B2.size));have z2:=Z1.below B2.o Z1.lt;obtain⟨Z3,Q3,B3,A4⟩:=zh4 (z2.below b3 z2.lt) q3 b3 b03;have A5:=zh1 (show ∀b,w.heap.size≤b→col b=0 from fun b h=>by
  by_cases e:col b=0
  · exact e
  have:=H.fin b e;omega)
 clear hW3 hG6 q3 b3 b03 z2;rcases hdec:(qie bs).1 with _|y
 ·
  have hnil:rv=.nilIface:=by have:=RE.o;rw[hdec]at this;exact this
  subst hnil;have hav:=qs5 (c:=c) (s:=s) hdec;rw[AC.o,AH.o]at hav;have hlf:=AJ.o;have hcf:=AI.o;have hA:Asked W3 col R Ac cc2 Al cl2:=⟨HG.o,AL.call B3.o,hcl2,hlm2,AK.call B3.o,hcc2,hcm2,
   fun h ad e=>A5.o _ (tB1 B1.size (World.ownsRow.lt OL.o ad.block (by rw[hlf,e];rfl)).1),
   fun h ad e=>A5.o _ (tB1 B1.size (World.ownsRow.lt OC.o ad.block (by rw[hcf,e];rfl)).1)⟩
  have A8:=qvt c s L col g css R Ac cc2 Al cl2 W3 HC.o HS.o (H.call A4.o) hA (AD.below A4.o AD.size) (qai HE.o A4.o);rw[←hcf,←hlf,HQ.o]at A8;obtain⟨A0,A9,AA,AM⟩:=zh4 hav A8 (qzt (c:=c) HS.o HG.o) (qap Q3.o 0 Q (fun j u h=>by simpa using h));clear hav hA A8 hdec hlf hcf;go_wp2_with (refine zld AM.o zu34 IQ.o ?_)
  refine A9.o.mono ?_;rintro e w4 ⟨v,col',L',css',rfl,rv4,m4,r4⟩;obtain⟨V,hv,lV,oV⟩:=rv4.cells ⟨AA.hd,AA.tok.2.2.1⟩;subst hv;have z4:=r4.blk Z3.o (A5.o _ (tA4 _));have g0:col' w.heap.size=0:=(r4.block _ Z3.lt (A5.o _ (tA4 _))).2;obtain⟨AF,M5,R5,Z4,IV,LV,OV,Z5⟩:=zh8 (rv4.row (X:=V.toArray) z4 A4.size) (m4.row0 (.inl rfl) V.toArray g0) (((Rest.of_below (col:=col) A4.o).trans r4).newer (qam w4 w.heap.size V.toArray) (tA4 _)) z4 (zI 57 lV) lV oV (z4.setRow V.toArray);clear rv4 m4 r4 lV oV z4 g0;go_upto_region 5 with(refine zst Z4.o IV.o (by simp[LV.o,LX.o]) OV.o ?_)
  obtain⟨W5,hW5⟩:=eqx (w4.setRow w.heap.size V.toArray);rw[←hW5]at AF M5 R5 Z5 ⊢;clear hW5;obtain⟨bv,hvv,cv5,ev,o1,o2,o3,k1,k2,k3⟩:=AF.o;obtain⟨A1,c1,hb1,hbc,hbm,rb⟩:=qaf (e:=5) (size:=1) o1;obtain⟨A2,c2,hb2,hhc,hhm,rh⟩:=qaf (e:=29) (size:=32) o2.2;obtain⟨A3,c3,hb3,hcc,hcm,rc⟩:=qaf (e:=132) (size:=2) o3;subst hb1 hb2 hb3;have CA:=xb9 (doS c s R).2 A1 c1 A2 c2 A3 c3 W5 AA.o rb hbc hbm rh hhc hhm rc hcc hcm;injection ev with ev;rw[←ev]at CA;obtain⟨AB,AN⟩:=zh2 CA (qap Z5.o 0 V (fun j u h=>by simpa using h));clear CA ev rb rh rc hbc hbm hhc hhm hcc hcm o1 o2 o3 k1 k2 k3;go_wp2_with (refine zld AN.o zu57 IV.o ?_)
  refine AB.o.mono ?_;rintro e w6 ⟨v,rfl,ov,b6⟩;obtain⟨A6,B6⟩:=zh2 ov b6;clear ov b6;go_wp2
  go_ret
  refine⟨v,col',L',css',rfl,?_,fun g hg=>?_,?_,R5.trans (Rest.of_below B6.o)⟩
  · rw[A0.o]
    exact qdb A6.o R5.size
  · by_cases e:col' g=0
    · exact e
    have h1:=M5.fin g e;have h2:=(World.ownsRow.lt A6.o g hg).1;omega
  rw[A0.o];exact M5.call B6.o
 have re':=RE.o;rw[hdec]at re';obtain⟨hh,hrv,-,-⟩:=re';subst hrv;have hav:=qs4 (c:=c) (s:=s) hdec;rw[AC.o]at hav;have CA:=xb9 (rWhy 12) none 0 none 0 none 0 W3 (qzm 12) ⟨rfl,fun h=>absurd h (by show ¬0<0;omega)⟩ (tA4 _) (by simp[maxLen]) ⟨rfl,fun h=>absurd h (by show ¬0<0;omega)⟩ (tA4 _) (by simp[maxLen]) ⟨rfl,fun h=>absurd h (by show ¬0<0;omega)⟩ (tA4 _) (by simp[maxLen]);change Zc 78 #[.agg (qq9 (rWhy 12)).toArray] W3 _ at CA;rw[HX.o]at CA;obtain⟨A0,AB,AO⟩:=zh3 hav CA (qap Z3.o 0 X (fun j u h=>by simpa using h));clear hav CA hdec;go_wp2_with (refine zld AO.o zu57 AE.o ?_)
 refine AB.o.mono ?_;rintro e w6 ⟨v,rfl,ov,b6⟩;obtain⟨A6,B6⟩:=zh2 ov b6;clear ov b6;go_wp2
 go_ret
 refine⟨v,col,L,css,rfl,?_,fun g hg=>A5.o g (tB1 A4.size (World.ownsRow.lt A6.o g hg).1),?_,(Rest.of_below A4.o).trans (Rest.of_below B6.o)⟩
 · rw[A0.o]
   exact qdb A6.o A4.size
 rw[A0.o];exact(H.call A4.o).call B6.o
theorem xbt {W w:World}{col:Col}{B g gw tb:Nat}{c:Cfg}{s:Sta}(h:Sit W B w col g gw tb c s)(hc:c.Ok)(bs:List Nat)(A:Option Addr)(n cc:Nat)(hr:Reads w w.heap.size 1 A n (byv bs))(hn:n≤140737488355328)(hb:∀x∈bs,x<256):
 Zc 30 #[.pointer (some ⟨g,0,none⟩),.slice A n cc] w fun e w'=>∃v col',e=.returned v∧OwnB w' w.heap.size v (askS c s bs).2∧(∀g,v.ownBlock=some g→col' g=0)∧Sit W B w' col' g gw tb c (askS c s bs).1∧Rest w col w' col':=by
 obtain⟨L,css,h2⟩:=h.mdl;refine(xbs c s L col g css bs A n cc w hc h.ok h2 hr hn hb h.tabs h.err).mono ?_;rintro e w' ⟨v,col',L',css',rfl,h3,h4,h5,h6⟩;exact⟨v,col',rfl,h3,h4,h.next h6 (qs6 h.ok (xbk bs hb)) ⟨L',css',h5⟩,h6⟩
structure OwnAt (w:World)(col:Col)(B b:Nat)(t:TypeId)(X:List Value):Prop where
 blk:Blk w b t X.toArray
 col:col b=0
 low:B≤b
theorem OwnAt.rest {w w':World}{col col':Col}{B b:Nat}{t:TypeId}{X:List Value}(h:OwnAt w col B b t X)(hr:Rest w col w' col'):OwnAt w' col' B b t X:=⟨hr.blk h.blk h.col,(hr.block b h.blk.lt h.col).2,h.low⟩
theorem xbu {W v:World}{col:Col}{B g gw tb:Nat}{c:Cfg}{s:Sta}(h:Sit W B v col g gw tb c s)(t:TypeId)(cs:Array Value)(X:List Value):
 Sit W B ((v.alloc (.cells cs t)).setRow v.heap.size X.toArray) col g gw tb c s∧OwnAt ((v.alloc (.cells cs t)).setRow v.heap.size X.toArray) col B v.heap.size t X∧Below v.heap.size v ((v.alloc (.cells cs t)).setRow v.heap.size X.toArray):=by
 have hb:Below v.heap.size v ((v.alloc (.cells cs t)).setRow v.heap.size X.toArray):=below_setRow ((tA5 _ _).alloc (tA4 _) _) (tA4 _) _;exact⟨h.call hb,⟨(Blk.new _ _ _).setRow _,h.new0 (tA4 _),h.base.2.2⟩,hb⟩
theorem xbv {w w':World}{col col':Col}{A:Option Addr}{n:Nat}{xs:List Value}{sz:Nat}(h:Reads w w.heap.size sz A n xs∧(0<n→∀ad,A=some ad→col ad.block=0))(hr:Rest w col w' col'):Reads w' w'.heap.size sz A n xs∧(0<n→∀ad,A=some ad→col' ad.block=0):=by
 refine⟨hr.reads h.1 h.2,fun hn ad e=>?_⟩;obtain⟨ad',e',hlt,_⟩:=h.1.2 hn;rw[e]at e';injection e' with e';subst e';exact(hr.block _ hlt (h.2 hn ad e)).2
theorem xc2 {w:World}{base n c k:Nat}{A:Option Addr}{bs:List Nat}(h:OwnB w base (.slice A n c) bs)(hk:k≤bs.length):OwnB w base (.slice A k c) (bs.take k):=by
 have hn:n=bs.length:=by
  rcases h.2 with⟨e,h0⟩|⟨g,cap,cur,e,_⟩
  · injection e with e1 e2;omega
  injection e with e1 e2
 unfold OwnB;rw[tBd,Nat.min_eq_left hk];refine⟨by rw[qat,tBd];omega,?_⟩;rcases h.2 with⟨e,h0⟩|⟨g,cap,cur,e,hb,hh,hnc,hc,hsz,ht⟩
 · injection e with e1 e2 e3
   subst e1 e3;exact .inl ⟨by rw[show k=0 by omega],by omega⟩
 injection e with e1 e2 e3;subst e1 e3;refine .inr ⟨g,c,cur,rfl,hb,hh,by omega,hc,hsz,?_⟩;rw[Nat.mul_one]at ht ⊢;have:(byv bs).take k=byv (bs.take k):=by simp[byv,List.map_take]
 rw[←this,←ht,List.take_take,Nat.min_eq_left hk]
def Req.cut (R:Req):Req:={R with leaf:=R.leaf.take 512}
theorem xc3 {t:Tok}{l:List (Int × Nat)}{k:Nat}{x:Int × Nat}(h:l[k]? =some x):(l.take (k+1)).foldl xba t=xba ((l.take k).foldl xba t) x:=by
 obtain⟨hk,e⟩:=tA8 h;rw[List.take_succ_eq_append_getElem hk,List.foldl_append,e];rfl
def xc4 (c:Cfg)(S:Stp):Req:=if 0≤S.who then {S.r with tid:=(xbb c S).1,cavs:=(xbb c S).2.1,tag:=(xbb c S).2.2} else S.r
theorem xc5 (c:Cfg)(S:Stp):xbc c S=(xc4 c S).cut:=rfl
theorem xc6 (c:Cfg)(S:Stp):(xc4 c S).leaf=S.r.leaf:=by unfold xc4;split<;>rfl
theorem xc7 (c:Cfg)(S:Stp)(h:S.r.tag.length=32)(hk:∀x∈S.cavs,x.2<4294967296):(xc4 c S).tag.length=32:=by
 unfold xc4;split
 ·
  have key:∀(l:List (Int × Nat)) (t:Tok),t.Ok→(∀x∈l,x.2<4294967296)→(l.foldl xba t).Ok:=by
   intro l;induction l with
   |nil=>intro t h _;exact h
   |cons y l ih=>
    intro t ht hl;refine ih _ ?_ (fun x hx=>hl x (List.mem_cons_of_mem _ hx));unfold xba;split
    · exact qkd t y ht (hl y (List.mem_cons_self ..))
    exact ht
  exact(key _ _ (qkc _ _ zo) (fun x hx=>hk x (tB7 hx))).2.2.1
 exact h
theorem xc8 (R:Req)(t:Tok)(cav cav' leafv:Value)(ht:R.tag.length=32)(h2:t.2.2.length=32):over (reqv R cav leafv) 1 (tokv t.1 cav' t.2.2)=reqv {R with tid:=t.1,cavs:=t.2.1,tag:=t.2.2} cav' leafv:=by
 have l1:=qdc R.tid cav R.tag ht;have l2:=qdc t.1 cav' t.2.2 h2;unfold over reqv;rw[l2];simp only[List.cons_append,List.take_succ_cons,List.take_zero,List.nil_append];rw[show 1+34=34+1 by rfl,List.drop_succ_cons,←l1,List.drop_left];rfl
theorem xc9 {l:List (Int × Nat)}{k:Nat}(h:l.length≤k∨4≤k)(h4:k≤4):l.take k=l.take 4:=by
 rcases h with h|h
 · rw[tB5 h,tB5 zo]
 rw[show k=4 by omega]
structure RtI (B:Nat)(w:World)(d5 d9 d10:Bool)(R T v21 v25 v6:Value):Prop where
 root:d5=true→v21=R
 tok:d9=true→v25=T
 box:d10=true→∃g,v6=.pointer (some ⟨g,0,none⟩)∧B≤g∧Blk w g 31 qgv.toArray
 low:B≤w.heap.size
theorem RtI.call {B:Nat}{w w':World}{d5 d9 d10:Bool}{R T v21 v25 v6:Value}(h:RtI B w d5 d9 d10 R T v21 v25 v6)(b:Below w.heap.size w w'):RtI B w' d5 d9 d10 R T v21 v25 v6:=
 ⟨h.root,h.tok,fun e=>by obtain⟨g,h1,h2,h3⟩:=h.box e;exact⟨g,h1,h2,h3.below b h3.lt⟩,tB1 h.low b.size⟩
theorem RtI.a5 {B:Nat}{w:World}{d5 d9 d10:Bool}{R T v21 v25 v6:Value}(h:RtI B w d5 d9 d10 R T v21 v25 v6)(d:Bool):RtI B w d d9 d10 R T R v25 v6:=⟨fun _=>rfl,h.tok,h.box,h.low⟩
theorem RtI.a9 {B:Nat}{w:World}{d5 d9 d10:Bool}{R T v21 v25 v6:Value}(h:RtI B w d5 d9 d10 R T v21 v25 v6)(d:Bool):RtI B w d5 d d10 R T v21 T v6:=⟨h.root,fun _=>rfl,h.box,h.low⟩
theorem RtI.a10 {B:Nat}{w:World}{d5 d9 d10:Bool}{R T v21 v25 v6:Value}(h:RtI B w d5 d9 d10 R T v21 v25 v6)(d:Bool):RtI B (w.alloc (.cells qgv.toArray 31)) d5 d9 d R T v21 v25 (.pointer (some ⟨w.heap.size,0,none⟩)):=
 ⟨h.root,h.tok,fun _=>⟨_,rfl,h.low,Blk.new _ _ _⟩,by rw[qar];exact Nat.le_succ_of_le h.low⟩
theorem xca (gw tb:Nat)(c:Cfg)(A0:Option Addr)(n0 k0:Nat)(S:Stp)(cs:List Value)(w:World)(hw:WldAt w gw tb c A0 n0 k0)(hc:c.Ok)(hs:StpR w cs S):
 Zc 35 #[.pointer (some ⟨gw,0,none⟩),.agg cs.toArray] w fun e w'=>∃cav lv,e=.returned (.agg (reqv (xbc c S) cav lv).toArray)∧OwnC w' w.heap.size cav (xbc c S).cavs∧OwnB w' w.heap.size lv (xbc c S).leaf∧Below w.heap.size w w':=by
 obtain⟨Ac,cc,Al,cl,Ak,ck,Ar,cr,rfl,hg,⟨hc1,hc2,hc3,hc4⟩,⟨hl1,hl2,hl3,hl4⟩,⟨hk1,hk2,hk3,hk4,hk5⟩,-,-,-,hwho⟩:=hs;have lC:=qnr S (.slice Ac S.r.cavs.length cc) (.slice Al S.r.leaf.length cl) (.slice Ak S.cavs.length ck) (.slice Ar S.raw.length cr) hg.tag;have rq:=qns S (.slice Ac S.r.cavs.length cc) (.slice Al S.r.leaf.length cl) (.slice Ak S.cavs.length ck) (.slice Ar S.raw.length cr);have c49:=qnt S (.slice Ac S.r.cavs.length cc) (.slice Al S.r.leaf.length cl) (.slice Ak S.cavs.length ck) (.slice Ar S.raw.length cr) hg.tag 0;have c50:=qnt S (.slice Ac S.r.cavs.length cc) (.slice Al S.r.leaf.length cl) (.slice Ak S.cavs.length ck) (.slice Ar S.raw.length cr) hg.tag 1;obtain⟨C,hC⟩:=xeq (stpv S (.slice Ac S.r.cavs.length cc) (.slice Al S.r.leaf.length cl) (.slice Ak S.cavs.length ck) (.slice Ar S.raw.length cr));rw[hC]at lC rq c49 c50 ⊢;obtain⟨wh,hwh⟩:=xeq S.who;obtain⟨nk,hnk⟩:=xeq S.cavs.length;rw[hnk]at c50 hk1 hk3;rw[hwh]at c49 hwho;obtain⟨W0,hW0⟩:=eqx ((w.alloc (.cells C.toArray 44)).alloc (.cells zLQ 34));have t0:Blk W0 w.heap.size 44 C.toArray:=by rw[hW0];exact(Blk.new _ _ _).alloc _
 have z0:Blk W0 (w.heap.size+1) 34 zLQ:=by
  have h:=Blk.new (w.alloc (.cells C.toArray 44)) 34 zLQ;rw[qar]at h;rw[hW0];exact h
 have b0:Below w.heap.size w W0:=by rw[hW0];exact qah (qah (tA5 _ _) _) _
 have lQ0:=qiu S.r (.slice Ac S.r.cavs.length cc) (.slice Al S.r.leaf.length cl) hg.tag;have CC:=qzi S.r Ac S.r.cavs.length cc Al S.r.leaf.length cl W0 hg.tag (hc3.call b0) zo (hl3.call b0) zo;obtain⟨Q0,hQ0⟩:=xeq (reqv S.r (.slice Ac S.r.cavs.length cc) (.slice Al S.r.leaf.length cl));rw[hQ0]at lQ0 rq CC;have hrq:W0.rangeAt w.heap.size 1 Q0:=qap t0 1 Q0 (fun j u h=>rq j u h);obtain⟨B3,B4,B5,B7,T0,Z0,B0,B8⟩:=zh8 CC hrq (zI 34 lQ0) hW0 t0 z0 b0 (hw.call b0);obtain⟨HC,HG,B9,BA,BY,A6,AD,BZ⟩:=zh8 hc hg (hk3.call b0) hk4 hk5 hwh hnk (show nk≤maxLen by omega);obtain⟨BC,C0,BD,BE,BF⟩:=zh5 (xc7 c S hg.tag hk4) hwho c49 c50 (show W0.heap.size=w.heap.size+1+1 by rw[hW0,qar,qar]);clear hC lC rq c49 c50 hwh hwho t0 z0 b0 lQ0 CC hQ0 hrq hW0 hw hc hg hc1 hc2 hc3 hc4 hl1 hl2 hl3 hl4 hk2 hk3 hk4 hk5 hnk hk1;go_enter Tryz.func35,Tryz.ntmps35
 go_upto_region 1 with(fail)
 rw[←B7.o];go_wp2_with (refine zld B4.o zu34 B5.o ?_)
 refine B3.o.mono ?_;rintro e w1 ⟨cav1,lv1,rfl,oc1,ol1,b1⟩;obtain⟨Ac1,cc1,hcv1,-,-,-⟩:=qaf (e:=132) (size:=2) oc1;obtain⟨Al1,nl,cl1,hlv1,-,-,rl1⟩:=ol1.sl;have hnl:=qb4 rl1;subst hcv1 hlv1;have lQ:=qiu S.r (.slice Ac1 S.r.cavs.length cc1) (.slice Al1 nl cl1) HG.tag;have oQ:=qzh S.r (.slice Ac1 S.r.cavs.length cc1) (.slice Al1 nl cl1) rfl rfl;obtain⟨Q,hQ⟩:=xeq (reqv S.r (.slice Ac1 S.r.cavs.length cc1) (.slice Al1 nl cl1));rw[hQ]at lQ oQ ⊢;obtain⟨BG,LQ,OQ,HQ,BH,BI,B1,NL⟩:=zh8 (zI 34 lQ) lQ oQ hQ oc1 ol1 b1 hnl;have N1:=zh1 (Blk.new w1 34 zLQ);clear lQ oQ hQ oc1 ol1 b1 rl1 hnl;go_upto_region 2 with(refine wpList_store_row rfl 34 (.tmp 5) (.tmp 12) rfl w1.heap.size Q.toArray rfl rfl 34 _ N1.o (by rw[tB6];exact BG.o) (by simp[LQ.o]) (by simpa using OQ.o) ?_)
 obtain⟨W1,hW1⟩:=eqx ((w1.alloc (.cells zLQ 34)).setRow w1.heap.size Q.toArray);rw[←hW1];obtain⟨G5,hG5⟩:=eqx w1.heap.size;rw[←hG5];have b11:Below w1.heap.size w1 W1:=by rw[hW1];exact below_setRow ((tA5 _ _).alloc (tA4 _) _) (tA4 _) _
 obtain⟨Q1,A1,BJ,AE⟩:=zh4 (show Blk W1 G5 34 Q.toArray by rw[hW1,hG5];exact(Blk.new _ _ _).setRow _) (show Below W0.heap.size W0 W1 from B1.trans (b11.mono B1.size)) (OwnC.kept BH.o b11) (BI.kept b11);obtain⟨T1,Z1,AF⟩:=zh3 (T0.below A1.o T0.lt) (Z0.below A1.o Z0.lt) (show W0.heap.size≤G5 by rw[hG5];exact B1.size);clear hW1 hG5 b11;have e49:=(T1.cell 49).trans (show C.toArray[49]? =some (.int .i64 wh) by simpa using BD.o);obtain⟨A7,P1⟩:=zh2 (B8.call A1.o) (show Below w.heap.size w W1 from B0.trans (A1.mono B0.size));go_upto_if 15 with(fail)
 go_cut [] (fun wx=>∃cav:Value,Hid (Blk wx G5 34 (reqv (xc4 c S) cav (.slice Al1 nl cl1)).toArray)∧Hid (OwnC wx w.heap.size cav (xc4 c S).cavs)∧Hid (OwnB wx w.heap.size (.slice Al1 nl cl1) S.r.leaf)∧Hid (Below W0.heap.size W0 wx))
 case first=>
  by_cases hw0:0≤wh
  ·
   have q0:(wh:Int) ≥ 0:=zo;obtain⟨idn,hidn⟩:∃m:Nat,(S.who % 4294967296).toNat=m:=⟨_,rfl⟩;have hidl:idn<4294967296:=zo;have hu:IntKind.u32.wrap wh=(idn:Int):=by rw[IntKind.wrap_u32];rw[←A6.o];omega
   obtain⟨HU,C1,A2⟩:=zh3 hu hidn hidn;clear hidn;have rkl:(qmd c.seed).length=32:=qjv _ _;have rkb:∀x∈qmd c.seed,x<256:=qjw _ _;obtain⟨BK,BL⟩:=zh2 rkl rkb;clear rkl rkb;go_upto_region 3 with(fail)
   rw[show decide (0≤wh)=true from decide_eq_true hw0];obtain⟨S',HS⟩:∃S':World→Prop,Hid (∀w',S' w'=(Below W1.heap.size W1 w'∧w'.cell? ⟨gw,0,none⟩=some (.pointer (some ⟨tb,0,none⟩))∧w'.cell? ⟨w.heap.size,49,none⟩=some (.int .i64 wh))):=⟨_,fun _=>rfl⟩;have mkS:Hid (∀w',Below W1.heap.size W1 w'→S' w'):=fun w' h=>by
    rw[HS.o];exact⟨h,(((A7.call h).blk).cell 0).trans rfl,(h.cell (p:=⟨w.heap.size,49,none⟩) T1.lt).trans e49⟩
   obtain⟨RV,hRV⟩:∃V:Value,.agg (byv (qmd c.seed)).toArray=V:=⟨_,rfl⟩;obtain⟨TV,hTV⟩:∃V:Value,.agg (tokv idn (.slice none 0 0) (qju (qmd c.seed) idn)).toArray=V:=⟨_,rfl⟩;obtain⟨AG,AP⟩:=zh2 hRV hTV;clear hRV hTV;refine qox S' 11 [21,25,6] [(0,false),(1,false),(2,false),(3,false),(4,false),(6,false),(7,false),(8,false)] 3 [(5,[]),(9,[5]),(10,[])] [(11,true)] #[true,true,true,true,true,false,true,true,true,false,false,false] #[true,true,true,true,true,true,true,true,true,true,true,false] zk rfl zk zk zk zk zk zk (fun _ _ d _ _ h=>by cases d<;>exact h) (mkS.o _ (tA5 _ W1).drew) ?_;clear e49;iterate 8 (refine qjr rfl rfl ⟨?_,fun w1 hS=>?_,?_⟩;rotate_left;(focus(rw[HS.o]at hS;go_split_ands;go_simp;try rfl));simp only[Act.put,tA0,tA1,tA2])
   refine qjq ?_;refine⟨fun Dn vs w'=>∃v21 v25 v6,vs=[v21,v25,v6]∧RtI W1.heap.size w' (Dn 5) (Dn 9) (Dn 10) RV TV v21 v25 v6,⟨[_,_,_],rfl,_,_,_,rfl,?_⟩,⟨?_,?_,?_,trivial⟩,?_⟩
   · exact⟨fun h=>(nomatch h),fun h=>(nomatch h),fun h=>(nomatch h),tA4 _⟩
   ·
    rintro Dn vs w' hS ⟨v21,v25,v6,rfl,hI⟩ hD hd;simp only[puts,Act.put,tA0,tA1,tA2];have hb:=((HS.o _).mp hS).1;refine qp0 fun K hK=>qjn rfl rfl ?_
    go_simp;with_reducible refine zcb (qzj gw tb c A0 n0 k0 w' (A7.o.call hb) HC.o.seedb HC.o.seed) fun w2 b2=>?_
    rw[AG.o];exact hK _ _ ⟨mkS.o _ (hb.trans (b2.mono hb.size)),[_,_,_],rfl,_,_,_,rfl,by simpa using (hI.call b2).a5 true⟩
   ·
    rintro Dn vs w' hS ⟨v21,v25,v6,rfl,hI⟩ hD hd;simp only[puts,Act.put,tA0,tA1,tA2];have hb:=((HS.o _).mp hS).1;have d5:=hd 5 zm;have e5:=hI.root d5;rw[e5]at hI;rw[e5];refine qp0 fun K hK=>qjn rfl rfl ?_
    go_simp;rw[←AG.o];with_reducible refine zcb (qze tb (qmd c.seed) idn w' BK.o BL.o hidl (A7.o.call hb).tab) fun w2 b2=>?_
    rw[AP.o,AG.o];exact hK _ _ ⟨mkS.o _ (hb.trans (b2.mono hb.size)),[_,_,_],rfl,_,_,_,rfl,by simpa [d5] using (hI.call b2).a9 true⟩
   · rintro Dn vs w' hS ⟨v21,v25,v6,rfl,hI⟩ hD hd
     simp only[puts,Act.put,tA0,tA1,tA2];have hb:=((HS.o _).mp hS).1;refine qp0 fun K hK=>qjn rfl rfl ?_
     go_simp;exact hK _ _ ⟨mkS.o _ (hb.alloc hb.size _),[_,_,_],rfl,_,_,_,rfl,by simpa using (show RtI W1.heap.size (w'.alloc (.cells zLT 31)) (Dn 5) (Dn 9) true RV TV v21 v25 (.pointer (some ⟨w'.heap.size,0,none⟩)) from hI.a10 true)⟩
   rintro vs w5 hS5 ⟨v21,v25,v6,rfl,hI⟩;simp only[puts,Act.put,tA0,tA1,tA2];have e25:=hI.tok rfl;obtain⟨X,rfl,lX,zX⟩:=hI.box rfl;have b5:=((HS.o _).mp hS5).1;subst e25;rw[←AP.o];obtain⟨L0,hL0⟩:=xeq (tokv idn (.slice none 0 0) (qju (qmd c.seed) idn));have lL0:L0.length=34:=by rw[←hL0];exact qdc _ _ _ (qjv _ _)
   have oL0:∀v∈L0,v.oneCell'=true:=by rw[←hL0];exact qed _ _ rfl _
   rw[hL0];clear hI hS5 HS mkS;refine qbi rfl rfl ?_;refine wp_store_row 31 (.tmp 6) (.tmp 25) rfl X L0.toArray rfl rfl 31 _ zX (by rw[tB6,lL0];exact Tryz.tok_info) (by simp[lL0,qgv,qdc]) (by simpa using oL0) ?_;refine⟨fun h=>absurd h zdc,?_⟩;obtain⟨W2,hW2⟩:=eqx (w5.setRow X L0.toArray);rw[←hW2];obtain⟨X2,B2,BM,LX⟩:=zh4 (show Blk W2 X 31 L0.toArray by rw[hW2];exact zX.setRow _) (show Below W1.heap.size W1 W2 by rw[hW2];exact below_setRow b5 lX _) hL0 lX;clear hW2 zX b5 hL0 lL0 oL0 lX;try simp only[Act.put,tA0,tA1,tA2]
   refine qbf ?_;go_wp2_with fail
   go_loopw [7,8,9,37] (fun i _ _ _ wr=>∃(k:Nat) (x:Tok) (v:Value),k≤nk∧k≤4∧i=.int .i64 k∧Hid ((S.cavs.take k).foldl xba (qk7 (qmd c.seed) idn)=x)∧Hid x.Ok∧x.2.1.length≤k∧Hid (Blk wr X 31 (tokv x.1 v x.2.2).toArray)∧Hid (OwnC wr W1.heap.size v x.2.1)∧Hid (Below W1.heap.size W1 wr)) (fun i _ _ _ _=>4 - (intOf i).toNat)
   case atStart=>exact⟨0,qk7 (qmd c.seed) idn,.slice none 0 0,by omega,by omega,rfl,by rw[List.take_zero];exact rfl,qkc _ _ hidl,by simp[qk7],by rw[show tokv (qk7 (qmd c.seed) idn).1 (.slice none 0 0) (qk7 (qmd c.seed) idn).2.2=L0 from BM.o];exact X2.o,OwnC.nil _ _,B2.o⟩
   case round=>
    obtain⟨k,x,v,hk,hk4,rfl,hg,hxo,hxl,hX,hv,hb⟩:=hrel;have tr:=T1.below hb.o T1.lt;have tc50:=(tr.cell 50).trans (show C.toArray[50]? =some (.slice Ak nk ck) by simpa using BE.o);have e50:=tc50;have T0cell:=(((A7.call hb.o).blk).cell 0).trans (show (#[.pointer (some ⟨tb,0,none⟩),.int .i64 c.width,.int .i64 c.quantum,.int .u32 (c.store:Int),.slice A0 n0 k0]:Array Value)[0]? =some (.pointer (some ⟨tb,0,none⟩)) from rfl);by_cases hkn:k<nk
    ·
     have qk:(k:Int)<nk:=zo;by_cases hk4':k<4
     ·
      have q4:(k:Int)<4:=zo;obtain⟨cav,hcav⟩:∃c,S.cavs[k]? =some c:=⟨_,tA7 (by rw[AD.o];exact hkn)⟩;obtain⟨gb,go,hA,hgb,hrd⟩:=B9.mid zo zo;obtain⟨e0,e1⟩:=qdf S.cavs k cav hcav;have hgb1:gb<W1.heap.size:=tB0 hgb A1.size;have m0:=(hb.cell (p:=⟨gb,go+k*2,none⟩) hgb1).trans ((A1.cell (p:=⟨gb,go+k*2,none⟩) hgb).trans (hrd _ _ e0));have m1:=(hb.cell (p:=⟨gb,go+(k*2+1),none⟩) hgb1).trans ((A1.cell (p:=⟨gb,go+(k*2+1),none⟩) hgb).trans (hrd _ _ e1));subst hA;obtain⟨kk,NN⟩:=cav;dsimp only at m0 m1;rw[←Nat.add_assoc]at m1;have AH:=zh1 hcav;have hgbr:gb<wr.heap.size:=tB0 hgb1 hb.size;obtain⟨S',HS⟩:∃S':World→Prop,Hid (∀w',S' w'=Below wr.heap.size wr w'):=⟨_,fun _=>rfl⟩;have AQ:=zh1 (A7.call hb.o);have FC:Hid (∀w',S' w'→w'.rangeAt gb (go+k*2) [.int .i64 kk,.int .u32 (NN:Int)]):=fun w' h j u hu=>by
       rw[HS.o]at h;rw[h.cell (p:=⟨gb,go+k*2+j,none⟩) hgbr];match j,hu with
       |0,hu=>simp at hu;subst hu;exact m0
       |1,hu=>simp at hu;subst hu;exact m1
      have F1:Hid (∀w',S' w'→w'.cell? ⟨w.heap.size,50,none⟩=some (.slice (some ⟨gb,go,none⟩) nk ck)):=fun w' h=>by
       rw[HS.o]at h;rw[h.cell (p:=⟨w.heap.size,50,none⟩) tr.lt];exact e50
      have F2:Hid (∀w',S' w'→w'.cell? ⟨gw,0,none⟩=some (.pointer (some ⟨tb,0,none⟩))):=fun w' h=>by
       rw[HS.o]at h;rw[h.cell (p:=⟨gw,0,none⟩) AQ.blk.lt];exact T0cell
      obtain⟨Ax,nx,cx,rfl,enx,ncx,-,rx⟩:=hv.sl;have hN:NN<4294967296:=BA.o (kk,NN) (tB2 AH.o);have N3:=fun w' (h:Below wr.heap.size wr w')=>xc1 tb x Ax nx cx kk NN w' (rx.call h) ncx zo hxo.o.2.2.1 hxo.o.2.2.2 hN ((AQ.call h).tab)
      have lX3:=qdc x.1 (.slice Ax nx cx) x.2.2 hxo.o.2.2.1;have x3:=hX.o;obtain⟨E,hE⟩:=xeq (tokv x.1 (.slice Ax nx cx) x.2.2);simp only[hE]at N3;rw[hE]at x3 lX3;have FX:Hid (∀w',S' w'→w'.rangeAt X 0 E):=fun w' h=>by
       rw[HS.o]at h;exact qap (x3.below h x3.lt) 0 E (fun j u h=>by simpa using h)
      obtain⟨BN,BO,BP,X3,BQ,Hok',Hlen'⟩:=zh7 (zI 31 lX3) (show (Tryz.prog.info? 132).map (·.size)=some [Value.int .i64 kk,.int .u32 (NN:Int)].length by kernel_rfl) N3 x3 lX3 (qkd x (kk,NN) hxo.o hN) (qke x (kk,NN));obtain⟨r,hr⟩:=xeq (qk2 x (kk,NN));obtain⟨AR,HV,BR⟩:=zh3 hr hv.o hE;simp only[hr]at N3;have AS:=zh1 N3;rw[hr]at Hok' Hlen';clear N3 BP x3 hN lX3 hE enx ncx rx hX hv m0 m1 e0 e1 hrd hcav hgbr hr tc50 T0cell tr hgb hgb1;go_upto_region 7 with(fail)
      refine qjk S' 17 [48,37,49,50,8] [(0,false),(1,false),(2,false),(3,false),(4,false),(5,false),(6,false),(7,false),(8,false),(9,false)] 5 (.two 10 (.read 11 (.read 12 (.read 13 (.one 14 .done)))) 14 (.one 10 (.read 11 (.read 12 (.read 13 .done))))) [(15,true),(16,false)] #[true,true,true,true,true,true,true,true,true,true,false,false,false,false,false,false,false] #[true,true,true,true,true,true,true,true,true,true,true,true,true,true,true,false,false] zk rfl zk zk zk zk zk (fun _ _ d _ _ h=>by cases d<;>exact h) ((HS.o _).mpr (tA5 _ wr).drew) ?_;iterate 3 (refine qjr rfl rfl ⟨?_,fun w1 hS=>?_,?_⟩;rotate_left;(focus(have g1:=F2.o w1 hS;go_simp;try rfl));simp only[Act.put,tA0,tA1,tA2])
      iterate 1 (refine qjr rfl rfl ⟨?_,fun w1 hS=>?_,?_⟩;rotate_left;(focus(have g1:=F2.o w1 hS;go_simp;try rfl));simp only[Act.put,tA0,tA1,tA2])
      refine qoz rfl rfl 31 (.tmp 6) rfl X 0 rfl E _ FX.o Tryz.underlying31 rfl BN.o ?_;try simp only[Act.put,tA0,tA1,tA2]
      iterate 4 (refine qjr rfl rfl ⟨?_,fun w1 hS=>?_,?_⟩;rotate_left;(focus(have g1:=F1.o w1 hS;go_simp;try rfl));simp only[Act.put,tA0,tA1,tA2])
      refine qoz rfl rfl 132 (.tmp 46) rfl gb (go+k*2) rfl [.int .i64 kk,.int .u32 (NN:Int)] _ FC.o Tryz.underlying132 rfl BO.o ?_;try simp only[Act.put,tA0,tA1,tA2]
      refine qjq ?_;have hwdwr:Below wr.heap.size wr wr.drew:=(tA5 _ _).drew;obtain⟨Wdwr,hWdwr⟩:=eqx wr.drew;have HWdwr:=zh1 hWdwr;rw[←hWdwr]at hwdwr ⊢;clear hWdwr;refine⟨fun vs w'=>∃A4 n4 c4 g9,vs=[.tuple #[.agg (tokv r.1.1 (.slice A4 n4 c4) r.1.2.2).toArray,.int .i64 (r.2:Nat)],.tuple #[.agg (tokv r.1.1 (.slice A4 n4 c4) r.1.2.2).toArray,.int .i64 (r.2:Nat)],.agg (tokv r.1.1 (.slice A4 n4 c4) r.1.2.2).toArray,.int .i64 (r.2:Nat),.pointer (some ⟨g9,0,none⟩)]∧OwnC w' wr.heap.size (.slice A4 n4 c4) r.1.2.1∧Blk w' g9 31 qgv.toArray∧wr.heap.size≤g9∧Below wr.heap.size wr w',?_,?_⟩
      ·
       refine qjp rfl rfl rfl rfl ?_ ?_
       ·
        go_simp;refine(AS.o Wdwr hwdwr).mono ?_;rintro e w4 ⟨v4,rfl,o4,b4⟩;obtain⟨A4,n4,c4,rfl,-,-,-,-⟩:=o4.sl;obtain⟨F,hF⟩:=xeq (tokv r.1.1 (.slice A4 n4 c4) r.1.2.2);rw[hF];have b4':=hwdwr.trans (b4.mono hwdwr.size);have o4':=OwnC.mono o4 hwdwr.size;obtain⟨HF,HO,HB⟩:=zh3 hF o4' b4';clear hF o4 b4 o4' b4';refine⟨(HS.o _).mpr HB.o,?_⟩;try simp only[Act.put,tA0,tA1,tA2]
        iterate 3 (refine ztr ?_)
        refine qjo rfl rfl ?_;go_simp;refine⟨(HS.o _).mpr (HB.alloc HB.size _),qjl ⟨[_,_,_,_,_],rfl,A4,n4,c4,w4.heap.size,by rw[HF.o],HO.alloc _,Blk.new _ _ _,HB.size,HB.alloc HB.size _⟩⟩
       go_simp;obtain⟨w3,hw3⟩:=eqx (Wdwr.alloc (.cells zLT 31));rw[←hw3];have z3:Blk w3 Wdwr.heap.size 31 qgv.toArray:=by rw[hw3];exact Blk.new _ _ _
       have b3:Below wr.heap.size wr w3:=by rw[hw3];exact hwdwr.alloc hwdwr.size _
       clear hw3;refine⟨(HS.o _).mpr b3,?_⟩;refine qjo rfl rfl ?_;go_simp;refine(AS.o w3 b3).mono ?_;rintro e w4 ⟨v4,rfl,o4,b4⟩;obtain⟨A4,n4,c4,rfl,-,-,-,-⟩:=o4.sl;obtain⟨F,hF⟩:=xeq (tokv r.1.1 (.slice A4 n4 c4) r.1.2.2);rw[hF];have b4':=b3.trans (b4.mono b3.size);have o4':=OwnC.mono o4 b3.size;have z4:=z3.below b4 z3.lt;obtain⟨HF,HO,HB,HZ⟩:=zh4 hF o4' b4' z4;clear hF o4 b4 o4' b4' z4 z3 b3;refine⟨(HS.o _).mpr HB.o,?_⟩;try simp only[Act.put,tA0,tA1,tA2]
       iterate 3 (refine ztr ?_)
       refine qjl ⟨[_,_,_,_,_],rfl,A4,n4,c4,Wdwr.heap.size,by rw[HF.o],HO.o,HZ.o,hwdwr.size,HB.o⟩
      rintro vs w4 - ⟨AI,nK1,cK1,gK1,rfl,o4,z9,l9,b4⟩;simp only[puts,Act.put,tA0,tA1,tA2];obtain⟨A8,hF,hlF,hoF,iF⟩:=xby r.1.1 AI nK1 cK1 r.1.2.2 Hok'.o.2.2.1;rw[hF];refine qbi rfl rfl ?_;refine wp_store_row 31 (.tmp 8) (.tmp 49) rfl gK1 A8.toArray rfl rfl 31 _ z9 iF (by simp[hlF,qgv,qdc]) (by simpa using hoF) ?_;obtain⟨AJ,hW9⟩:=eqx (w4.setRow gK1 A8.toArray);rw[←hW9];have fK1:Blk AJ gK1 31 A8.toArray:=by rw[hW9];exact z9.setRow _
      have bK1:Below wr.heap.size wr AJ:=by rw[hW9];exact below_setRow b4 l9 _
      have oK1:OwnC AJ wr.heap.size (.slice AI nK1 cK1) r.1.2.1:=by rw[hW9];exact tB3 o4 (qam _ _ _) (.inr (qa3 o4 z9 zdc))
      obtain⟨A9,AK,AL,AM,BS⟩:=zh5 hlF hoF iF hF l9;clear hW9 z9 b4 o4 iF hlF hoF hF l9;refine⟨fun _=>(HS.o _).mpr bK1,?_⟩;try simp only[Act.put,tA0,tA1,tA2]
      iterate 1 (refine zrb ?_)
      refine qbf ?_;obtain⟨q,hq⟩:=xeq r.2;rw[hq];obtain⟨AC,BT,BU,AT,C2,AA,AU,BV⟩:=zh8 (X3.below bK1 X3.lt) (qap fK1 0 A8 (fun j u h=>by simpa using h)) (zI 31 A9.o) oK1 bK1 (hb.trans (bK1.mono hb.size)) hq (HV.kept bK1);clear fK1 bK1 oK1 hq FC F1 F2 FX HS;by_cases h0:q=0
      ·
       have h0':(q:Int)=0:=zo;go_wp2_with (first
        |(refine zld BT.o zu31 BU.o ?_)
        |(refine wpList_store_row rfl 31 (.tmp 6) (.tmp 53) rfl X A8.toArray rfl rfl 31 _ AC.o AL.o (by simp[A9.o,BQ.o]) (by simpa using AK.o) ?_))
       go_roundw
       case rel=>
        have hstep:(S.cavs.take (k+1)).foldl xba (qk7 (qmd c.seed) idn)=r.1:=by
         rw[xc3 AH.o,hg.o];unfold xba;rw[AR.o,if_pos (by rw[AU.o,h0])]
        refine⟨k+1,r.1,.slice AI nK1 cK1,by omega,by omega,by go_num,hstep,Hok'.o,?_,?_,?_,?_⟩
        · have:=Hlen'.o
          omega
        · rw[AM.o]
          exact AC.setRow _
        · exact OwnC.mono (tB3 AT.o (qam _ _ _) (.inr (qa3 AT.o AC.o zdc))) hb.size
        exact below_setRow AA.o LX.o _
       case measure=>simp[intOf];omega
      have h0':¬(q:Int)=0:=zo;go_wp2
      go_roundw
      case rel=>
       have hstep:(S.cavs.take (k+1)).foldl xba (qk7 (qmd c.seed) idn)=x:=by
        rw[xc3 AH.o,hg.o];unfold xba;rw[AR.o,if_neg (by rw[AU.o];exact h0)]
       refine⟨k+1,x,.slice Ax nx cx,by omega,by omega,by go_num,hstep,hxo,by omega,?_,BV.o,AA.o⟩;rw[BR.o];exact AC.o
      case measure=>simp[intOf];omega
     have q4:¬(k:Int)<4:=zo;have hfin:(S.cavs.take 4).foldl xba (qk7 (qmd c.seed) idn)=x:=by rw[←xc9 (l:=S.cavs) (k:=k) (by rw[AD.o];omega) hk4];exact hg.o
     have q9:=Q1.below hb.o Q1.lt;have lE:=qdc x.1 v x.2.2 hxo.o.2.2.1;have oE:=qed x.1 v (by obtain⟨A',n',c',rfl,-⟩:=hv.sl;rfl) x.2.2;have hov:over Q 1 (tokv x.1 v x.2.2)=reqv (xc4 c S) v (.slice Al1 nl cl1):=by
      have ht:xbb c S=x:=by unfold xbb;rw[←hfin,A2.o]
      rw[←HQ.o,xc8 S.r x _ v _ HG.tag hxo.o.2.2.1];unfold xc4;rw[if_pos (by rw[A6.o];omega),ht]
     have hcv:(xc4 c S).cavs=x.2.1:=by
      have ht:xbb c S=x:=by unfold xbb;rw[←hfin,A2.o]
      unfold xc4;rw[if_pos (by rw[A6.o];omega),ht]
     obtain⟨E,hE⟩:=xeq (tokv x.1 v x.2.2);have x9:=hX.o;rw[hE]at lE oE hov x9;obtain⟨A3,AB,AN,OE,QB,CB⟩:=zh6 (qap x9 0 E (fun j u h=>by simpa using h)) (zI 31 lE) (show wr.there G5 1 E.toArray.size from fun j hj=>⟨by rw[q9.cell,tA3,tA7 (by have h0:E.toArray.size=34:=List.size_toArray.trans lE;rw[LQ.o];omega)];simp,q9.frozen _⟩) (all_oneCell_toArray oE) (show Blk (wr.setCells G5 1 E) G5 34 (reqv (xc4 c S) v (.slice Al1 nl cl1)).toArray by rw[←hov];exact qn5 E 1 wr Q q9 (by rw[LQ.o,lE];decide)) (show OwnC (wr.setCells G5 1 E) w.heap.size v (xc4 c S).cavs by rw[hcv];exact OwnC.mono (tB3 hv.o (qn6 G5 E 1 wr) (.inr (qa3 hv.o q9 zdc))) P1.size);have ol9:=AE.kept hb.o;obtain⟨LB,BB⟩:=zh2 (show OwnB (wr.setCells G5 1 E) w.heap.size (.slice Al1 nl cl1) S.r.leaf from OwnB.mono (tB3 ol9 (qn6 G5 E 1 wr) (.inr (qa3 ol9 q9 zdc))) B0.size) (show Below W0.heap.size W0 (wr.setCells G5 1 E) from(A1.trans (hb.mono A1.size)).grown (qn6 G5 E 1 wr) (tB1 A1.size hb.size) (by intro g hg;injection hg with hg;have:=AF.o;omega));clear hfin q9 lE oE hov hcv hE x9 ol9 tc50 T0cell tr hX hv;go_wp2_with (first
      |(refine zld A3.o zu31 AB.o ?_)
      |(refine wpList_store_mid rfl 31 (.tmp 55) (.tmp 54) rfl G5 1 E.toArray rfl rfl AN.o (by simpa using AB.o) OE.o ?_))
     go_meet
     case rel=>exact⟨v,QB,CB,LB,BB⟩
    have qk:¬(k:Int)<nk:=zo;have hfin:(S.cavs.take 4).foldl xba (qk7 (qmd c.seed) idn)=x:=by rw[←xc9 (l:=S.cavs) (k:=k) (by rw[AD.o];omega) hk4];exact hg.o
    have q9:=Q1.below hb.o Q1.lt;have lE:=qdc x.1 v x.2.2 hxo.o.2.2.1;have oE:=qed x.1 v (by obtain⟨A',n',c',rfl,-⟩:=hv.sl;rfl) x.2.2;have hov:over Q 1 (tokv x.1 v x.2.2)=reqv (xc4 c S) v (.slice Al1 nl cl1):=by
     have ht:xbb c S=x:=by unfold xbb;rw[←hfin,A2.o]
     rw[←HQ.o,xc8 S.r x _ v _ HG.tag hxo.o.2.2.1];unfold xc4;rw[if_pos (by rw[A6.o];omega),ht]
    have hcv:(xc4 c S).cavs=x.2.1:=by
     have ht:xbb c S=x:=by unfold xbb;rw[←hfin,A2.o]
     unfold xc4;rw[if_pos (by rw[A6.o];omega),ht]
    obtain⟨E,hE⟩:=xeq (tokv x.1 v x.2.2);have x9:=hX.o;rw[hE]at lE oE hov x9;obtain⟨A3,AB,AN,OE,QB,CB⟩:=zh6 (qap x9 0 E (fun j u h=>by simpa using h)) (zI 31 lE) (show wr.there G5 1 E.toArray.size from fun j hj=>⟨by rw[q9.cell,tA3,tA7 (by have h0:E.toArray.size=34:=List.size_toArray.trans lE;rw[LQ.o];omega)];simp,q9.frozen _⟩) (all_oneCell_toArray oE) (show Blk (wr.setCells G5 1 E) G5 34 (reqv (xc4 c S) v (.slice Al1 nl cl1)).toArray by rw[←hov];exact qn5 E 1 wr Q q9 (by rw[LQ.o,lE];decide)) (show OwnC (wr.setCells G5 1 E) w.heap.size v (xc4 c S).cavs by rw[hcv];exact OwnC.mono (tB3 hv.o (qn6 G5 E 1 wr) (.inr (qa3 hv.o q9 zdc))) P1.size);have ol9:=AE.kept hb.o;obtain⟨LB,BB⟩:=zh2 (show OwnB (wr.setCells G5 1 E) w.heap.size (.slice Al1 nl cl1) S.r.leaf from OwnB.mono (tB3 ol9 (qn6 G5 E 1 wr) (.inr (qa3 ol9 q9 zdc))) B0.size) (show Below W0.heap.size W0 (wr.setCells G5 1 E) from(A1.trans (hb.mono A1.size)).grown (qn6 G5 E 1 wr) (tB1 A1.size hb.size) (by intro g hg;injection hg with hg;have:=AF.o;omega));clear hfin q9 lE oE hov hcv hE x9 ol9 tc50 T0cell tr hX hv;go_wp2_with (first
     |(refine zld A3.o zu31 AB.o ?_)
     |(refine wpList_store_mid rfl 31 (.tmp 55) (.tmp 54) rfl G5 1 E.toArray rfl rfl AN.o (by simpa using AB.o) OE.o ?_))
    go_meet
    case rel=>exact⟨v,QB,CB,LB,BB⟩
  have q0:¬(wh:Int) ≥ 0:=zo;go_wp2
  go_meet
  case rel=>
   have ht:xc4 c S=S.r:=by unfold xc4;rw[if_neg (by rw[A6.o];omega)]
   rw[ht];exact⟨_,by rw[HQ.o];exact Q1,OwnC.mono BJ.o B0.size,OwnB.mono AE.o B0.size,A1⟩
 case rest=>
  obtain⟨cav,q9,oc9,ol9,b9⟩:=hcut;obtain⟨W5,rfl⟩:=eqx wc;have hT:=xc5 c S;have hlf:=xc6 c S;have htl:(xc4 c S).tag.length=32:=BC.o;have hcv1:cav.oneCell'=true:=by obtain⟨A',n',c',rfl,-⟩:=oc9.sl;rfl
  obtain⟨Q9,hQ9⟩:=xeq (reqv (xc4 c S) cav (.slice Al1 nl cl1));have l9:=qiu (xc4 c S) cav (.slice Al1 nl cl1) htl;have o9:=qzh (xc4 c S) cav (.slice Al1 nl cl1) hcv1 rfl;have e9:Q9[47]? =some (.slice Al1 nl cl1):=by
   rw[←hQ9];exact(qdh (xc4 c S) cav (.slice Al1 nl cl1) htl 12).trans rfl
  rw[hQ9]at l9 o9 q9;have e47:=(q9.cell 47).trans (show Q9.toArray[47]? =some (.slice Al1 nl cl1) by rw[tA3];exact e9);have f47:=q9.frozen 47;obtain⟨Z5,AV⟩:=zh2 (Z0.below b9.o Z0.lt) (B0.trans (b9.mono B0.size));have hnl:nl=S.r.leaf.length:=by
   obtain⟨A',c',e,-⟩:=ol9.slice;injection e with e1 e2
  have hcl:nl≤cl1:=by
   obtain⟨A',n',c',e,h1,-⟩:=ol9.sl;injection e with e1 e2 e3;omega
  obtain⟨AW,LG,AX,L9,O9,TL,AY⟩:=zh7 hnl (show w.heap.size+1<G5 by have:=AF.o;have:=BF.o;omega) hQ9 l9 o9 htl hlf;have Q9':=q9;clear hnl hQ9 l9 o9 htl hlf hT e9 q9;by_cases h512:nl≤512
  ·
   have q5:¬(nl:Int)>512:=zo;obtain⟨A3,A5⟩:=zh2 (qap Q9'.o 0 Q9 (fun j u h=>by simpa using h)) (zI 34 L9.o);go_wp2_with (first
    |(refine zld A3.o zu34 A5.o ?_)
    |(refine zst Z5.o A5.o (by simp[L9.o]) O9.o ?_))
   have AO:=qap (Z5.setRow Q9.toArray) 0 Q9 (fun j u h=>by simpa using h);refine zrt AO zu34 A5.o ⟨cav,.slice Al1 nl cl1,by rw[←AX.o];rfl,?_,?_,?_⟩
   · exact tB3 oc9.o (qam _ _ _) (.inr (qa3 oc9.o Z5.o zdc))
   · have e:(xbc c S).leaf=S.r.leaf:=by
      show (xc4 c S).leaf.take 512=_;rw[AY.o,tB5 (by rw[←AW.o];exact h512)]
     rw[e];exact tB3 ol9.o (qam _ _ _) (.inr (qa3 ol9.o Z5.o zdc))
   exact below_setRow AV.o zo _
  have q5:(nl:Int)>512:=zo;have q6:(512:Int)≤cl1:=zo;have l9':=qiu (xc4 c S) cav (.slice Al1 512 cl1) TL.o;have o9':=qzh (xc4 c S) cav (.slice Al1 512 cl1) hcv1 rfl;have hs:=qzg (xc4 c S) cav (.slice Al1 nl cl1) (.slice Al1 512 cl1) TL.o;obtain⟨Qc,hQc⟩:=xeq (reqv (xc4 c S) cav (.slice Al1 512 cl1));rw[hQc]at l9' o9' hs;rw[AX.o]at hs;obtain⟨W6,hW6⟩:=eqx (W5.setCell ⟨G5,47,none⟩ (.slice Al1 512 cl1));have q6':Blk W6 G5 34 Qc.toArray:=by
   rw[hW6,←hs];have h:=Q9'.set_ 47 (.slice Al1 512 cl1);rwa[List.setIfInBounds_toArray]at h
  have z6:Blk W6 (w.heap.size+1) 34 zLQ:=by
   rw[hW6];exact Z5.far (p:=⟨G5,47,none⟩) (by have:=LG.o;simp;omega) _
  have b6:Below w.heap.size w W6:=by rw[hW6];exact AV.setCell (p:=⟨G5,47,none⟩) (by have:=LG.o;simp;omega) _
  have oc6:OwnC W6 w.heap.size cav (xc4 c S).cavs:=by rw[hW6];exact qal oc9.o (p:=⟨G5,47,none⟩) (qa3 oc9.o Q9'.o zdc) _
  have ol6:OwnB W6 w.heap.size (.slice Al1 nl cl1) S.r.leaf:=by rw[hW6];exact OwnB.far ol9.o (p:=⟨G5,47,none⟩) (qa3 ol9.o Q9'.o zdc) _
  obtain⟨A3,A5,Z6,B6,AZ,BW,L9',O9'⟩:=zh8 (qap q6' 0 Qc (fun j u h=>by simpa using h)) (zI 34 l9') z6 b6 oc6 ol6 l9' o9';obtain⟨HQc,BX⟩:=zh2 hQc hW6;clear hs hQc hW6 q6' z6 b6 oc6 ol6 l9' o9';go_upto_region 13 with(fail)
  rw[←BX.o];go_wp2_with (first
   |(refine zld A3.o zu34 A5.o ?_)
   |(refine zst Z6.o A5.o (by simp[L9'.o]) O9'.o ?_))
  have AO:=qap (Z6.setRow Qc.toArray) 0 Qc (fun j u h=>by simpa using h);refine zrt AO zu34 A5.o ⟨cav,.slice Al1 512 cl1,by rw[←HQc.o];rfl,?_,?_,?_⟩
  · exact tB3 AZ.o (qam _ _ _) (.inr (qa3 AZ.o Z6.o zdc))
  · have e:(xbc c S).leaf=S.r.leaf.take 512:=by
     show (xc4 c S).leaf.take 512=_;rw[AY.o]
    rw[e];have o:=xc2 BW.o (k:=512) (by rw[←AW.o];omega);exact tB3 o (qam _ _ _) (.inr (qa3 o Z6.o zdc))
  exact below_setRow B6.o zo _
theorem xci (gw tb:Nat)(c:Cfg)(A0:Option Addr)(n0 k0:Nat)(S:Stp)(cs:List Value)(w:World)(hw:WldAt w gw tb c A0 n0 k0)(hc:c.Ok)(hs:StpR w cs S)(h140:S.raw.length≤140737488351232):
 Zc 37 #[.pointer (some ⟨gw,0,none⟩),.agg cs.toArray] w fun e w'=>∃v bs ok,e=.returned (.tuple #[v,.bool ok])∧OwnB w' w.heap.size v bs∧(∀b,bytesOf c S=some b→ok=true∧bs=b)∧(bytesOf c S=none→ok=false)∧Below w.heap.size w w':=by
 have hs0:=hs;obtain⟨Ac,cc,Al,cl,Ak,ck,Ar,cr,rfl,hg,h1,h2,h3,⟨hr1,hr2,hr3,hr4⟩,h5,h6,h7⟩:=hs;have lC:=qnr S (.slice Ac S.r.cavs.length cc) (.slice Al S.r.leaf.length cl) (.slice Ak S.cavs.length ck) (.slice Ar S.raw.length cr) hg.tag;have c0:(stpv S (.slice Ac S.r.cavs.length cc) (.slice Al S.r.leaf.length cl) (.slice Ak S.cavs.length ck) (.slice Ar S.raw.length cr))[0]? =some (.int .i64 S.kind):=rfl;have c52:=qnt S (.slice Ac S.r.cavs.length cc) (.slice Al S.r.leaf.length cl) (.slice Ak S.cavs.length ck) (.slice Ar S.raw.length cr) hg.tag 3;obtain⟨C,hC⟩:=xeq (stpv S (.slice Ac S.r.cavs.length cc) (.slice Al S.r.leaf.length cl) (.slice Ak S.cavs.length ck) (.slice Ar S.raw.length cr));rw[hC]at lC c0 c52 hs0 ⊢;obtain⟨n,hn⟩:=xeq S.raw.length;obtain⟨kd,hkd⟩:=xeq S.kind;rw[hn]at c52 hr1 hr3 h140;rw[hkd]at c0 h6;obtain⟨W0,hW0⟩:=eqx (w.alloc (.cells C.toArray 44));have t0:Blk W0 w.heap.size 44 C.toArray:=by rw[hW0];exact Blk.new _ _ _
 have b0:Below w.heap.size w W0:=by rw[hW0];exact qah (tA5 _ _) _
 have e0:=(t0.cell 0).trans (show C.toArray[0]? =some (.int .i64 kd) by simpa using c0);have e52:=(t0.cell 52).trans (show C.toArray[52]? =some (.slice Ar n cr) by simpa using c52);have CR:=xca gw tb c A0 n0 k0 S C W0 (hw.call b0) hc (hs0.stay b0.size (fun b hb=>b0.block b hb));obtain⟨A6,AI,AA,AD,HI,AE,AF,HN⟩:=zh8 b0 t0 (hr3.call b0) CR (zI 44 lC) (qap t0 0 C (fun j u h=>by simpa using h)) hW0 hn;obtain⟨A4,LW,GD,AG⟩:=zh4 hkd b0.size (xbp c hg h3.2.2.2.1 h3.2.2.2.2) hr4;clear hs0 hg h1 h2 h3 hr2 hr3 hr4 h5 h7 c0 c52 b0 t0 CR hn hkd hw lC hW0 hC;go_enter Tryz.func37,Tryz.ntmps37
 go_upto_region 1 with(fail)
 rw[←AF.o];by_cases hk:kd=5
 ·
  subst hk;by_cases h4:n≤400
  ·
   have q:¬(400:Int)<n:=zo;go_wp2_with (at_builtin;refine qdy rfl _ _ rfl W0.heap.size _ [] rfl (OwnB.made W0 [] (by simp[maxLen])) Ar n cr S.raw rfl (AA.laid (.cells #[] 5)) (by simp;omega) zm ?_)
   intro v3 w3 hown3 hb3 hg3;obtain⟨A3,n3,c3,rfl,-,-,-⟩:=hown3.sl;obtain⟨O3,BB⟩:=zh2 hown3 (A6.trans ((((tA5 W0.heap.size W0).alloc (tA4 _) (.cells #[] 5)).trans hb3).mono LW.o));clear hown3 hb3 hg3;go_wp2
   go_ret2
   refine⟨_,S.raw,true,rfl,?_,fun b hb=>⟨rfl,?_⟩,fun h=>?_,BB.o⟩
   · exact(OwnB.mono O3.o LW.o).cast zm
   · unfold bytesOf at hb
     rw[if_pos A4.o]at hb;injection hb with hb;rw[←hb,tB5 (by rw[HN.o];omega)]
   unfold bytesOf at h;rw[if_pos A4.o]at h;cases h
  have q:(400:Int)<n:=zo;have q2:(400:Int)≤cr:=zo;have AH:=zh1 (show Reads W0 W0.heap.size 1 Ar 400 (byv (S.raw.take 400)) by
   have h:=AA.take (k:=400) zo;rw[Nat.mul_one]at h;have e:(byv S.raw).take 400=byv (S.raw.take 400):=by simp[byv,List.map_take]
   rw[←e];exact h)
  have hl4:(S.raw.take 400).length=400:=by rw[tBd,HN.o];omega
  have AJ:=zh1 hl4;clear hl4;go_wp2_with (at_builtin;refine qdy rfl _ _ rfl W0.heap.size _ [] rfl (OwnB.made W0 [] (by simp[maxLen])) Ar 400 cr (S.raw.take 400) rfl (AH.laid (.cells #[] 5)) zm zm ?_)
  intro v3 w3 hown3 hb3 hg3;obtain⟨A3,n3,c3,rfl,-,-,-⟩:=hown3.sl;obtain⟨O3,BB⟩:=zh2 hown3 (A6.trans ((((tA5 W0.heap.size W0).alloc (tA4 _) (.cells #[] 5)).trans hb3).mono LW.o));clear hown3 hb3 hg3;go_wp2
  go_ret2
  refine⟨_,S.raw.take 400,true,rfl,?_,fun b hb=>⟨rfl,?_⟩,fun h=>?_,BB.o⟩
  · exact(OwnB.mono O3.o LW.o).cast zm
  · unfold bytesOf at hb
    rw[if_pos A4.o]at hb;injection hb with hb
  unfold bytesOf at h;rw[if_pos A4.o]at h;cases h
 go_wp2_with (refine zld AE.o zu44 HI.o ?_)
 refine AD.o.mono ?_;rintro e w1 ⟨cav,lv,rfl,oc,ol,b1⟩;obtain⟨A1,n1,c1,rfl,e1,k1,m1,r1⟩:=oc.sl;obtain⟨A2,c2,rfl,k2,m2,r2⟩:=ol.slice;subst e1;have EN:=xch (xbc c S) A1 c1 A2 c2 w1 GD.fit r2 k2 m2 r1 k1 m1 GD.tid GD.cavn;obtain⟨R,hR⟩:=xeq (xbc c S);obtain⟨Q,hQ⟩:=xeq (reqv R (.slice A1 R.cavs.length c1) (.slice A2 R.leaf.length c2));obtain⟨q,hq⟩:=xeq ((qit R).1);rw[hR]at EN ⊢;rw[hQ,hq]at EN;rw[hQ];obtain⟨AB,A7,A8,AC,A5⟩:=zh5 EN hR hq (A6.trans (b1.mono LW.o)) (tB1 LW.o b1.size);clear EN hR hQ hq oc ol b1 k1 m1 r1 k2 m2 r2;have hk5:¬S.kind=5:=by rw[A4.o];exact hk
 have A9:=zh1 hk5;clear hk5;by_cases hq0:q=0
 ·
  have q1:(q:Int)=0:=zo;go_wp2_with fail
  refine AB.o.mono ?_;rintro e w2 ⟨v,rfl,ob,b2⟩;obtain⟨OB,B2⟩:=zh2 ob (AC.trans (b2.mono A5.o));clear ob b2;go_wp2
  go_ret2
  refine⟨v,_,true,rfl,OwnB.mono OB.o A5.o,fun b hb=>⟨rfl,?_⟩,fun h=>?_,B2.o⟩
  · unfold bytesOf at hb
    rw[if_neg A9.o,A7.o,if_pos (by rw[A8.o,hq0])]at hb;injection hb
  unfold bytesOf at h;rw[if_neg A9.o,A7.o,if_pos (by rw[A8.o,hq0])]at h;cases h
 have q1:¬(q:Int)=0:=zo;have q2:((q:Int)==0)=false:=by simpa using q1
 go_wp2_with fail
 refine AB.o.mono ?_;rintro e w2 ⟨v,rfl,ob,b2⟩;obtain⟨OB,B2⟩:=zh2 ob (AC.trans (b2.mono A5.o));clear ob b2;go_wp2
 go_ret2
 refine⟨v,_,false,rfl,OwnB.mono OB.o A5.o,fun b hb=>?_,fun h=>rfl,B2.o⟩;unfold bytesOf at hb;rw[if_neg A9.o,A7.o,if_neg (by rw[A8.o];exact hq0)]at hb;cases hb
theorem xcj (R:Req)(ht:R.tag.length=32):(qit R).2.length≤4294967400:=by
 have h1:=qiw R;have h2:=qe7 R.tid R.cavs R.tag ht;unfold qit;split
 · split
   · simp only[tA6,txt,tBi,List.length_nil,qaw,tBd]
     omega
   simp
 simp
theorem xck (c:Cfg){S:Stp}(hr:S.r.Good)(h1:∀x∈S.cavs,x.2<4294967296)(h2:∀x∈S.cavs,(Lit.int .i64 x.1).wf=true){bs:List Nat}(h:bytesOf c S=some bs):bs.length≤140737488355328:=by
 have hg:=xbp c hr h1 h2;unfold bytesOf at h;split at h
 · injection h with h
   rw[←h,tBd];omega
 split at h
 · injection h with h
   rw[←h];have:=xcj (xbc c S) hg.tag;omega
 cases h
theorem xcl {W w:World}{col:Col}{B g gw tb:Nat}{c:Cfg}{s:Sta}(h:Sit W B w col g gw tb c s)(hc:c.Ok)(S:Stp)(cs:List Value)(hs:StpR w cs S)(h140:S.raw.length≤140737488351232):
 Zc 15 #[.pointer (some ⟨g,0,none⟩),.pointer (some ⟨gw,0,none⟩),.agg cs.toArray] w fun e w'=>∃v col',e=.returned v∧OwnB w' w.heap.size v (xbd c s S).2∧(∀g,v.ownBlock=some g→col' g=0)∧Sit W B w' col' g gw tb c (xbd c s S).1∧Rest w col w' col':=by
 obtain⟨AV,hAV⟩:=xeq (xbd c s S);rw[hAV];have c0:cs[0]? =some (.int .i64 S.kind)∧cs[52 - 1]? =some (.int .u32 (S.n:Int))∧cs.length=53∧(Lit.int .i64 S.kind).wf=true∧S.n<4294967296∧S.r.Good∧(∀x∈S.cavs,x.2<4294967296)∧(∀x∈S.cavs,(Lit.int .i64 x.1).wf=true)∧∀b∈S.raw,b<256:=by
  obtain⟨Ac,cc,Al,cl,Ak,ck,Ar,cr,rfl,hg,h1,h2,⟨k1,k2,k3,k4,k5⟩,⟨hr1,hr2,hr3,hr4⟩,h5,h6,h7⟩:=hs;exact⟨rfl,qnt S _ _ _ _ hg.tag 2,qnr S _ _ _ _ hg.tag,h6,h5,hg,k4,k5,hr4⟩
 obtain⟨c0,c51,lC,hwf,hn32,good,k4,k5,hr4⟩:=c0;obtain⟨W0,hW0⟩:=eqx (w.alloc (.cells cs.toArray 44));have t0:Blk W0 w.heap.size 44 cs.toArray:=by rw[hW0];exact Blk.new _ _ _
 have b0:Below w.heap.size w W0:=by rw[hW0];exact qah (tA5 _ _) _
 obtain⟨kd,hkd⟩:=xeq S.kind;rw[hkd]at c0;have e0:=(t0.cell 0).trans (show cs.toArray[0]? =some (.int .i64 kd) by simpa using c0);have e51:=(t0.cell 51).trans (show cs.toArray[51]? =some (.int .u32 (S.n:Int)) by simpa using c51);obtain⟨A0,n0,k0,hw0,-⟩:=h.wld;have CB:=xci gw tb c A0 n0 k0 S cs W0 (hw0.call b0) hc (hs.stay b0.size (fun b hb=>b0.block b hb)) h140;obtain⟨HI,A7,A8,A4,A5,AC,A2,A1⟩:=zh8 (zI 44 lC) (qap t0 0 cs (fun j u h=>by simpa using h)) CB (h.call b0) b0 hW0 hAV hkd;obtain⟨HC,HN,AA,AB,LW⟩:=zh5 hc hn32 (fun(b:List Nat)(hb:bytesOf c S=some b)=>xbq c good k4 k5 hr4 hb) (fun(b:List Nat)(hb:bytesOf c S=some b)=>xck c good k4 k5 hb) b0.size;clear CB hw0 h hs hAV hkd hc b0 hW0 t0 c0 c51 lC hwf hn32 good k4 k5 hr4;go_enter Tryz.func15,Tryz.ntmps15
 go_upto_region 1 with(fail)
 rw[←AC.o];by_cases h2:kd=2
 ·
  subst h2;go_wp2_with fail
  refine(qzv A4.o HC.o).mono ?_;rintro e w1 ⟨rfl,col1,s1,r1⟩;obtain⟨S1,R1⟩:=zh2 s1 ((Rest.of_below A5.o).trans r1);clear s1 r1;go_wp2
  go_ret
  have hav:=A2.o;unfold xbd at hav;rw[if_pos A1.o]at hav;refine⟨_,col1,rfl,?_,?_,?_,R1.o⟩
  · rw[←hav];exact OwnB.nil _ _
  · intro g hg;cases hg
  rw[←hav];exact S1.o
 by_cases h3:kd=3
 ·
  subst h3;go_wp2_with fail
  refine(qzw A4.o).mono ?_;rintro e w1 ⟨rfl,s1,r1⟩;obtain⟨S1,R1⟩:=zh2 s1 ((Rest.of_below A5.o).trans r1);clear s1 r1;go_wp2
  go_ret
  have hav:=A2.o;unfold xbd at hav;rw[if_neg (by rw[A1.o];decide),if_pos A1.o]at hav;refine⟨_,col,rfl,?_,?_,?_,R1.o⟩
  · rw[←hav];exact OwnB.nil _ _
  · intro g hg;cases hg
  rw[←hav];exact S1.o
 by_cases h4:kd=4
 ·
  subst h4;go_wp2_with fail
  refine(qzx A4.o S.n HN.o).mono ?_;rintro e w1 ⟨rfl,s1,r1⟩;obtain⟨S1,R1⟩:=zh2 s1 ((Rest.of_below A5.o).trans r1);clear s1 r1;go_wp2
  go_ret
  have hav:=A2.o;unfold xbd at hav;rw[if_neg (by rw[A1.o];decide),if_neg (by rw[A1.o];decide),if_pos A1.o]at hav;refine⟨_,col,rfl,?_,?_,?_,R1.o⟩
  · rw[←hav];exact OwnB.nil _ _
  · intro g hg;cases hg
  rw[←hav];exact S1.o
 by_cases h1:kd=1
 ·
  subst h1;go_wp2_with (refine zld A7.o zu44 HI.o ?_)
  refine A8.o.mono ?_;rintro e w1 ⟨v,bs,ok,rfl,ob,hy,hn,b1⟩;obtain⟨OB,S1,B1⟩:=zh3 ob (A4.call b1) (A5.trans (b1.mono LW.o));clear ob b1;cases hby:bytesOf c S with
  |none=>
   have hok:=hn hby;subst hok;have A3:=zh1 hby;clear hy hn hby;go_wp2
   go_ret
   have hav:=A2.o;unfold xbd at hav;rw[if_neg (by rw[A1.o];decide),if_neg (by rw[A1.o];decide),if_neg (by rw[A1.o];decide),if_pos (by rw[A1.o];decide),A3.o]at hav;refine⟨_,col,rfl,?_,?_,?_,Rest.of_below B1.o⟩
   · rw[←hav];exact OwnB.nil _ _
   · intro g hg;cases hg
   rw[←hav];exact S1.o
  |some b=>
   obtain⟨hok,hb⟩:=hy b hby;subst hok hb;obtain⟨A3,LB,BT⟩:=zh3 hby (AB.o bs hby) (AA.o bs hby);clear hy hn hby;obtain⟨A9,n9,c9,rfl,-,-,r9⟩:=OB.sl;have hn9:=qb4 r9;obtain⟨R9,N9⟩:=zh2 r9 (show n9≤140737488355328 by rw[←hn9];exact LB.o);clear r9 hn9;go_wp2_with fail
   refine(xbt S1.o HC.o bs A9 n9 c9 R9.o N9.o BT.o).mono ?_;rintro e w2 ⟨v,col2,rfl,ov,hcol,s2,r2⟩;obtain⟨OV,A6,S2,R2,L2⟩:=zh5 ov hcol s2 ((Rest.of_below B1.o).trans r2) B1.size;clear ov hcol s2 r2;go_wp2
   go_ret
   have hav:=A2.o;unfold xbd at hav;rw[if_neg (by rw[A1.o];decide),if_neg (by rw[A1.o];decide),if_neg (by rw[A1.o];decide),if_pos (by rw[A1.o];decide),A3.o]at hav;refine⟨v,col2,rfl,?_,A6.o,?_,R2.o⟩
   · rw[←hav];exact OwnB.mono OV.o L2.o
   rw[←hav];exact S2.o
 by_cases h5:kd=5
 ·
  subst h5;go_wp2_with (refine zld A7.o zu44 HI.o ?_)
  refine A8.o.mono ?_;rintro e w1 ⟨v,bs,ok,rfl,ob,hy,hn,b1⟩;obtain⟨OB,S1,B1⟩:=zh3 ob (A4.call b1) (A5.trans (b1.mono LW.o));clear ob b1;cases hby:bytesOf c S with
  |none=>
   have hok:=hn hby;subst hok;have A3:=zh1 hby;clear hy hn hby;go_wp2
   go_ret
   have hav:=A2.o;unfold xbd at hav;rw[if_neg (by rw[A1.o];decide),if_neg (by rw[A1.o];decide),if_neg (by rw[A1.o];decide),if_pos (by rw[A1.o];decide),A3.o]at hav;refine⟨_,col,rfl,?_,?_,?_,Rest.of_below B1.o⟩
   · rw[←hav];exact OwnB.nil _ _
   · intro g hg;cases hg
   rw[←hav];exact S1.o
  |some b=>
   obtain⟨hok,hb⟩:=hy b hby;subst hok hb;obtain⟨A3,LB,BT⟩:=zh3 hby (AB.o bs hby) (AA.o bs hby);clear hy hn hby;obtain⟨A9,n9,c9,rfl,-,-,r9⟩:=OB.sl;have hn9:=qb4 r9;obtain⟨R9,N9⟩:=zh2 r9 (show n9≤140737488355328 by rw[←hn9];exact LB.o);clear r9 hn9;go_wp2_with fail
   refine(xbt S1.o HC.o bs A9 n9 c9 R9.o N9.o BT.o).mono ?_;rintro e w2 ⟨v,col2,rfl,ov,hcol,s2,r2⟩;obtain⟨OV,A6,S2,R2,L2⟩:=zh5 ov hcol s2 ((Rest.of_below B1.o).trans r2) B1.size;clear ov hcol s2 r2;go_wp2
   go_ret
   have hav:=A2.o;unfold xbd at hav;rw[if_neg (by rw[A1.o];decide),if_neg (by rw[A1.o];decide),if_neg (by rw[A1.o];decide),if_pos (by rw[A1.o];decide),A3.o]at hav;refine⟨v,col2,rfl,?_,A6.o,?_,R2.o⟩
   · rw[←hav];exact OwnB.mono OV.o L2.o
   rw[←hav];exact S2.o
 go_wp2
 go_ret
 have hav:=A2.o;unfold xbd at hav;rw[if_neg (by rw[A1.o];exact h2),if_neg (by rw[A1.o];exact h3),if_neg (by rw[A1.o];exact h4),if_neg (by rw[A1.o];omega)]at hav;refine⟨_,col,rfl,?_,?_,?_,Rest.of_below A5.o⟩
 · rw[←hav];exact OwnB.nil _ _
 · intro g hg;cases hg
 rw[←hav];exact A4.o
end Go.Proofs.YthomgopipiomhaaGreatDoor

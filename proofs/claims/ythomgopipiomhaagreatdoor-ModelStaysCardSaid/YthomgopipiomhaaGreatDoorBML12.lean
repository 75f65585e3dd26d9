/- Lemmas. -/
import Derived.Test.YthomgopipiomhaaGreatDoorBML11
namespace Go.Proofs.YthomgopipiomhaaGreatDoor
open Go.RowKit
set_option linter.unusedVariables false
set_option linter.unusedSimpArgs false
set_option maxRecDepth 100000
set_option maxHeartbeats 32000000
variable {R r:Req}{s s' s1:Sta}{c:Cfg}{cl base' G k g B b size n k' id y i:Nat}{Al Ac A:Option Addr}{col col' col5 colW colW':Col}{w w' W W0 W5 W':World}{t:Tre}{v v5 vt vr vg u v' vd vl vq:Value}{css css1:List (List Value)}{xs vs X:List Value}{e tt rt gt:TypeId}{bs:List Nat}{L L1:Loc}{x:Ten}
theorem qu3(op:Int)(n:Nat):qq4 op (n:Int)=((qmi op n:Nat):Int):=by
 unfold qq4 qmi;split
 · split
   · omega
   split<;>omega
 rfl
theorem qu4(op:Int)(n:Nat):qmi op n≤16385:=by
 unfold qmi;split<;>omega
theorem qu5(h:(qit R).1≠0):qmj c s R=12:=by
 unfold qmj;rw[if_pos h]
theorem qu6(h:(qit R).1=0)(hg:qsh c s R=false):qmj c s R=20:=by
 unfold qmj;rw[if_neg zo];unfold qsh at hg;cases hy:s.gras[R.tid]? with
 |none=>rfl
 |some y=>
  rw[hy]at hg;dsimp only at hg ⊢;cases h1:qk9 (qmc c.seed) (R.tid,R.cavs,R.tag) with
  |false=>rfl
  |true=>
   rw[h1]at hg;rw[if_neg zdc,if_pos];cases h2:y.revoked with
   |true=>rfl
   |false=>
    rw[h2]at hg;by_cases h3:s.clock<y.expires
    · rw[decide_eq_true h3]at hg
      simp at hg;simp[hg]
    simp[show y.expires≤s.clock by omega]
theorem qu7{y:Gra}(h:(qit R).1=0)(hg:qsh c s R=true)(hy:s.gras[R.tid]? =some y):
 qmj c s R=if !qmg y.role R.op y.tenant (qmh s R y.tenant) then 21 else match s.tenant y.tenant with|none=>22|some x=>if x.tok<qmi R.op R.leaf.length then 22 else 0:=by
 unfold qsh at hg;rw[hy]at hg;simp only[Bool.and_eq_true]at hg;obtain⟨h1,h2,h3,h4⟩:=hg;have h5:=of_decide_eq_true h3;have h6:¬(y.revoked||decide (y.expires≤s.clock)||!qkh R.op (if qdi R.op then R.tree else 0) s.clock R.cavs)=true:=by
  rw[h4];simp at h2;simp[h2];omega
 unfold qmj;rw[if_neg zo,hy];dsimp only;rw[if_neg (by rw[h1];decide),if_neg h6];rfl
theorem qu8(h:(qit R).1=0):R.cavs.length≤4:=by
 have hb:=qsz h;unfold qit at h;rw[if_pos hb]at h;split at h
 · rename_i h1
   unfold qd7 at h1;split at h1
   · cases h1
   omega
 rename_i h1
 exact absurd h h1
theorem Req.Good.fit(h:R.Good):R.Fit:=by
 have bd:∀{x:Int},(Lit.int .i64 x).wf=true→x<18446744073709551616:=fun {x} hx=>by
  have:=(Go.Lit.wf_int_iff _ _).1 hx;rw[IntKind.min_i64,IntKind.max_i64]at this;omega
 refine⟨h.tag,fun o=>?_⟩;have a1:=bd h.tree;have a2:=bd h.tenant;have a3:=bd h.role;have a4:=bd h.state;have a5:=bd h.weight;have a6:=h.id;have a7:=h.lo;have a8:=h.hi;have a9:=h.rate;have b1:=h.burst;have b2:=h.store;have b3:=h.expires;unfold Req.num;split<;>omega
theorem Asked.call{cc:Nat}(h:Asked w col R Ac cc Al cl)(hb:Zb w w'):Asked w' col R Ac cc Al cl:=
 ⟨h.good,h.leaf.call hb,h.leafc,h.leafm,h.cavs.call hb,h.cavc,h.cavm,h.leaf0,h.cavs0⟩
theorem qu9(c:Cfg)(s:Sta)(L:Loc)(col:Col)(k g:Nat)(css:List (List Value))(R:Req)(Ac:Option Addr)(cc:Nat)(Al:Option Addr)(cl:Nat)(w:World)(hk:Kind k)(hc:c.Ok)(hs:s.Ok)(h:Mdl w col k g c s L css)
 (hr:Asked w col R Ac cc Al cl)(hT:Tabs w)(hE:w.cell? ⟨0,0,none⟩=some (.iface 327 (.agg #[.pointer (some ⟨3,81,none⟩)]))):
 Zc 50 #[.pointer (some ⟨g,0,none⟩),.agg (reqv R (.slice Ac R.cavs.length cc) (.slice Al R.leaf.length cl)).toArray] w fun e w'=>∃(y:Gra) (cost:Nat),e=.returned (.tuple #[.agg #[.int .i64 y.tenant,.int .i64 y.role,.int .u64 (y.expires:Int),.bool y.revoked],.int .u32 (cost:Int),.int .i64 ((qmj c s R:Nat):Int)])∧
  (qmj c s R=0→s.gras[R.tid]? =some y∧cost=qmi R.op R.leaf.length)∧Below w.heap.size w w':=by
 have rlen:=qiu R (.slice Ac R.cavs.length cc) (.slice Al R.leaf.length cl) hr.good.tag;have rest:=qdh R (.slice Ac R.cavs.length cc) (.slice Al R.leaf.length cl) hr.good.tag;obtain⟨Q,hQ⟩:=xeq (reqv R (.slice Ac R.cavs.length cc) (.slice Al R.leaf.length cl));have CE:=fun(w':World)(hb:Below w.heap.size w w')=>qiy R Ac cc Al cl w' hr.good.fit (hr.leaf.call hb) hr.leafc hr.leafm (hr.cavs.call hb) hr.cavc hr.cavm hr.good.tid hr.good.cavn
 have CG:=fun(w':World)(hb:Below w.heap.size w w')(h4:R.cavs.length≤4)=>qsn c s L col k g css R Ac cc Al cl w' hk hc hs (h.call hb) (hr.call hb) (hT.below hb hT.size) h4
 have CA:=fun(w':World)(hb:Below w.heap.size w w')(own ro ex rv:Value)(tn:Int)=>qso c s L col k g css R (.slice Ac R.cavs.length cc) (.slice Al R.leaf.length cl) own ro ex rv tn w' hk hs (h.call hb) hr.good.tag hr.good.id
 rw[hQ]at rlen rest CE CG CA ⊢;obtain⟨W0,hW0⟩:=eqx ((w.alloc (.cells Q.toArray 34)).alloc (.cells #[.int .i64 0,.int .i64 0,.int .u64 0,.bool false] 66));have q0:=zNb hW0;have z0:=zNc hW0;have b0:=zMb hW0;have rng:W0.rangeAt w.heap.size 0 Q:=qap q0 0 Q zjq;have kop:Q.toArray[0]? =some (.int .i64 R.op):=by rw[tA3,←hQ];rfl
 have k47:Q.toArray[47]? =some (.slice Al R.leaf.length cl):=by rw[tA3];exact rest 12
 obtain⟨H,BB,Q0,Z0,B0,HK,HC,HS⟩:=zh8 h hW0 q0 z0 b0 hk hc hs;obtain⟨HR,RL,HQ,TT,HE,AE,AN,AO⟩:=zh8 hr rlen hQ hT hE kop k47 rng;obtain⟨AP,AQ,AR,AC⟩:=zh4 CE CG CA (zI 34 rlen);clear h q0 z0 b0 hk hc hs hr rlen rest hQ hT hE kop k47 rng CE CG CA;obtain⟨en,hen⟩:=xeq ((qit R).1);have A9:=zh1 hen;clear hen;go_enter Tryz.func50,Tryz.ntmps50
 go_upto_region 1 with(fail)
 rw[←hW0];clear hW0;go_wp2_with (refine zld AO.o zu34 AC.o ?_)
 refine(AP.o W0 B0.o).mono ?_;rintro e w1 ⟨v1,rfl,o1,b1⟩;rw[A9.o];obtain⟨B1,AA,Z1,Q1⟩:=zh4 b1 (B0.trans (b1.mono B0.size)) (Z0.below b1 Z0.lt) (Q0.below b1 Q0.lt);clear o1 b1;by_cases h0:en=0
 ·
  subst h0;have h4:=qu8 A9.o;have AS:=zh1 h4;clear h4;have AD:=zh1 (qap Q1.o 0 Q zjq);go_upto_region 4 with(fail)
  go_wp2_with (refine zld AD.o zu34 AC.o ?_)
  refine(AQ.o w1 AA.o AS.o).mono ?_;rintro e w2 ⟨y,rfl,hy,b2⟩;obtain⟨gb,hgb⟩:=xeq (qsh c s R);rw[hgb]at hy ⊢;obtain⟨tn,htn⟩:=xeq y.tenant;obtain⟨ro,hro⟩:=xeq y.role;obtain⟨X,hX⟩:=xeq (grav y);rw[show (#[.int .i64 y.tenant,.int .i64 y.role,.int .u64 (y.expires:Int),.bool y.revoked]:Array Value)=X.toArray by rw[←hX];rfl];have lX:X.length=4:=by rw[←hX];rfl
  have oX:∀u∈X,u.oneCell'=true:=by
   rw[←hX];intro u hu;unfold grav at hu;simp only[List.mem_cons,List.not_mem_nil,or_false]at hu;rcases hu with rfl|rfl|rfl|rfl<;>rfl
  obtain⟨X0,X1,XA,A7,LX,OX,HY,AF⟩:=zh8 (show X.toArray[0]? =some (.int .i64 tn) by rw[←hX,←htn];rfl) (show X.toArray[1]? =some (.int .i64 ro) by rw[←hX,←hro];rfl) (show X.toArray=#[.int .i64 tn,.int .i64 y.role,.int .u64 (y.expires:Int),.bool y.revoked] by rw[←hX,←htn];rfl) hX lX oX hy hgb;obtain⟨A8,AG,A0,B2,GN⟩:=zh5 htn hro (zI 66 lX) b2 (Blk.new w2 66 #[.int .i64 0,.int .i64 0,.int .u64 0,.bool false]);clear hX lX oX hy hgb htn hro b2;go_upto_region 5 with(refine zst GN.o A0.o (by simp[LX.o]) OX.o ?_)
  obtain⟨W3,hW3⟩:=eqx ((w2.alloc (.cells #[.int .i64 0,.int .i64 0,.int .u64 0,.bool false] 66)).setRow w2.heap.size X.toArray);rw[←hW3];obtain⟨G,hG⟩:=eqx w2.heap.size;rw[←hG];have GS:=zh1 (show w1.heap.size≤G by rw[hG];exact B2.size);have g3:Blk W3 G 66 X.toArray:=by rw[hW3,hG];exact(Blk.new _ _ _).setRow _
  have b3:Below w1.heap.size w1 W3:=by rw[hW3];exact below_setRow (B2.alloc B2.size _) B2.size _
  obtain⟨G3,B3,AB,Z3,Q3⟩:=zh5 g3 b3 (AA.trans (b3.mono AA.size)) (Z1.below b3 Z1.lt) (Q1.below b3 Q1.lt);clear hW3 hG g3 b3;have AT:=zh1 (qap G3.o 0 X zjq);cases gb with
  |false=>
   have A1:=zh1 (qu6 (c:=c) (s:=s) A9.o AF.o);go_wp2_with (first
    |(refine zld (AT.o) zu66 A0.o ?_)
    |(refine zst (Z3.o) A0.o (by simp[LX.o]) OX.o ?_))
   have A2:=qap ((Z3.o).setRow X.toArray) 0 X zjq;refine bodyPost_ret (qhj rfl rfl (run_loadVar_mid _ _ 0 _ X _ A2 Tryz.underlying66 rfl A0.o)) rfl ⟨y,0,?_,fun h=>?_,below_setRow (AB.o) zo _⟩
   · rw[A1.o,←A7.o]
     rfl
   rw[A1.o]at h;cases h
  |true=>
   have hyy:=HY.o rfl;have hyo:=HS.gra hyy;obtain⟨AU,A1⟩:=zh2 hyy (qu7 A9.o AF.o hyy);obtain⟨m,rfl⟩:∃m:Nat,tn=m:=⟨tn.toNat,by have:=hyo.tenant;rw[A8.o]at this;omega⟩;have hm16:m<16:=by have:=hyo.tenant;rw[A8.o]at this;omega
   obtain⟨x,hx⟩:∃x,s.tens[m]? =some x:=⟨_,tA7 (by rw[HS.tensn];omega)⟩;have HX:=zh1 hx;have hxt:s.tenant y.tenant=some x:=by
    unfold Sta.tenant;rw[A8.o,if_pos zo,tBe];exact hx
   obtain⟨AV,HM⟩:=zh2 hxt hm16;clear hyy hyo hx hxt hm16;go_upto_region 8 with(fail)
   obtain⟨W4,hW4⟩:=eqx (W3.alloc (.cells #[.pointer none] 218));rw[←hW4];obtain⟨p,hp⟩:=eqx W3.heap.size;rw[←hp];have p4:Blk W4 p 218 #[.pointer none]:=by rw[hW4,hp];exact Blk.new _ _ _
   have b4:=zMa hW4;obtain⟨PS,P4,BC,A5,Z4,Q4,G4⟩:=zh7 (show W3.heap.size≤p by omega) p4 b4 (AB.trans (b4.mono AB.size)) (Z3.below b4 Z3.lt) (Q3.below b4 Q3.lt) (G3.below b4 G3.lt);clear hW4 hp p4 b4;obtain⟨S,HS9⟩:=zS fun w'=>Below W4.heap.size W4 w'
   refine zrs S 12 (zq 0 9 [(11,false),(9,true),(10,true),(12,true)]) ((HS9.o _).mpr ((tA5 _ _).drew)) ?_;obtain⟨F0,F1,F2,FQ,FG⟩:=zh5 (fun(w':World)(h:S w')=>((G4.below ((HS9.o w').mp h) G4.lt).cell 0).trans X0.o) (fun(w':World)(h:S w')=>((G4.below ((HS9.o w').mp h) G4.lt).cell 1).trans X1.o) (fun(w':World)(h:S w')=>((Q4.below ((HS9.o w').mp h) Q4.lt).cell 0).trans AE.o) (fun(w':World)(h:S w')=>qap (Q4.below ((HS9.o w').mp h) Q4.lt) 0 Q zjq) (fun(w':World)(h:S w')=>qap (G4.below ((HS9.o w').mp h) G4.lt) 0 X zjq);iterate 7 (refine zr3 ?_)
   refine qo8 rfl rfl 34 (.tmp 3) rfl w.heap.size 0 rfl Q _ FQ.o Tryz.underlying34 rfl AC.o ?_;refine zP ?_;refine qo8 rfl rfl 66 (.tmp 9) rfl G 0 rfl X _ FG.o Tryz.underlying66 rfl A0.o ?_;refine zP ?_;iterate 1 (refine zrb ?_)
   obtain⟨Wd,hWd,BD⟩:=zdr W4;rw[←hWd];clear hWd;have AW:=zh1 (A5.trans (BD.mono A5.size));refine zw ?_;go_simp;rw[XA.o];refine zcb (AR.o Wd AW.o (.bool false) (.int .i64 y.role) (.int .u64 (y.expires:Int)) (.bool y.revoked) (m:Int)) fun w5 b5=>?_
   have B5:=zh1 (BD.trans (b5.mono BD.size));clear b5;refine⟨(HS9.o _).mpr B5.o,zput ?_⟩;refine zw ?_;go_simp;refine(qsq ro R.op (m:Int) (qmh s R (m:Int)) w5).mono ?_;rintro e w6 ⟨v6,rfl,b6,hd1,hd2⟩;obtain⟨B6,S5⟩:=zh2 (B5.trans (b6.mono B5.size)) (show W4.heap.size≤w5.heap.size from B5.size);clear b6;refine⟨(HS9.o _).mpr B6.o,zput ?_⟩;refine zw ?_;go_simp;cases hdec:qmg ro R.op (m:Int) (qmh s R (m:Int)) with
   |false=>
    obtain⟨eg,rfl,e6,es⟩:=hd2 hdec;have why21:qmj c s R=21:=by
     rw[A1.o,AG.o,A8.o,hdec];rfl
    obtain⟨A4,E6,ES⟩:=zh3 why21 e6 es;clear hd1 hd2 hdec e6 es why21;obtain⟨P6,A6,G6,Z6⟩:=zh4 (P4.below B6.o P4.lt) (A5.trans (B6.mono A5.size)) (G4.below B6.o G4.lt) (Z4.below B6.o Z4.lt);refine zcb (qss ⟨eg,0,none⟩ ⟨p,0,none⟩ (.pointer none) w6 (qai HE.o A6.o) ((P6.cell 0).trans rfl) (P6.frozen 0)) fun w7 hw7=>?_
    obtain⟨W6,hW6⟩:=eqx ((((w6.alloc (.cells #[.pointer (some ⟨p,0,none⟩)] 222)).alloc (.cells #[.pointer (some ⟨3,222,none⟩),.pointer (some ⟨w6.heap.size,0,none⟩),.int .u64 150] 284)).alloc (.cells #[.pointer (some ⟨3,222,none⟩),.pointer (some ⟨w6.heap.size,0,none⟩),.int .u64 150] 284)).alloc (.cells #[.pointer (some ⟨eg,0,none⟩)] 218));rw[←hW6]at hw7;have b66:Below w6.heap.size w6 W6:=by rw[hW6];exact qah (qah (qah (qah (tA5 _ _) _) _) _) _
    have AH:=P6.below b66 P6.lt;have AI:=E6.below b66 E6.lt;have AJ:=G6.below b66 G6.lt;have AK:=Z6.below b66 Z6.lt;have AL:=A6.trans (b66.mono A6.size);have pw:w.heap.size≤p:=by have:=PS.o;have:=AB.size;omega
    have ne1:eg≠p:=by have:=ES.o;have:=P4.lt;have:=S5.o;omega
    have ne2:G≠p:=by have:=G3.lt;have:=PS.o;omega
    have ne3:w.heap.size+1≠p:=by have:=Z3.lt;have:=PS.o;omega
    have p7:Blk w7 p 218 #[.pointer (some ⟨eg,0,none⟩)]:=by rw[hw7];exact AH.set_ 0 _
    have e7:Blk w7 eg 224 #[.int .i64 R.op,.int .i64 ro,.int .i64 21]:=by rw[hw7];exact AI.far (p:=⟨p,0,none⟩) ne1 _
    have g7:Blk w7 G 66 X.toArray:=by rw[hw7];exact AJ.far (p:=⟨p,0,none⟩) ne2 _
    have z7:Blk w7 (w.heap.size+1) 66 #[.int .i64 0,.int .i64 0,.int .u64 0,.bool false]:=by rw[hw7];exact AK.far (p:=⟨p,0,none⟩) ne3 _
    have b7:Below w.heap.size w w7:=by rw[hw7];exact AL.setCell (p:=⟨p,0,none⟩) pw _
    obtain⟨AX,AY,AZ,P7,E7,G7,Z7,B7⟩:=zh8 ne3 (show eg≠w.heap.size+1 by have:=ES.o;have:=A5.size;have:=S5.o;have:=Z4.lt;omega) (show G≠w.heap.size+1 by have:=GS.o;have:=Z1.lt;omega) p7 e7 g7 z7 b7;clear hw7 hW6 b66 AH AI AJ AK AL p7 e7 g7 z7 b7 ne1 ne2 ne3 pw HS9 F0 F1 F2 FQ FG;refine zP ?_;refine qbf ?_;go_upto_region 9 with(fail)
    obtain⟨S,HS9⟩:=zS fun w'=>Below w.heap.size w w'∧Blk w' p 218 #[.pointer (some ⟨eg,0,none⟩)]∧Blk w' eg 224 #[.int .i64 R.op,.int .i64 ro,.int .i64 21]∧Blk w' G 66 X.toArray
    refine zrs S 8 (zq 0 5 [(5,true),(6,false),(7,false)]) ((HS9.o _).mpr ⟨B7.drew,P7.o,E7.o,G7.o⟩) ?_;obtain⟨F0,F1,FG⟩:=zh3 (fun(w':World)(h:S w')=>(((HS9.o w').mp h).2.1.cell 0).trans (show (#[.pointer (some ⟨eg,0,none⟩)]:Array Value)[0]? =some (.pointer (some ⟨eg,0,none⟩)) from rfl)) (fun(w':World)(h:S w')=>(((HS9.o w').mp h).2.2.1.cell 2).trans (show (#[.int .i64 R.op,.int .i64 ro,.int .i64 21]:Array Value)[2]? =some (.int .i64 21) from rfl)) (fun(w':World)(h:S w')=>qap ((HS9.o w').mp h).2.2.2 0 X zjq);refine qo8 rfl rfl 66 (.tmp 9) rfl G 0 rfl X _ FG.o Tryz.underlying66 rfl A0.o ?_;refine zP ?_;iterate 4 (refine zr2 ?_)
    obtain⟨W8,hW8⟩:=eqx w7.drew;have b8:Below w7.heap.size w7 W8:=by rw[hW8];exact(tA5 _ _).drew
    rw[←hW8];obtain⟨Z8,B8,P8,E8,G8⟩:=zh5 (Z7.below b8 Z7.lt) (B7.trans (b8.mono B7.size)) (P7.below b8 P7.lt) (E7.below b8 E7.lt) (G7.below b8 G7.lt);clear hW8 b8;refine zw ?_;refine wp_store_row 66 (.tmp 4) (.tmp 45) rfl (w.heap.size+1) X.toArray rfl rfl 66 _ Z8.o (by simpa using A0.o) (by simp[LX.o]) (by simpa using OX.o) ?_;have gp:=P8.grown (qam _ (w.heap.size+1) X.toArray) (by intro e;injection e with e;exact AX.o e.symm);have ge:=E8.grown (qam _ (w.heap.size+1) X.toArray) (by intro e;injection e with e;exact AY.o e);have gx:=G8.grown (qam _ (w.heap.size+1) X.toArray) (by intro e;injection e with e;exact AZ.o e);have A2:=qap (Z8.setRow X.toArray) 0 X zjq;have B4:=zh1 A2;refine⟨fun _=>(HS9.o _).mpr ⟨below_setRow B8.o zo _,gp,ge,gx⟩,?_⟩;clear gp ge gx A2;refine zP ?_;iterate 2 (refine zrb ?_)
    refine qbf ?_;go_wp2_with fail
    refine bodyPost_ret (qhj rfl rfl (run_loadVar_mid _ _ 0 _ X _ B4.o Tryz.underlying66 rfl A0.o)) rfl ⟨y,0,?_,fun h=>?_,below_setRow B8.o zo _⟩
    · rw[A4.o,←A7.o]
      rfl
    rw[A4.o]at h;cases h
   |true=>
    obtain rfl:=hd1 hdec;have why:qmj c s R=if x.tok<qmi R.op R.leaf.length then 22 else 0:=by
     rw[A1.o,AG.o,A8.o,hdec,←A8.o,AV.o];rfl
    have A4:=zh1 why;clear hd1 hd2 hdec why;obtain⟨A6,Q6,G6,Z6⟩:=zh4 (A5.trans (B6.mono A5.size)) (Q4.below B6.o Q4.lt) (G4.below B6.o G4.lt) (Z4.below B6.o Z4.lt);have H6:=zh1 (H.call A6.o);have CT:=zh1 (qqe (m:Int) c s L col k g css w6 H6.o);have c3:w6.cell? ⟨L.tg,m*6+3,none⟩=some (.int .u32 (x.tok:Int)):=H6.st.tens.cell ((qnk HX.o zo).trans rfl);have C3:=zh1 c3;clear c3;refine(qsr _ w6).mono ?_;rintro e w7 ⟨rfl,rfl⟩;clear HS9 F0 F1 F2 FQ FG;refine zP ?_;refine qbf ?_;obtain⟨ln,hln⟩:=xeq R.leaf.length;have kop:=(Q6.cell 0).trans AE.o;have k47:=(Q6.cell 47).trans AN.o;rw[hln]at k47 A4;have B9:=zh1 hln;clear hln;go_wp2_with fail
    refine(qq5 R.op (ln:Int) _).mono ?_;rintro e w8 ⟨rfl,rfl⟩;rw[qu3];obtain⟨K,hK⟩:=xeq (qmi R.op ln);rw[hK]at A4 ⊢;have BA:=zh1 hK;clear hK kop k47;have x0:=(G6.cell 0).trans X0.o;go_wp2_with fail
    refine CT.o.mono ?_;rintro e w9 ⟨rfl,rfl⟩;rw[if_pos ⟨by omega,by have:=HM.o;omega⟩,tBe];clear x0;have c3:=C3.o;have AM:=zh1 (qap G6.o 0 X zjq);obtain⟨tk,htk⟩:=xeq x.tok;rw[htk]at c3 A4;clear htk;by_cases hlt:tk<K
    ·
     have ql:(tk:Int)<K:=zo;have A3:=zh1 (show qmj c s R=22 by rw[A4.o,if_pos hlt]);clear hlt;go_wp2_with (first
      |(refine zld (AM.o) zu66 A0.o ?_)
      |(refine zst (Z6.o) A0.o (by simp[LX.o]) OX.o ?_))
     have A2:=qap ((Z6.o).setRow X.toArray) 0 X zjq;refine bodyPost_ret (qhj rfl rfl (run_loadVar_mid _ _ 0 _ X _ A2 Tryz.underlying66 rfl A0.o)) rfl ⟨y,0,?_,fun h=>?_,below_setRow (A6.o) zo _⟩
     · rw[A3.o,←A7.o]
       rfl
     rw[A3.o]at h;cases h
    have ql:¬(tk:Int)<K:=zo;have A3:=zh1 (show qmj c s R=0 by rw[A4.o,if_neg hlt]);clear hlt;go_wp2_with (first
     |(refine zld (AM.o) zu66 A0.o ?_)
     |(refine zst (Z6.o) A0.o (by simp[LX.o]) OX.o ?_))
    have A2:=qap (Z6.setRow X.toArray) 0 X zjq;refine bodyPost_ret (qhj rfl rfl (run_loadVar_mid _ _ 0 _ X _ A2 Tryz.underlying66 rfl A0.o)) rfl ⟨y,K,?_,fun h=>⟨AU.o,by rw[←BA.o,B9.o]⟩,below_setRow A6.o zo _⟩;rw[A3.o,←A7.o];rfl
 have A1:=zh1 (qu5 (c:=c) (s:=s) (R:=R) (by rw[A9.o];exact h0));have qn:((en:Int)==0)=false:=by simp;omega
 obtain⟨y,hyz⟩:∃y:Gra,y=⟨0,0,0,false⟩:=⟨_,rfl⟩;obtain⟨X,hX⟩:=xeq (grav y);have lX:X.length=4:=by rw[←hX];rfl
 have oX:∀u∈X,u.oneCell'=true:=by
  rw[←hX];intro u hu;unfold grav at hu;simp only[List.mem_cons,List.not_mem_nil,or_false]at hu;rcases hu with rfl|rfl|rfl|rfl<;>rfl
 obtain⟨BT,A7,LX,OX⟩:=zh4 (show Tryz.prog.built 66 []=some X.toArray by rw[←hX,hyz];exact qsi) hX lX oX;have A0:=zh1 (zI 66 LX.o);clear hX lX oX h0 hyz;go_wp2_with (first
  |(refine qbj rfl ⟨.agg X.toArray,qgn 66 _ rfl _ _ BT.o (by simp[Act.eval]),?_⟩)
  |(refine zst Z1.o A0.o (by simp[LX.o]) OX.o ?_))
 have A2:=qap ((Z1.o).setRow X.toArray) 0 X zjq;refine bodyPost_ret (qhj rfl rfl (run_loadVar_mid _ _ 0 _ X _ A2 Tryz.underlying66 rfl A0.o)) rfl ⟨y,0,?_,fun h=>?_,below_setRow (AA.o) zo _⟩
 · rw[A1.o,←A7.o]
   rfl
 rw[A1.o]at h;cases h
def Rsp.Shape (A:Rsp):Prop:=A.hd.Ok∧A.tok.2.2.length=32
theorem qua(n:Nat):(rWhy n).Shape:=⟨Hd.zero_Ok,by simp[rWhy,qir,qgq]⟩
theorem qub(n:Nat):(qmk n).Shape:=⟨Hd.zero_Ok,by simp[qmk,qir,qgq]⟩
theorem quc(n:Nat)(bs:List Nat)(hs:List (List Nat)):({qir with n:=n,bytes:=bs,hashes:=hs}:Rsp).Shape:=⟨Hd.zero_Ok,by simp[qir,qgq]⟩
theorem qud(ho:t.hd.Ok):(qmn c s R t).Shape:=by
 unfold qmn;split
 · exact⟨ho,by simp[qir,qgq]⟩
 split
 · split
   · exact qua _
   exact quc _ _ []
 split
 · split
   · exact qua _
   exact quc _ [] _
 split
 · exact qua _
 exact quc _ [] _
theorem que(hs:s.Ok):(qmv c s R).2.Shape:=by
 unfold qmv;split
 · unfold qmo
   repeat' split
   all_goals first|exact qua _|exact qub _
 split
 · unfold qms
   repeat' split
   all_goals first|exact qua _|exact qub _|exact⟨Hd.zero_Ok,qjv _ _⟩
 split
 · unfold qmt
   repeat' split
   all_goals first|exact qua _|exact qub _
 split
 · unfold qmu
   repeat' split
   all_goals first|exact qua _|exact qub _
 split
 · exact qua _
 rename_i t ht
 split
 · unfold qmm
   repeat' split
   all_goals first|exact qua _|exact qub _
 split
 · unfold qmp
   split
   · exact qua _
   exact qub _
 split
 · unfold qmq
   repeat' split
   all_goals first|exact qua _|exact qub _
 split
 · unfold qmr
   split
   · exact qua _
   exact qub _
 exact qud (s:=s) (hs.tre (Sta.tree_some ht).2.1).hd
theorem RspV.row{base:Nat}{A:Rsp}{cs X:Array Value}(h:RspV W col base v A)(hz:Blk W G 57 cs)(hb:base'≤base):RspV (W.setRow G X) col base' v A:=by
 obtain⟨bv,hv,cav,e,h1,h2,h3,h4,h5,h6⟩:=h;exact⟨bv,hv,cav,e,qdb (tB3 h1 (qam _ G X) (.inr (qa3 h1 hz zdc))) hb,
  ⟨h2.1,qdb (tB3 h2.2 (qam _ G X) (.inr (qa3 h2.2 hz zdc))) hb⟩,
  qdb (tB3 h3 (qam _ G X) (.inr (qa3 h3 hz zdc))) hb,h4,h5,h6⟩
theorem Did.pre(hb:Zb w W)(h:Did W col w' col' k g c css s s'):Did w col w' col' k g c css s s':=
 ⟨h.mdl,h.old,(Turns.of_below _ hb).trans h.turns⟩
theorem RspV.cells{base:Nat}{A:Rsp}(h:RspV W col base v A)(hs:A.Shape):∃X:List Value,v=.agg X.toArray∧X.length=106∧∀u∈X,u.oneCell'=true:=by
 obtain⟨bv,hv,cav,e,h1,h2,h3,-⟩:=h;obtain⟨A1,n1,c1,rfl,-⟩:=h1.sl;obtain⟨A2,n2,c2,rfl,-⟩:=h2.sl;obtain⟨A3,n3,c3,rfl,-⟩:=h3.sl;exact⟨_,e,qpv _ _ _ _ (qni hs.1) hs.2,qpw _ _ _ _ rfl rfl rfl⟩
theorem quf(a b c d:Value)(R M:List Value)(hR:R.length=32)(hM:M.length=32):Tryz.prog.built 57 [(4,.agg (a::b::c::d::(R++M)).toArray)]=some (Value.int .i64 0::.int .u64 0::.slice none 0 0::.slice none 0 0::((a::b::c::d::(R++M))++tokv qgq.1 (.slice none 0 0) qgq.2.2)).toArray:=by
 obtain⟨a0,a1,a2,a3,a4,a5,a6,a7,a8,a9,a10,a11,a12,a13,a14,a15,a16,a17,a18,a19,a20,a21,a22,a23,a24,a25,a26,a27,a28,a29,a30,a31,rfl⟩:=qgm R hR;obtain⟨b0,b1,b2,b3,b4,b5,b6,b7,b8,b9,b10,b11,b12,b13,b14,b15,b16,b17,b18,b19,b20,b21,b22,b23,b24,b25,b26,b27,b28,b29,b30,b31,rfl⟩:=qgm M hM;kernel_rfl
theorem qug{h:Hd}(ho:h.Ok):Tryz.prog.built 57 [(4,.agg (hdv h).toArray)]=some (qq8 {qir with hd:=h}).toArray:=
 quf _ _ _ _ (byv h.root) (byv h.tag) (by rw[qat,ho.rootl]) (by rw[qat,ho.tagl])
theorem quh(t:Tre)(a b d:Value)(j:Nat):(trev t a b d)[7+j]? =(hdv t.hd)[j]? :=by
 unfold trev;rw[show 7+j=j+1+1+1+1+1+1+1 by omega];simp only[tBc]
theorem qui{a:Rsp}(d5:Did W0 col W5 col5 k g c css s s')(r5:RspV W5 col5 W0.heap.size v5 a)(hs:a.Shape)(z0:Blk W0 (w.heap.size+1) 57 Tryz.zeroCells57)(g0:col (w.heap.size+1)=0)(hk:Kind k)(b0:Zb w W0):
 ∃X:List Value,v5=.agg X.toArray∧RspK X∧Hid (Blk W5 (w.heap.size+1) 57 Tryz.zeroCells57)∧Hid (RspV (W5.setRow (w.heap.size+1) X.toArray) col5 w.heap.size v5 a)∧Hid (Did w col (W5.setRow (w.heap.size+1) X.toArray) col5 k g c css s s'):=by
 obtain⟨X,rfl,lX,oX⟩:=r5.cells hs;have z5:Blk W5 (w.heap.size+1) 57 Tryz.zeroCells57:=(d5.turns.block _ z0.lt (by rw[g0];exact qr1 hk)).trans z0;have g5:col5 (w.heap.size+1)=0:=(d5.turns.same _ z0.lt).trans g0;exact⟨X,rfl,⟨lX,oX⟩,z5,r5.row (X:=X.toArray) z5 b0.size,(d5.pre b0).row0 hk X.toArray g5 zo⟩
theorem quj{f:FuncId}{args:Array Value}{K:Ending→World→Prop}{A r:Rsp}(HA:Hid (A=r))(HB:Hid (s'=s1))(HSH:Hid A.Shape)(HZ:Hid (Blk W0 (w.heap.size+1) 57 Tryz.zeroCells57))(HG:Hid (col (w.heap.size+1)=0))(HK:Hid (Kind k))(B0:Hid (Zb w W0))
 (hc:Zc f args W0 fun e w'=>∃v col',e=.returned v∧RspV w' col' W0.heap.size v r∧Did W0 col w' col' k g c css s s1)
 (h:∀X W5 col5,Hid (Blk W5 (w.heap.size+1) 57 Tryz.zeroCells57)→RspK X→Hid (RspV (W5.setRow (w.heap.size+1) X.toArray) col5 w.heap.size (.agg X.toArray) A∧Did w col (W5.setRow (w.heap.size+1) X.toArray) col5 k g c css s s')→K (.returned (.agg X.toArray)) W5:=by
  (intro X W5 col5 Z5 pk RD
   go_wp2_with (refine qqi _ _ _ X Z5.o pk ?_)
   exact qqj (Z5.setRow X.toArray) pk ⟨_,col5,rfl,RD.o⟩)):Zc f args W0 K:=by
 refine hc.mono ?_;rintro e W5 ⟨v5,col5,rfl,r5,d5⟩;rw[←HA.o]at r5;rw[←HB.o]at d5;obtain⟨X,rfl,pk,Z5,R9,D9⟩:=qui d5 r5 HSH.o HZ.o HG.o HK.o B0.o;exact h X W5 col5 Z5 pk ⟨R9.o,D9.o⟩
theorem quk(c:Cfg)(s:Sta)(L:Loc)(col:Col)(k g:Nat)(css:List (List Value))(R:Req)(Ac:Option Addr)(cc:Nat)(Al:Option Addr)(cl:Nat)(w:World)(hk:Kind k)(hc:c.Ok)(hs:s.Ok)(h:Mdl w col k g c s L css)
 (hr:Asked w col R Ac cc Al cl)(hT:Tabs w)(he:(qit R).1=0):
 Zc 54 #[.pointer (some ⟨g,0,none⟩),.agg (reqv R (.slice Ac R.cavs.length cc) (.slice Al R.leaf.length cl)).toArray] w fun e w'=>∃v col',e=.returned v∧RspV w' col' w.heap.size v (qmv c s R).2∧Did w col w' col' k g c css s (qmv c s R).1:=by
 obtain⟨Q,hQ,rlen,rest,W0,hW0,q0,z0,b0⟩:=qr4 R Ac cc Al cl w hr.good.tag;rw[hQ];have hG0:=h.fin.none (b:=w.heap.size+1) zo;have D0:=Did.same (css:=css) h b0;obtain⟨H,A8,Q0,Z0,B0,A1,A9,HK⟩:=zh8 h hW0 q0 z0 b0 hG0 D0 hk;obtain⟨HS,HR,RL,AA,HQ⟩:=zh5 hs hr rlen rest hQ;clear h hW0 q0 z0 b0 hG0 D0 hk hs hr rlen rest hQ;obtain⟨HC,A5,AB,A2⟩:=zh4 hc (hT.below B0.o hT.size) he (que (c:=c) (R:=R) HS.o);have hop:=qt4 he;obtain⟨A3,A4⟩:=zh2 (qap Q0.o 0 Q zjq) (zI 34 RL.o);obtain⟨op,hop'⟩:=xeq R.op;rw[hop']at hop;have k0:=(Q0.cell 0).trans (show Q.toArray[0]? =some (.int .i64 op) by rw[tA3,←hop',←HQ.o];rfl);have k35:=(Q0.cell 35).trans (show Q.toArray[35]? =some (.int .i64 R.tree) by rw[tA3];exact AA.o 0);obtain⟨A6,A0,HW,AW⟩:=zh4 k35 hop' (H.call B0.o) (HR.call B0.o);clear hc hT he hop' k35;cases htr:s.tree R.tree with
 |none=>
  obtain⟨CT,AC⟩:=zh2 (qqf R.tree c s L col k g css W0 HS.o HW.o htr) htr;clear htr;have k0':=k0;rw[A8.o]at k0';go_enter Tryz.func54,Tryz.ntmps54
  go_upto_region 1 with(fail)
  rw[←A8.o];clear k0';have k35:=A6.o;go_wp2_with fail
  refine CT.o.mono ?_;rintro e w' ⟨rfl,rfl⟩;clear k35;have no:op≠6→op≠10→op≠11→op≠12→qmv c s R=(s,rWhy 23):=by
   intro h6 h10 h11 h12;unfold qmv;rw[A0.o,if_neg h6,if_neg h10,if_neg h11,if_neg h12,AC.o]
  have hcases:op=6∨op=10∨op=11∨op=12∨op=1∨op=2∨op=3∨op=4∨op=5∨op=7∨op=8∨op=9:=zo;clear hop;rcases hcases with rfl|rfl|rfl|rfl|hrest
  ·
   clear no;have hd:qmv c s R=qmo c s R:=by unfold qmv;rw[if_pos A0.o]
   obtain⟨HA,HB⟩:=zh2 (show (qmv c s R).2=(qmo c s R).2 by rw[hd]) (show (qmv c s R).1=(qmo c s R).1 by rw[hd]);have C1:=qs5 c s L col k g css R Ac cc Al cl W0 HK.o HC.o HS.o HW.o AW.o A5.o (qt6 (o:=35) (l:=[(1,1,35),(1,1,36),(1,1,39)]) AB.o (by rw[A0.o];rfl) zm).1;rw[HQ.o]at C1;have CL:=zh1 C1;clear hd C1;go_wp2_with (refine zld A3.o zu34 A4.o ?_)
   exact quj HA HB A2 Z0 A1 HK B0 (CL.o)
  ·
   clear no;have hd:qmv c s R=qms c s R:=by unfold qmv;rw[if_neg (by rw[A0.o];decide),if_pos A0.o]
   obtain⟨HA,HB⟩:=zh2 (show (qmv c s R).2=(qms c s R).2 by rw[hd]) (show (qmv c s R).1=(qms c s R).1 by rw[hd]);have C1:=qsc c s L col k g css R Ac cc Al cl W0 HK.o HC.o HS.o HW.o AW.o A5.o;rw[HQ.o]at C1;have CL:=zh1 C1;clear hd C1;go_wp2_with fail
   refine zca (qdk 10 W0) ?_;rw[show qdi 10=false from rfl];go_wp2_with (refine zld A3.o zu34 A4.o ?_)
   exact quj HA HB A2 Z0 A1 HK B0 (CL.o)
  ·
   clear no;have hd:qmv c s R=qmt s R:=by unfold qmv;rw[if_neg (by rw[A0.o];decide),if_neg (by rw[A0.o];decide),if_pos A0.o]
   obtain⟨HA,HB⟩:=zh2 (show (qmv c s R).2=(qmt s R).2 by rw[hd]) (show (qmv c s R).1=(qmt s R).1 by rw[hd]);have C1:=qrk c s L col k g css R Ac cc Al cl W0 HK.o HS.o HW.o AW.o;rw[HQ.o]at C1;have CL:=zh1 C1;clear hd C1;go_wp2_with fail
   refine zca (qdk 11 W0) ?_;rw[show qdi 11=false from rfl];go_wp2_with (refine zld A3.o zu34 A4.o ?_)
   exact quj HA HB A2 Z0 A1 HK B0 (CL.o)
  ·
   clear no;have hd:qmv c s R=qmu s R:=by unfold qmv;rw[if_neg (by rw[A0.o];decide),if_neg (by rw[A0.o];decide),if_neg (by rw[A0.o];decide),if_pos A0.o]
   obtain⟨HA,HB⟩:=zh2 (show (qmv c s R).2=(qmu s R).2 by rw[hd]) (show (qmv c s R).1=(qmu s R).1 by rw[hd]);have C1:=qrm c s L col k g css R Ac cc Al cl W0 HK.o HS.o HW.o AW.o;rw[HQ.o]at C1;have CL:=zh1 C1;clear hd C1;go_wp2_with fail
   refine zca (qdk 12 W0) ?_;rw[show qdi 12=false from rfl];go_wp2_with (refine zld A3.o zu34 A4.o ?_)
   exact quj HA HB A2 Z0 A1 HK B0 (CL.o)
  have A7:=zh1 (no zo zo zo zo);have e6:(op==6)=false:=by simp;omega
  have ht:qdi op=true:=by unfold qdi;exact decide_eq_true zo
  have AG:=zh1 ht;clear no hrest ht;go_wp2_with fail
  refine zca (qdk op W0) ?_;rw[AG.o];go_wp2_with fail
  exact qr5 A7 HK (A1.o) (qqd 23 W0) (Z0.o) (A9.o)
 |some t=>
  obtain⟨hp,ht,h0,h4⟩:=Sta.tree_some htr;obtain⟨n,hn⟩:∃n:Nat,R.tree=n:=⟨R.tree.toNat,by omega⟩;rw[hn,tBe]at ht;obtain⟨CT,AC,HN,HT⟩:=zh4 (qqg n t c s L col k g css W0 HS.o HW.o ht h0 h4) htr hn ht;clear hp h0 h4;have k35:=A6.o;rw[hn]at k35;have A6:=zh1 k35;have k0':=k0;rw[A8.o]at k0';have hto:=HS.tre ht;obtain⟨-,Ad,cd,Al',cl',Aq,cq,-,hcell,-,-,-⟩:=HW.st.tree HS.o ht;obtain⟨HV,hHV⟩:=xeq (hdv t.hd);have AH:=zh1 (show W0.rangeAt L.rg (n*75+7) HV from fun j u hu=>by
   have h7:=hcell (7+j) u ((quh _ _ _ _ j).trans (by rw[hHV];exact hu));rw[←Nat.add_assoc]at h7;exact h7)
  have lHV:HV.length=68:=by rw[←hHV];exact qni hto.hd
  obtain⟨AI,AJ,AE⟩:=zh3 (zI 55 lHV) hHV hto;clear htr hn ht k35 hto hcell hHV lHV;go_enter Tryz.func54,Tryz.ntmps54
  go_upto_region 1 with(fail)
  rw[←A8.o];clear k0';have k35:=A6.o;go_wp2_with fail
  refine CT.o.mono ?_;rintro e w' ⟨rfl,rfl⟩;clear k35;have yes:op≠6→op≠10→op≠11→op≠12→qmv c s R=(if op=1 then qmm c s R t else if op=7 then qmp c s R t else if op=8 then qmq s R else if op=9 then qmr c s R t else(s,qmn c s R t)):=by
   intro h6 h10 h11 h12;unfold qmv;rw[A0.o,if_neg h6,if_neg h10,if_neg h11,if_neg h12,AC.o]
  have hcases:op=6∨op=10∨op=11∨op=12∨op=1∨op=2∨op=3∨op=4∨op=5∨op=7∨op=8∨op=9:=zo;clear hop;rcases hcases with rfl|rfl|rfl|rfl|rfl|rfl|rfl|rfl|rfl|rfl|rfl|rfl
  ·
   clear yes;have hd:qmv c s R=qmo c s R:=by unfold qmv;rw[if_pos A0.o]
   obtain⟨HA,HB⟩:=zh2 (show (qmv c s R).2=(qmo c s R).2 by rw[hd]) (show (qmv c s R).1=(qmo c s R).1 by rw[hd]);have C1:=qs5 c s L col k g css R Ac cc Al cl W0 HK.o HC.o HS.o HW.o AW.o A5.o (qt6 (o:=35) (l:=[(1,1,35),(1,1,36),(1,1,39)]) AB.o (by rw[A0.o];rfl) zm).1;rw[HQ.o]at C1;have CL:=zh1 C1;clear hd C1;go_wp2_with (refine zld A3.o zu34 A4.o ?_)
   exact quj HA HB A2 Z0 A1 HK B0 (CL.o)
  ·
   clear yes;have hd:qmv c s R=qms c s R:=by unfold qmv;rw[if_neg (by rw[A0.o];decide),if_pos A0.o]
   obtain⟨HA,HB⟩:=zh2 (show (qmv c s R).2=(qms c s R).2 by rw[hd]) (show (qmv c s R).1=(qms c s R).1 by rw[hd]);have C1:=qsc c s L col k g css R Ac cc Al cl W0 HK.o HC.o HS.o HW.o AW.o A5.o;rw[HQ.o]at C1;have CL:=zh1 C1;clear hd C1;go_wp2_with fail
   refine zca (qdk 10 W0) ?_;rw[show qdi 10=false from rfl];go_wp2_with (refine zld A3.o zu34 A4.o ?_)
   exact quj HA HB A2 Z0 A1 HK B0 (CL.o)
  ·
   clear yes;have hd:qmv c s R=qmt s R:=by unfold qmv;rw[if_neg (by rw[A0.o];decide),if_neg (by rw[A0.o];decide),if_pos A0.o]
   obtain⟨HA,HB⟩:=zh2 (show (qmv c s R).2=(qmt s R).2 by rw[hd]) (show (qmv c s R).1=(qmt s R).1 by rw[hd]);have C1:=qrk c s L col k g css R Ac cc Al cl W0 HK.o HS.o HW.o AW.o;rw[HQ.o]at C1;have CL:=zh1 C1;clear hd C1;go_wp2_with fail
   refine zca (qdk 11 W0) ?_;rw[show qdi 11=false from rfl];go_wp2_with (refine zld A3.o zu34 A4.o ?_)
   exact quj HA HB A2 Z0 A1 HK B0 (CL.o)
  ·
   clear yes;have hd:qmv c s R=qmu s R:=by unfold qmv;rw[if_neg (by rw[A0.o];decide),if_neg (by rw[A0.o];decide),if_neg (by rw[A0.o];decide),if_pos A0.o]
   obtain⟨HA,HB⟩:=zh2 (show (qmv c s R).2=(qmu s R).2 by rw[hd]) (show (qmv c s R).1=(qmu s R).1 by rw[hd]);have C1:=qrm c s L col k g css R Ac cc Al cl W0 HK.o HS.o HW.o AW.o;rw[HQ.o]at C1;have CL:=zh1 C1;clear hd C1;go_wp2_with fail
   refine zca (qdk 12 W0) ?_;rw[show qdi 12=false from rfl];go_wp2_with (refine zld A3.o zu34 A4.o ?_)
   exact quj HA HB A2 Z0 A1 HK B0 (CL.o)
  ·
   have hd:qmv c s R=qmm c s R t:=by rw[yes zdc zdc zdc zdc];rfl
   obtain⟨HA,HB⟩:=zh2 (show (qmv c s R).2=(qmm c s R t).2 by rw[hd]) (show (qmv c s R).1=(qmm c s R t).1 by rw[hd]);have C1:=qrj c s L col k g css n t R Ac cc Al cl W0 HK.o HC.o HS.o HW.o AW.o HN.o HT.o (qt5 AB.o A0.o);rw[HQ.o]at C1;have CL:=zh1 C1;clear hd C1 yes;go_wp2_with fail
   refine zca (qdk 1 W0) ?_;rw[show qdi 1=true from rfl];go_wp2_with (refine zld A3.o zu34 A4.o ?_)
   exact quj HA HB A2 Z0 A1 HK B0 (CL.o)
  ·
   have hd:qmv c s R=(s,{qir with hd:=t.hd}):=by
    rw[yes zdc zdc zdc zdc];show (s,qmn c s R t)=_;unfold qmn;rw[if_pos A0.o]
   have A7:=zh1 hd;clear hd yes;go_wp2_with fail
   refine zca (qdk 2 W0) ?_;rw[show qdi 2=true from rfl];obtain⟨X,hX⟩:=xeq (qq8 {qir with hd:=t.hd});have lX:X.length=106:=by rw[←hX];exact qq9 _ AE.hd (by simp[qir,qgq])
   have oX:∀u∈X,u.oneCell'=true:=by rw[←hX];exact qqa _
   have bT:Tryz.prog.built 57 [(4,.agg HV.toArray)]=some X.toArray:=by rw[←hX,←AJ.o];exact qug AE.hd
   obtain⟨HX,LX,OX,BT,AF,AD⟩:=zh6 hX lX oX bT (zI 57 lX) qqb;clear hX lX oX bT;go_wp2_with (first
    |(refine zld AH.o zu55 AI.o ?_)
    |(refine qbj rfl ⟨.agg X.toArray,qgn 57 _ rfl _ _ BT.o (by simp[Act.eval,Act.put]),?_⟩)
    |(refine zst Z0.o AF.o (by simp[LX.o,AD.o]) OX.o ?_))
   have AK:=qap (Z0.setRow X.toArray) 0 X zjq;exact zrt AK zu57 AF.o ⟨_,col,rfl,(by rw[A7.o,←HX.o];exact RspV.plain _ _ _ _ rfl rfl rfl),(by rw[A7.o];exact A9.row0 HK.o X.toArray A1.o zo)⟩
  ·
   have hd:qmv c s R=(s,qmn c s R t):=by rw[yes zdc zdc zdc zdc];rfl
   obtain⟨HA,HB⟩:=zh2 (show (qmv c s R).2=((s,qmn c s R t)).2 by rw[hd]) (show (qmv c s R).1=((s,qmn c s R t)).1 by rw[hd]);have C1:=qs2 c s L col k g css n t R Ac cc Al cl W0 HK.o HS.o HW.o AW.o HT.o A5.o (.inl A0.o);rw[HQ.o]at C1;have CL:=zh1 C1;clear hd C1 yes;go_wp2_with fail
   refine zca (qdk 3 W0) ?_;rw[show qdi 3=true from rfl];go_wp2_with (refine zld A3.o zu34 A4.o ?_)
   exact quj HA HB A2 Z0 A1 HK B0 (CL.o)
  ·
   have hd:qmv c s R=(s,qmn c s R t):=by rw[yes zdc zdc zdc zdc];rfl
   obtain⟨HA,HB⟩:=zh2 (show (qmv c s R).2=((s,qmn c s R t)).2 by rw[hd]) (show (qmv c s R).1=((s,qmn c s R t)).1 by rw[hd]);have C1:=qs2 c s L col k g css n t R Ac cc Al cl W0 HK.o HS.o HW.o AW.o HT.o A5.o (.inr (.inl A0.o));rw[HQ.o]at C1;have CL:=zh1 C1;clear hd C1 yes;go_wp2_with fail
   refine zca (qdk 4 W0) ?_;rw[show qdi 4=true from rfl];go_wp2_with (refine zld A3.o zu34 A4.o ?_)
   exact quj HA HB A2 Z0 A1 HK B0 (CL.o)
  ·
   have hd:qmv c s R=(s,qmn c s R t):=by rw[yes zdc zdc zdc zdc];rfl
   obtain⟨HA,HB⟩:=zh2 (show (qmv c s R).2=((s,qmn c s R t)).2 by rw[hd]) (show (qmv c s R).1=((s,qmn c s R t)).1 by rw[hd]);have C1:=qs2 c s L col k g css n t R Ac cc Al cl W0 HK.o HS.o HW.o AW.o HT.o A5.o (.inr (.inr A0.o));rw[HQ.o]at C1;have CL:=zh1 C1;clear hd C1 yes;go_wp2_with fail
   refine zca (qdk 5 W0) ?_;rw[show qdi 5=true from rfl];go_wp2_with (refine zld A3.o zu34 A4.o ?_)
   exact quj HA HB A2 Z0 A1 HK B0 (CL.o)
  ·
   by_cases hn0:n=0
   ·
    subst hn0;have hd:qmv c s R=(s,rWhy 24):=by
     rw[yes zdc zdc zdc zdc];show qmp c s R t=_;unfold qmp;rw[if_pos (.inl HN.o)]
    have A7:=zh1 hd;clear hd yes;go_wp2_with fail
    refine zca (qdk 7 W0) ?_;rw[show qdi 7=true from rfl];have k35:=A6.o;go_wp2_with fail
    exact qr5 A7 HK (A1.o) (qqd 24 W0) (Z0.o) (A9.o)
   have qn:((n:Int)==0)=false:=by simp;omega
   have hd:qmv c s R=qmp c s R t:=by rw[yes zdc zdc zdc zdc];rfl
   obtain⟨HA,HB⟩:=zh2 (show (qmv c s R).2=(qmp c s R t).2 by rw[hd]) (show (qmv c s R).1=(qmp c s R t).1 by rw[hd]);have C1:=qsg c s L col k g css n t R Ac cc Al cl W0 HK.o HS.o HW.o AW.o HT.o HN.o hn0 A0.o;rw[HQ.o]at C1;have CL:=zh1 C1;clear hd C1 yes hn0;go_wp2_with fail
   refine zca (qdk 7 W0) ?_;rw[show qdi 7=true from rfl];have k35:=A6.o;go_wp2_with (refine zld A3.o zu34 A4.o ?_)
   exact quj HA HB A2 Z0 A1 HK B0 (CL.o)
  ·
   by_cases hn0:n=0
   ·
    subst hn0;have hd:qmv c s R=(s,rWhy 24):=by
     rw[yes zdc zdc zdc zdc];show qmq s R=_;unfold qmq;rw[if_pos (c:=R.tree=0) HN.o]
    have A7:=zh1 hd;clear hd yes;go_wp2_with fail
    refine zca (qdk 8 W0) ?_;rw[show qdi 8=true from rfl];have k35:=A6.o;go_wp2_with fail
    exact qr5 A7 HK (A1.o) (qqd 24 W0) (Z0.o) (A9.o)
   have qn:((n:Int)==0)=false:=by simp;omega
   have hd:qmv c s R=qmq s R:=by rw[yes zdc zdc zdc zdc];rfl
   obtain⟨HA,HB⟩:=zh2 (show (qmv c s R).2=(qmq s R).2 by rw[hd]) (show (qmv c s R).1=(qmq s R).1 by rw[hd]);have C1:=qsd c s L col k g css n t R Ac cc Al cl W0 HK.o HS.o HW.o AW.o HT.o HN.o hn0 A0.o;rw[HQ.o]at C1;have CL:=zh1 C1;clear hd C1 yes hn0;go_wp2_with fail
   refine zca (qdk 8 W0) ?_;rw[show qdi 8=true from rfl];have k35:=A6.o;go_wp2_with (refine zld A3.o zu34 A4.o ?_)
   exact quj HA HB A2 Z0 A1 HK B0 (CL.o)
  have hd:qmv c s R=qmr c s R t:=by rw[yes zdc zdc zdc zdc];rfl
  obtain⟨HA,HB⟩:=zh2 (show (qmv c s R).2=(qmr c s R t).2 by rw[hd]) (show (qmv c s R).1=(qmr c s R t).1 by rw[hd]);have C1:=qse c s L col k g css n t R Ac cc Al cl W0 HK.o HC.o HS.o HW.o AW.o A5.o HT.o HN.o A0.o;rw[HQ.o]at C1;have CL:=zh1 C1;clear hd C1 yes;go_wp2_with fail
  refine zca (qdk 9 W0) ?_;rw[show qdi 9=true from rfl];go_wp2_with (refine zld A3.o zu34 A4.o ?_)
  exact quj HA HB A2 Z0 A1 HK B0 (CL.o)
structure Rest (w:World)(col:Col)(w':World)(col':Col):Prop where
 os:w'.os=w.os
 tape:w'.tape=w.tape
 output:w'.output=w.output
 size:w.heap.size≤w'.heap.size
 block:∀b,b<w.heap.size→col b=0→w'.heap[b]? =w.heap[b]? ∧col' b=0
section
variable {w w' w'' : World} {col col' col'' : Col} {p : Nat → Bool}
theorem Rest.trans(h:Rest w col w' col')(h':Rest w' col' w'' col''):Rest w col w'' col'':=
 ⟨h'.os.trans h.os,h'.tape.trans h.tape,h'.output.trans h.output,tB1 h.size h'.size,fun b hb hc=>by
  obtain⟨h1,h2⟩:=h.block b hb hc;obtain⟨h3,h4⟩:=h'.block b (tB0 hb h.size) h2;exact⟨h3.trans h1,h4⟩⟩
theorem Rest.of_turns(h:Turns p w col w' col')(h0:p 0=false):Rest w col w' col':=
 ⟨h.os,h.tape,h.output,h.size,fun b hb hc=>⟨h.block b hb (by rw[hc];exact h0),(h.same b hb).trans hc⟩⟩
theorem Rest.of_below(hb:Zb w w'):Rest w col w' col:=⟨hb.os,hb.tape,hb.output,hb.size,fun b h hc=>⟨hb.block b h,hc⟩⟩
theorem Rest.below(h:Rest w col w' col')(hc:∀b,b<B→col b=0)(hB:B≤w.heap.size):Below B w w'∧∀b,b<B→col' b=0:=
 ⟨⟨h.os,h.tape,h.output,h.size,fun b hb=>(h.block b (tB0 hb hB) (hc b hb)).1⟩,fun b hb=>(h.block b (tB0 hb hB) (hc b hb)).2⟩
theorem Rest.blk{t:TypeId}{cs:Array Value}(h:Rest w col w' col')(hb:Blk w b t cs)(hc:col b=0):Blk w' b t cs:=(h.block b hb.lt hc).1.trans hb
theorem Rest.reads(h:Rest w col w' col')(hr:Reads w w.heap.size size A n xs)(h0:0<n→∀ad,A=some ad→col ad.block=0):Reads w' w'.heap.size size A n xs:=by
 refine⟨hr.1,fun hn=>?_⟩;obtain⟨ad,e,hb,hc⟩:=hr.2 hn;refine⟨ad,e,tB0 hb h.size,fun j u hu=>?_⟩;refine(World.cell?_of_block ?_).trans (hc j u hu);rw[qa1];exact(h.block _ hb (h0 hn ad e)).1
theorem qul{base:Nat}(h:w.ownsRow base e size v n xs)(hn:0<n):
 ∃g c,v=.slice (some ⟨g,0,none⟩) n c∧base≤g∧g<w.heap.size∧(∃cs,Blk w g e cs)∧∀(col:Col) (k:Nat),col g=k→TopAt w col k e g c size n xs:=by
 obtain⟨h1,h2⟩:=h;rcases h2 with⟨rfl,rfl⟩|⟨g,cap,cur,rfl,hb,hg,hn',hc,hs,ht⟩
 · omega
 have hb':Blk w g e cur.toList.toArray:=by simpa [Blk] using hg
 refine⟨g,cap,rfl,hb,hb'.lt,⟨_,hb'⟩,fun col k hk=>⟨hk,cur.toList.drop (n*size),?_,h1,hn',hc,?_⟩⟩
 · have:xs++cur.toList.drop (n*size)=cur.toList:=by rw[←ht];exact List.take_append_drop _ _
   rw[this];exact hb'
 have hl:n*size≤cap*size:=Nat.mul_le_mul_right _ hn';rw[h1,tBk,Array.length_toList,hs];omega
theorem TopAt.recol{c:Nat}(h:TopAt w col k e g c size n xs)(hk:∀b,col b=k→col' b=k'):TopAt w col' k' e g c size n xs:=⟨hk g h.1,h.2⟩
theorem RowC.recol(h:RowC w col k v e size n xs)(hk:∀b,col b=k→col' b=k'):RowC w col' k' v e size n xs:=by
 refine⟨h.1,?_⟩;rcases h.2 with h0|⟨g,o,c,cur,e1,hc,rest⟩
 · exact .inl h0
 exact .inr ⟨g,o,c,cur,e1,hk g hc,rest⟩
theorem TextC.recol(h:TextC w col v bs)(hk:∀b,col b=5→col' b=5):TextC w col' v bs:=by
 obtain⟨A,n,c,e,h1,h2,h3,h4⟩:=h;exact⟨A,n,c,e,h1,h2,h3,fun h0=>by obtain⟨ad,h5,h6⟩:=h4 h0;exact⟨ad,h5,hk _ h6⟩⟩
theorem TextsC.recol{ls:List (List Nat)}(h:TextsC w col k v ls)(hk:∀b,col b=k→col' b=k')(h5:∀b,col b=5→col' b=5):TextsC w col' k' v ls:=by
 obtain⟨vs,h1,h2⟩:=h;exact⟨vs,h1.recol hk,fun i bs hi=>by obtain⟨u,h3,h4⟩:=h2 i bs hi;exact⟨u,h3,h4.recol h5⟩⟩
theorem TrsAt.recol{l:List Tre}(h:TrsAt w col css l)(hk:∀k,k=5∨10≤k→∀b,col b=k→col' b=k):TrsAt w col' css l:=
 ⟨h.1,fun i t ht=>by
  obtain⟨cs,h1,vd,vl,vq,e,r1,r2,r3⟩:=h.2 i t ht;exact⟨cs,h1,vd,vl,vq,e,r1.recol (hk _ (.inr zo)),r2.recol (hk _ (.inr zo)) (hk _ (.inl rfl)),r3.recol (hk _ (.inr zo)) (hk _ (.inl rfl))⟩⟩
theorem StAt.recol(h:StAt tt rt gt w col k L css s)(h0:∀b,col b=k→col' b=k')(h1:∀b,col b=k+1→col' b=k'+1)(h2:∀b,col b=k+2→col' b=k'+2)(hk:∀k,k=5∨10≤k→∀b,col b=k→col' b=k):StAt tt rt gt w col' k' L css s:=
 ⟨h.tens.recol h0,h.tres.recol h1,h.gras.recol h2,h.trs.recol hk⟩
def Col.back (col:Col):Col:=fun b=>if col b=6 then 2 else if col b=7 then 3 else if col b=8 then 4 else if col b=2∨col b=3∨col b=4 then 0 else col b
theorem Col.back_0(h:col b=0):col.back b=0:=by unfold Col.back;rw[h];simp
theorem Col.back_1(h:col b=1):col.back b=1:=by unfold Col.back;rw[h];simp
theorem Col.back_5(h:col b=5):col.back b=5:=by unfold Col.back;rw[h];simp
theorem Col.back_big(h:col b=k)(hk:10≤k):col.back b=k:=by
 unfold Col.back;rw[h,if_neg zo,if_neg zo,if_neg zo,if_neg zo]
theorem Col.back_ne(h:col.back b≠0):col b≠0:=fun e=>h (Col.back_0 e)
theorem Mdl.back(h:Mdl w col 6 g c s L css):Mdl w col.back 2 g c s L css:=
 ⟨h.blk,Col.back_1 h.own,⟨h.base.1,fun b hb=>Col.back_0 (h.base.2 b hb)⟩,fun b hb=>h.fin b (Col.back_ne hb),h.seed.recol (fun b hb=>Col.back_5 hb),
  h.st.recol (fun b hb=>by unfold Col.back;rw[hb];rfl) (fun b hb=>by unfold Col.back;rw[hb];rfl) (fun b hb=>by unfold Col.back;rw[hb];rfl) (fun k hk b hb=>by rcases hk with rfl|hk;exact Col.back_5 hb;exact Col.back_big hb hk)⟩
theorem Rest.back(h:Rest w col w' col'):Rest w col w' col'.back:=⟨h.os,h.tape,h.output,h.size,fun b hb hc=>⟨(h.block b hb hc).1,Col.back_0 (h.block b hb hc).2⟩⟩
theorem RspV.back{base:Nat}{R:Rsp}(h:RspV w col base v R):RspV w col.back base v R:=by
 obtain⟨bv,hv,cav,e,h1,h2,h3,h4,h5,h6⟩:=h;exact⟨bv,hv,cav,e,h1,h2,h3,fun g hg=>Col.back_0 (h4 g hg),fun g hg=>Col.back_0 (h5 g hg),fun g hg=>Col.back_0 (h6 g hg)⟩
def Col.three (col:Col)(a b d:Nat):Col:=fun x=>if x=a then 6 else if x=b then 7 else if x=d then 8 else col x
theorem Mdl.fork(h:Mdl w col 2 g c s L css)(hs:s.Ok)(hb:Zb w w')
 (ht:w'.ownsRow w.heap.size 92 6 vt 16 (s.tens.flatMap tenv))(hr:w'.ownsRow w.heap.size 74 75 vr 16 css.flatten)(hg:w'.ownsRow w.heap.size 66 4 vg s.gras.length (s.gras.flatMap grav)):
 ∃(L6:Loc) (col':Col),vt=.slice (some ⟨L6.tg,0,none⟩) 16 L6.tc∧vr=.slice (some ⟨L6.rg,0,none⟩) 16 L6.rc∧vg=.slice (some ⟨L6.gg,0,none⟩) s.gras.length L6.gc∧
  Mdl (((w'.setCell ⟨g,7,none⟩ vt).setCell ⟨g,8,none⟩ vr).setCell ⟨g,9,none⟩ vg) col' 6 g c s L6 css∧
  StAt 92 74 66 (((w'.setCell ⟨g,7,none⟩ vt).setCell ⟨g,8,none⟩ vr).setCell ⟨g,9,none⟩ vg) col' 2 L css s∧
  Turns (· ==1) w col (((w'.setCell ⟨g,7,none⟩ vt).setCell ⟨g,8,none⟩ vr).setCell ⟨g,9,none⟩ vg) col':=by
 have hgn:0<s.gras.length:=by obtain⟨h,_⟩:=tA8 hs.owner;exact h
 obtain⟨tg,tc,rfl,t1,t2,⟨tcs,t3⟩,t4⟩:=qul ht zdc;obtain⟨rg,rc,rfl,r1,r2,⟨rcs,r3⟩,r4⟩:=qul hr zdc;obtain⟨gg,gc,rfl,g1,g2,⟨gcs,g3⟩,g4⟩:=qul hg hgn;have n1:tg≠rg:=fun e=>by
  subst e;have:=t3.symm.trans r3;injection this with this;injection this with _ this;cases this
 have n2:tg≠gg:=fun e=>by
  subst e;have:=t3.symm.trans g3;injection this with this;injection this with _ this;cases this
 have n3:rg≠gg:=fun e=>by
  subst e;have:=r3.symm.trans g3;injection this with this;injection this with _ this;cases this
 obtain⟨col',hcol⟩:∃col':Col,col'=col.three tg rg gg:=⟨_,rfl⟩;have same:∀b,b<w.heap.size→col' b=col b:=fun b hb'=>by
  rw[hcol];unfold Col.three;rw[if_neg zo,if_neg zo,if_neg zo]
 have c6:col' tg=6:=by rw[hcol];unfold Col.three;rw[if_pos rfl]
 have c7:col' rg=7:=by rw[hcol];unfold Col.three;rw[if_neg (Ne.symm n1),if_pos rfl]
 have c8:col' gg=8:=by rw[hcol];unfold Col.three;rw[if_neg (Ne.symm n2),if_neg (Ne.symm n3),if_pos rfl]
 have fin':Fin_ col' w':=fun b hb'=>by
  rw[hcol]at hb';unfold Col.three at hb';split at hb'
  · omega
  split at hb'
  · omega
  split at hb'
  · omega
  exact tB0 (h.fin b hb') hb.size
 have T0:Turns (fun _=>false) w col w' col':=(Turns.of_below (fun _=>false) hb).recolour same;have gl:g<w.heap.size:=h.blk.lt;have cg:col' g=1:=(same g gl).trans h.own;have gw':Blk w' g 117 (mdlv c s L):=(hb.block g gl).trans h.blk;obtain⟨W1,hW1⟩:=eqx (w'.setCell ⟨g,7,none⟩ (.slice (some ⟨tg,0,none⟩) 16 tc));obtain⟨W2,hW2⟩:=eqx (W1.setCell ⟨g,8,none⟩ (.slice (some ⟨rg,0,none⟩) 16 rc));obtain⟨W3,hW3⟩:=eqx (W2.setCell ⟨g,9,none⟩ (.slice (some ⟨gg,0,none⟩) s.gras.length gc));rw[←hW1,←hW2,←hW3];have T3:Turns (· ==1) w' col' W3 col':=by
  rw[hW3,hW2,hW1];exact((Turns.setCell (col:=col') _ (by simp[cg])).trans (Turns.setCell (col:=col') _ (by simp[cg]))).trans (Turns.setCell (col:=col') _ (by simp[cg]))
 have TT:Turns (· ==1) w col W3 col':=(T0.mono (fun k hk=>by cases hk)).trans T3;have kp:∀i,i≠1→KeepsCol i w' col' W3 col':=fun i hi=>T3.keeps (by simpa using hi)
 have kq:∀i,i≠1→KeepsCol i w col W3 col':=fun i hi=>TT.keeps (by simpa using hi)
 have B3:Blk W3 g 117 (mdlv c s {L with tg:=tg,tc:=tc,rg:=rg,rc:=rc,gg:=gg,gc:=gc}):=by
  rw[hW3,hW2,hW1];exact((gw'.set_ 7 _).set_ 8 _).set_ 9 _
 refine⟨{L with tg:=tg,tc:=tc,rg:=rg,rc:=rc,gg:=gg,gc:=gc},col',rfl,rfl,rfl,⟨B3,cg,⟨tB1 h.base.1 TT.size,fun b hb'=>(same b (tB0 hb' h.base.1)).trans (h.base.2 b hb')⟩,fin'.mono T3.size,h.seed.keep (kq 5 zdc),?_⟩,?_,TT⟩
 · exact⟨(t4 col' 6 c6).keep (kp 6 zdc),(r4 col' 7 c7).keep (kp 7 zdc),(g4 col' 8 c8).keep (kp 8 zdc),h.st.trs.keep fun i hi=>kq i zo⟩
 exact h.st.keep (kq 2 zdc) (kq 3 zdc) (kq 4 zdc) fun i hi=>kq i zo
theorem Mdl.unfork(h:Mdl w col 6 g c s1 L1 css1)(hst:StAt 92 74 66 w col 2 L css s):
 ∃L',Mdl (w.setCells g 4 (stav s L)) col 2 g c s L' css∧Turns (· ==1) w col (w.setCells g 4 (stav s L)) col:=by
 have T:Turns (· ==1) w col (w.setCells g 4 (stav s L)) col:=Turns.setCells _ (by simp[h.own]);have kp:∀i,i≠1→KeepsCol i w col (w.setCells g 4 (stav s L)) col:=fun i hi=>T.keeps (by simpa using hi)
 have hst':=hst.keep (kp 2 zdc) (kp 3 zdc) (kp 4 zdc) fun i hi=>kp i zo
 refine⟨{L with sa:=L1.sa,sn:=L1.sn,sc:=L1.sc},⟨?_,h.own,⟨tB1 h.base.1 T.size,h.base.2⟩,h.fin.mono T.size,h.seed.keep (kp 5 zdc),⟨hst'.tens,hst'.tres,hst'.gras,hst'.trs⟩⟩,T⟩;have hb:Blk w g 117 (mdlv c s1 L1).toList.toArray:=by simpa using h.blk
 have h2:=qn4 (stav s L) 4 w _ hb (by simp[mdlv,stav]);exact h2
end
def qum (c:Cfg)(s:Sta):Nat:=if 1024≤(s.tres[0]?.getD Tre.zero).leaves.length then 4 else if c.store<stored s+64 then 26 else 0
theorem qun(c:Cfg)(s s1:Sta)(L L1:Loc)(col:Col)(g:Nat)(css css1:List (List Value))(w:World)(hc:c.Ok)(hs:s.Ok)(h:Mdl w col 6 g c s1 L1 css1)(hst:StAt 92 74 66 w col 2 L css s):
 Zc 56 #[.pointer (some ⟨g,0,none⟩),.agg (stav s L).toArray] w fun e w'=>e=.returned (.int .i64 ((qum c s:Nat):Int))∧Zb w w':=by
 show Zc 56 #[.pointer (some ⟨g,0,none⟩),.agg #[.int .u64 (s.clock:Int),.int .u32 (s.draw:Int),.int .i64 s.lane,.slice (some ⟨L.tg,0,none⟩) 16 L.tc,.slice (some ⟨L.rg,0,none⟩) 16 L.rc,.slice (some ⟨L.gg,0,none⟩) s.gras.length L.gc]] w _;obtain⟨t,ht,-,-⟩:=hs.first;obtain⟨-,Ad,cd,Al,cl,Aq,cq,-,hcell,-,-,-⟩:=hst.tree hs ht;have hto:=hs.tre ht;obtain⟨nl,hnl⟩:=xeq t.leaves.length;have e5:=hcell 5 (.slice Al t.leaves.length cl) rfl;rw[hnl]at e5;rw[show 0*75+5=5 from rfl]at e5;have nb:nl≤1024:=by have:=hto.leaves;omega
 have hsb:stored s≤16*851968:=by rw[←qqr s hs];exact qqq hs.tres 16
 have hfw:qum c s=if 1024≤nl then 4 else if c.store<stored s+64 then 26 else 0:=by
  unfold qum;rw[ht,Option.getD_some,hnl]
 rw[hfw];have CS:=zh1 (fun(w':World)(hb:Zb w w')=>qqs s L col 2 css w' hs (hst.keep ((Turns.of_below (fun _=>false) hb).keeps rfl) ((Turns.of_below (fun _=>false) hb).keeps rfl) ((Turns.of_below (fun _=>false) hb).keeps rfl) fun i _=>(Turns.of_below (fun _=>false) hb).keeps rfl));obtain⟨st,hstd⟩:=xeq (stored s);rw[hstd]at CS hsb ⊢;have csb:c.store≤32768:=hc.store;obtain⟨cst,hcst⟩:=xeq c.store;have c2:=h.c2;rw[hcst]at c2 csb ⊢;obtain⟨E5,C2⟩:=zh2 e5 c2;clear hcell ht hto hnl e5 hfw hstd hcst c2 h hst hc hs;obtain⟨W0,hW0⟩:=eqx (w.alloc (.cells #[.int .u64 (s.clock:Int),.int .u32 (s.draw:Int),.int .i64 s.lane,.slice (some ⟨L.tg,0,none⟩) 16 L.tc,.slice (some ⟨L.rg,0,none⟩) 16 L.rc,.slice (some ⟨L.gg,0,none⟩) s.gras.length L.gc] 49));have B0:=zh1 (show Zb w W0 by rw[hW0];exact qah (tA5 _ _) _);have z0:=zNa hW0;have Z0:=zh1 z0;have e5:=qai E5.o B0.o;rw[hW0]at e5;clear z0;obtain⟨fw,hfw⟩:∃n:Nat,(if 1024≤nl then 4 else if cst<st+64 then 26 else 0)=n:=⟨_,rfl⟩;rw[hfw];have A0:=zh1 hfw;clear hfw;go_enter Tryz.func56,Tryz.ntmps56
 by_cases hl:1024≤nl
 ·
  have ql:(1024:Int)≤nl:=zo;have HF:=zh1 (show fw=4 by rw[←A0.o,if_pos hl]);clear hl;go_wp2
  go_ret
  exact⟨by rw[HF.o];rfl,by rw[←hW0];exact B0.o⟩
 have ql:¬(1024:Int)≤nl:=zo;have A1:=zh1 hl;clear hl;go_upto_region 3 with(fail)
 rw[←hW0];clear e5 hW0;obtain⟨S,HS9⟩:=zS fun w'=>Zb W0 w'
 refine zrs S 11 ((0,false)::zq 3 6 [(1,true),(2,true),(9,false),(10,false)]) ((HS9.o _).mpr ((tA5 _ _).drew)) ?_;obtain⟨F2,FS,SI⟩:=zh3 (zF HS9 (qai C2.o B0.o)) (fun(w':World)(h:S w')=>qap (Z0.below ((HS9.o w').mp h) Z0.lt) 0 (stav s L) (fun j u hu=>by simpa [stav] using hu)) (show (Tryz.prog.info? 49).map (·.size)=some 6 by kernel_rfl);refine qo8 rfl rfl 49 (.tmp 3) rfl w.heap.size 0 rfl (stav s L) _ FS.o Tryz.underlying49 rfl SI.o ?_;refine zP ?_;have w1:IntKind.u64.wrap (cst:Int)=(cst:Int):=tBa _ zo;iterate 6 (refine zre rfl rfl (fun w1 hS=>by have g2:=F2.o w1 hS;clear hS;go_simp;try rfl) ?_)
 obtain⟨Wd,hWd,BD⟩:=zdr W0;rw[←hWd];clear hWd;refine zw ?_;go_simp;refine zcb (CS.o Wd (B0.trans (BD.mono B0.size))) fun w1 b1=>?_
 have B1:=zh1 (BD.trans (b1.mono BD.size));clear b1;refine⟨(HS9.o _).mpr B1.o,zput ?_⟩;refine zw ?_;go_simp;refine(qpy (st:Int) 64 w1 zo zo zo zo).mono ?_;rintro e w2 ⟨rfl,rfl⟩;rw[show sumI (st:Int) 64=((st+64:Nat):Int) by unfold sumI;rw[if_neg zo];omega];refine⟨(HS9.o _).mpr B1.o,zput ?_⟩;by_cases hf:cst<st+64
 ·
  have qf:(cst:Int)<((st+64:Nat):Int):=zo;have qf2:(cst:Int)<(st:Int)+64:=zo;have HF:=zh1 (show fw=26 by rw[←A0.o,if_neg A1.o,if_pos hf]);clear hf;iterate 2 (refine zrb ?_)
  refine qbf ?_;clear HS9 F2 FS;go_wp2
  go_ret
  exact⟨by rw[HF.o];rfl,B0.trans (B1.mono B0.size)⟩
 have qf:¬(cst:Int)<((st+64:Nat):Int):=zo;have qf2:¬(cst:Int)<(st:Int)+64:=zo;have HF:=zh1 (show fw=0 by rw[←A0.o,if_neg A1.o,if_neg hf]);clear hf;iterate 2 (refine zrb ?_)
 refine qbf ?_;clear HS9 F2 FS;go_wp2
 go_ret
 exact⟨by rw[HF.o];rfl,B0.trans (B1.mono B0.size)⟩
theorem Mdl.leafAdd(h:Mdl w col k g c s L css)(hk:Kind k)(hs:s.Ok)(ht:s.tres[n]? =some t)(hcs:css[n]? =some (trev t vd vl vq))(hlen:vs.length=t.leaves.length)
 (htx:∀(i:Nat) (bs:List Nat),t.leaves[i]? =some bs→∃u,vs[i]? =some u∧TextC w col u bs)(hu:TextC w col u bs)(ha:AppendedC w col w' col' (11+3*n) vl v' 23 1 t.leaves.length 1 vs [u]):
 Mdl (w'.setCell ⟨L.rg,n*75+5,none⟩ v') col' k g c (s.setT n fun t=>{t with leaves:=t.leaves++[bs]}) L (css.modify n fun x=>x.set 5 v')∧TrsAt (w'.setCell ⟨L.rg,n*75+5,none⟩ v') col' css s.tres∧Turns (inP k) w col (w'.setCell ⟨L.rg,n*75+5,none⟩ v') col':=by
 obtain⟨r1,r2,r3⟩:=h.rows ht hcs;have kp:∀i,i≠11+3*n→KeepsCol i w col w' col':=fun i hi=>ha.turns.keeps (by simpa using hi)
 obtain⟨t1,t2⟩:=qr8 ha hlen htx hu (kp 5 zo);exact h.treRow hk hs ht hcs (.inr (.inl rfl)) ha.turns (ha.fin h.fin) _ v' zo
  ⟨vd,vl,vq,rfl,r1.keep (kp _ zo),t1,r3.keep (kp _ zo) (kp 5 zo)⟩
  ⟨vd,v',vq,rfl,r1.keep (kp _ zo),t2,r3.keep (kp _ zo) (kp 5 zo)⟩
theorem quo(c:Cfg)(s:Sta)(L:Loc)(col:Col)(k g:Nat)(css:List (List Value))(R:Req)(Ac:Option Addr)(cc:Nat)(Al:Option Addr)(cl:Nat)(w:World)(hk:Kind k)(hc:c.Ok)(hs:s.Ok)(h:Mdl w col k g c s L css)
 (hr:Asked w col R Ac cc Al cl)(hT:Tabs w)(ha:ql4 R.op=true)(hl:∀t,s.tres[0]? =some t→t.leaves.length<1024):
 Zc 57 #[.pointer (some ⟨g,0,none⟩),.agg (reqv R (.slice Ac R.cavs.length cc) (.slice Al R.leaf.length cl)).toArray] w fun e w'=>∃col',e=.returned (.tuple #[])∧Did w col w' col' k g c css s ((s.setT 0 fun t=>{t with leaves:=t.leaves++[qmw s R]}).pub c 0):=by
 have rlen:=qiu R (.slice Ac R.cavs.length cc) (.slice Al R.leaf.length cl) hr.good.tag;have rtok:=qiv R (.slice Ac R.cavs.length cc) (.slice Al R.leaf.length cl);obtain⟨Q,hQ⟩:=xeq (reqv R (.slice Ac R.cavs.length cc) (.slice Al R.leaf.length cl));have CB:=fun(w':World)(hb:Zb w w')=>qi9 R (.slice Ac R.cavs.length cc) Al cl w' hr.good.fit (hr.leaf.call hb) hr.leafc hr.leafm
 rw[hQ]at rlen rtok CB ⊢;obtain⟨t,ht,hst,hq0⟩:=hs.first;obtain⟨-,Ad,cd,Al',cl',Aq,cq,hcs,hcell,-,-,-⟩:=h.st.tree hs ht;have hto:=hs.tre ht;have hl0:=hl t ht;obtain⟨W0,hW0⟩:=eqx (w.alloc (.cells Q.toArray 34));have q0:=zNa hW0;have b0:=zMa hW0;obtain⟨ti,hti⟩:=xeq R.tid;have tb:ti<4294967296:=by rw[←hti];exact hr.good.tid
 have k1:Q.toArray[1]? =some (.int .u32 (ti:Int)):=by rw[tA3,←hti];exact rtok 0 _ rfl
 obtain⟨clk,hclk⟩:=xeq s.clock;have cb:clk<18446744073709551616:=by rw[←hclk];exact hs.clock
 have c4:=h.c4;rw[hclk]at c4;have hnd:qmw s R=be clk 8++(be ti 4++(qhz R).2):=by unfold qmw;rw[hclk,hti]
 have hlo:=qsx s R hr.good ha;have bl:=qsw R ha;rw[hnd]at hlo ⊢;obtain⟨bd,hbd⟩:=xeq ((qhz R).2);rw[hbd]at hlo bl CB ⊢;obtain⟨nl,hnl⟩:=xeq t.leaves.length;have e5:=hcell 5 (.slice Al' t.leaves.length cl') rfl;rw[hnl,show 0*75+5=5 from rfl]at e5;rw[hnl]at hl0;obtain⟨H,A4,A5,HK,HC,HS,HR,TT⟩:=zh8 h q0 b0 hk hc hs hr hT;obtain⟨RL,K1,C4,AH,HT,AI,AJ,A1⟩:=zh8 rlen k1 c4 CB ht hto hcs hnl;obtain⟨E5,AK,AL,AM,AN,A2,AO⟩:=zh7 e5 hlo bl hst hq0 (show w.heap.size<W0.heap.size by rw[hW0];simp) (zI 34 rlen);clear h q0 b0 hk hc hs hr hT rlen rtok k1 c4 CB ht hto hcs hcell hnl e5 hlo bl hst hq0 hQ hti hclk hnd hbd ha hl;go_enter Tryz.func57,Tryz.ntmps57
 go_wp2_with fail
 rw[←hW0];refine(qcz W0).mono ?_;rintro e w1 ⟨rfl,h1,b1⟩;obtain⟨hww1,Zw1,Bw1⟩:=zh3 h1 (A4.below b1 A4.lt) (A5.trans (b1.mono A5.size));clear h1 b1 hW0;have c4:=qai C4.o Bw1.o;go_wp2_with fail
 refine(qcy _ _ (clk) 8 _ w1 hww1.o zo (by simp only[tA6,qaw,List.length_nil,qoc,qod,qoe];omega)).mono ?_;rintro e w2 ⟨rfl,hw2,bw2,-⟩;simp only[qoc,qod,qoe]at hw2;obtain⟨hww2,Zw2,Bw2⟩:=zh3 hw2 (Zw1.below bw2 (by first|exact A2.o|omega)) (Bw1.trans (bw2.mono (by first|exact Nat.le_of_lt A2.o|omega)));clear hw2 bw2;clear c4;have k1:=(Zw2.cell 1).trans K1.o;have u1:IntKind.u64.wrap (ti:Int)=(ti:Int):=tBa _ zo;go_wp2_with fail
 refine(qcy _ _ (ti) 4 _ w2 hww2.o zo (by simp only[tA6,qaw,List.length_nil,qoc,qod,qoe];omega)).mono ?_;rintro e w3 ⟨rfl,hw3,bw3,-⟩;simp only[qoc,qod,qoe]at hw3;obtain⟨hww3,Zw3,Bw3⟩:=zh3 hw3 (Zw2.below bw3 (by first|exact A2.o|omega)) (Bw2.trans (bw3.mono (by first|exact Nat.le_of_lt A2.o|omega)));clear hw3 bw3;clear k1 u1;have AP:=zh1 (qap Zw3.o 0 Q zjq);go_wp2_with (refine zld AP.o zu34 AO.o ?_)
 refine(AH.o w3 Bw3.o).mono ?_;rintro e w4 ⟨vb,rfl,ob,b4⟩;obtain⟨Ab,nb,cb,rfl,-,-,rb⟩:=OwnB.sl ob;obtain⟨hww4,Bw4,RB⟩:=zh3 (hww3.kept_call b4) (Bw3.trans (b4.mono Bw3.size)) rb;clear b4 rb ob;have c8:=qai H.c8 Bw4.o;go_upto_region 6 with(fail)
 clear c8;have AQ:=zh1 (qai E5.o Bw4.o);obtain⟨S,HS9⟩:=zS fun w'=>w'.cell? ⟨L.rg,5,none⟩=some (.slice Al' nl cl')
 refine zrs S 14 (zq 0 6 [(7,false),(6,true),(8,true),(9,true),(10,true),(11,true),(12,false),(13,false),(14,true)]) ((HS9.o _).mpr (AQ.o)) ?_;have F0:=zh1 (fun(w':World)(h:S w')=>(HS9.o w').mp h);iterate 7 (refine zr1 ?_)
 obtain⟨Wd,hWd,BD⟩:=zdr w4;rw[←hWd];clear hWd;have Bwd:=zh1 (Bw4.trans (BD.mono Bw4.size));refine zw ?_;go_simp;refine(qd1 _ _ _ Wd (hww4.kept_call BD.o) (by simp only[tA6,qaw,List.length_nil];omega)).mono ?_;rintro e w6 ⟨v6,rfl,o6,b6⟩;replace o6:OwnB w6 Wd.heap.size v6 (be clk 8++be ti 4):=OwnB.cast (OwnB.of o6) (by simp only[List.nil_append]);obtain⟨A6,n6,c6,rfl,-,-,r6⟩:=o6.sl;have l6:=qb4 r6;obtain⟨Bw6,R6,L6,A7⟩:=zh4 (Bwd.trans (b6.mono Bwd.size)) r6 l6 ((RB.call BD.o).call b6);clear o6 b6 r6 l6;refine⟨(HS9.o _).mpr (qai E5.o Bw6.o),zput ?_⟩;refine zw ?_;go_simp;obtain⟨w7,hw7⟩:=eqx (w6.alloc (.cells #[.slice A6 n6 c6,.slice Ab nb cb] 23));rw[←hw7];have b67:=zMa hw7;have x0:w7.cell? ⟨w6.heap.size,0,none⟩=some (.slice A6 n6 c6):=by rw[hw7];exact(qak w6 _ _ 0).trans rfl
 have x1:w7.cell? ⟨w6.heap.size,1,none⟩=some (.slice Ab nb cb):=by rw[hw7];exact(qak w6 _ _ 1).trans rfl
 have lb:=qb4 A7.o;have J:=qjb w6.heap.size n6 c6 nb cb _ _ (be clk 8++be ti 4) bd w7 x0 x1 (R6.call b67) (A7.call b67) (by have h1:=L6.o;have h2:=AL.o;simp only[tA6,qaw]at h1;omega);obtain⟨HJ,Bw7⟩:=zh2 J (Bw6.trans (b67.mono Bw6.size));clear J x0 x1 b67 hw7 lb;refine⟨(HS9.o _).mpr (qai E5.o Bw7.o),zput ?_⟩;refine zw ?_;go_simp;refine HJ.o.mono ?_;rintro e w8 ⟨v8,rfl,o8,b8⟩;replace o8:OwnB w8 w7.heap.size v8 (be clk 8++(be ti 4++bd)):=OwnB.cast o8 (by simp only[List.append_assoc]);have Bw8:=zh1 (Bw7.trans (b8.mono Bw7.size));have M8:=H.call Bw8.o;obtain⟨A8,n8,c8,rfl,-,-,-⟩:=o8.sl;obtain⟨col1,hc1,tx1,fin1⟩:=qr9 (w:=w7) (col:=col) o8 (tA4 _) b8.size (H.fin.mono Bw7.size);have T1:Turns (fun _=>false) w7 col w8 col1:=(Turns.of_below _ b8).recolour hc1;obtain⟨AR,AS,AT⟩:=zh3 tx1 fin1 ((Turns.of_below (fun _=>false) Bw7.o).trans T1);clear tx1 fin1 T1 o8 hc1 M8 b8;refine⟨(HS9.o _).mpr (qai E5.o Bw8.o),zput ?_⟩;refine zw ?_;go_simp;obtain⟨wB,hwB⟩:=eqx (w8.alloc (.cells #[.slice A8 n8 c8] 23));rw[←hwB];have bB:=zMa hwB;have blB:=zNa hwB;have TB:=AT.trans (Turns.of_below (fun _=>false) bB);obtain⟨BB,AA,A3,BwB⟩:=zh4 bB blB TB (Bw8.trans (bB.mono Bw8.size));clear hwB bB blB TB;refine⟨(HS9.o _).mpr (qai E5.o BwB.o),zput ?_⟩;have MB:=H.keep A3.o rfl rfl (by have:=HK.o;rcases this with rfl|rfl<;>rfl) (by have:=HK.o;rcases this with rfl|rfl<;>rfl) (by have:=HK.o;rcases this with rfl|rfl<;>rfl) (fun _ _=>rfl) (AS.mono BB.size);have A0:css[0]? =some (trev t (.slice Ad t.draws.length cd) (.slice Al' nl cl') (.slice Aq t.queue.length cq)):=by rw[AJ.o,A1.o]
 obtain⟨vs,hrow,htx⟩:=(MB.rows HT.o A0).2.1;rw[A1.o]at hrow;have hvl:vs.length=t.leaves.length:=by have:=hrow.1;have:=A1.o;omega
 obtain⟨i0,hi0,hz0,hz1,hz2⟩:=info_parts Tryz.madd_info;have hr1:Reads wB wB.heap.size 1 (some ⟨w8.heap.size,0,none⟩) 1 [.slice A8 n8 c8]:=⟨rfl,fun _=>⟨_,rfl,AA.lt,fun j u hu=>by rw[Addr.add_mid,AA.cell (0+j)];simpa using hu⟩⟩;have AB:=AR.keep ((Turns.of_below (col:=col1) (fun _=>false) BB.o).keeps rfl);have colR1:col1 L.rg=k+1:=(A3.same L.rg H.st.tres.lt).trans H.st.tres.1;refine zw ?_;refine qnb wB (.tmp 37) (.tmp 43) _ _ rfl col1 (11+3*0) 23 i0 _ 1 24 Tryz.underlying72 hi0 hz0 hz1 hz2 rfl (.slice Al' nl cl') nl vs rfl hrow (.slice (some ⟨w8.heap.size,0,none⟩) 1 1) 1 [.slice A8 n8 c8] rfl (Src.reads wB Tryz.underlying72 hr1 (by simp[Value.oneCell']) zdc) (by simp only[maxLen];omega) zo ?_;intro v' wC col2 ap;obtain⟨A9,c9,rfl,-,-,-,-⟩:=ap.row.sl;have ap2:AppendedC wB col1 wC col2 (11+3*0) (.slice Al' nl cl') (.slice A9 (nl+1) c9) 23 1 t.leaves.length 1 vs [.slice A8 n8 c8]:=by rw[A1.o];exact ap
 obtain⟨N1,N2,N3⟩:=MB.leafAdd HK.o HS.o (t:=t) (bs:=be clk 8++(be ti 4++bd)) HT.o A0 hvl htx AB ap2;rw[show 0*75+5=5 from rfl]at N1 N2 N3;have eC:=qo7 (qai E5.o BwB.o) ap.turns (by rw[colR1];have:=HK.o;rcases this with rfl|rfl<;>rfl);have fC:=(MB.st.tres.keep (ap.turns.keeps (k:=k+1) (by have:=HK.o;rcases this with rfl|rfl<;>rfl))).frozen 5;have T9:=(A3.mono (q:=inP k) (fun i h=>by cases h)).trans N3;have AC:=TT.turns T9 (qr1 HK.o) H.base;obtain⟨AD,AE,AF,AG⟩:=zh4 N1 N2 T9 AC;clear N1 N2 N3 T9 AC MB hrow htx hvl hi0 hz0 hz1 hz2 hr1 AB colR1 ap ap2 A0;refine⟨fun _=>(HS9.o _).mpr eC,zput ?_⟩;iterate 2 (refine zrb ?_)
 refine zw ?_;go_simp;refine qbf ?_;clear HS9 F0 eC fC;obtain⟨W9,hW9⟩:=eqx (wC.setCell ⟨L.rg,5,none⟩ (.slice A9 (nl+1) c9));rw[←hW9]at AD AE AF AG ⊢;clear hW9;have sok:(s.setT 0 fun t=>{t with leaves:=t.leaves++[be clk 8++(be ti 4++bd)]}).Ok:=HS.setT (fun y hy o=>by
  rw[HT.o]at hy;injection hy with hy;subst hy;have h1:=A1.o;have h2:=o.leaves;have h3:=AN.o;exact {o with
   leaves:=by simp[h3];omega
   leafb:=fun b hb=>by
    rcases List.mem_append.1 hb with h|h
    · exact o.leafb b h
    obtain rfl:=List.mem_singleton.1 h;exact AK.o
   hds:=by have:=o.hds;simp;omega}) (fun _ y _ h1 h2=>⟨h1,h2⟩)
 have ht2:(s.setT 0 fun t=>{t with leaves:=t.leaves++[be clk 8++(be ti 4++bd)]}).tres[0]? =some {t with leaves:=t.leaves++[be clk 8++(be ti 4++bd)]}:=qo5 _ HT.o;have CP:=zh1 (qpj c _ L col2 k g _ 0 _ W9 HK.o HC.o sok AD.o ht2 (AI.live (by rw[AM.o];decide)).2 AG.o);clear sok ht2;go_wp2_with fail
 refine CP.o.mono ?_;rintro e W5 ⟨rfl,⟨css5,M5⟩,T5⟩;have D5:Did w col W5 col2 k g c css s ((s.setT 0 fun t=>{t with leaves:=t.leaves++[be clk 8++(be ti 4++bd)]}).pub c 0):=
  ⟨⟨L,css5,M5⟩,AE.keep fun i hi=>T5.keeps (by have:=HK.o;rcases this with rfl|rfl<;>simp<;>omega),AF.trans (T5.mono fun i hi=>(show i=k+1 by simpa using hi)▸(by unfold inP;simp))⟩
 have HD:=zh1 D5;clear D5 M5 T5;go_wp2
 go_end0
 exact⟨col2,rfl,HD.o⟩
def byR (c:Cfg)(id:Nat)(r:Req):Req:={r with tid:=id,cavs:=[],tag:=qju (qmc c.seed) id}
theorem qup(root:List Nat)(id:Nat):qk9 root (id,[],qju root id)=true:=by
 unfold qk9;simp[qk5,qk7]
theorem quq {R R':Req}(h1:∀f,qhx R f=qhx R' f)(h2:∀f,fldB R f=fldB R' f):∀(l:List Fld) (acc:List Nat),qhy R l acc=qhy R' l acc
 |[],acc=>rfl
 |f::l,acc=>by
  rw[qhy,qhy,h1,h2,quq h1 h2 l]
theorem qur(c:Cfg)(id:Nat)(r:Req):qhz (byR c id r)=qhz r:=by
 unfold qhz;show (match fieldsOf r.op with|none=>_|some l=>_)=_;cases fieldsOf r.op with
 |none=>rfl
 |some l=>
  show qhy (byR c id r) l (be r.op.toNat 1)=qhy r l (be r.op.toNat 1);exact quq (R:=byR c id r) (R':=r) (fun f=>rfl) (fun f=>rfl) l _
theorem qus{g:Gra}(hb:(qhz r).1=0)(hg:s.gras[id]? =some g)(hv:g.revoked=false)(he:s.clock<g.expires)(hx:s.tenant g.tenant=some x)(hk:qmi r.op r.leaf.length≤x.tok):
 qmj c s (byR c id r)=if qmg g.role r.op g.tenant (qmh s r g.tenant) then 0 else 21:=by
 have h1:(qit (byR c id r)).1=0:=by
  unfold qit;rw[if_pos (by rw[qur];exact hb),if_pos (by rfl)]
 have h2:(byR c id r).tid=id:=rfl;unfold qmj;rw[if_neg (by rw[h1];decide),h2,hg];show (if (!qk9 (qmc c.seed) (id,[],qju (qmc c.seed) id))=true then _ else _)=_;rw[qup,if_neg zdc];rw[if_neg (by rw[hv];simp[qkh,byR];exact he)];show (if (!qmg g.role r.op g.tenant (qmh s r g.tenant))=true then _ else _)=_;cases hd:qmg g.role r.op g.tenant (qmh s r g.tenant) with
 |true=>
  rw[if_neg zdc,hx];show (if x.tok<qmi r.op r.leaf.length then 22 else 0)=_;rw[if_neg zo];rfl
 |false=>rfl
def qut (c:Cfg)(s:Sta)(r:Req):Sta:=
 let s2:=(qmv c s r).1.setX (((s.gras[r.tid]?).getD ⟨0,0,0,false⟩).tenant).toNat fun x=>{x with tok:=x.tok - qmi r.op r.leaf.length}
 (s2.setT 0 fun t=>{t with leaves:=t.leaves++[qmw s2 r]}).pub c 0
def quu (c:Cfg)(s:Sta)(r:Req):Sta:=
 (qmv c s r).1.setX (((s.gras[r.tid]?).getD ⟨0,0,0,false⟩).tenant).toNat fun x=>{x with tok:=x.tok - qmi r.op r.leaf.length}
theorem quv(hm:qmj c s r=0)(hw:(qmv c s r).2.why=0)(ha:ql4 r.op=true)(hl:(s.tres[0]?.getD Tre.zero).leaves.length<1024)(hst:stored s+64≤c.store)(h9:r.op≠9):doS c s r=(qut c s r,(qmv c s r).2):=by
 unfold doS;rw[if_neg (by rw[hm];decide)];obtain⟨s1,a,h⟩:∃s1 a,qmv c s r=(s1,a):=⟨_,_,rfl⟩;unfold qut;rw[h]at hw ⊢;dsimp only at hw ⊢;rw[if_neg (by rw[hw];decide),if_neg (by simp;intro _;omega),if_neg (by simp;intro _;omega),if_pos ha,if_neg h9]
theorem quw(hm:qmj c s r=0)(hw:(qmv c s r).2.why=0)(ha:ql4 r.op=false):doS c s r=(quu c s r,(qmv c s r).2):=by
 unfold doS;rw[if_neg (by rw[hm];decide)];obtain⟨s1,a,h⟩:∃s1 a,qmv c s r=(s1,a):=⟨_,_,rfl⟩;unfold quu;rw[h]at hw ⊢;dsimp only at hw ⊢;rw[if_neg (by rw[hw];decide),ha,if_neg zm,if_neg zm,if_neg zdc]
theorem qux(hm:qmj c s r=y)(h0:y≠0):doS c s r=(s,rWhy y):=by
 unfold doS;rw[if_pos (by rw[hm];exact h0),hm]
theorem quy(hm:qmj c s r=0)(hw:(qmv c s r).2.why=(y:Int))(h0:y≠0):doS c s r=(s,rWhy y):=by
 unfold doS;rw[if_neg (by rw[hm];decide)];obtain⟨s1,a,h⟩:∃s1 a,qmv c s r=(s1,a):=⟨_,_,rfl⟩;rw[h]at hw ⊢;dsimp only at hw ⊢;rw[if_pos (by rw[hw];omega),hw,tBe]
def KC:Cfg:=⟨32,1,32768,[115]⟩
def quz:Req:={qid with op:=12,tenant:=1,rate:=9,burst:=9,store:=999}
def qv0:Req:={qid with op:=6,tree:=1,tenant:=1,weight:=1}
def qv1:Req:={qid with op:=10,tenant:=1,role:=2,expires:=99}
def kAdd:Req:={qid with op:=1,tree:=1,leaf:=[97]}
def qv2:Req:={qid with op:=2,tree:=1}
def qv3:Req:={qid with op:=6,tree:=3,tenant:=1,weight:=1}
theorem KC_ok:KC.Ok:=⟨by decide,by decide,by decide,by decide,by decide,by decide,by decide⟩
def K1:Sta:=qut KC (newS KC) (byR KC 0 quz)
def K2:Sta:=qut KC K1 (byR KC 0 qv0)
def K3:Sta:=qut KC K2 (byR KC 0 qv1)
def K4:Sta:=quu KC K3 (byR KC 1 kAdd)
def K5:Sta:=seqS KC K4
def K6:Sta:=quu KC K5 (byR KC 1 qv2)
theorem qv4:doS KC (newS KC) (byR KC 0 quz)=(K1,qmk 1):=
 quv ((qus (g:=⟨0,4,18446744073709551615,false⟩) zdc rfl rfl zdc rfl zdc).trans (by rfl)) rfl rfl (by decide+kernel) (by decide+kernel) zdc
theorem qv5:doS KC K1 (byR KC 0 qv0)=(K2,qmk 1):=
 quv ((qus (g:=⟨0,4,18446744073709551615,false⟩) zdc rfl rfl zdc rfl zdc).trans (by rfl)) rfl rfl (by decide+kernel) (by decide+kernel) zdc
theorem qv6:doS KC K2 (byR KC 0 qv1)=(K3,{qmk 1 with tok:=(1,[],qju (qmc KC.seed) 1)}):=
 quv ((qus (g:=⟨0,4,18446744073709551615,false⟩) zdc rfl rfl zdc rfl zdc).trans (by rfl)) rfl rfl (by decide+kernel) (by decide+kernel) zdc
theorem qv7:doS KC K3 (byR KC 1 kAdd)=(K4,qmk 0):=
 quw ((qus (g:=⟨1,2,99,false⟩) zdc rfl rfl zdc rfl zdc).trans (by rfl)) rfl rfl
theorem qv8:(doS KC K5 (byR KC 1 qv2)).1=K6∧(doS KC K5 (byR KC 1 qv2)).2.hd.size=1:=by
 rw[quw ((qus (g:=⟨1,2,99,false⟩) zdc rfl rfl zdc rfl zdc).trans (by rfl)) rfl rfl];exact⟨rfl,rfl⟩
theorem qv9:doS KC K6 (byR KC 1 qv3)=(K6,rWhy 21):=
 qux ((qus (g:=⟨1,2,99,false⟩) zdc rfl rfl zdc rfl zdc).trans (by rfl)) zdc
theorem qva:∃t,K6.tres[0]? =some t∧t.leaves.length=3:=⟨_,rfl,rfl⟩
theorem xdu(o:t.Ok)(hw:1≤t.weight):
 ∃g:Nat,(g:Int)=min t.weight 4*min (max c.quantum 1) 2∧1≤g∧(seqT c t).leaves=t.leaves++t.queue.take g∧(seqT c t).queue=t.queue.drop g∧(takeN c t=0 ↔ t.queue=[]):=by
 have hp:0<min t.weight 4*min (max c.quantum 1) 2:=Int.mul_pos zo zo;obtain⟨g,hg⟩:∃g:Nat,(g:Int)=min t.weight 4*min (max c.quantum 1) 2:=⟨(min t.weight 4*min (max c.quantum 1) 2).toNat,Int.toNat_of_nonneg zo⟩;refine⟨g,hg,by omega,?_,?_,?_⟩
 · unfold seqT takeN
   rw[o.deficit,←hg,Int.zero_add];by_cases h:g≤t.queue.length
   · rw[show (max (min (g:Int) t.queue.length) 0).toNat=g by omega]
   rw[show (max (min (g:Int) t.queue.length) 0).toNat=t.queue.length by omega,tB5 (tA4 _),tB5 zo]
 · unfold seqT takeN
   rw[o.deficit,←hg,Int.zero_add];by_cases h:g≤t.queue.length
   · rw[show (max (min (g:Int) t.queue.length) 0).toNat=g by omega]
   rw[show (max (min (g:Int) t.queue.length) 0).toNat=t.queue.length by omega,List.drop_of_length_le (tA4 _),List.drop_of_length_le zo]
 unfold takeN;rw[o.deficit,←hg,Int.zero_add];constructor
 · intro h
   exact tB8 zo
 intro h;rw[h];simp only[List.length_nil];omega
theorem xdv(hs:s.Ok)(h:qmz (s.tres.mapIdx fun i t=>qn1 i t) s.lane.toNat=some k)(ht:s.tres[k]? =some t):
 (seqS c s).lane=(((k+1) % 16:Nat):Int)∧(∀i,i≠k→(seqS c s).tres[i]? =s.tres[i]?)∧
  ∃hd,(seqS c s).tres[k]? =some {seqT c t with hd:=hd}∧(t.queue=[]→hd=t.hd)∧(t.queue≠[]→hd.size=(seqT c t).leaves.length):=by
 obtain⟨h0,t1,ht1,hr,hw⟩:=qtv h;have e:t1=t:=by
  rw[ht]at ht1;injection ht1 with h;exact h.symm
 subst e;obtain⟨g,hg,hg1,hl,hq,hz⟩:=xdu (c:=c) (hs.tre ht) hw;rw[qu0 hs h ht];split
 · rename_i h1
   refine⟨rfl,fun i hi=>qo6 _ _ (Ne.symm hi),t1.hd,qo5 _ ht,fun _=>rfl,fun h=>absurd (hz.1 h1) h⟩
 rename_i h1
 refine⟨rfl,fun i hi=>?_,pubT c s.clock k (seqT c t1),?_,fun h=>absurd (hz.2 h) h1,fun _=>rfl⟩
 · show ((s.tres.modify k _).modify k _)[i]? =_
   rw[qo6 _ _ (Ne.symm hi),qo6 _ _ (Ne.symm hi)]
 exact qo5 (f:=fun t=>{t with hd:=pubT c s.clock k t}) (l:=s.tres.modify k fun _=>seqT c t1) (qo5 _ ht)
theorem qve(c:Cfg)(s:Sta)(r:Req):0≤(qmv c s r).2.why:=by
 have add:∀t,0≤(qmm c s r t).2.why:=fun t=>by
  unfold qmm;repeat' split
  all_goals first|exact Int.natCast_nonneg _|exact Int.le_refl _
 have look:∀t,0≤(qmn c s r t).why:=fun t=>by
  unfold qmn;repeat' split
  all_goals first|exact Int.natCast_nonneg _|exact Int.le_refl _
 have create:0≤(qmo c s r).2.why:=by
  unfold qmo;repeat' split
  all_goals first|exact Int.natCast_nonneg _|exact Int.le_refl _
 have change:∀t,0≤(qmp c s r t).2.why:=fun t=>by
  unfold qmp;split
  · exact Int.natCast_nonneg _
  exact Int.le_refl _
 have weigh:0≤(qmq s r).2.why:=by
  unfold qmq;repeat' split
  all_goals first|exact Int.natCast_nonneg _|exact Int.le_refl _
 have rotate:∀t,0≤(qmr c s r t).2.why:=fun t=>by
  unfold qmr;split
  · exact Int.natCast_nonneg _
  exact Int.le_refl _
 have grant:0≤(qms c s r).2.why:=by
  unfold qms;repeat' split
  all_goals first|exact Int.natCast_nonneg _|exact Int.le_refl _
 have revoke:0≤(qmt s r).2.why:=by
  unfold qmt;repeat' split
  all_goals first|exact Int.natCast_nonneg _|exact Int.le_refl _
 have limit:0≤(qmu s r).2.why:=by
  unfold qmu;repeat' split
  all_goals first|exact Int.natCast_nonneg _|exact Int.le_refl _
 unfold qmv;split
 · exact create
 split
 · exact grant
 split
 · exact revoke
 split
 · exact limit
 split
 · exact Int.natCast_nonneg _
 split
 · exact add _
 split
 · exact change _
 split
 · exact weigh
 split
 · exact rotate _
 exact look _
theorem xdw {α β:Type}(g:α→β)(f:α→α):∀(l:List α) (n:Nat),(∀x,l[n]? =some x→g (f x)=g x)→(l.modify n f).map g=l.map g
 |[],n,_=>by simp
 |x::l,0,h=>by simp[h x rfl]
 |x::l,n+1,h=>by simp[xdw g f l n (fun y hy=>h y (by simpa using hy))]
theorem xdx(a b:List (List Nat)):qme (a++b)=qme a+qme b:=by
 unfold qme;simp
theorem xdy(hs:s.Ok):
 (seqS c s).clock=s.clock∧(seqS c s).draw=s.draw∧(seqS c s).tens=s.tens∧(seqS c s).gras=s.gras∧stored (seqS c s)=stored s∧
  ∃k,k≠0∧(∀i,i≠k→(seqS c s).tres[i]? =s.tres[i]?)∧∀t t',s.tres[k]? =some t→(seqS c s).tres[k]? =some t'→t'.leaves.length+t'.queue.length=t.leaves.length+t.queue.length:=by
 rcases h:qmz (s.tres.mapIdx fun i t=>qn1 i t) s.lane.toNat with _|k
 · rw[qty hs h]
   exact⟨rfl,rfl,rfl,rfl,rfl,1,by decide,fun _ _=>rfl,fun t t' h1 h2=>by rw[h1]at h2;injection h2 with h2;rw[h2]⟩
 obtain⟨h0,t,ht,hr,hw⟩:=qtv h;have hst:=xdv (c:=c) hs h ht;obtain⟨g,hg,hg1,hl,hq,hz⟩:=xdu (c:=c) (hs.tre ht) hw;refine⟨?_,?_,?_,?_,?_,k,h0,hst.2.1,fun t1 t1' h1 h2=>?_⟩
 · rw[qu0 hs h ht];split<;>rfl
 · rw[qu0 hs h ht];split<;>rfl
 · rw[qu0 hs h ht];split<;>rfl
 · rw[qu0 hs h ht];split<;>rfl
 ·
  have e1:qme (seqT c t).leaves+qme (seqT c t).queue=qme t.leaves+qme t.queue:=by
   rw[hl,hq,xdx];have:qme t.queue=qme (t.queue.take g)+qme (t.queue.drop g):=by rw[←xdx,List.take_append_drop]
   omega
  have e2:(((s.tres.modify k fun _=>seqT c t)).map fun t:Tre=>qme t.leaves+qme t.queue)=s.tres.map fun t:Tre=>qme t.leaves+qme t.queue:=
   xdw _ _ _ _ fun x hx=>by
    rw[ht]at hx;injection hx with hx;rw[←hx];exact e1
  rw[qu0 hs h ht];split
  · unfold stored
    exact congrArg List.sum e2
  unfold stored;refine congrArg List.sum ?_;refine Eq.trans ?_ e2;exact xdw (fun t:Tre=>qme t.leaves+qme t.queue) (fun t=>{t with hd:=pubT c s.clock k t}) _ _ fun _ _=>rfl
 obtain⟨-,-,hd,h3,-,-⟩:=hst;rw[ht]at h1;injection h1 with h1;rw[h3]at h2;injection h2 with h2;subst h1 h2;show (seqT c t).leaves.length+(seqT c t).queue.length=_;rw[hl,hq];simp only[tA6,tBd,tBk];omega
theorem qvh(hm:qmj c s r=0)(hw:(qmv c s r).2.why=0)(ha:ql4 r.op=true)(hf:qum c s=y)(hy:y≠0):doS c s r=(s,rWhy y):=by
 unfold doS;rw[if_neg (by rw[hm];decide)];obtain⟨s1,a,h⟩:∃s1 a,qmv c s r=(s1,a):=⟨_,_,rfl⟩;rw[h]at hw ⊢;dsimp only at hw ⊢;rw[if_neg (by rw[hw];decide),ha];unfold qum at hf;by_cases h1:1024≤(s.tres[0]?.getD Tre.zero).leaves.length
 · rw[if_pos h1]at hf
   rw[if_pos (by simp;exact h1),hf]
 rw[if_neg h1]at hf;by_cases h2:c.store<stored s+64
 · rw[if_pos h2]at hf
   rw[if_neg (by simp;omega),if_pos (by simp;omega),hf]
 rw[if_neg h2]at hf;exact absurd hf.symm hy
theorem qvi(hf:qum c s=0):(s.tres[0]?.getD Tre.zero).leaves.length<1024∧stored s+64≤c.store:=by
 unfold qum at hf;by_cases h1:1024≤(s.tres[0]?.getD Tre.zero).leaves.length
 · rw[if_pos h1]at hf
   cases hf
 rw[if_neg h1]at hf;by_cases h2:c.store<stored s+64
 · rw[if_pos h2]at hf
   cases hf
 omega
theorem qvj(hm:qmj c s r=0)(hw:(qmv c s r).2.why=0)(ha:ql4 r.op=true)(hf:qum c s=0)(h9:r.op=9):doS c s r=(qut c s r,{(qmv c s r).2 with hd:=((qut c s r).tres[r.tree.toNat]?.getD Tre.zero).hd}):=by
 obtain⟨hl,hst⟩:=qvi hf;unfold doS;rw[if_neg (by rw[hm];decide)];obtain⟨s1,a,h⟩:∃s1 a,qmv c s r=(s1,a):=⟨_,_,rfl⟩;unfold qut;rw[h]at hw ⊢;dsimp only at hw ⊢;rw[if_neg (by rw[hw];decide),if_neg (by simp;intro _;omega),if_neg (by simp;intro _;omega),if_pos ha,if_pos h9]
section
variable {w w' : World} {col col' : Col} {p : Nat → Bool}
theorem qvk{base:Nat}(h:w.ownsRow base e size v n xs)(h0:∀g,v.ownBlock=some g→col g=0)(ht:Turns p w col w' col')(hp:p 0=false):w'.ownsRow base e size v n xs∧∀g,v.ownBlock=some g→col' g=0:=by
 refine⟨⟨h.1,?_⟩,fun g hg=>?_⟩
 · rcases h.2 with h1|⟨g,cap,cur,rfl,hg,hh,rest⟩
   · exact .inl h1
   have hl:Blk w g e cur:=hh;exact .inr ⟨g,cap,cur,rfl,hg,(ht.block g hl.lt (by rw[h0 g rfl];exact hp)).trans hh,rest⟩
 exact(ht.same g (World.ownsRow.lt h g hg).2).trans (h0 g hg)
theorem RspV.turns{base:Nat}{A:Rsp}(h:RspV w col base v A)(ht:Turns p w col w' col')(hp:p 0=false):RspV w' col' base v A:=by
 obtain⟨bv,hv,cav,e,h1,h2,h3,h4,h5,h6⟩:=h;obtain⟨a1,b1⟩:=qvk h1 h4 ht hp;obtain⟨a2,b2⟩:=qvk h2.2 h5 ht hp;obtain⟨a3,b3⟩:=qvk h3 h6 ht hp;exact⟨bv,hv,cav,e,a1,⟨h2.1,a2⟩,a3,b1,b2,b3⟩
theorem RspV.call{base:Nat}{A:Rsp}(h:RspV w col base v A)(hb:Zb w w'):RspV w' col base v A:=h.turns (Turns.of_below (fun _=>false) hb) rfl
theorem RspV.grown{base:Nat}{A:Rsp}{cs:Array Value}(h:RspV w col base v A)(hz:Blk w G 57 cs)(hg:w.grownBy w' (some G)):RspV w' col base v A:=by
 obtain⟨bv,hv,cav,e,h1,h2,h3,h4,h5,h6⟩:=h;exact⟨bv,hv,cav,e,tB3 h1 hg (.inr (qa3 h1 hz zdc)),⟨h2.1,tB3 h2.2 hg (.inr (qa3 h2.2 hz zdc))⟩,tB3 h3 hg (.inr (qa3 h3 hz zdc)),h4,h5,h6⟩
theorem RspV.base{base:Nat}{A:Rsp}(h:RspV w col base v A)(hb:base'≤base):RspV w col base' v A:=by
 obtain⟨bv,hv,cav,e,h1,h2,h3,h4,h5,h6⟩:=h;exact⟨bv,hv,cav,e,qdb h1 hb,⟨h2.1,qdb h2.2 hb⟩,qdb h3 hb,h4,h5,h6⟩
theorem Turns.only0(h:w.grownBy w' (some G))(h0:col G=0):Turns (· ==0) w col w' col:=
 Turns.of_grown h (fun g e=>by injection e with e;subst e;simp[h0]) (fun _ _=>rfl)
theorem Mdl.grown0(h:Mdl w col k g c s L css)(hk:Kind k)(hg:w.grownBy w' (some G))(h0:col G=0):Mdl w' col k g c s L css:=
 h.keep (Turns.only0 hg h0) rfl rfl (by rcases hk with rfl|rfl<;>rfl) (by rcases hk with rfl|rfl<;>rfl) (by rcases hk with rfl|rfl<;>rfl) (fun i hi=>by simp;omega) (h.fin.mono hg.size)
theorem StAt.grown0(h:StAt tt rt gt w col k L css s)(hk:Kind k)(hg:w.grownBy w' (some G))(h0:col G=0):StAt tt rt gt w' col k L css s:=by
 have T:=Turns.only0 hg h0;exact h.keep (T.keeps (by rcases hk with rfl|rfl<;>rfl)) (T.keeps (by rcases hk with rfl|rfl<;>rfl)) (T.keeps (by rcases hk with rfl|rfl<;>rfl)) fun i hi=>T.keeps (by simp;omega)
theorem StAt.call(h:StAt tt rt gt w col k L css s)(hb:Zb w w'):StAt tt rt gt w' col k L css s:=
 h.keep ((Turns.of_below (fun _=>false) hb).keeps rfl) ((Turns.of_below (fun _=>false) hb).keeps rfl) ((Turns.of_below (fun _=>false) hb).keeps rfl) fun i _=>(Turns.of_below (fun _=>false) hb).keeps rfl
theorem Rest.newer(h:Rest w col W colW)(hg:W.grownBy W' (some G))(hG:w.heap.size≤G):Rest w col W' colW:=
 ⟨hg.os.trans h.os,hg.tape.trans h.tape,hg.output.trans h.output,tB1 h.size hg.size,fun b hb hc=>by
  obtain⟨h1,h2⟩:=h.block b hb hc;exact⟨(hg.block b (tB0 hb h.size) (by intro e;injection e with e;omega)).trans h1,h2⟩⟩
theorem Rest.step(h:Rest w col W colW)(ht:Turns p W colW W' colW')(hp:p 0=false):Rest w col W' colW':=h.trans (Rest.of_turns ht hp)
end
theorem qvl{l:List Tre}(h:TrsAt w col css l):∀u∈css.flatten,u.oneCell'=true:=by
 intro u hu;obtain⟨cs,hcs,hu⟩:=List.mem_flatten.1 hu;obtain⟨i,hi⟩:=List.mem_iff_getElem?.1 hcs;have hlt:i<l.length:=by
  obtain⟨h1,_⟩:=tA8 hi;rw[←h.1];exact h1
 obtain⟨cs',h1,vd,vl,vq,e,r1,r2,r3⟩:=h.2 i _ (tA7 hlt);rw[hi]at h1;injection h1 with h1;subst h1;obtain⟨A1,c1,e1,-⟩:=r1.sl;obtain⟨vs2,A2,c2,e2,-⟩:=r2.sl;obtain⟨vs3,A3,c3,e3,-⟩:=r3.sl;subst e e1 e2 e3;exact qqk _ _ _ _ rfl rfl rfl u hu
theorem qvm(l:List Ten):∀u∈l.flatMap tenv,u.oneCell'=true:=by
 intro u hu;obtain⟨x,_,hx⟩:=List.mem_flatMap.1 hu;unfold tenv at hx;simp only[List.mem_cons,List.not_mem_nil,or_false]at hx;rcases hx with rfl|rfl|rfl|rfl|rfl|rfl<;>rfl
theorem qvn(l:List Gra):∀u∈l.flatMap grav,u.oneCell'=true:=by
 intro u hu;obtain⟨x,_,hx⟩:=List.mem_flatMap.1 hu;unfold grav at hx;simp only[List.mem_cons,List.not_mem_nil,or_false]at hx;rcases hx with rfl|rfl|rfl|rfl<;>rfl
theorem qvo(s:Sta)(L:Loc):(stav s L).length=6:=rfl
theorem qvp(s:Sta)(L:Loc):∀u∈stav s L,u.oneCell'=true:=by
 intro u hu;unfold stav at hu;simp only[List.mem_cons,List.not_mem_nil,or_false]at hu;rcases hu with rfl|rfl|rfl|rfl|rfl|rfl<;>rfl
theorem qvq(A:Rsp)(h:Hd)(bv hv cav:Value)(h1:A.hd.Ok)(h2:h.Ok):over (rspv A bv hv cav) 4 (hdv h)=rspv {A with hd:=h} bv hv cav:=by
 unfold over rspv;have l1:=qni h1;have l2:=qni h2;rw[l2];simp only[List.take_succ_cons,List.take_zero,List.drop_succ_cons,List.cons_append,List.nil_append];rw[show 4+64=(hdv A.hd).length by rw[l1],List.drop_left]
theorem qvr{l:List Value}(h:l.toArray[i]? =some u):l.toArray.setIfInBounds i u=l.toArray:=by
 rw[List.setIfInBounds_toArray];congr 1
 rw[tA3]at h;obtain⟨hi,e⟩:=tA8 h;rw[←e,List.set_getElem_self]
theorem Mdl.there4(h:Mdl w col k g c s L css):w.there g 4 6:=fun j hj=>
 ⟨by rw[h.blk.cell,Array.getElem?_eq_getElem (by simp[mdlv];omega)];simp,h.blk.frozen _⟩
theorem Tabs.rest(h:Tabs w)(hr:Rest w col w' col')(hb:3≤w.heap.size∧∀b,b<3→col b=0):Tabs w':=h.below (hr.below hb.2 hb.1).1 (tA4 _)
theorem Asked.rest{cc:Nat}(h:Asked w col R Ac cc Al cl)(hr:Rest w col w' col'):Asked w' col' R Ac cc Al cl:=
 ⟨h.good,hr.reads h.leaf h.leaf0,h.leafc,h.leafm,hr.reads h.cavs h.cavs0,h.cavc,h.cavm,
  fun hn ad e=>by
   obtain⟨ad',e',hb,_⟩:=h.leaf.2 hn;rw[e]at e';injection e' with e';subst e';exact(hr.block _ hb (h.leaf0 hn ad e)).2,
  fun hn ad e=>by
   obtain⟨ad',e',hb,_⟩:=h.cavs.2 hn;rw[e]at e';injection e' with e';subst e';exact(hr.block _ hb (h.cavs0 hn ad e)).2⟩
theorem RspV.cell0{base:Nat}{A:Rsp}(h:RspV W col base (.agg X.toArray) A):X.toArray[0]? =some (.int .i64 A.why):=by
 obtain⟨bv,hv,cav,e,-⟩:=h;injection e with e;rw[e];rfl
theorem RspV.head{base:Nat}{A:Rsp}{h:Hd}(hr:RspV W col base (.agg X.toArray) A)(h1:A.hd.Ok)(h2:h.Ok):RspV W col base (.agg (over X 4 (hdv h)).toArray) {A with hd:=h}:=by
 obtain⟨bv,hv,cav,e,h3,h4,h5,h6,h7,h8⟩:=hr;injection e with e;have e':X=rspv A bv hv cav:=by simpa using e
 rw[e',qvq A h bv hv cav h1 h2];exact⟨bv,hv,cav,rfl,h3,h4,h5,h6,h7,h8⟩
theorem qvs(h9:r.op=9)(hw:(qmv c s r).2.why=0):∃t,s.tree r.tree=some t:=by
 cases h:s.tree r.tree with
 |some t=>exact⟨t,rfl⟩
 |none=>
  unfold qmv at hw;rw[h,if_neg zo,if_neg zo,if_neg zo,if_neg zo]at hw;have hw':(23:Int)=0:=hw;exact absurd hw' zdc
end Go.Proofs.YthomgopipiomhaaGreatDoor

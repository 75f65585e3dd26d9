/- Lemmas. -/
import Derived.Test.YthomgopipiomhaaGreatDoorBML05
namespace Go.Proofs.YthomgopipiomhaaGreatDoor
open Go.RowKit
set_option linter.unusedVariables false
set_option linter.unusedSimpArgs false
set_option maxRecDepth 100000
set_option maxHeartbeats 32000000
variable {v v':Value}{base g i n n' b b' k ai bk oj y p B f:Nat}{w w':World}{Q:Exit→Act→World→Prop}{K:Act→World→Prop}{a:Act}{o:Oper}{l rest:List Oper}{P:Program}{xs:List Value}{e e':TypeId}{o0 out:List Nat}{A:Option Addr}
theorem qpk(R:Req)(cav leafv:Value)(ht:R.tag.length=32):(reqv R cav leafv).length=48:=by
 unfold reqv;rw[tA6,tBi,qdc _ _ _ ht];rfl
def OwnF (w:World)(base g:Nat)(v:Value)(l:List Fld):Prop:=w.ownsRow base 252 4 v l.length (qdj g l)
theorem OwnF.sl{l:List Fld}(h:w.ownsRow base 252 4 v l.length (qdj g l)):∃A n c,v=.slice A n c∧n=l.length∧n≤c∧c≤maxLen∧Reads w w.heap.size 4 A n (qdj g l):=by
 obtain⟨A,c,h1,h2,h3,h4⟩:=qaf h;exact⟨A,_,c,h1,rfl,h2,h3,h4⟩
theorem OwnF.kept{l:List Fld}(h:OwnF w base g v l)(hb:Zb w w'):OwnF w' base g v l:=
 tB3 h ⟨hb.os,hb.tape,hb.output,hb.size,fun k hk _=>hb.block k hk⟩ (row:=none) (by cases v.ownBlock<;>simp)
theorem qpl(op:Int)(T:Tok)(cav leafv:Value)(ht:T.2.2.length=32):
 ((zLQ:Array Value).toList).take 1++(tokv T.1 cav T.2.2++((zLQ:Array Value).toList).drop (1+(tokv T.1 cav T.2.2).length))=reqv (req0 T 0) cav (.slice none 0 0):=by
 rw[qdc _ _ _ ht];rfl
theorem qpm{L:List Value}(h:Blk w g 34 L.toArray)(hl:L.length=48):(loadVar 34 ⟨g,0,none⟩).run Tryz.prog w=.ok (.agg L.toArray) w:=
 run_loadVar_mid _ _ 0 _ L _ (qap h 0 L zjq) Tryz.underlying34 rfl (by rw[hl];exact Tryz.req_info)
def qpn:List Value:=reqv qid (.slice none 0 0) (.slice none 0 0)
theorem qpo:(Tryz.prog.info? 34).map (·.size)=some qpn.toArray.size:=by kernel_rfl
theorem qpp:qpn.toArray.all (·.oneCell')=true:=by kernel_rfl
theorem qpq:Tryz.prog.built 34 []=some qpn.toArray:=by kernel_rfl
theorem qpr(bs:List Nat)(A:Option Addr)(n c:Nat)(w:World)(hr:Reads w w.heap.size 1 A n (byv bs))(hn:n≤140737488355328)(hb:∀x∈bs,x<256)(hE:w.cell? ⟨0,0,none⟩=some (.iface 327 (.agg #[.pointer (some ⟨3,81,none⟩)]))):
 Zc 77 #[.slice A n c] w fun e w'=>∃cav lv r,e=.returned (.tuple #[.agg (reqv (qie bs).2 cav lv).toArray,r])∧OwnC w' w.heap.size cav (qie bs).2.cavs∧OwnB w' w.heap.size lv (qie bs).2.leaf∧RErr w' w.heap.size r (qie bs).1∧Below w.heap.size w w':=by
 have HB:=zh1 hb;have r0:=Blk.new w 34 zLQ;obtain⟨HE,R0,HR⟩:=zh3 hE r0 (hr.laid (.cells zLQ 34));have AG:Below w.heap.size w (w.alloc (.cells zLQ 34)):=(tA5 _ _).alloc (tA4 _) _;obtain⟨W0,hW0⟩:=eqx (w.alloc (.cells zLQ 34));rw[←hW0]at R0 HR AG;obtain⟨AN,B0⟩:=zh2 hW0 AG;clear hE r0 hr hW0 AG;go_enter Tryz.func77,Tryz.ntmps77
 go_upto_region 1 with(fail)
 rw[←AN.o];go_wp2_with fail
 refine(qg5 bs A n c W0 HR.o hn).mono ?_;rintro e w1 ⟨g,rfl,h1,b1⟩;obtain⟨B,hB⟩:=xeq W0.heap.size;have hBw:w.heap.size<B:=by rw[←hB];exact R0.lt
 rw[hB]at h1;have r1:=R0.below b1 R0.lt;have bl1:Below w.heap.size w w1:=B0.trans (b1.mono zo);have q1:=Blk.new w1 34 zLQ;have h1':=h1.below ((tA5 w1.heap.size w1).alloc (tA4 _) (.cells zLQ 34));have hg1:=h1.lt;have hBg:=h1.le;obtain⟨w2,hw2⟩:=eqx (w1.alloc (.cells zLQ 34));rw[←hw2]at q1 h1';obtain⟨H2,Q2,R2,AJ,AO⟩:=zh5 h1' q1 (show Blk w2 w.heap.size 34 zLQ by rw[hw2];exact r1.alloc _) (show Below w.heap.size w w2 by rw[hw2];exact qah bl1 _) hw2;clear h1 h1' r1 bl1 q1 b1 hw2 hB;go_upto_region 4 with(fail)
 rw[←AO.o];obtain⟨G5,hG5⟩:=xeq w1.heap.size;rw[hG5]at Q2 hg1 ⊢;clear hG5;go_wp2_with fail
 refine(qhm B g bs (0,none) 77 w2 H2.o HB.o zo).mono ?_;rintro e w3 ⟨v3,rfl,own3,h3,g3⟩;obtain⟨A3,n3,c3,rfl,nc3,mc3,rd3⟩:=own3.sl;have raw:=qhl bs (0,none) 77 HB.o;have hraw:=qb4 rd3;have bl3:=adv AJ.o g3 zo H2.lt;have r3:=R2.grown g3 (by simp;omega);have q3:=Q2.grown g3 (by simp;omega);have hDE:=qh6 (qhk bs (0,none) 77).2 A3 n3 c3 w3 rd3 (by have:=qif bs (0,none) 77 HB.o;omega) raw ((bl3.cell (p:=⟨0,0,none⟩) (World.block_lt_of_cell? _ _ HE.o)).trans HE.o);have hrt:qib bs=if (qh1 (qhk bs (0,none) 77).2).1=none then(qhk bs (0,none) 77).1 else qg2 (qhk bs (0,none) 77).1 (qhk bs (0,none) 77).1.1 12:=rfl
 have hT:reqT bs=(qh1 (qhk bs (0,none) 77).2).2:=rfl;have hok:=qhv (qhk bs (0,none) 77).2 raw;obtain⟨⟨E,T⟩,hET⟩:∃x,qh1 (qhk bs (0,none) 77).2=x:=⟨_,rfl⟩;rw[hET]at hDE hrt hT hok;dsimp only at hDE hrt hT hok;obtain⟨s3,hs3⟩:=xeq ((qhk bs (0,none) 77).1);rw[hs3]at h3 hrt;obtain⟨AK,AP,HT,A5,H3,R3,Q3,AC⟩:=zh8 hDE hrt hT hok h3 r3 q3 bl3;clear hDE hrt hT hok h3 r3 q3 bl3 hET hs3 raw hraw own3 rd3 g3 H2 R2 Q2 AJ;go_wp2_with fail
 refine AK.o.mono ?_;rintro e w4 ⟨cav,er,rfl,own4,her,b4⟩;obtain⟨Ac,nc,cc,rfl,enc,ncc,mcc,rdc⟩:=OwnC.sl own4;have h4:=H3.below b4;have r4:=R3.below b4 R3.lt;have q4:=Q3.below b4 Q3.lt;have bl4:=AC.trans (b4.mono AC.size);have own4':OwnC w4 w.heap.size (.slice Ac nc cc) T.2.1:=OwnC.mono own4 AC.size;have lV:=qdc T.1 (.slice Ac nc cc) T.2.2 A5.o.1.2.2.1;have oV:=qed T.1 (.slice Ac nc cc) rfl T.2.2;have hset:=qpl 0 T (.slice Ac nc cc) (.slice none 0 0) A5.o.1.2.2.1;obtain⟨V,hV⟩:=xeq (tokv T.1 (.slice Ac nc cc) T.2.2);rw[hV]at lV oV hset ⊢;have q4':Blk w4 G5 34 ((zLQ:Array Value).toList).toArray:=q4;obtain⟨ZR,hZR⟩:=xeq ((zLQ:Array Value).toList);have lZ:ZR.length=48:=by rw[←hZR];rfl
 rw[hZR]at q4' hset;obtain⟨TH,SC⟩:=zh2 (show w4.there G5 1 V.toArray.size by rw[tB6,lV];exact qeh q4' 1 34 (by rw[lZ];decide)) (Blk.setCells V 1 w4 ZR q4' (by rw[lZ,lV];decide));rw[hset]at SC;obtain⟨IV,OV⟩:=zh2 (show (Tryz.prog.info? 31).map (·.size)=some V.toArray.size by rw[tB6,lV];exact Tryz.tok_info) (all_oneCell_toArray oV);have gsc:=qef G5 V 1 w4;obtain⟨H5,O5,R5,AD,AL⟩:=zh5 (h4.kept gsc q4 zdc zdc zo) (show OwnC (w4.setCells G5 1 V) w.heap.size (.slice Ac nc cc) T.2.1 from tB3 own4' gsc (.inr (qa3 own4' q4 zdc))) (r4.grown gsc (by simp;omega)) (adv bl4 gsc zo q4.lt) her;clear h4 r4 q4 q4' bl4 own4 own4' lV oV hset hV hZR lZ gsc her rdc enc b4 H3 R3 Q3 AC AK;go_upto_region 5 with(refine wpList_store_mid rfl 31 (.tmp 20) (.tmp 18) rfl G5 1 V.toArray rfl rfl TH.o IV.o OV.o ?_)
 obtain⟨w5,hw5⟩:=eqx (w4.setCells G5 1 V);rw[←hw5]at SC H5 O5 R5 AD ⊢;have hgG:g<G5:=hg1;clear hw5 TH;have AE:Hid (qib bs=if E=none then s3 else qg2 s3 s3.1 12):=AP;go_cut [22] (fun s22 wx=>s22=.bool E.isSome∧wx=w5)
 case first=>
  cases E with
  |none=>
   have he:er=.nilIface:=AL.o;subst he;go_wp2
   go_meet
   case rel=>exact⟨rfl,rfl⟩
  |some x=>
   obtain⟨hh,he,-,-⟩:=AL.o;subst he;go_wp2
   go_meet
   case rel=>exact⟨rfl,rfl⟩
 case rest=>
  obtain⟨rfl,rfl⟩:=hcut;obtain⟨w5',rfl⟩:=eqx wc;go_upto_if 22 with(fail)
  go_cut [] (fun wx=>Hid (Rd wx B g bs (qib bs))∧Hid (OwnC wx w.heap.size (.slice Ac nc cc) T.2.1)∧Hid (Blk wx G5 34 (reqv (req0 T 0) (.slice Ac nc cc) (.slice none 0 0)).toArray)∧Hid (Blk wx w.heap.size 34 zLQ)∧Hid (Below w.heap.size w wx))
  case first=>
   cases E with
   |none=>
    rw[if_pos rfl]at AE;go_wp2
    go_meet
    case rel=>exact⟨by rw[AE.o];exact H5.o,O5.o,SC.o,R5.o,AD.o⟩
   |some x=>
    rw[if_neg zm]at AE;go_wp2_with fail
    refine(qg7 B g bs s3 12 w5' H5.o zdc).mono ?_;rintro e w6 ⟨rfl,h6,g6⟩;have H6:=zh1 h6;have O6:=zh1 (show OwnC w6 w.heap.size (.slice Ac nc cc) T.2.1 from tB3 O5.o g6 (.inr (fun e=>by
     obtain⟨A',n',c',p',hgb,-⟩:=H5.o;exact qa3 O5.o hgb zdc e)))
    obtain⟨Q6,R6,AF⟩:=zh3 (SC.grown g6 (by simp;omega)) (R5.grown g6 (by simp;omega)) (adv AD.o g6 zo H5.lt);clear h6 g6;go_wp2
    go_meet
    case rel=>exact⟨by rw[AE.o];exact H6.o,O6.o,Q6.o,R6.o,AF.o⟩
  case rest=>
   obtain⟨H6,O6,Q6,R6,AF⟩:=hcut;clear H5 O5 SC R5 AD;obtain⟨w6,rfl⟩:=eqx wc;go_wp2_with fail
   refine(qge B g bs (qib bs) 1 w6 H6.o HB.o).mono ?_;rintro e w7 ⟨rfl,h7,g7⟩;have hkl:=qgd bs (qib bs) 1 HB.o;have hgo:=qig bs;have e1:qb0 1=1:=rfl;rw[e1]at h7 ⊢;clear e1;obtain⟨⟨s7,k⟩,hk⟩:∃x,rNum bs (qib bs) 1=x:=⟨_,rfl⟩;rw[hk]at h7 hkl ⊢;dsimp only at h7 hkl ⊢;have hk256:k<256:=Nat.lt_of_lt_of_eq hkl zdc;have kw:IntKind.i64.wrap (k:Int)=k:=tBb _ zo;have AH:=zh1 (hgo s7 k hk);have q7:=Q6.grown g7 (by simp;omega);have r7:=R6.grown g7 (by simp;omega);have bl7:=adv AF.o g7 zo H6.lt;have o7:OwnC w7 w.heap.size (.slice Ac nc cc) T.2.1:=tB3 O6.o g7 (.inr (fun e=>by
    obtain⟨A',n',c',p',hgb,-⟩:=H6.o;exact qa3 O6.o hgb zdc e))
   have c70:=q7.cell 0;rw[show (reqv (req0 T 0) (.slice Ac nc cc) (.slice none 0 0)).toArray[0]? =some (.int .i64 0) from rfl]at c70;have f70:=q7.frozen 0;have q8:=q7.set_ 0 (.int .i64 (k:Int));rw[qih T (.slice Ac nc cc) (.slice none 0 0) k]at q8;have hset:=qab (p:=⟨G5,0,none⟩) (tB9 w7 (some G5)) (.inl rfl) (.int .i64 (k:Int));obtain⟨H8,O8,R8,A6,Q8⟩:=zh5 (h7.kept hset q7 zdc zdc zo) (show OwnC (w7.setCell ⟨G5,0,none⟩ (.int .i64 (k:Int))) w.heap.size (.slice Ac nc cc) T.2.1 from tB3 o7 hset (.inr (qa3 o7 q7 zdc))) (r7.grown hset (by simp;omega)) (adv bl7 hset zo q7.lt) q8;have hGs:=q8.lt;clear h7 g7 hkl hgo hk q7 r7 bl7 o7 q8 hset H6 O6 Q6 R6 AF;go_upto_region 8 with(fail)
   obtain⟨w8,hw8⟩:=eqx (w7.setCell ⟨G5,0,none⟩ (.int .i64 (k:Int)));rw[←hw8]at H8 O8 R8 A6 Q8 hGs ⊢;clear hw8 c70 f70;have fc:=qdx G5 _ (k:Int) w8 Q8.o rfl;obtain⟨bb,hbb⟩:=xeq ((fieldsOf (k:Int)).isSome);rw[hbb]at fc AH;obtain⟨AU,FC⟩:=zh2 hbb fc;clear fc hbb;go_wp2_with fail
   refine FC.o.mono ?_;rintro e w9 ⟨lv,rfl,ownF,b9⟩;obtain⟨Al,nl,cl,rfl,enl,ncl,-,-⟩:=OwnF.sl ownF;obtain⟨H9,O9,Q9,R9,AI,F9,EN⟩:=zh7 (H8.below b9) (O8.kept b9) (Q8.below b9 Q8.lt) (R8.below b9 R8.lt) (A6.trans (b9.mono A6.size)) ownF enl;have h89:w.heap.size≤w8.heap.size:=A6.size;clear ownF b9 enl H8 O8 Q8 R8 A6 FC;go_upto_if 34 with(fail)
   obtain⟨fl,hfl⟩:=xeq ((fieldsOf (k:Int)).getD []);obtain⟨s9,hs9⟩:∃s,(if bb then s7 else qg2 s7 s7.1 12)=s:=⟨_,rfl⟩;rw[hfl,hs9]at AH;rw[hfl]at F9 EN;have hfl4:fl.length≤4∧∀f∈fl,IsFld f:=by
    cases hf:fieldsOf (k:Int) with
    |none=>rw[hf]at hfl;subst hfl;simp
    |some l2=>rw[hf]at hfl;obtain rfl:l2=fl:=hfl;exact⟨(qi5 _ _ hf).2.2,fun f hm=>qi3 _ _ hf f hm⟩
   obtain⟨HS9,AM⟩:=zh2 hs9 hfl4;clear hfl hs9 hfl4;go_cut [] (fun wx=>Hid (Rd wx B g bs s9)∧Hid (OwnC wx w.heap.size (.slice Ac nc cc) T.2.1)∧Hid (OwnF wx w8.heap.size G5 (.slice Al nl cl) fl)∧Hid (Blk wx G5 34 (reqv (req0 T (k:Int)) (.slice Ac nc cc) (.slice none 0 0)).toArray)∧Hid (Blk wx w.heap.size 34 zLQ)∧Hid (Below w.heap.size w wx))
   case first=>
    cases bb with
    |true=>
     have h9:=HS9.o;rw[if_pos rfl]at h9;subst h9;go_wp2
     go_meet
     case rel=>exact⟨H9.o,O9.o,F9.o,Q9.o,R9.o,AI.o⟩
    |false=>
     have h9:=HS9.o;rw[if_neg zm]at h9;subst h9;go_wp2_with fail
     refine(qg7 B g bs s7 12 w9 H9.o zdc).mono ?_;rintro e wa ⟨rfl,ha,ga⟩;have Ha:=zh1 ha;have Oa:=zh1 (show OwnC wa w.heap.size (.slice Ac nc cc) T.2.1 from tB3 O9.o ga (.inr (fun e=>by
      obtain⟨A',n',c',p',hgb,-⟩:=H9.o;exact qa3 O9.o hgb zdc e)))
     have Fa:=zh1 (show OwnF wa w8.heap.size G5 (.slice Al nl cl) fl from tB3 F9.o ga (.inr (fun e=>by
      obtain⟨A',n',c',p',hgb,-⟩:=H9.o;exact qa3 F9.o hgb zdc e)))
     obtain⟨Qa,Ra,BLa⟩:=zh3 (Q9.grown ga (by simp;omega)) (R9.grown ga (by simp;omega)) (adv AI.o ga zo H9.lt);clear ha ga;go_wp2
     go_meet
     case rel=>exact⟨Ha.o,Oa.o,Fa.o,Qa.o,Ra.o,BLa.o⟩
   case rest=>
    obtain⟨Ha,Oa,Fa,Qa,Ra,BLa⟩:=hcut;clear H9 O9 F9 Q9 R9 AI;obtain⟨wa,rfl⟩:=eqx wc;go_upto_block 0 with fail
    go_cut [] (fun wx=>∃(s:RSt) (R:Req) (lv:Value),Hid ((s,R)=qic bs)∧Hid R.Fine∧Hid (R.cavs=T.2.1)∧Hid (Rd wx B g bs s)∧Hid (OwnC wx w.heap.size (.slice Ac nc cc) T.2.1)∧Hid (OwnB wx w.heap.size lv R.leaf)∧Hid (Blk wx G5 34 (reqv R (.slice Ac nc cc) lv).toArray)∧Hid (Blk wx w.heap.size 34 zLQ)∧Hid (Below w.heap.size w wx))
    case first=>
     go_wp2_with fail
     have hnl:nl=fl.length:=EN.o;subst hnl;go_loopw [39] (fun i wr=>∃(j:Nat) (s:RSt) (R:Req) (lv:Value),j≤fl.length∧i=.int .i64 j∧Hid (qia bs (fl.drop j) s R=qic bs)∧Hid R.Fine∧Hid (R.cavs=T.2.1)∧Hid (Rd wr B g bs s)∧Hid (OwnC wr w.heap.size (.slice Ac nc cc) T.2.1)∧Hid (OwnB wr w.heap.size lv R.leaf)∧Hid (OwnF wr w8.heap.size G5 (.slice Al fl.length cl) fl)∧Hid (Blk wr G5 34 (reqv R (.slice Ac nc cc) lv).toArray)∧Hid (Blk wr w.heap.size 34 zLQ)∧Hid (Below w.heap.size w wr)) (fun i _=>fl.length - (intOf i).toNat)
     case atStart=>
      refine⟨0,s9,req0 T (k:Int),.slice none 0 0,by omega,rfl,?_,?_,rfl,Ha.o,Oa.o,OwnB.nil _ _,Fa.o,Qa.o,Ra.o,BLa.o⟩
      · show _=_
        rw[AH.o,show reqT bs=T from HT.o];rfl
      exact⟨A5.o.1.2.2.1,A5.o.1.2.2.2,A5.o.1.1,A5.o.1.2.1,A5.o.2,by simp[req0],by simp[req0]⟩
     case round=>
      clear Ha Oa Fa Qa Ra BLa;obtain⟨j,s,R,lv,hj,rfl,hgo,hfine,hcav,hrd,ho,hlo,hf,hq,hz,hbl⟩:=hrel;have fl4:fl.length≤4:=AM.o.1;by_cases hjl:j<fl.length
      ·
       have qk:(j:Int)<fl.length:=zo;obtain⟨f,hx⟩:∃f,fl[j]? =some f:=⟨_,tA7 hjl⟩;have q:=qi2 G5 fl j f hx;have HF:=AM.o.2 f (tB2 hx);have rdf:Reads wr wr.heap.size 4 Al fl.length (qdj G5 fl):=Reads.of_own hf.o;obtain⟨fbk,fo,hAl,hab,hcell⟩:=rdf.mid zo zo;subst hAl;have Hx:=zh1 hx;have HK:=qik HF;clear hx rdf;rcases HK with⟨f1,f2⟩|⟨f1,f2⟩|⟨f1,f2⟩|rfl
       ·
        have m0:=hcell (j*4+0) _ ((q 0 zo).trans (by unfold fldv;rw[if_pos f1];rfl));have m1:=hcell (j*4+1) _ ((q 1 zo).trans (by unfold fldv;rw[if_pos f1];rfl));have m2:=hcell (j*4+2) _ ((q 2 zo).trans (by unfold fldv;rw[if_pos f1];rfl));have m3:=hcell (j*4+3) _ ((q 3 zo).trans (by unfold fldv;rw[if_pos f1];rfl));clear q hcell;rw[f2]at m0;simp only[←Nat.add_assoc,Nat.add_zero]at m0 m1 m2 m3;have hstep:=qim bs fl j f s R _ hgo.o Hx.o (by rw[f1];decide);have hput:=qij R (.slice Ac nc cc) lv hfine.tag f HF (by rw[f1];decide);obtain⟨vx,hvx⟩:=qil R (.slice Ac nc cc) lv hfine.tag f HF (by rw[f1];decide);obtain⟨fb,fq,x⟩:=f;simp only at f1 f2 m0 m1 m2 m3 hstep hput hvx;subst f1 f2;have nl':=qgd bs s 1 HB.o;have RN:=fun w h=>qge B g bs s 1 w h HB.o
        have es:qb0 1=1:=rfl;rw[es]at RN;clear es;obtain⟨⟨s',nn⟩,hnn⟩:∃x,rNum bs s 1=x:=⟨_,rfl⟩;simp only[hnn]at RN nl' hstep;have nlt:nn<256:=Nat.lt_of_lt_of_eq nl' zdc;have nw:IntKind.i64.wrap (nn:Int)=nn:=tBb _ zo;have hp2:=hput nn;rw[show fldN (1,1,x) nn=.int .i64 (nn:Int) by simp[fldN]]at hp2;obtain⟨A7,A0,A2,A8⟩:=zh4 RN hstep hp2 hvx;clear RN hstep hput hp2 hvx nl' hnn;go_upto_region 16 with(fail)
        obtain⟨wf,hwf⟩:=eqx (wr.alloc (.cells #[.int .i64 1,.pointer (some ⟨G5,x,none⟩),.pointer none,.pointer none] 252));have bwf:=zMa hwf;have ff:=zNa hwf;rw[←hwf];have Rf:=hrd.below bwf;have Qf:=hq.below bwf hq.lt;have Cf:=ho.kept bwf;have Lf:=hlo.kept bwf;have Ff:OwnF wf w8.heap.size G5 (.slice (some ⟨fbk,fo,none⟩) fl.length cl) fl:=OwnF.kept hf.o bwf;have Zf:=hz.below bwf hz.lt;have BLf:=hbl.trans (bwf.mono hbl.size);have hwg:g<wr.heap.size:=hrd.lt;clear hwf bwf hrd hq ho hlo hf hz hbl m0 m1 m2 m3;have k0:=ff.cell 0;have kq:=ff.cell 1;rw[show (#[.int .i64 1,.pointer (some ⟨G5,x,none⟩),.pointer none,.pointer none]:Array Value)[0]? =some (.int .i64 1) from rfl]at k0;rw[show (#[.int .i64 1,.pointer (some ⟨G5,x,none⟩),.pointer none,.pointer none]:Array Value)[1]? =some (.pointer (some ⟨G5,x,none⟩)) from rfl]at kq;obtain⟨S,HS⟩:=zS fun w'=>w'.cell? ⟨wr.heap.size,0,none⟩=some (.int .i64 1)∧w'.cell? ⟨wr.heap.size,1,none⟩=some (.pointer (some ⟨G5,x,none⟩))
        refine zrs S 8 (zq 0 5 [(5,true),(6,false),(7,false),(8,true)]) ((HS.o _).mpr ⟨k0,kq⟩) ?_;repeat(refine zrt0 ?_)
        refine zw ?_;go_simp;refine(A7.o wf.drew Rf).mono ?_;rintro e wb ⟨rfl,hbb,gb⟩;have fb:=(show Blk wf.drew wr.heap.size 252 _ from ff).grown gb (by simp;omega);have l0:=fb.cell 0;have lq:=fb.cell 1;rw[show (#[.int .i64 1,.pointer (some ⟨G5,x,none⟩),.pointer none,.pointer none]:Array Value)[0]? =some (.int .i64 1) from rfl]at l0;rw[show (#[.int .i64 1,.pointer (some ⟨G5,x,none⟩),.pointer none,.pointer none]:Array Value)[1]? =some (.pointer (some ⟨G5,x,none⟩)) from rfl]at lq;refine⟨(HS.o _).mpr ⟨l0,lq⟩,zput ?_⟩;repeat(refine zrt0 ?_)
        have ne1:∀{base:Nat} {e:TypeId} {sz m:Nat} {v:Value} {xs:List Value},wf.drew.ownsRow base e sz v m xs→e≠239→v.ownBlock≠some g:=fun h he=>by
         obtain⟨A',n',c',p',hgb,-⟩:=Rf;exact qa3 h hgb he
        have Qb:=(show Blk wf.drew G5 34 _ from Qf).grown gb (by simp;omega);have Cb:OwnC wb w.heap.size (.slice Ac nc cc) T.2.1:=tB3 (show OwnC wf.drew _ _ _ from Cf) gb (.inr (ne1 (show OwnC wf.drew _ _ _ from Cf) zdc));have Lb:OwnB wb w.heap.size lv R.leaf:=tB3 (show OwnB wf.drew _ _ _ from Lf) gb (.inr (ne1 (show OwnB wf.drew _ _ _ from Lf) zdc));have Fb:OwnF wb w8.heap.size G5 (.slice (some ⟨fbk,fo,none⟩) fl.length cl) fl:=tB3 (show OwnF wf.drew _ _ _ _ from Ff) gb (.inr (ne1 (show OwnF wf.drew _ _ _ _ from Ff) zdc));have Zb9:=(show Blk wf.drew w.heap.size 34 _ from Zf).grown gb (by simp;omega);have hgw:g<wf.heap.size:=Rf.lt;have BLb:=adv (show Below w.heap.size w wf.drew from BLf.drew) gb zo hgw;have qx:=Qb.cell x;rw[tA3,A8.o]at qx;have fx:=Qb.frozen x;refine zw ?_;go_simp;refine qbf ?_;have gset:=qab (p:=⟨G5,x,none⟩) (tB9 wb (some G5)) (.inl rfl) (.int .i64 (nn:Int));have Qc:=Qb.set_ x (.int .i64 (nn:Int));rw[A2.o]at Qc;obtain⟨Q9',R9',C9',L9',F9',Z9',A1⟩:=zh7 Qc (hbb.kept gset Qb zdc zdc zo) (show OwnC (wb.setCell ⟨G5,x,none⟩ (.int .i64 (nn:Int))) w.heap.size (.slice Ac nc cc) T.2.1 from tB3 Cb gset (.inr (qa3 Cb Qb zdc))) (show OwnB (wb.setCell ⟨G5,x,none⟩ (.int .i64 (nn:Int))) w.heap.size lv R.leaf from tB3 Lb gset (.inr (qa3 Lb Qb zdc))) (show OwnF (wb.setCell ⟨G5,x,none⟩ (.int .i64 (nn:Int))) w8.heap.size G5 (.slice (some ⟨fbk,fo,none⟩) fl.length cl) fl from tB3 Fb gset (.inr (qa3 Fb Qb zdc))) (Zb9.grown gset (by simp;omega)) (adv BLb gset zo Qb.lt);clear Qc hbb Qb Cb Lb Fb Zb9 BLb gset Rf Qf Cf Lf Ff Zf BLf ff fb ne1 gb qx fx l0 lq k0 kq;obtain⟨-,p2,-,p4,-⟩:=qip R x nn;obtain⟨A9,AA⟩:=zh2 p2 p4;clear p2 p4;go_wp2
        go_roundw
        case rel=>exact⟨j+1,s',R.put x nn,lv,by omega,by go_num,A0.o,hfine.put x nn,by rw[A9.o];exact hcav.o,R9'.o,C9'.o,by rw[AA.o];exact L9'.o,F9'.o,Q9'.o,Z9'.o,A1.o⟩
        case measure=>simp[intOf];omega
       ·
        have m0:=hcell (j*4+0) _ ((q 0 zo).trans (by unfold fldv;rw[if_neg (by rw[f1];decide),if_pos f1];rfl));have m1:=hcell (j*4+1) _ ((q 1 zo).trans (by unfold fldv;rw[if_neg (by rw[f1];decide),if_pos f1];rfl));have m2:=hcell (j*4+2) _ ((q 2 zo).trans (by unfold fldv;rw[if_neg (by rw[f1];decide),if_pos f1];rfl));have m3:=hcell (j*4+3) _ ((q 3 zo).trans (by unfold fldv;rw[if_neg (by rw[f1];decide),if_pos f1];rfl));clear q hcell;rw[f2]at m0;simp only[←Nat.add_assoc,Nat.add_zero]at m0 m1 m2 m3;have hstep:=qim bs fl j f s R _ hgo.o Hx.o (by rw[f1];decide);have hput:=qij R (.slice Ac nc cc) lv hfine.tag f HF (by rw[f1];decide);obtain⟨vx,hvx⟩:=qil R (.slice Ac nc cc) lv hfine.tag f HF (by rw[f1];decide);obtain⟨fb,fq,x⟩:=f;simp only at f1 f2 m0 m1 m2 m3 hstep hput hvx;subst f1 f2;have nl':=qgd bs s 4 HB.o;have RN:=fun w h=>qge B g bs s 4 w h HB.o
        have es:qb0 4=4:=rfl;rw[es]at RN;clear es;obtain⟨⟨s',nn⟩,hnn⟩:∃x,rNum bs s 4=x:=⟨_,rfl⟩;simp only[hnn]at RN nl' hstep;have nlt:nn<4294967296:=Nat.lt_of_lt_of_eq nl' zdc;have nw:IntKind.u32.wrap (nn:Int)=nn:=by rw[IntKind.wrap_u32];omega
        have hp2:=hput nn;rw[show fldN (4,2,x) nn=.int .u32 (nn:Int) by simp[fldN]]at hp2;obtain⟨A7,A0,A2,A8⟩:=zh4 RN hstep hp2 hvx;clear RN hstep hput hp2 hvx nl' hnn;go_upto_region 18 with(fail)
        obtain⟨wf,hwf⟩:=eqx (wr.alloc (.cells #[.int .i64 4,.pointer none,.pointer (some ⟨G5,x,none⟩),.pointer none] 252));have bwf:=zMa hwf;have ff:=zNa hwf;rw[←hwf];have Rf:=hrd.below bwf;have Qf:=hq.below bwf hq.lt;have Cf:=ho.kept bwf;have Lf:=hlo.kept bwf;have Ff:OwnF wf w8.heap.size G5 (.slice (some ⟨fbk,fo,none⟩) fl.length cl) fl:=OwnF.kept hf.o bwf;have Zf:=hz.below bwf hz.lt;have BLf:=hbl.trans (bwf.mono hbl.size);have hwg:g<wr.heap.size:=hrd.lt;clear hwf bwf hrd hq ho hlo hf hz hbl m0 m1 m2 m3;have k0:=ff.cell 0;have kq:=ff.cell 2;rw[show (#[.int .i64 4,.pointer none,.pointer (some ⟨G5,x,none⟩),.pointer none]:Array Value)[0]? =some (.int .i64 4) from rfl]at k0;rw[show (#[.int .i64 4,.pointer none,.pointer (some ⟨G5,x,none⟩),.pointer none]:Array Value)[2]? =some (.pointer (some ⟨G5,x,none⟩)) from rfl]at kq;obtain⟨S,HS⟩:=zS fun w'=>w'.cell? ⟨wr.heap.size,0,none⟩=some (.int .i64 4)∧w'.cell? ⟨wr.heap.size,2,none⟩=some (.pointer (some ⟨G5,x,none⟩))
        refine zrs S 8 (zq 0 5 [(5,true),(6,false),(7,false),(8,true)]) ((HS.o _).mpr ⟨k0,kq⟩) ?_;repeat(refine zrt0 ?_)
        refine zw ?_;go_simp;refine(A7.o wf.drew Rf).mono ?_;rintro e wb ⟨rfl,hbb,gb⟩;have fb:=(show Blk wf.drew wr.heap.size 252 _ from ff).grown gb (by simp;omega);have l0:=fb.cell 0;have lq:=fb.cell 2;rw[show (#[.int .i64 4,.pointer none,.pointer (some ⟨G5,x,none⟩),.pointer none]:Array Value)[0]? =some (.int .i64 4) from rfl]at l0;rw[show (#[.int .i64 4,.pointer none,.pointer (some ⟨G5,x,none⟩),.pointer none]:Array Value)[2]? =some (.pointer (some ⟨G5,x,none⟩)) from rfl]at lq;refine⟨(HS.o _).mpr ⟨l0,lq⟩,zput ?_⟩;repeat(refine zrt0 ?_)
        have ne1:∀{base:Nat} {e:TypeId} {sz m:Nat} {v:Value} {xs:List Value},wf.drew.ownsRow base e sz v m xs→e≠239→v.ownBlock≠some g:=fun h he=>by
         obtain⟨A',n',c',p',hgb,-⟩:=Rf;exact qa3 h hgb he
        have Qb:=(show Blk wf.drew G5 34 _ from Qf).grown gb (by simp;omega);have Cb:OwnC wb w.heap.size (.slice Ac nc cc) T.2.1:=tB3 (show OwnC wf.drew _ _ _ from Cf) gb (.inr (ne1 (show OwnC wf.drew _ _ _ from Cf) zdc));have Lb:OwnB wb w.heap.size lv R.leaf:=tB3 (show OwnB wf.drew _ _ _ from Lf) gb (.inr (ne1 (show OwnB wf.drew _ _ _ from Lf) zdc));have Fb:OwnF wb w8.heap.size G5 (.slice (some ⟨fbk,fo,none⟩) fl.length cl) fl:=tB3 (show OwnF wf.drew _ _ _ _ from Ff) gb (.inr (ne1 (show OwnF wf.drew _ _ _ _ from Ff) zdc));have Zb9:=(show Blk wf.drew w.heap.size 34 _ from Zf).grown gb (by simp;omega);have hgw:g<wf.heap.size:=Rf.lt;have BLb:=adv (show Below w.heap.size w wf.drew from BLf.drew) gb zo hgw;have qx:=Qb.cell x;rw[tA3,A8.o]at qx;have fx:=Qb.frozen x;refine zw ?_;go_simp;refine qbf ?_;have gset:=qab (p:=⟨G5,x,none⟩) (tB9 wb (some G5)) (.inl rfl) (.int .u32 (nn:Int));have Qc:=Qb.set_ x (.int .u32 (nn:Int));rw[A2.o]at Qc;obtain⟨Q9',R9',C9',L9',F9',Z9',A1⟩:=zh7 Qc (hbb.kept gset Qb zdc zdc zo) (show OwnC (wb.setCell ⟨G5,x,none⟩ (.int .u32 (nn:Int))) w.heap.size (.slice Ac nc cc) T.2.1 from tB3 Cb gset (.inr (qa3 Cb Qb zdc))) (show OwnB (wb.setCell ⟨G5,x,none⟩ (.int .u32 (nn:Int))) w.heap.size lv R.leaf from tB3 Lb gset (.inr (qa3 Lb Qb zdc))) (show OwnF (wb.setCell ⟨G5,x,none⟩ (.int .u32 (nn:Int))) w8.heap.size G5 (.slice (some ⟨fbk,fo,none⟩) fl.length cl) fl from tB3 Fb gset (.inr (qa3 Fb Qb zdc))) (Zb9.grown gset (by simp;omega)) (adv BLb gset zo Qb.lt);clear Qc hbb Qb Cb Lb Fb Zb9 BLb gset Rf Qf Cf Lf Ff Zf BLf ff fb ne1 gb qx fx l0 lq k0 kq;obtain⟨-,p2,-,p4,-⟩:=qip R x nn;obtain⟨A9,AA⟩:=zh2 p2 p4;clear p2 p4;go_wp2
        go_roundw
        case rel=>exact⟨j+1,s',R.put x nn,lv,by omega,by go_num,A0.o,hfine.put x nn,by rw[A9.o];exact hcav.o,R9'.o,C9'.o,by rw[AA.o];exact L9'.o,F9'.o,Q9'.o,Z9'.o,A1.o⟩
        case measure=>simp[intOf];omega
       ·
        have m0:=hcell (j*4+0) _ ((q 0 zo).trans (by unfold fldv;rw[if_neg (by rw[f1];decide),if_neg (by rw[f1];decide),if_pos f1];rfl));have m1:=hcell (j*4+1) _ ((q 1 zo).trans (by unfold fldv;rw[if_neg (by rw[f1];decide),if_neg (by rw[f1];decide),if_pos f1];rfl));have m2:=hcell (j*4+2) _ ((q 2 zo).trans (by unfold fldv;rw[if_neg (by rw[f1];decide),if_neg (by rw[f1];decide),if_pos f1];rfl));have m3:=hcell (j*4+3) _ ((q 3 zo).trans (by unfold fldv;rw[if_neg (by rw[f1];decide),if_neg (by rw[f1];decide),if_pos f1];rfl));clear q hcell;rw[f2]at m0;simp only[←Nat.add_assoc,Nat.add_zero]at m0 m1 m2 m3;have hstep:=qim bs fl j f s R _ hgo.o Hx.o (by rw[f1];decide);have hput:=qij R (.slice Ac nc cc) lv hfine.tag f HF (by rw[f1];decide);obtain⟨vx,hvx⟩:=qil R (.slice Ac nc cc) lv hfine.tag f HF (by rw[f1];decide);obtain⟨fb,fq,x⟩:=f;simp only at f1 f2 m0 m1 m2 m3 hstep hput hvx;subst f1 f2;have nl':=qgd bs s 8 HB.o;have RN:=fun w h=>qge B g bs s 8 w h HB.o
        have es:qb0 8=8:=rfl;rw[es]at RN;clear es;obtain⟨⟨s',nn⟩,hnn⟩:∃x,rNum bs s 8=x:=⟨_,rfl⟩;simp only[hnn]at RN nl' hstep;have nlt:nn<18446744073709551616:=Nat.lt_of_lt_of_eq nl' zdc;have nw:(0:Nat)=0:=rfl;have hp2:=hput nn;rw[show fldN (8,3,x) nn=.int .u64 (nn:Int) by simp[fldN]]at hp2;obtain⟨A7,A0,A2,A8⟩:=zh4 RN hstep hp2 hvx;clear RN hstep hput hp2 hvx nl' hnn;go_upto_region 20 with(fail)
        obtain⟨wf,hwf⟩:=eqx (wr.alloc (.cells #[.int .i64 8,.pointer none,.pointer none,.pointer (some ⟨G5,x,none⟩)] 252));have bwf:=zMa hwf;have ff:=zNa hwf;rw[←hwf];have Rf:=hrd.below bwf;have Qf:=hq.below bwf hq.lt;have Cf:=ho.kept bwf;have Lf:=hlo.kept bwf;have Ff:OwnF wf w8.heap.size G5 (.slice (some ⟨fbk,fo,none⟩) fl.length cl) fl:=OwnF.kept hf.o bwf;have Zf:=hz.below bwf hz.lt;have BLf:=hbl.trans (bwf.mono hbl.size);have hwg:g<wr.heap.size:=hrd.lt;clear hwf bwf hrd hq ho hlo hf hz hbl m0 m1 m2 m3;have k0:=ff.cell 0;have kq:=ff.cell 3;rw[show (#[.int .i64 8,.pointer none,.pointer none,.pointer (some ⟨G5,x,none⟩)]:Array Value)[0]? =some (.int .i64 8) from rfl]at k0;rw[show (#[.int .i64 8,.pointer none,.pointer none,.pointer (some ⟨G5,x,none⟩)]:Array Value)[3]? =some (.pointer (some ⟨G5,x,none⟩)) from rfl]at kq;obtain⟨S,HS⟩:=zS fun w'=>w'.cell? ⟨wr.heap.size,0,none⟩=some (.int .i64 8)∧w'.cell? ⟨wr.heap.size,3,none⟩=some (.pointer (some ⟨G5,x,none⟩))
        refine zrs S 7 (zq 0 5 [(5,true),(6,false),(7,true)]) ((HS.o _).mpr ⟨k0,kq⟩) ?_;repeat(refine zrt0 ?_)
        refine zw ?_;go_simp;refine(A7.o wf.drew Rf).mono ?_;rintro e wb ⟨rfl,hbb,gb⟩;have fb:=(show Blk wf.drew wr.heap.size 252 _ from ff).grown gb (by simp;omega);have l0:=fb.cell 0;have lq:=fb.cell 3;rw[show (#[.int .i64 8,.pointer none,.pointer none,.pointer (some ⟨G5,x,none⟩)]:Array Value)[0]? =some (.int .i64 8) from rfl]at l0;rw[show (#[.int .i64 8,.pointer none,.pointer none,.pointer (some ⟨G5,x,none⟩)]:Array Value)[3]? =some (.pointer (some ⟨G5,x,none⟩)) from rfl]at lq;refine⟨(HS.o _).mpr ⟨l0,lq⟩,zput ?_⟩;repeat(refine zrt0 ?_)
        have ne1:∀{base:Nat} {e:TypeId} {sz m:Nat} {v:Value} {xs:List Value},wf.drew.ownsRow base e sz v m xs→e≠239→v.ownBlock≠some g:=fun h he=>by
         obtain⟨A',n',c',p',hgb,-⟩:=Rf;exact qa3 h hgb he
        have Qb:=(show Blk wf.drew G5 34 _ from Qf).grown gb (by simp;omega);have Cb:OwnC wb w.heap.size (.slice Ac nc cc) T.2.1:=tB3 (show OwnC wf.drew _ _ _ from Cf) gb (.inr (ne1 (show OwnC wf.drew _ _ _ from Cf) zdc));have Lb:OwnB wb w.heap.size lv R.leaf:=tB3 (show OwnB wf.drew _ _ _ from Lf) gb (.inr (ne1 (show OwnB wf.drew _ _ _ from Lf) zdc));have Fb:OwnF wb w8.heap.size G5 (.slice (some ⟨fbk,fo,none⟩) fl.length cl) fl:=tB3 (show OwnF wf.drew _ _ _ _ from Ff) gb (.inr (ne1 (show OwnF wf.drew _ _ _ _ from Ff) zdc));have Zb9:=(show Blk wf.drew w.heap.size 34 _ from Zf).grown gb (by simp;omega);have hgw:g<wf.heap.size:=Rf.lt;have BLb:=adv (show Below w.heap.size w wf.drew from BLf.drew) gb zo hgw;have qx:=Qb.cell x;rw[tA3,A8.o]at qx;have fx:=Qb.frozen x;refine zw ?_;go_simp;refine qbf ?_;have gset:=qab (p:=⟨G5,x,none⟩) (tB9 wb (some G5)) (.inl rfl) (.int .u64 (nn:Int));have Qc:=Qb.set_ x (.int .u64 (nn:Int));rw[A2.o]at Qc;obtain⟨Q9',R9',C9',L9',F9',Z9',A1⟩:=zh7 Qc (hbb.kept gset Qb zdc zdc zo) (show OwnC (wb.setCell ⟨G5,x,none⟩ (.int .u64 (nn:Int))) w.heap.size (.slice Ac nc cc) T.2.1 from tB3 Cb gset (.inr (qa3 Cb Qb zdc))) (show OwnB (wb.setCell ⟨G5,x,none⟩ (.int .u64 (nn:Int))) w.heap.size lv R.leaf from tB3 Lb gset (.inr (qa3 Lb Qb zdc))) (show OwnF (wb.setCell ⟨G5,x,none⟩ (.int .u64 (nn:Int))) w8.heap.size G5 (.slice (some ⟨fbk,fo,none⟩) fl.length cl) fl from tB3 Fb gset (.inr (qa3 Fb Qb zdc))) (Zb9.grown gset (by simp;omega)) (adv BLb gset zo Qb.lt);clear Qc hbb Qb Cb Lb Fb Zb9 BLb gset Rf Qf Cf Lf Ff Zf BLf ff fb ne1 gb qx fx l0 lq k0 kq;obtain⟨-,p2,-,p4,-⟩:=qip R x nn;obtain⟨A9,AA⟩:=zh2 p2 p4;clear p2 p4;go_wp2
        go_roundw
        case rel=>exact⟨j+1,s',R.put x nn,lv,by omega,by go_num,A0.o,hfine.put x nn,by rw[A9.o];exact hcav.o,R9'.o,C9'.o,by rw[AA.o];exact L9'.o,F9'.o,Q9'.o,Z9'.o,A1.o⟩
        case measure=>simp[intOf];omega
       have m0:=hcell (j*4+0) _ ((q 0 zo).trans rfl);have m1:=hcell (j*4+1) _ ((q 1 zo).trans rfl);have m2:=hcell (j*4+2) _ ((q 2 zo).trans rfl);have m3:=hcell (j*4+3) _ ((q 3 zo).trans rfl);clear q hcell;simp only[←Nat.add_assoc,Nat.add_zero]at m0 m1 m2 m3;have hstep:=qin bs fl j _ s R _ hgo.o Hx.o rfl;have hlb:=qhl bs s 256 HB.o;have hll:=qif bs s 256 HB.o;have RB:=fun w h=>qhm B g bs s 256 w h HB.o zo
       obtain⟨⟨s',lf⟩,hlf⟩:∃x,qhk bs s 256=x:=⟨_,rfl⟩;simp only[hlf]at RB hlb hll hstep;obtain⟨AQ,A0,AR,AS⟩:=zh4 RB hstep hlb hll;clear RB hstep hlb hll hlf;go_upto_region 14 with(fail)
       obtain⟨wf,hwf⟩:=eqx (wr.alloc (.cells #[.int .i64 0,.pointer none,.pointer none,.pointer none] 252));have bwf:=zMa hwf;rw[←hwf];have Rf:=hrd.below bwf;have Qf:=hq.below bwf hq.lt;have Cf:=ho.kept bwf;have Ff:OwnF wf w8.heap.size G5 (.slice (some ⟨fbk,fo,none⟩) fl.length cl) fl:=OwnF.kept hf.o bwf;have Zf:=hz.below bwf hz.lt;have BLf:=hbl.trans (bwf.mono hbl.size);clear hwf bwf hrd hq ho hlo hf hz hbl m0 m1 m2 m3;go_wp2_with fail
       refine(AQ.o wf Rf).mono ?_;rintro e wb ⟨vb,rfl,ownb,hbb,gb⟩;obtain⟨Av,nv,cv,rfl,-,-,-⟩:=OwnB.sl ownb;have ne1:∀{base:Nat} {e:TypeId} {sz m:Nat} {v:Value} {xs:List Value},wf.ownsRow base e sz v m xs→e≠239→v.ownBlock≠some g:=fun h he=>by
        obtain⟨A',n',c',p',hgb,-⟩:=Rf;exact qa3 h hgb he
       have Qb:=Qf.grown gb (by simp;omega);have Cb:OwnC wb w.heap.size (.slice Ac nc cc) T.2.1:=tB3 Cf gb (.inr (ne1 Cf zdc));have Fb:OwnF wb w8.heap.size G5 (.slice (some ⟨fbk,fo,none⟩) fl.length cl) fl:=tB3 Ff gb (.inr (ne1 Ff zdc));have Zb9:=Zf.grown gb (by simp;omega);have BLb:=adv BLf gb zo Rf.lt;have Lb:OwnB wb w.heap.size (.slice Av nv cv) lf:=OwnB.mono ownb BLf.size;have qx:=Qb.cell 47;have hq47:(reqv R (.slice Ac nc cc) lv)[47]? =some lv:=(qdh R (.slice Ac nc cc) lv hfine.tag 12).trans rfl;rw[tA3,hq47]at qx;have fx:=Qb.frozen 47;have gset:=qab (p:=⟨G5,47,none⟩) (tB9 wb (some G5)) (.inl rfl) (.slice Av nv cv);have Qc:=Qb.set_ 47 (.slice Av nv cv);rw[qio R (.slice Ac nc cc) lv (.slice Av nv cv) lf hfine.tag]at Qc;obtain⟨Q9',R9',C9',L9',F9',Z9',A1⟩:=zh7 Qc (hbb.kept gset Qb zdc zdc zo) (show OwnC (wb.setCell ⟨G5,47,none⟩ (.slice Av nv cv)) w.heap.size (.slice Ac nc cc) T.2.1 from tB3 Cb gset (.inr (qa3 Cb Qb zdc))) (show OwnB (wb.setCell ⟨G5,47,none⟩ (.slice Av nv cv)) w.heap.size (.slice Av nv cv) lf from tB3 Lb gset (.inr (qa3 Lb Qb zdc))) (show OwnF (wb.setCell ⟨G5,47,none⟩ (.slice Av nv cv)) w8.heap.size G5 (.slice (some ⟨fbk,fo,none⟩) fl.length cl) fl from tB3 Fb gset (.inr (qa3 Fb Qb zdc))) (Zb9.grown gset (by simp;omega)) (adv BLb gset zo Qb.lt);clear Qc hbb Qb Cb Lb Fb Zb9 BLb gset Rf Qf Cf Ff Zf BLf ne1 gb ownb hq47;go_wp2
       go_roundw
       case rel=>exact⟨j+1,s',{R with leaf:=lf},.slice Av nv cv,by omega,by go_num,A0.o,⟨hfine.tag,hfine.tagb,hfine.tid,hfine.cavn,hfine.cavl,AR.o,AS.o⟩,hcav.o,R9'.o,C9'.o,L9'.o,F9'.o,Q9'.o,Z9'.o,A1.o⟩
       case measure=>simp[intOf];omega
      have qk:¬(j:Int)<fl.length:=zo;have hgo':=hgo.o;rw[List.drop_eq_nil_of_le zo]at hgo';have AT:=zh1 hgo';clear hgo';go_wp2
      go_meet
      case rel=>exact⟨s,R,lv,AT.o,hfine.o,hcav.o,hrd.o,ho.o,hlo.o,hq.o,hz.o,hbl.o⟩
    case rest=>
     obtain⟨s,R,lv,hdone,hfine,hcav,hrd,ho,hlo,hq,hz,hbl⟩:=hcut;clear Ha Oa Fa Qa Ra BLa;have hEc:=(hbl.cell (p:=⟨0,0,none⟩) (World.block_lt_of_cell? _ _ HE.o)).trans HE.o;have EC:=zh1 (qhn B g bs s wc hrd.o hEc);have hdef:qie bs=match rEnd bs s with
      |none=>(none,R)
      |some x=>(some x,qid):=by
      unfold qie;rw[←hdone.o];dsimp only;cases rEnd bs s<;>rfl
     have AB:=zh1 hdef;clear hEc hdef;go_wp2_with fail
     refine EC.o.mono ?_;rintro e wd ⟨er2,rfl,hed,bd⟩;obtain⟨Qd,Zd,Cd,Ld,BLd⟩:=zh5 (hq.below bd hq.lt) (hz.below bd hz.lt) (ho.kept bd) (hlo.kept bd) (hbl.trans (bd.mono hbl.size));have hsz:=hbl.size;clear bd;have lR:=qpk R (.slice Ac nc cc) lv hfine.tag;cases hend:rEnd bs s with
     |none=>
      rw[hend]at hed;have e0:er2=.nilIface:=hed;subst e0;have A4:Hid (qie bs=(none,R)):=by
       show _=_;rw[AB.o,hend]
      obtain⟨Av,nv,cv,rfl,-,-,-⟩:=OwnB.sl Ld.o;have oR:∀u∈reqv R (.slice Ac nc cc) (.slice Av nv cv),u.oneCell'=true:=by
       intro u hu;unfold reqv Req.rest at hu;simp only[List.cons_append,List.mem_cons,tBg,List.not_mem_nil,or_false]at hu;rcases hu with rfl|hu|hu
       · rfl
       · exact qed _ _ rfl _ u hu
       rcases hu with rfl|rfl|rfl|rfl|rfl|rfl|rfl|rfl|rfl|rfl|rfl|rfl|rfl<;>rfl
      obtain⟨M,hM⟩:=xeq (reqv R (.slice Ac nc cc) (.slice Av nv cv));rw[hM]at Qd oR lR;obtain⟨RG,IM,IM',LM,OM,EM⟩:=zh6 (qap Qd.o 0 M zjq) (zI 34 lR) (show (Tryz.prog.info? 34).map (·.size)=some M.toArray.size by rw[tB6,lR];exact Tryz.req_info) lR oR hM;clear lR oR hM hend;go_wp2_with (first
       |(refine zld RG.o zu34 IM.o ?_)
       |(refine wpList_store_row rfl 34 (.tmp 2) (.tmp 88) rfl w.heap.size M.toArray rfl rfl 34 _ Zd.o IM'.o (by simp[LM.o]) (by simpa using OM.o) ?_))
      have z:=Zd.setRow M.toArray;refine bodyPost_ret (qgr rfl rfl (qpm z LM.o)) rfl ⟨.slice Ac nc cc,.slice Av nv cv,.nilIface,?_,?_,?_,?_,?_⟩
      · rw[A4.o,EM.o]
        rfl
      · rw[A4.o]
        dsimp only;rw[hcav.o];exact tB3 Cd.o (qam _ _ _) (.inr (qa3 Cd.o Zd.o zdc))
      · rw[A4.o]
        exact tB3 Ld.o (qam _ _ _) (.inr (qa3 Ld.o Zd.o zdc))
      · rw[A4.o]
        rfl
      exact below_setRow BLd.o (tA4 _) _
     |some x=>
      rw[hend]at hed;obtain⟨hh,rfl,hhB,hkb⟩:=hed;have A4:Hid (qie bs=(some x,qid)):=by
       show _=_;rw[AB.o,hend]
      have HK:=zh1 hkb;clear hend hkb lR;go_wp2_with (first
       |(refine qbj rfl ⟨.agg qpn.toArray,qgn 34 _ rfl _ _ qpq (by simp[Act.eval]),?_⟩)
       |(refine wpList_store_row rfl 34 (.tmp 2) (.tmp 86) rfl w.heap.size qpn.toArray rfl rfl 34 _ Zd.o qpo rfl qpp ?_))
      have z:=Zd.setRow qpn.toArray;have hne:hh≠w.heap.size:=by
       have h1:=hz.lt;omega
      refine bodyPost_ret (qgr rfl rfl (qpm z rfl)) rfl ⟨.slice none 0 0,.slice none 0 0,.iface 237 (.pointer (some ⟨hh,0,none⟩)),?_,?_,?_,?_,?_⟩
      · rw[A4.o]
        rfl
      · rw[A4.o]
        exact OwnC.nil _ _
      · rw[A4.o]
        exact OwnB.nil _ _
      · rw[A4.o]
        exact⟨hh,rfl,tB1 hsz hhB,HK.setRow_far hne _⟩
      exact below_setRow BLd.o (tA4 _) _
theorem Tryz.digs_info:(Tryz.prog.info? 29).map (fun i=>(i.zero,i.size,i.bytes))=some (some (.agg zLD),32,32):=by kernel_rfl
def OwnD (w:World)(base:Nat)(v:Value)(l:List (List Nat)):Prop:=(∀d∈l,d.length=32)∧w.ownsRow base 29 32 v l.length (digv l)
theorem qps(l:List (List Nat)):∀u∈digv l,u.oneCell'=true:=by
 intro u hu;unfold digv at hu;obtain⟨x,_,hx⟩:=List.mem_flatMap.1 hu;exact qau x u hx
theorem qpt(a b:List (List Nat)):digv (a++b)=digv a++digv b:=by simp[digv]
section
variable {w w' : World} {base : Nat} {v : Value} {l : List (List Nat)}
theorem OwnD.nil(w:World)(base:Nat):OwnD w base (.slice none 0 0) []:=⟨fun d hd=>(nomatch hd),World.ownsRow_nil ..⟩
theorem OwnD.sl(h:OwnD w base v l):∃A n c,v=.slice A n c∧n=l.length∧n≤c∧c≤maxLen∧Reads w w.heap.size 32 A n (digv l):=by
 obtain⟨A,c,h1,h2,h3,h4⟩:=qaf h.2;exact⟨A,_,c,h1,rfl,h2,h3,h4⟩
theorem OwnD.kept(h:OwnD w base v l)(hb:Zb w w'):OwnD w' base v l:=
 ⟨h.1,tB3 h.2 ⟨hb.os,hb.tape,hb.output,hb.size,fun k hk _=>hb.block k hk⟩ (row:=none) (by cases v.ownBlock<;>simp)⟩
theorem OwnD.alloc(h:OwnD w base v l)(o:Obj):OwnD (w.alloc o) base v l:=h.kept ((tA5 _ _).alloc (tA4 _) o)
theorem OwnD.grown{t:TypeId}{cs:Array Value}(h:OwnD w base v l)(hg:w.grownBy w' (some g))(hb:Blk w g t cs)(ht:29≠t):OwnD w' base v l:=
 ⟨h.1,tB3 h.2 hg (.inr (qa3 h.2 hb ht))⟩
end
theorem qpu(s x:Operand)
 (ho:o.op=.call {callee:=.builtin .append,args:=#[s,x],argTypes:=#[51,51]})
 (base:Nat)(v:Value)(l:List (List Nat))(hs:a.eval s=v)(hown:OwnD w base v l)(A:Option Addr)(m c:Nat)(news:List (List Nat))(hx:a.eval x=.slice A m c)(hm:news.length=m)(hnl:∀d∈news,d.length=32)(hr:Reads w w.heap.size 32 A m (digv news))
 (hlen:l.length+m≤4398046511104)(hbase:base≤w.heap.size)
 (h:∀v' w',OwnD w' base v' (l++news)→Below base w w'→w.grownBy w' v.ownBlock→K (a.put o.dst v') w'):o.wp Tryz.prog a w K Q:=by
 obtain⟨i0,hi0,hz0,hz1,hz2⟩:=info_parts Tryz.digs_info;refine qa6 (P:=Tryz.prog) w s x _ ho base 29 i0 _ 32 32 Tryz.underlying51 hi0 hz0 hz1 hz2 rfl zo v l.length (digv l) hs hown.2 w.heap.size A m c (digv news) hx hr (qps _) (by simp only[maxLen];omega) zo hbase ?_;intro v' w' h1 h2 h3;refine h v' w' ?_ ?_ h2
 ·
  refine⟨fun d hd=>?_,?_⟩
  · rcases List.mem_append.1 hd with hd|hd
    · exact hown.1 d hd
    exact hnl d hd
  rw[qpt,tA6,hm];exact h1
 exact qae (tA5 _ _) hown.2 h2 (tA4 _) hbase
section
variable {w0 w w' : World} {G : Nat} {R : Rsp} {bv hv cav : Value}
end
theorem qpv(R:Rsp)(bv hv cav:Value)(h1:(hdv R.hd).length=68)(h2:R.tok.2.2.length=32):(rspv R bv hv cav).length=106:=by
 unfold rspv;simp only[tBi,tA6,h1,qdc _ _ _ h2]
theorem qpw(R:Rsp)(bv hv cav:Value)(h1:bv.oneCell'=true)(h2:hv.oneCell'=true)(h3:cav.oneCell'=true):∀u∈rspv R bv hv cav,u.oneCell'=true:=by
 intro u hu;unfold rspv at hu;simp only[List.mem_cons,tBg]at hu;rcases hu with rfl|rfl|rfl|rfl|hu|hu
 · rfl
 · rfl
 · exact h1
 · exact h2
 · exact qm7 _ u hu
 exact qed _ _ h3 _ u hu
section
open Go
theorem qr0{S:World→Prop}{r:List (Nat × Bool)}(hi:nth l i=some o)(hw:Region.wanted o (yielded l.toArray a.tmps)=false)
 (h:S w∧qb9 P l.toArray Q S n r (a.put o.dst undef) w):qb9 P l.toArray Q S n ((i,true)::r) a w:=by
 show wpOp P l.toArray Q i _ a w;unfold wpOp;simp only[(qb8 l i).symm.trans hi,hw,Bool.false_eq_true,if_false];exact⟨fun _=>h.1,h.2⟩
end
theorem qrn(V:List Value)(n:Nat)(hn:V.length=n)(hp:0<n)(cells:Array Value)(hc:cells.size=n):Instr.fill (fun i=>some (i*n,n)) cells [(0,.agg V.toArray)]=some V.toArray:=by
 obtain⟨r,h1,h2,h3⟩:=Great.fill_dense hp [.agg V.toArray] 0 cells (fun v hv=>by obtain rfl:=List.mem_singleton.1 hv;simp[Value.cells,hn]) (by simp[hc]);have e:r=V.toArray:=by
  refine Array.ext_getElem? fun k=>?_
  rw[h3 k];by_cases hk:k<n
  · rw[if_pos ⟨by omega,by simpa using hk⟩]
    have hd:k / n=0:=Nat.div_eq_of_lt hk;have hm:k % n=k:=Nat.mod_eq_of_lt hk;rw[hd,hm];simp[Value.cells]
  rw[if_neg (by simp;omega)];rw[Array.getElem?_eq_none zo];simp;omega
 rw[e]at h1;exact h1
theorem qro(t e:TypeId)(x:Operand)(ho:o.op=.buildSlice t 1 #[(0,x)])
 (V:List Value)(hx:a.eval x=.agg V.toArray)(i:TypeInfo)(z:Value)(n:Nat)(hu:P.underlying t=some (.slice e))(hie:P.info? e=some i)(hz:i.zero=some z)(hs:i.size=n)(hzs:z.cells.size=n)(hV:V.length=n)(hp:0<n)(hsm:n≤1000)
 (h:K (a.put o.dst (.slice (some ⟨w.heap.size,0,none⟩) 1 1)) (w.alloc (.cells V.toArray e))):o.wp P a w K Q:=by
 refine wp_buildSlice t e 1 #[(0,x)] ho V.toArray i z hu hie hz (by rw[hs];omega) (by rw[hs];omega) ?_ h;rw[hs];simp only[List.map_toArray,List.map_cons,List.map_nil,hx];exact qrn V n hV hp _ zm
theorem qrp(x:Operand)(ho:o.op=.buildSlice 51 1 #[(0,x)])
 (d:List Nat)(hd:d.length=32)(hx:a.eval x=.agg (byv d).toArray)
 (h:K (a.put o.dst (.slice (some ⟨w.heap.size,0,none⟩) 1 1)) (w.alloc (.cells (byv d).toArray 29))):o.wp Tryz.prog a w K Q:=by
 obtain⟨i0,hi0,hz0,hz1,hz2⟩:=info_parts Tryz.digs_info;exact qro _ 29 x ho (byv d) hx i0 _ 32 Tryz.underlying51 hi0 hz0 hz1 rfl (by rw[qat,hd]) zdc zdc h
theorem qrq(d:List Nat):digv [d]=byv d:=by simp[digv]
theorem qrr(w:World)(d:List Nat)(hd:d.length=32):Reads (w.alloc (.cells (byv d).toArray 29)) (w.alloc (.cells (byv d).toArray 29)).heap.size 32 (some ⟨w.heap.size,0,none⟩) 1 (digv [d]):=by
 have:=Reads.new w 29 (byv d) 32 1 (by rw[qat,hd]);rw[qar,qrq];exact this
theorem qrs{s s':Nat}{ys:List Value}(h:w.ownsRow b e s v n xs)(h':w.ownsRow b' e' s' v' n' ys)(hne:e≠e'):v.ownBlock=none∨v.ownBlock≠v'.ownBlock:=by
 rcases h.2 with⟨rfl,_⟩|⟨g,cap,cur,rfl,_,hg,_⟩
 · exact .inl rfl
 rcases h'.2 with⟨rfl,_⟩|⟨g',cap',cur',rfl,_,hg',_⟩
 · exact .inr (by simp[Value.ownBlock])
 refine .inr fun q=>hne ?_
 simp only[Value.ownBlock,Option.some.injEq]at q;subst q;rw[hg]at hg';simp only[Option.some.injEq,Obj.cells.injEq]at hg';exact hg'.2.1
theorem qsr(t:Value)(w:World):
 Zc 126 #[.nilIface,t] w fun e w'=>e=.returned (.bool false)∧w'=w:=qgj t w
theorem qss(e t:Addr)(old:Value)(w:World)(hg:w.cell? ⟨0,0,none⟩=some (.iface 327 (.agg #[.pointer (some ⟨3,81,none⟩)])))(ht0:w.cell? t=some old)(hf0:w.frozen? t=false):
 Zc 126 #[.iface 218 (.pointer (some e)),.iface 222 (.pointer (some t))] w fun ev w'=>ev=.returned (.bool true)∧w'=((((w.alloc (.cells #[.pointer (some t)] 222)).alloc (.cells #[.pointer (some ⟨3,222,none⟩),.pointer (some ⟨w.heap.size,0,none⟩),.int .u64 150] 284)).alloc (.cells #[.pointer (some ⟨3,222,none⟩),.pointer (some ⟨w.heap.size,0,none⟩),.int .u64 150] 284)).alloc (.cells #[.pointer (some e)] 218)).setCell t (.pointer (some e)):=qgk (tb:=224) {} e t old w hg ht0 hf0
theorem qwk(A:Option Addr)(n c:Nat)(w:World)(hc:n≤c)(hn:(n:Int)≤9223372036854775807):
 Zc 64 #[.slice A n c] w fun e w'=>e=.returned (.slice A n n)∧w=w':=by
 have hc':(n:Int)≤c:=zo;go_enter Tryz.func64,Tryz.ntmps64
 go_wp2
 go_ret
 exact⟨rfl,rfl⟩
def pval:List Nat→Nat
 |[]=>0
 |a::l=>a+65536*pval l
def Parts (l:List Nat):Prop:=∀x∈l,x<65536
theorem Parts.get{l:List Nat}(h:Parts l){x:Nat}(hx:l[i]? =some x):x<65536:=h x (tB2 hx)
theorem Parts.set{l:List Nat}(h:Parts l)(i x:Nat)(hx:x<65536):Parts (l.set i x):=by
 intro y hy;rcases List.mem_or_eq_of_mem_set hy with hy|rfl
 · exact h y hy
 exact hx
theorem qwy:∀(l:List Nat) (i x o:Nat),l[i]? =some o→pval (l.set i x)+o*65536^i=pval l+x*65536^i
 |[],i,x,o,h=>by simp at h
 |a::l,0,x,o,h=>by
  simp at h;subst h;simp[pval];omega
 |a::l,i+1,x,o,h=>by
  have ih:=qwy l i x o (by simpa using h);simp only[List.set_cons_succ,pval];rw[Nat.pow_succ];have e1:o*(65536^i*65536)=65536*(o*65536^i):=by rw[←Nat.mul_assoc,Nat.mul_comm]
  have e2:x*(65536^i*65536)=65536*(x*65536^i):=by rw[←Nat.mul_assoc,Nat.mul_comm]
  rw[e1,e2];omega
theorem qwz:∀(l:List Nat),Parts l→pval l<65536^l.length
 |[],_=>by simp[pval]
 |a::l,h=>by
  have ih:=qwz l (fun x hx=>h x (List.mem_cons_of_mem _ hx));have ha:=h a zm;simp only[pval,tBi];rw[Nat.pow_succ];have:65536*pval l+65536≤65536*65536^l.length:=by
   have:=Nat.mul_le_mul_left 65536 (Nat.succ_le_of_lt ih);omega
  rw[Nat.mul_comm (65536^l.length)];omega
theorem qx0(l:List Nat):∀(k x:Nat),l[k]? =some x→pval (l.take (k+1))=pval (l.take k)+x*65536^k:=by
 induction l with
 |nil=>intro k x h;simp at h
 |cons a l ih=>
  intro k x h;cases k with
  |zero=>
   simp at h;subst h;simp[pval]
  |succ k=>
   have:=ih k x (by simpa using h);simp only[List.take_succ_cons,pval];rw[this,Nat.pow_succ];have e1:x*(65536^k*65536)=65536*(x*65536^k):=by rw[←Nat.mul_assoc,Nat.mul_comm]
   rw[e1];omega
theorem qx1:∀(l:List Nat) (k:Nat),k≤l.length→pval l=pval (l.take k)+65536^k*pval (l.drop k)
 |l,0,_=>by simp[pval]
 |[],k+1,h=>by simp at h
 |a::l,k+1,h=>by
  have ih:=qx1 l k (by simpa using h);simp only[List.take_succ_cons,List.drop_succ_cons,pval];rw[ih,Nat.pow_succ,Nat.mul_add];have e:65536^k*65536*pval (l.drop k)=65536*(65536^k*pval (l.drop k)):=by
   rw[Nat.mul_comm (65536^k) 65536,Nat.mul_assoc]
  rw[e];omega
theorem qx2{a b:List Nat}(ha:Parts a)(hb:Parts b)(hl:a.length=b.length)(i x y:Nat)(hx:a[i]? =some x)(hy:b[i]? =some y)(hd:a.drop (i+1)=b.drop (i+1))(h:x<y):pval a<pval b:=by
 have hi:i+1≤a.length:=(tA8 hx).1;rw[qx1 a (i+1) hi,qx1 b (i+1) zo,hd,qx0 a i x hx,qx0 b i y hy];have h1:=qwz (a.take i) (fun z hz=>ha z (tB7 hz));rw[tBd,Nat.min_eq_left zo]at h1;have h2:(x+1)*65536^i≤y*65536^i:=Nat.mul_le_mul_right _ h;rw[Nat.add_mul]at h2;omega
def qx3 (x:Nat):List Nat:=[x % 65536,x / 65536 % 65536,x / 4294967296 % 65536,x / 281474976710656]
theorem qx4(x:Nat)(h:x<18446744073709551616):pval (qx3 x)=x:=by
 simp only[qx3,pval];omega
theorem qx5(x:Nat)(h:x<18446744073709551616):Parts (qx3 x):=by
 intro y hy;simp only[qx3,List.mem_cons,List.not_mem_nil,or_false]at hy;rcases hy with rfl|rfl|rfl|rfl
 · exact Nat.mod_lt _ zdc
 · exact Nat.mod_lt _ zdc
 · exact Nat.mod_lt _ zdc
 omega
structure RowAt (A B:List Nat)(i k:Nat)(ai:Nat)(o:List Nat)(c:Nat)(v0:Nat):Prop where
 parts:Parts o
 len:o.length=A.length+B.length
 top:∀j,i+B.length≤j→j<o.length→o[j]? =some 0
 carry:c<65536
 val:pval o+c*65536^(i+k)=v0+ai*pval (B.take k)*65536^i
theorem qx6{A B:List Nat}{c v0:Nat}{o:List Nat}(hB:Parts B)(hai:ai<65536)(h:RowAt A B i k ai o c v0)(hk:B[k]? =some bk)(hj:o[i+k]? =some oj):
 RowAt A B i (k+1) ai (o.set (i+k) ((oj+ai*bk+c) % 65536)) ((oj+ai*bk+c) / 65536) v0:=by
 have hbk:=hB.get hk;have hoj:=h.parts.get hj;have hkl:k<B.length:=(tA8 hk).1;have hm:ai*bk≤65535*65535:=Nat.mul_le_mul zo zo;have hc:=h.carry;obtain⟨n,hn⟩:=xeq (oj+ai*bk+c);refine⟨h.parts.set _ _ (Nat.mod_lt _ zdc),by rw[List.length_set];exact h.len,?_,by omega,?_⟩
 · intro j h1 h2
   rw[List.length_set]at h2;rw[List.getElem?_set_ne zo];exact h.top j h1 h2
 have hs:=qwy o (i+k) ((oj+ai*bk+c) % 65536) oj hj;have hv:=h.val;have ht:=qx0 B k bk hk;rw[hn]at hs ⊢;obtain⟨E,hE⟩:=xeq (65536^(i+k));have hE1:65536^(i+(k+1))=65536*E:=by rw[←hE,←Nat.add_assoc,Nat.pow_succ,Nat.mul_comm]
 have hEi:65536^k*65536^i=E:=by rw[←hE,←Nat.pow_add,Nat.add_comm]
 rw[hE]at hs hv;rw[hE1,ht];have e1:n=65536*(n / 65536)+n % 65536:=(Nat.div_add_mod n 65536).symm;obtain⟨q,hq⟩:=xeq (n / 65536);obtain⟨r,hr⟩:=xeq (n % 65536);rw[hq,hr]at e1;rw[hr]at hs;rw[hr,hq];have e2:q*(65536*E)=65536*q*E:=by rw[←Nat.mul_assoc,Nat.mul_comm q]
 have e3:n*E=65536*q*E+r*E:=by rw[e1,Nat.add_mul]
 have e4:n*E=oj*E+ai*bk*E+c*E:=by rw[←hn,Nat.add_mul,Nat.add_mul]
 have e5:ai*(pval (B.take k)+bk*65536^k)*65536^i=ai*pval (B.take k)*65536^i+ai*bk*E:=by
  rw[Nat.mul_add,Nat.add_mul,←Nat.mul_assoc,Nat.mul_assoc (ai*bk),hEi]
 rw[e2,e5];omega
structure RowsAt (A B:List Nat)(i:Nat)(o:List Nat):Prop where
 parts:Parts o
 len:o.length=A.length+B.length
 top:∀j,i+B.length≤j→j<o.length→o[j]? =some 0
 val:pval o=pval (A.take i)*pval B
theorem qx7:∀n,pval (List.replicate n 0)=0
 |0=>rfl
 |n+1=>by simp[List.replicate_succ,pval,qx7 n]
theorem qx8(A B:List Nat):RowsAt A B 0 (List.replicate (A.length+B.length) 0):=
 ⟨fun x hx=>by obtain rfl:=List.eq_of_mem_replicate hx;decide,by simp,fun j _ h=>by simp at h;simp[h],by simp[qx7,pval]⟩
theorem qx9{A B:List Nat}{o:List Nat}(h:RowsAt A B i o):RowAt A B i 0 ai o 0 (pval o):=
 ⟨h.parts,h.len,h.top,by decide,by simp[pval]⟩
theorem qxa{A B:List Nat}{c:Nat}{o:List Nat}(h0:RowsAt A B i o0)(hi:A[i]? =some ai)(h:RowAt A B i B.length ai o c (pval o0)):
 o[i+B.length]? =some 0∧RowsAt A B (i+1) (o.set (i+B.length) c):=by
 have hil:i<A.length:=(tA8 hi).1;have h1:o[i+B.length]? =some 0:=h.top _ (tA4 _) (by rw[h.len];omega);refine⟨h1,h.parts.set _ _ h.carry,by rw[List.length_set];exact h.len,?_,?_⟩
 · intro j g1 g2
   rw[List.length_set]at g2;rw[List.getElem?_set_ne zo];exact h.top j zo g2
 have hs:=qwy o (i+B.length) c 0 h1;have hv:=h.val;rw[List.take_length,h0.val]at hv;rw[qx0 A i ai hi,Nat.add_mul,Nat.mul_right_comm ai];omega
theorem qxb{A B:List Nat}{o:List Nat}(h:RowsAt A B A.length o):pval o=pval A*pval B:=by
 have:=h.val;rwa[List.take_length]at this
def qxc (x p:Nat)(cube:Bool):Bool:=if cube then decide (x^3≤p*2^96) else decide (x^2≤p*2^64)
theorem qxd{x:Nat}{cube:Bool}(h:x≤y)(hb:qxc y p cube=true):qxc x p cube=true:=by
 unfold qxc at hb ⊢;cases cube with
 |true=>
  simp only[if_true,decide_eq_true_eq]at hb ⊢;exact tB1 (Nat.pow_le_pow_left h 3) hb
 |false=>
  simp only[Bool.false_eq_true,if_false,decide_eq_true_eq]at hb ⊢;exact tB1 (Nat.pow_le_pow_left h 2) hb
def IsRoot (r p:Nat)(cube:Bool):Prop:=qxc r p cube=true∧qxc (r+1) p cube=false
theorem IsRoot.eq{r s:Nat}{cube:Bool}(h:IsRoot r p cube)(k:IsRoot s p cube):r=s:=by
 rcases Nat.lt_trichotomy r s with hlt|rfl|hlt
 · have:=qxd (show r+1≤s from hlt) k.1
   rw[h.2]at this;cases this
 · rfl
 have:=qxd (show s+1≤r from hlt) h.1;rw[k.2]at this;cases this
def qxe (out:List Nat)(p:Nat):Bool:=out.all fun q=>decide (p % q≠0)
def qxf (n:Nat):Nat→Nat→List Nat→List Nat
 |0,_,out=>out
 |f+1,p,out=>if out.length<n then(if qxe out p then qxf n f (p+1) (out++[p]) else qxf n f (p+1) out) else out
def qxg:List Nat:=[2,3,5,7,11,13,17,19,23,29,31,37,41,43,47,53,59,61,67,71,73,79,83,89,97,101,103,107,109,113,127,131,137,139,149,151,157,163,167,173,179,181,191,193,197,199,211,223,227,229,233,239,241,251,257,263,269,271,277,281,283,293,307,311]
theorem qxh:qxf 64 400 2 []=qxg:=by decide+kernel
theorem qxi(n:Nat):∀(f p:Nat) (out:List Nat),n≤out.length→qxf n f p out=out
 |0,_,_,_=>rfl
 |f+1,p,out,h=>by
  unfold qxf;rw[if_neg zo]
theorem qxj(out:List Nat)(p k q:Nat)(h:out[k]? =some q):qxe (out.take (k+1)) p=(qxe (out.take k) p&&decide (p % q≠0)):=by
 unfold qxe;rw[List.take_add_one,h,List.all_append];simp
def qxk (p k:Nat):Nat→Nat
 |0=>0
 |n+1=>if (n+1)^k≤p then n+1 else qxk p k n
def qxl (p r:Nat)(cube:Bool):Bool:=qxc r p cube&&!qxc (r+1) p cube
theorem qxm{r:Nat}{cube:Bool}(h:qxl p r cube=true):IsRoot r p cube:=by
 unfold qxl at h;simp only[Bool.and_eq_true,Bool.not_eq_true']at h;exact h
def u64v (l:List Nat):List Value:=l.map fun n:Nat=>Value.int .u64 (n:Int)
theorem qxn(l:List Nat):(u64v l).length=l.length:=by simp[u64v]
theorem qxo{l:List Nat}{x:Nat}(h:l[i]? =some x):(u64v l)[i]? =some (.int .u64 (x:Int)):=by simp[u64v,h]
theorem qxp(l:List Nat)(i x:Nat):(u64v l).toArray.setIfInBounds i (.int .u64 (x:Int))=(u64v (l.set i x)).toArray:=by simp[u64v,List.map_set]
theorem Tryz.u64_info:(Tryz.prog.info? 32).map (fun i=>(i.zero,i.size,i.bytes))=some (some (.int .u64 0),1,8):=by kernel_rfl
theorem qxq(n:Nat)(hn:n≤1000000)(w:World):(Instr.makeSlice 212 (.int .i64 (n:Int)) (.int .i64 (n:Int))).run Tryz.prog w=.ok (.slice (some ⟨w.heap.size,0,none⟩) n n) (w.alloc (.cells (u64v (List.replicate n 0)).toArray 32)):=by
 obtain⟨i0,hi0,hz0,hz1,hz2⟩:=info_parts Tryz.u64_info;have h:=run_make (P:=Tryz.prog) w 212 32 i0 _ Tryz.underlying212 hi0 hz0 .i64 .i64 n n zo (Int.le_refl _) (by rw[hz2];omega) zo;rw[h,hz1];have e:madeCells (Value.int .u64 0).cells ((n:Int).toNat*1)=(u64v (List.replicate n 0)).toArray:=by
  apply Array.ext';rw[show (Value.int .u64 0).cells=#[Value.int .u64 0] from rfl,toList_madeCells_one];simp[u64v]
 rw[e];simp
theorem qxr{l:List Nat}(h:Reads w B 1 A n (u64v l)):l.length=n:=by
 have:=h.1;simpa [u64v] using this
theorem qxs{l:List Nat}(h:Blk w g 32 (u64v l).toArray):Reads w w.heap.size 1 (some ⟨g,0,none⟩) l.length (u64v l):=by
 refine⟨by rw[qxn,Nat.mul_one],fun _=>⟨_,rfl,h.lt,fun j u hu=>?_⟩⟩;rw[Addr.add_mid,h.cell (0+j),Nat.zero_add];simpa using hu
theorem qxt(n:Nat)(hn:n<18446744073709551616):bits .and .u64 (n:Int) 65535=((n % 65536:Nat):Int):=by
 have h:=bits_and_u64_nat n 65535 hn zdc;rw[show ((65535:Nat):Int)=65535 from rfl]at h;rw[h,show (65535:Nat)=2^16 - 1 from rfl,Nat.and_two_pow_sub_one_eq_mod]
theorem qxu(x:Nat)(w:World)(hx:x<18446744073709551616):
 Zc 218 #[.int .u64 x] w fun e w'=>e=.returned (.slice (some ⟨w.heap.size,0,none⟩) 4 4)∧Blk w' w.heap.size 32 (u64v (qx3 x)).toArray∧Zb w w':=by
 obtain⟨x1,h1⟩:=xeq (x / 65536);obtain⟨x2,h2⟩:=xeq (x / 4294967296);obtain⟨x3,h3⟩:=xeq (x / 281474976710656);have a0:=qxt x hx;have a1:=qxt x1 zo;have a2:=qxt x2 zo;have q1:(x:Int) / 65536=x1:=zo;have q2:(x:Int) / 4294967296=x2:=zo;have q3:(x:Int) / 281474976710656=x3:=zo;have e:qx3 x=[x % 65536,x1 % 65536,x2 % 65536,x3]:=by rw[←h1,←h2,←h3];rfl
 rw[e];clear h1 h2 h3 e;go_enter Tryz.func218,Tryz.ntmps218
 go_wp2
 go_ret
 exact⟨rfl,Blk.new _ _ _,(tA5 _ _).alloc (tA4 _) _⟩
theorem qxv(A B:List Nat)(pa pb:Option Addr)(na ca nb cb:Nat)(w:World)(ha:Reads w w.heap.size 1 pa na (u64v A))(hb:Reads w w.heap.size 1 pb nb (u64v B))(h1:0<na)(h2:0<nb)(h3:na≤1000)(h4:nb≤1000)(hA:Parts A)(hB:Parts B):
 Zc 219 #[.slice pa na ca,.slice pb nb cb] w fun e w'=>∃o:List Nat,e=.returned (.slice (some ⟨w.heap.size,0,none⟩) (na+nb) (na+nb))∧Blk w' w.heap.size 32 (u64v o).toArray∧o.length=na+nb∧Parts o∧pval o=pval A*pval B∧Below w.heap.size w w':=by
 have lA:=qxr ha;have lB:=qxr hb;obtain⟨m,hm⟩:=xeq (na+nb);have hmi:(na:Int)+nb=m:=zo;have mk:=fun w=>qxq m zo w
 obtain⟨Z,hZ⟩:=xeq ((u64v (List.replicate m 0)).toArray);simp only[hZ]at mk;have z0:=Blk.new w 32 Z;have b0:Below w.heap.size w (w.alloc (.cells Z 32)):=(tA5 _ _).alloc (tA4 _) _;obtain⟨W0,hW0⟩:=eqx (w.alloc (.cells Z 32));rw[←hW0]at z0 b0;rw[←hZ]at z0;obtain⟨ba,oa,rfl,hba,hca⟩:=ha.mid zo zo;obtain⟨bb,ob,rfl,hbb,hcb⟩:=hb.mid zo zo;obtain⟨g,hg⟩:=xeq w.heap.size;have r0:=qx8 A B;rw[lA,lB,hm]at r0;obtain⟨A4,A5,HA,HBp,LA,LB,HM,Z0⟩:=zh8 hca hcb hA hB lA lB hm (show Blk W0 g 32 (u64v (List.replicate m 0)).toArray by rw[←hg];exact z0);obtain⟨B0,R0,A6⟩:=zh3 (show Below g w W0 by rw[←hg];exact b0) r0 hW0;(try simp only[Zb]at hba hbb);rw[hg]at hba hbb ⊢
 have HG:=zh1 hg;clear ha hb lA lB hA hB hca hcb z0 b0 r0 hZ hW0 hm hg;go_enter Tryz.func219,Tryz.ntmps219
 go_upto_region 2 with(fail)
 rw[←A6.o,HG.o];clear mk hmi;go_wp2_with fail
 go_loopw [6] (fun i wr=>∃(k:Nat) (o:List Nat),k≤na∧i=.int .i64 k∧Hid (RowsAt A B k o)∧Hid (Blk wr g 32 (u64v o).toArray)∧Hid (Below g w wr)) (fun i _=>na - (intOf i).toNat)
 case atStart=>exact⟨0,_,by omega,rfl,R0.o,Z0.o,B0.o⟩
 case round=>
  clear R0 Z0 B0;obtain⟨k,o,hk,rfl,hrows,hblk,hbel⟩:=hrel;by_cases hlt:k<na
  ·
   obtain⟨ai,hai⟩:∃x,A[k]? =some x:=⟨_,tA7 (by rw[LA.o];exact hlt)⟩;have hai1:=HA.get hai;obtain⟨A3,RS⟩:=zh2 hai (qx9 (ai:=ai) hrows.o);clear hai;have qk:(k:Int)<na:=zo;go_wp2_with fail
   go_loopw [7,8] (fun c j wr=>∃(jk:Nat) (o':List Nat) (cv:Nat),jk≤nb∧cv<65536∧c=.int .u64 cv∧j=.int .i64 jk∧Hid (RowAt A B k jk ai o' cv (pval o))∧Hid (Blk wr g 32 (u64v o').toArray)∧Hid (Below g w wr)) (fun _ j _=>nb - (intOf j).toNat)
   case atStart=>exact⟨0,o,0,by omega,by omega,rfl,rfl,RS.o,hblk.o,hbel.o⟩
   case round=>
    clear RS hblk hbel;obtain⟨jk,o',cv,hj,hcv,rfl,rfl,hrow,hblk,hbel⟩:=hrel;have lo:o'.length=m:=by rw[hrow.len,LA.o,LB.o];exact HM.o
    by_cases hlj:jk<nb
    ·
     obtain⟨bk,hbk⟩:∃x,B[jk]? =some x:=⟨_,tA7 (by rw[LB.o];exact hlj)⟩;obtain⟨oj,hoj⟩:∃x,o'[k+jk]? =some x:=⟨_,tA7 (by rw[lo];have:=HM.o;omega)⟩;have hbk1:=HBp.get hbk;have hoj1:=hrow.parts.get hoj;have ca:=(hbel.cell (p:=⟨ba,oa+k,none⟩) hba).trans (A4.o k _ (qxo A3.o));have cb:=(hbel.cell (p:=⟨bb,ob+jk,none⟩) hbb).trans (A5.o jk _ (qxo hbk));have A0:=qx6 HBp.o hai1 hrow.o hbk hoj;have hpm:ai*bk≤65535*65535:=Nat.mul_le_mul zo zo;obtain⟨s,hs⟩:=xeq (k+jk);rw[hs]at hoj A0;have co:=(hblk.cell s).trans (show _=some (.int .u64 (oj:Int)) by simpa using qxo hoj);have cf:=hblk.frozen s;have hsm:s<m:=by have:=HM.o;omega
     obtain⟨pm,hpm'⟩:=xeq (ai*bk);rw[hpm']at A0 hpm;obtain⟨n,hn⟩:=xeq (oj+pm+cv);rw[hn]at A0;obtain⟨nd,hnd⟩:=xeq (n / 65536);obtain⟨nm,hnm⟩:=xeq (n % 65536);rw[hnd,hnm]at A0;have ST:=zh1 A0;have f1:IntKind.i64.wrap ((k:Int)+jk)=s:=by rw[show (k:Int)+jk=s by omega];exact tBb _ zo
     have f2:IntKind.u64.wrap ((ai:Int)*bk)=pm:=by
      rw[show (ai:Int)*bk=pm by rw[←hpm'];simp];exact tBa _ zo
     have f3:IntKind.u64.wrap ((oj:Int)+pm)=((oj+pm:Nat):Int):=by rw[show (oj:Int)+pm=((oj+pm:Nat):Int) by omega];exact tBa _ zo
     have f4:IntKind.u64.wrap (((oj+pm:Nat):Int)+cv)=n:=by rw[show ((oj+pm:Nat):Int)+cv=n by omega];exact tBa _ zo
     obtain⟨op,hop⟩:=xeq (oj+pm);rw[hop]at f3 f4;have f5:bits .and .u64 (n:Int) 65535=nm:=by rw[qxt n zo,hnm]
     have f6:(n:Int) / 65536=nd:=zo;have qs:(s:Int)<m:=zo;have G1:=zh1 (show (k:Int)+jk=s by omega);have qj:(jk:Int)<nb:=zo;have hnd1:nd<65536:=zo;have A1:=zh1 (show Blk (wr.drew.setCell ⟨g,s,none⟩ (.int .u64 (nm:Int))) g 32 (u64v (o'.set s nm)).toArray by
      have:=(hblk.drew).set_ s (.int .u64 (nm:Int));rw[qxp]at this;exact this)
     have A2:=zh1 (show Below g w (wr.drew.setCell ⟨g,s,none⟩ (.int .u64 (nm:Int))) from hbel.drew.setCell (p:=⟨g,s,none⟩) (tA4 _) _);clear hbk hoj A0 hs hpm' hn hnd hnm hop hpm hrow hblk hbel;go_upto_region 9 with(fail)
     obtain⟨S,HS⟩:=zS fun w'=>w'.cell? ⟨g,s,none⟩=some (.int .u64 (oj:Int))∧w'.cell? ⟨ba,oa+k,none⟩=some (.int .u64 (ai:Int))∧w'.cell? ⟨bb,ob+jk,none⟩=some (.int .u64 (bk:Int))
     refine zrs S 19 (zq 0 19 []) ((HS.o _).mpr ⟨co,ca,cb⟩) ?_;repeat(refine zrt0 ?_)
     refine qbf ?_;clear f1 f2 f3 f4;have f1:=G1.o;go_wp2
     go_roundw
     case rel=>exact⟨jk+1,_,nd,by omega,hnd1,rfl,by go_num,ST,A1,A2⟩
     case measure=>simp[intOf];omega
    obtain rfl:nb=jk:=zo;have hrow':=hrow.o;rw[←LB.o]at hrow';obtain⟨e1,e2⟩:=qxa hrows.o A3.o hrow';rw[LB.o]at e1 e2;obtain⟨s,hs⟩:=xeq (k+nb);rw[hs]at e1 e2;have co:=(hblk.cell s).trans (show _=some (.int .u64 ((0:Nat):Int)) by simpa using qxo e1);rw[show ((0:Nat):Int)=0 from rfl]at co;have cf:=hblk.frozen s;have hsm:s<m:=by have:=HM.o;omega
    have f1:(k:Int)+nb=s:=zo;have qs:(s:Int)<m:=zo;have q0:¬(nb:Int)<nb:=zo;have ER:=zh1 e2;have A1:=zh1 (show Blk (wr.setCell ⟨g,s,none⟩ (.int .u64 (cv:Int))) g 32 (u64v (o'.set s cv)).toArray by
     have:=hblk.set_ s (.int .u64 (cv:Int));rw[qxp]at this;exact this)
    have A2:=zh1 (show Below g w (wr.setCell ⟨g,s,none⟩ (.int .u64 (cv:Int))) from hbel.setCell (p:=⟨g,s,none⟩) (tA4 _) _);clear hrow hrow' hrows e1 e2 hs hblk hbel lo;go_wp2
    go_roundw
    case rel=>exact⟨k+1,_,by omega,by go_num,ER,A1,A2⟩
    case measure=>simp[intOf];omega
  obtain rfl:na=k:=zo;have hr:=hrows.o;rw[←LA.o]at hr;have hv:=qxb hr;have HR:=zh1 (show o.length=na+nb∧Parts o∧pval o=pval A*pval B from⟨by rw[hr.len,LA.o,LB.o],hr.parts,hv⟩);clear hr hv;go_wp2
  go_ret
  exact⟨o,by rw[HM.o];rfl,hblk.o,HR.o.1,HR.o.2.1,HR.o.2.2,hbel.o⟩
def qxw (len n p:Nat):List Nat:=((List.replicate len 0).set n (p % 65536)).set (n+1) (p / 65536)
theorem qxx(len n p:Nat):(qxw len n p).length=len:=by simp[qxw]
theorem qxy(len n p:Nat)(hp:p<4294967296):Parts (qxw len n p):=by
 have h0:Parts (List.replicate len 0):=fun x hx=>by obtain rfl:=List.eq_of_mem_replicate hx;decide
 exact(h0.set _ _ (Nat.mod_lt _ zdc)).set _ _ zo
theorem qxz(len n p:Nat)(hn:n+1<len):pval (qxw len n p)=p*65536^n:=by
 have h1:=qwy (List.replicate len 0) n (p % 65536) 0 (by rw[List.getElem?_replicate,if_pos zo]);rw[qx7]at h1;have h2:=qwy ((List.replicate len 0).set n (p % 65536)) (n+1) (p / 65536) 0 (by rw[List.getElem?_set_ne zo,List.getElem?_replicate,if_pos zo]);unfold qxw;rw[Nat.pow_succ]at h2;obtain⟨E,hE⟩:=xeq (65536^n);rw[hE]at h1 h2 ⊢;have e1:p / 65536*(E*65536)=65536*(p / 65536)*E:=by rw[Nat.mul_comm E,←Nat.mul_assoc,Nat.mul_comm (p / 65536)]
 have e2:p*E=65536*(p / 65536)*E+p % 65536*E:=by rw[←Nat.add_mul,Nat.div_add_mod]
 rw[e1]at h2;omega
theorem qy0{a b:List Nat}(ha:Parts a)(hb:Parts b)(hl:a.length=b.length)(i x y:Nat)(hx:a[i]? =some x)(hy:b[i]? =some y)(hd:a.drop (i+1)=b.drop (i+1))(h:x≠y):decide (x<y)=decide (pval a≤pval b):=by
 rcases Nat.lt_or_ge x y with hlt|hge
 · have:=qx2 ha hb hl i x y hx hy hd hlt
   simp[hlt];omega
 have:=qx2 hb ha hl.symm i y x hy hx hd.symm zo;have h1:¬x<y:=zo;simp[h1];omega
theorem qy1{a b:List Nat}{x:Nat}(hx:a[i]? =some x)(hy:b[i]? =some x)(hd:a.drop (i+1)=b.drop (i+1)):a.drop i=b.drop i:=by
 have h1:a.drop i=x::a.drop (i+1):=by
  obtain⟨h,e⟩:=tA8 hx;rw[←e];exact List.drop_eq_getElem_cons h
 have h2:b.drop i=x::b.drop (i+1):=by
  obtain⟨h,e⟩:=tA8 hy;rw[←e];exact List.drop_eq_getElem_cons h
 rw[h1,h2,hd]
theorem qy2(x p:Nat)(cube:Bool)(w:World)(hx:x<18446744073709551616)(hp:p<4294967296):
 Zc 177 #[.int .u64 x,.int .u64 p,.bool cube] w fun e w'=>e=.returned (.bool (qxc x p cube))∧Below w.heap.size w w':=by
 go_enter Tryz.func177,Tryz.ntmps177
 go_wp2_with fail
 refine(qxu x w hx).mono ?_;rintro e w1 ⟨rfl,k1,b1⟩;have r1:=qxs k1;rw[show (qx3 x).length=4 from rfl]at r1;have PL:=qx5 x hx;have VL:=qx4 x hx;obtain⟨HP,HV,R1,B1⟩:=zh4 PL VL r1 b1;clear k1 b1 r1 PL VL;go_wp2_with fail
 refine(qxv (qx3 x) (qx3 x) _ _ 4 4 4 4 w1 R1.o R1.o zdc zdc zdc zdc HP.o HP.o).mono ?_;rintro e w2 ⟨o,rfl,k2,l2,p2,v2,b2⟩;obtain⟨B2,R1',K2⟩:=zh3 (B1.trans (b2.mono B1.size)) (R1.call b2) k2;have r2:=qxs k2;rw[l2]at r2;obtain⟨R2,L2,P2⟩:=zh3 r2 l2 p2;rw[HV.o]at v2;have V2:=zh1 v2;clear k2 l2 p2 v2 b2 r2 R1 B1;rw[show 4+4=8 from rfl]at R2 L2 ⊢;go_upto_if 17 with(fail)
 go_cut [8,9] (fun s8 s9 wx=>∃(o':List Nat) (g L n:Nat),s8=.slice (some ⟨g,0,none⟩) L L∧s9=.int .i64 n∧n+1<L∧L≤12∧Hid (Blk wx g 32 (u64v o').toArray)∧Hid (o'.length=L∧Parts o')∧Hid (decide (pval o'≤p*65536^n)=qxc x p cube)∧Hid (Below w.heap.size w wx))
 case first=>
  cases cube with
  |false=>
   have hv:decide (pval o≤p*65536^4)=qxc x p false:=by
    rw[V2.o];unfold qxc;simp only[Bool.false_eq_true,if_false];rw[show (65536:Nat)^4=2^64 from by decide,Nat.pow_two]
   have A0:=zh1 hv;clear hv;go_wp2
   go_meet
   case rel=>exact⟨o,w1.heap.size,8,4,rfl,rfl,by omega,by omega,K2,⟨L2.o,P2.o⟩,A0,B2⟩
  |true=>
   go_wp2_with fail
   refine(qxv o (qx3 x) _ _ 8 8 4 4 w2 R2.o R1'.o zdc zdc zdc zdc P2.o HP.o).mono ?_;rintro e w3 ⟨o3,rfl,k3,l3,p3,v3,b3⟩;rw[V2.o,HV.o]at v3;have hv:decide (pval o3≤p*65536^6)=qxc x p true:=by
    rw[v3];unfold qxc;simp only[if_true];rw[show (65536:Nat)^6=2^96 from by decide,show x^3=x*x*x from by rw[Nat.pow_succ,Nat.pow_two]]
   obtain⟨A0,K3,HL,B3⟩:=zh4 hv k3 (show o3.length=12∧Parts o3 from⟨l3,p3⟩) (B2.trans (b3.mono B2.size));clear k3 l3 p3 v3 b3 hv;rw[show 8+4=12 from rfl];go_wp2
   go_meet
   case rel=>exact⟨o3,w2.heap.size,12,6,rfl,rfl,by omega,by omega,K3,HL,A0,B3⟩
 case rest=>
  obtain⟨o',g,L,n,rfl,rfl,hnL,hL12,K3,HL,A0,B3⟩:=hcut;obtain⟨w3,rfl⟩:=eqx wc;clear B2 R1' K2 R2 L2 P2 V2 HP HV;have mk:=fun w=>qxq L zo w
  obtain⟨Z,hZ⟩:=xeq ((u64v (List.replicate L 0)).toArray);simp only[hZ]at mk;obtain⟨pm,hpm⟩:=xeq (p % 65536);obtain⟨pd,hpd⟩:=xeq (p / 65536);have f1:bits .and .u64 (p:Int) 65535=pm:=by rw[qxt p zo,hpm]
  have f2:(p:Int) / 65536=pd:=zo;have z0:=Blk.new w3 32 Z;obtain⟨w4,hw4⟩:=eqx (w3.alloc (.cells Z 32));rw[←hw4]at z0;rw[←hZ]at z0;have k4:Blk w4 g 32 (u64v o').toArray:=by rw[hw4];exact K3.alloc _
  have b4:Below w.heap.size w w4:=by rw[hw4];exact B3.alloc B3.size _
  have hgl:g<w3.heap.size:=K3.lt;have hws:w.heap.size≤w3.heap.size:=B3.size;obtain⟨G,hG⟩:=xeq w3.heap.size;rw[hG]at z0 hgl hws;obtain⟨HG,A1⟩:=zh2 hG hw4;have zc:=(z0.cell n).trans (show _=some (.int .u64 0) by simpa using qxo (show (List.replicate L 0)[n]? =some 0 by rw[List.getElem?_replicate,if_pos zo]));have zf:=z0.frozen n;have z1:=z0.set_ n (.int .u64 (pm:Int));rw[qxp]at z1;have k5:=k4.far (p:=⟨G,n,none⟩) (by show g≠G;omega) (.int .u64 (pm:Int));have b5:=b4.setCell (p:=⟨G,n,none⟩) (by show w.heap.size≤G;omega) (.int .u64 (pm:Int));obtain⟨w5,hw5⟩:=eqx (w4.setCell ⟨G,n,none⟩ (.int .u64 (pm:Int)));rw[←hw5]at z1 k5 b5;have zc1:=(z1.cell (n+1)).trans (show _=some (.int .u64 0) by simpa using qxo (show ((List.replicate L 0).set n pm)[n+1]? =some 0 by rw[List.getElem?_set_ne zo,List.getElem?_replicate,if_pos zo]));have zf1:=z1.frozen (n+1);have z2:=z1.set_ (n+1) (.int .u64 (pd:Int));rw[qxp]at z2;have k6:=k5.far (p:=⟨G,n+1,none⟩) (by show g≠G;omega) (.int .u64 (pd:Int));have b6:=b5.setCell (p:=⟨G,n+1,none⟩) (by show w.heap.size≤G;omega) (.int .u64 (pd:Int));obtain⟨n1,hn1⟩:=xeq (n+1);rw[hn1]at zc1 zf1 z2 k6 b6 hnL;have hn1i:(n:Int)+1=n1:=zo;obtain⟨w6,hw6⟩:=eqx (w5.setCell ⟨G,n1,none⟩ (.int .u64 (pd:Int)));rw[←hw6]at z2 k6 b6;have Z2:Hid (Blk w6 G 32 (u64v (qxw L n p)).toArray):=by
   unfold qxw;rw[hn1,hpm,hpd];exact z2
  obtain⟨K6,B6,A2,A3,A5⟩:=zh5 k6 b6 hw5 hw6 hn1;have qL:(n1:Int)<L:=zo;have qn:(n:Int)<L:=zo;have WV:Hid (pval (qxw L n p)=p*65536^n):=qxz L n p zo;have WL:Hid ((qxw L n p).length=L):=qxx L n p;have WP:Hid (Parts (qxw L n p)):=qxy L n p hp;obtain⟨W,hWW⟩:=xeq (qxw L n p);rw[hWW]at Z2 WV WL WP;clear z0 z1 z2 k4 k5 k6 b4 b5 b6 hw4 hw5 hw6 hn1 hpm hpd hG hZ hWW K3 B3;go_upto_region 8 with(fail)
  rw[←A1.o,HG.o];go_upto_region 10 with(fail)
  rw[←A2.o];clear zc zf f1 mk;go_upto_region 11 with(fail)
  rw[←A3.o];clear zc1 zf1 f2 hn1i;go_wp2_with fail
  go_loopw [11] (fun i wr=>∃m:Nat,m≤L∧i=.int .i64 ((m:Int) - 1)∧Hid (o'.drop m=W.drop m)∧Hid (Blk wr g 32 (u64v o').toArray)∧Hid (Blk wr G 32 (u64v W).toArray)∧Hid (Below w.heap.size w wr)) (fun i _=>(intOf i+1).toNat)
  case atStart=>exact⟨L,by omega,rfl,by show o'.drop L=W.drop L;rw[List.drop_eq_nil_of_le (by rw[HL.o.1];omega),List.drop_eq_nil_of_le (by rw[WL.o];omega)],K6.o,Z2.o,B6.o⟩
  case round=>
   clear K6 Z2 B6;obtain⟨m,hm,rfl,hdr,hko,hkw,hbe⟩:=hrel;cases m with
   |zero=>
    have hb:qxc x p cube=true:=by
     rw[←A0.o,show o'=W by simpa using hdr.o,WV.o];simp
    have A4:=zh1 hb;clear hb;go_wp2
    go_ret
    exact⟨by rw[A4.o];rfl,hbe.o⟩
   |succ m=>
    have em:((m+1:Nat):Int) - 1=m:=zo;rw[em];clear em;obtain⟨x1,hx1⟩:∃y,o'[m]? =some y:=⟨_,tA7 (by rw[HL.o.1];omega)⟩;obtain⟨y1,hy1⟩:∃y,W[m]? =some y:=⟨_,tA7 (by rw[WL.o];omega)⟩;have c1:=(hko.cell m).trans (show _=some (.int .u64 (x1:Int)) by simpa using qxo hx1);have c2:=(hkw.cell m).trans (show _=some (.int .u64 (y1:Int)) by simpa using qxo hy1);have qm:(m:Int)<L:=zo;obtain⟨S,HS⟩:=zS fun w'=>w'.cell? ⟨g,m,none⟩=some (.int .u64 (x1:Int))∧w'.cell? ⟨G,m,none⟩=some (.int .u64 (y1:Int))
    by_cases he:x1=y1
    ·
     subst he;have HD:=zh1 (qy1 hx1 hy1 hdr.o);clear hx1 hy1 hdr;go_upto_region 14 with(fail)
     refine zrs S 9 (zq 0 9 []) ((HS.o _).mpr ⟨c1,c2⟩) ?_;repeat(refine zrt0 ?_)
     refine qbf ?_;obtain⟨K7,Z7,B7⟩:=zh3 hko.drew hkw.drew hbe.drew;clear c1 c2 hko hkw hbe;go_wp2
     go_roundw
     case rel=>exact⟨m,by omega,rfl,HD,K7,Z7,B7⟩
     case measure=>simp[intOf]
    have q:¬(x1:Int)=y1:=zo;have ht:=qy0 HL.o.2 WP.o (by rw[HL.o.1,WL.o]) m x1 y1 hx1 hy1 hdr.o he;rw[WV.o,A0.o]at ht;have HT:=zh1 ht;have qt:decide ((x1:Int)<y1)=decide (x1<y1):=by rw[Bool.eq_iff_iff];simp
    have QT:=zh1 qt;clear hx1 hy1 hdr ht qt;go_upto_region 14 with(fail)
    refine zrs S 9 (zq 0 9 []) ((HS.o _).mpr ⟨c1,c2⟩) ?_;repeat(refine zrt0 ?_)
    refine qbf ?_;have k1:wr.drew.cell? ⟨g,m,none⟩=some (.int .u64 (x1:Int)):=c1;have k2:wr.drew.cell? ⟨G,m,none⟩=some (.int .u64 (y1:Int)):=c2;go_upto_region 15 with(fail)
    refine zrs S 10 (zq 0 10 []) ((HS.o _).mpr ⟨c1,c2⟩) ?_;repeat(refine zrt0 ?_)
    refine qbf ?_;have B7:=zh1 hbe.drew.drew;clear c1 c2 k1 k2 hko hkw hbe;go_wp2
    go_ret
    exact⟨by rw[←HT.o,←QT.o];rfl,B7.o⟩
theorem qy3(p:Nat)(cube:Bool):qxc 0 p cube=true:=by unfold qxc;cases cube<;>simp
theorem qy4(p:Nat)(cube:Bool)(hp:p<1000):qxc 171798691840 p cube=false:=by
 unfold qxc;cases cube with
 |true=>
  have e:(171798691840:Nat)^3=64000*2^96:=by decide
  simp only[if_true,decide_eq_false_iff_not];rw[e];intro h;have:=Nat.le_of_mul_le_mul_right h zdc;omega
 |false=>
  have e:(171798691840:Nat)^2=1600*2^64:=by decide
  simp only[Bool.false_eq_true,if_false,decide_eq_false_iff_not];rw[e];intro h;have:=Nat.le_of_mul_le_mul_right h zdc;omega
theorem qy5(p:Nat)(cube:Bool)(w:World)(hp:p<1000):
 Zc 123 #[.int .u64 p,.bool cube] w fun e w'=>(∃r:Nat,IsRoot r p cube∧e=.returned (.int .u32 ((r % 4294967296:Nat):Int)))∧Zb w w':=by
 obtain⟨H0,HT⟩:=zh2 (qy3 p cube) (qy4 p cube hp);go_enter Tryz.func123,Tryz.ntmps123
 go_wp2_with fail
 go_loopw [5,6] (fun a b wr=>∃lo hi:Nat,lo<hi∧hi≤171798691840∧a=.int .u64 lo∧b=.int .u64 hi∧Hid (qxc lo p cube=true)∧Hid (qxc hi p cube=false)∧Hid (Zb w wr)) (fun a b _=>(intOf b - intOf a).toNat)
 case atStart=>exact⟨0,171798691840,by omega,by omega,rfl,rfl,H0.o,HT.o,tA5 _ _⟩
 case round=>
  obtain⟨lo,hi,hlt,htop,rfl,rfl,hlo,hhi,hbe⟩:=hrel;by_cases h1:1<hi - lo
  ·
   obtain⟨m,hm⟩:=xeq ((lo+hi) / 2);have m1:lo<m:=zo;have m2:m<hi:=zo;have q1:(1:Int)<hi - lo:=zo;have q2:((lo:Int)+hi) / 2=m:=zo;have q3:(0:Int)≤hi - lo:=zo;clear hm h1;go_wp2_with fail
   refine zcb (qy2 m p cube _ zo zo) fun w2 b2=>?_
   have B2:=zh1 (hbe.trans (b2.mono hbe.size));obtain⟨b,hb⟩:=xeq (qxc m p cube);have HBm:=zh1 hb;rw[hb];clear hb b2 hbe;cases b with
   |true=>
    go_wp2
    go_roundw
    case rel=>exact⟨m,hi,by omega,by omega,rfl,rfl,HBm,hhi,B2⟩
    case measure=>simp[intOf];omega
   |false=>
    go_wp2
    go_roundw
    case rel=>exact⟨lo,m,by omega,by omega,rfl,rfl,hlo,HBm,B2⟩
    case measure=>simp[intOf];omega
  obtain rfl:hi=lo+1:=zo;have q1:¬(1:Int)<((lo+1:Nat):Int) - lo:=zo;have q3:(0:Int)≤((lo+1:Nat):Int) - lo:=zo;have hw:IntKind.u32.wrap (lo:Int)=((lo % 4294967296:Nat):Int):=by rw[IntKind.wrap_u32];omega
  clear h1;go_wp2
  go_ret
  exact⟨⟨lo,⟨hlo.o,hhi.o⟩,rfl⟩,hbe.o⟩
def OwnU (w:World)(base:Nat)(v:Value)(l:List Nat):Prop:=w.ownsRow base 32 1 v l.length (u64v l)
theorem qy6(l:List Nat):∀u∈u64v l,u.oneCell'=true:=by
 intro u hu;obtain⟨x,_,rfl⟩:=List.mem_map.1 hu;rfl
section
variable {w w' : World} {base : Nat} {v : Value} {l : List Nat}
theorem OwnU.nil(w:World)(base:Nat):OwnU w base (.slice none 0 0) []:=World.ownsRow_nil ..
theorem OwnU.sl(h:OwnU w base v l):∃A n c,v=.slice A n c∧n=l.length∧n≤c∧c≤maxLen∧Reads w w.heap.size 1 A n (u64v l):=by
 obtain⟨A,c,h1,h2,h3,h4⟩:=qaf h;exact⟨A,_,c,h1,rfl,h2,h3,h4⟩
theorem OwnU.kept(h:OwnU w base v l)(hb:Zb w w'):OwnU w' base v l:=
 tB3 h ⟨hb.os,hb.tape,hb.output,hb.size,fun k hk _=>hb.block k hk⟩ (row:=none) (by cases v.ownBlock<;>simp)
theorem OwnU.alloc(h:OwnU w base v l)(o:Obj):OwnU (w.alloc o) base v l:=h.kept ((tA5 _ _).alloc (tA4 _) o)
end
theorem qy7{ops:Array Oper}(hgd:o.guard=none)(s x:Operand)
 (ho:o.op=.call {callee:=.builtin .append,args:=#[s,x],argTypes:=#[212,212]})
 (base:Nat)(v:Value)(bs:List Nat)(hs:a.eval s=v)(hown:OwnU w base v bs)(A:Option Addr)(m c:Nat)(news:List Nat)(hx:a.eval x=.slice A m c)(hr:Reads w w.heap.size 1 A m (u64v news))
 (hlen:bs.length+m≤65536)(hbase:base≤w.heap.size)
 (h:∀v' w',OwnU w' base v' (bs++news)→Below base w w'→w.grownBy w' v.ownBlock→wpList Tryz.prog ops Q rest (a.put o.dst v') w'):wpList Tryz.prog ops Q (o::rest) a w:=by
 obtain⟨i0,hi0,hz0,hz1,hz2⟩:=info_parts Tryz.u64_info;have hm:news.length=m:=qxr hr;refine qa7 (P:=Tryz.prog) w hgd s x _ ho base 32 i0 _ 1 8 Tryz.underlying212 hi0 hz0 hz1 hz2 rfl zo v bs.length (u64v bs) hs hown w.heap.size A m c (u64v news) hx hr (qy6 _) (by simp only[maxLen];omega) zo hbase ?_;intro v' w' h1 h2 h3;refine h v' w' ?_ ?_ h2
 · unfold OwnU
   rw[tA6,hm];simpa [u64v] using h1
 exact qae (tA5 _ _) hown h2 (tA4 _) hbase
theorem qy8(w:World)(p:Nat):Reads (w.alloc (.cells #[.int .u64 (p:Int)] 32)) (w.alloc (.cells #[.int .u64 (p:Int)] 32)).heap.size 1 (some ⟨w.heap.size,0,none⟩) 1 (u64v [p]):=by
 have:=Reads.new1 w 32 (.int .u64 (p:Int));simpa [u64v] using this
theorem qy9(h:out.length<64)(hp:qxf 64 f p out=qxg):∃g,f=g+1∧qxf 64 g (p+1) (if qxe out p then out++[p] else out)=qxg:=by
 cases f with
 |zero=>
  have e:out=qxg:=hp;rw[e]at h;exact absurd h zdc
 |succ g=>
  refine⟨g,rfl,?_⟩;unfold qxf at hp;rw[if_pos h]at hp;split at hp
  · rename_i hn
    rw[if_pos hn];exact hp
  rename_i hn
  rw[if_neg hn];exact hp
theorem qya(w:World):
 Zc 122 #[.int .i64 64] w fun e w'=>∃v,e=.returned v∧OwnU w' w.heap.size v qxg∧Zb w w':=by
 have H0:=zh1 qxh;go_enter Tryz.func122,Tryz.ntmps122
 go_wp2_with fail
 go_loopw [3,4] (fun a b wr=>∃(out:List Nat) (p f:Nat),p+f=402∧2≤p∧b=.int .u64 p∧out.length≤64∧Hid (qxf 64 f p out=qxg)∧Hid (∀q∈out,2≤q∧q≤402)∧Hid (OwnU wr w.heap.size a out)∧Hid (Zb w wr)) (fun _ b _=>402 - (intOf b).toNat)
 case atStart=>exact⟨[],2,400,by omega,by omega,rfl,by simp,H0.o,fun q hq=>(nomatch hq),OwnU.nil _ _,tA5 _ _⟩
 case round=>
  clear H0;obtain⟨out,p,f,hf,hp2,rfl,hlo,hgo,hq2,hown,hbe⟩:=hrel;obtain⟨A,n,c,rfl,hn,hnc,hcm,hrd⟩:=hown.sl;obtain⟨HN,HR⟩:=zh2 hn hrd;by_cases hlt:n<64
  ·
   obtain⟨f',rfl,hgo'⟩:=qy9 (by rw[←HN.o];exact hlt) hgo.o;have HG:=zh1 hgo';have q1:(n:Int)<64:=zo;clear hgo' hgo hn hrd;go_wp2_with fail
   go_loop [5,6] (fun a b=>∃k:Nat,k≤n∧b=.int .i64 k∧a=.bool (qxe (out.take k) p)) (fun _ b=>n - (intOf b).toNat)
   case atStart=>exact⟨0,by omega,rfl,rfl⟩
   case round=>
    obtain⟨k,hk,rfl,rfl⟩:=hrel;by_cases hkl:k<n
    ·
     have q2:(k:Int)<n:=zo;obtain⟨q,hq⟩:∃q,out[k]? =some q:=⟨_,tA7 (by rw[←HN.o];exact hkl)⟩;have hqb:=hq2.o q (tB2 hq);obtain⟨b,o,rfl,hab,hcell⟩:=HR.mid zo zo;have ck:=hcell k _ (qxo hq);have hst:=qxj out p k q hq;have A0:=zh1 hst;obtain⟨bb,hbb⟩:=xeq (qxe (out.take k) p);have A1:=zh1 hbb;rw[hbb];have q3:(0:Int)<q:=zo;have q4:¬(q:Int)=0:=zo;obtain⟨r,hr⟩:=xeq (p % q);have q5:(p:Int) % q=r:=by rw[←hr];simp
     have A3:=zh1 hr;clear hq hcell hst hbb hr;cases bb with
     |false=>
      go_wp2
      go_round
      case rel=>exact⟨k+1,by omega,by go_num,by rw[A0.o,A1.o];rfl⟩
      case measure=>simp[intOf];omega
     |true=>
      by_cases hr0:r=0
      · subst hr0
        go_wp2
        go_round
        case rel=>exact⟨k+1,by omega,by go_num,by rw[A0.o,A1.o,A3.o];rfl⟩
        case measure=>simp[intOf];omega
      have q6:¬(r:Int)=0:=zo;go_wp2
      go_round
      case rel=>exact⟨k+1,by omega,by go_num,by rw[A0.o,A1.o,A3.o];simp[hr0]⟩
      case measure=>simp[intOf];omega
    obtain rfl:n=k:=zo;have et:out.take n=out:=tB5 (by rw[←HN.o];exact tA4 _);rw[et];have q2:¬(n:Int)<n:=zo;obtain⟨bb,hbb⟩:=xeq (qxe out p);have hg:=HG.o;rw[hbb]at hg ⊢;have A4:=zh1 hg;clear et hbb hg HG;cases bb with
    |false=>
     have A2:=zh1 (show qxf 64 f' (p+1) out=qxg from A4.o);go_wp2
     go_roundw
     case rel=>exact⟨out,p+1,f',by omega,by omega,by go_num,hlo,A2,hq2,hown,hbe⟩
     case measure=>simp[intOf];omega
    |true=>
     have A2:=zh1 (show qxf 64 f' (p+1) (out++[p])=qxg from A4.o);have hszb:=hbe.size;go_wp2_with (at_builtin;refine qy7 rfl (.tmp 30) (.tmp 32) rfl w.heap.size _ out rfl (hown.alloc _) _ 1 1 [p] rfl (qy8 wr p) (by have:=HN.o;omega) (by rw[qar];omega) ?_)
     intro v2 w2 own2 b2 g2;obtain⟨OW,BW⟩:=zh2 own2 ((hbe.alloc hbe.size (.cells #[.int .u64 (p:Int)] 32)).trans b2);have A5:Hid (∀q∈out++[p],2≤q∧q≤402):=by
      intro q hq;rcases List.mem_append.1 hq with hq|hq
      · exact hq2.o q hq
      obtain rfl:=List.mem_singleton.1 hq;omega
     have hl2:(out++[p]).length≤64:=by rw[tA6,←HN.o];simp;omega
     clear own2 b2 g2 hbe hown;go_wp2
     go_roundw
     case rel=>exact⟨out++[p],p+1,f',by omega,by omega,by go_num,hl2,A2,A5,OW,BW⟩
     case measure=>simp[intOf];omega
  have hle:64≤out.length:=by rw[←HN.o];omega
  have he:=hgo.o;rw[qxi 64 f p out hle]at he;have HE:=zh1 he;have q1:¬(n:Int)<64:=zo;clear he hn hrd hgo;go_wp2
  go_ret
  exact⟨_,rfl,by rw[←HE.o];exact hown.o,hbe.o⟩
def qyb:List Nat:=Kt++qc1.list
def qyc (j:Nat):List Nat:=qyb.take j++List.replicate (72 - j) 0
theorem qyd:qyb.length=72:=by decide
theorem qye:u32s qyb:=by
 intro x hx;have h:(qyb.all fun x=>decide (x<4294967296))=true:=by decide+kernel
 simpa using List.all_eq_true.1 h x hx
theorem qyf:qyc 72=qyb:=by
 unfold qyc;rw[tB5 (by rw[qyd];exact tA4 _)];simp
theorem qyg(j x:Nat)(h:qyb[j]? =some x):(qyc j).set j x=qyc (j+1):=by
 have hj:j<72:=by have:=(tA8 h).1;rwa[qyd]at this
 have lt:(qyb.take j).length=j:=by rw[tBd,qyd];omega
 unfold qyc;rw[List.set_append_right _ _ (by rw[lt];exact tA4 _),lt,Nat.sub_self,show 72 - j=(72 - (j+1))+1 by omega,List.replicate_succ,List.set_cons_zero,List.take_add_one,h];simp
theorem qyh(j:Nat)(h:j<72):(qyc j)[j]? =some 0:=by
 have lt:(qyb.take j).length=j:=by rw[tBd,qyd];omega
 unfold qyc;rw[tBn (by rw[lt];exact tA4 _),lt,Nat.sub_self,List.getElem?_replicate,if_pos zo]
theorem qyi{l:List Nat}{x:Nat}(h:l[i]? =some x):(qbp l)[i]? =some (.int .u32 (x:Int)):=by simp[qbp,h]
theorem qyj(l:List Nat)(i x:Nat):(qbp l).toArray.setIfInBounds i (.int .u32 (x:Int))=(qbp (l.set i x)).toArray:=by simp[qbp,List.map_set]
theorem qyk:((List.range 64).all fun k=>qxl (qxg.getD k 0) (qxk (qxg.getD k 0) 3 7*4294967296+qyb.getD k 0) true)=true:=by decide+kernel
theorem qyl:((List.range 8).all fun k=>qxl (qxg.getD k 0) (qxk (qxg.getD k 0) 2 7*4294967296+qyb.getD (64+k) 0) false)=true:=by decide+kernel
theorem qym(k r:Nat)(hk:k<64)(h:IsRoot r (qxg.getD k 0) true):qyb[k]? =some (r % 4294967296):=by
 have h1:=qxm (List.all_eq_true.1 qyk k (List.mem_range.2 hk));rw[h.eq h1];have hl:k<qyb.length:=by rw[qyd];omega
 have hb:=qye.getD k;rw[Nat.mul_add_mod',Nat.mod_eq_of_lt hb,tB4,tA7 hl];rfl
theorem qyn(k r:Nat)(hk:k<8)(h:IsRoot r (qxg.getD k 0) false):qyb[64+k]? =some (r % 4294967296):=by
 have h1:=qxm (List.all_eq_true.1 qyl k (List.mem_range.2 hk));rw[h.eq h1];have hl:64+k<qyb.length:=by rw[qyd];omega
 have hb:=qye.getD (64+k);rw[Nat.mul_add_mod',Nat.mod_eq_of_lt hb,tB4,tA7 hl];rfl
theorem qyo(k:Nat):qxg.getD k 0<1000:=by
 rw[tB4];rcases hx:qxg[k]? with _|x
 · simp
 have h:(qxg.all fun x=>decide (x<1000))=true:=by decide
 simpa using List.all_eq_true.1 h x (tB2 hx)
def RTab (w:World)(g:Nat):Prop:=Blk w g 211 (qbp qyb).toArray
theorem qyp(h:w.grownBy w' (some g))(hB:B≤g)(hg:g<w.heap.size):Below B w w':=
 ⟨h.os,h.tape,h.output,h.size,fun k hk=>h.block k zo (fun e=>by injection e;omega)⟩
theorem qyq(w:World):
 Zc 48 #[] w fun e w'=>e=.returned (.pointer (some ⟨w.heap.size,0,none⟩))∧RTab w' w.heap.size∧Below w.heap.size w w':=by
 have z0:Blk (w.alloc (.cells Tryz.zeroCells211 211)) w.heap.size 211 (qbp (qyc 0)).toArray:=by
  have h:=Blk.new w 211 Tryz.zeroCells211;rw[show Tryz.zeroCells211=(qbp (qyc 0)).toArray by kernel_rfl]at h ⊢;exact h
 have b0:Below w.heap.size w (w.alloc (.cells Tryz.zeroCells211 211)):=(tA5 _ _).alloc (tA4 _) _;obtain⟨W0,hW0⟩:=eqx (w.alloc (.cells Tryz.zeroCells211 211));rw[←hW0]at z0 b0;obtain⟨A1,Z0,B0⟩:=zh3 hW0 z0 b0;obtain⟨g,hg⟩:=xeq w.heap.size;have HG:=zh1 hg;clear hW0 z0 b0 hg;go_enter Tryz.func48,Tryz.ntmps48
 go_wp2_with fail
 rw[←A1.o];refine(qya W0).mono ?_;rintro e w1 ⟨v,rfl,own1,b1⟩;obtain⟨A,n,c,rfl,hn,hnc,hcm,hrd⟩:=own1.sl;obtain rfl:n=64:=hn.trans zdc;have z1:=Z0.below b1 Z0.lt;have b1':=B0.trans (b1.mono B0.size);have hne:=qa3 own1 z1 zdc;obtain⟨b,o,rfl,hab,hcell⟩:=hrd.mid zo zo;have hbg:b≠w.heap.size:=fun e=>hne (by simp[Value.ownBlock,e])
 have hgw:w.heap.size<w1.heap.size:=z1.lt;(try simp only[Zb]at b1' hbg);rw[HG.o]at z1 b1' hbg hgw ⊢
 obtain⟨HC,Z1,B1⟩:=zh3 hcell z1 b1';clear own1 b1 hrd hcell hn A1 Z0 B0 z1 b1' hne;go_wp2_with fail
 go_loopw [3] (fun i wr=>∃k:Nat,k≤64∧i=.int .i64 k∧Hid (Blk wr g 211 (qbp (qyc k)).toArray)∧Hid (w1.grownBy wr (some g))) (fun i _=>64 - (intOf i).toNat)
 case atStart=>exact⟨0,by omega,rfl,Z1.o,tB9 _ _⟩
 case round=>
  obtain⟨k,hk,rfl,hz,hgr⟩:=hrel;by_cases hlt:k<64
  ·
   obtain⟨p,hp⟩:∃p,qxg[k]? =some p:=⟨_,tA7 (by rw[show qxg.length=64 from by decide];exact hlt)⟩;have hpd:qxg.getD k 0=p:=by rw[tB4,hp];rfl
   have ck:wr.cell? ⟨b,o+k,none⟩=some (.int .u64 (p:Int)):=hgr.cell (HC.o k _ (qxo hp)) (by simp;omega);have hp1:p<1000:=by rw[←hpd];exact qyo k
   have hroot:=qym k;rw[hpd]at hroot;have A0:=zh1 hroot;have q1:(k:Int)<64:=zo;have hbw:b<wr.heap.size:=World.block_lt_of_cell? _ _ ck;clear hp hpd hroot;go_upto_region 6 with(fail)
   obtain⟨S,HS⟩:=zS fun w'=>w'.cell? ⟨b,o+k,none⟩=some (.int .u64 (p:Int))
   refine zrs S 10 (zq 0 6 [(7,false),(8,false),(6,true),(9,false),(10,true)]) ((HS.o _).mpr ck) ?_;repeat(refine zrt0 ?_)
   refine zw ?_;go_simp;refine(qy5 p true wr.drew hp1).mono ?_;rintro e w2 ⟨⟨r,hr,rfl⟩,b2⟩;have hrk:=A0.o r hlt hr;have z2:=(show Blk wr.drew g 211 (qbp (qyc k)).toArray from hz.o).below b2 hz.lt;obtain⟨rr,hrr⟩:=xeq (r % 4294967296);rw[hrr]at hrk ⊢;have gr2:w1.grownBy w2 (some g):=qac (qa9 hgr.o) (qad b2 (some g)) (by rintro d ⟨rfl⟩;exact .inl rfl);refine⟨(HS.o _).mpr ((b2.cell (p:=⟨b,o+k,none⟩) hbw).trans ck),zput ?_⟩;repeat(refine zrt0 ?_)
   have zs:=z2.set_ k (.int .u32 (rr:Int));rw[qyj,qyg k rr hrk]at zs;obtain⟨ZS,GS⟩:=zh2 zs (qab (p:=⟨g,k,none⟩) gr2 (.inl rfl) (.int .u32 (rr:Int)));have zc:=(z2.cell k).trans (show _=some (.int .u32 0) by simpa using qyi (qyh k zo));have zf:=z2.frozen k;refine zw ?_;go_simp;refine qbf ?_;clear zc zf zs gr2 z2 b2 hgr hz hrk hrr hr hbw ck;go_wp2
   go_roundw
   case rel=>exact⟨k+1,by omega,by go_num,ZS,GS⟩
   case measure=>simp[intOf];omega
  obtain rfl:64=k:=zo;clear Z1;rw[show ((64:Nat):Int)=64 from rfl];go_wp2_with fail
  go_loopw [4] (fun i wr=>∃k:Nat,k≤8∧i=.int .i64 k∧Hid (Blk wr g 211 (qbp (qyc (64+k))).toArray)∧Hid (w1.grownBy wr (some g))) (fun i _=>8 - (intOf i).toNat)
  case atStart=>exact⟨0,by omega,rfl,hz.o,hgr.o⟩
  case round=>
   clear hz hgr;obtain⟨k,hk,rfl,hz,hgr⟩:=hrel;by_cases hlt:k<8
   ·
    obtain⟨p,hp⟩:∃p,qxg[k]? =some p:=⟨_,tA7 (by rw[show qxg.length=64 from by decide];omega)⟩;have hpd:qxg.getD k 0=p:=by rw[tB4,hp];rfl
    have ck:wr.cell? ⟨b,o+k,none⟩=some (.int .u64 (p:Int)):=hgr.cell (HC.o k _ (qxo hp)) (by simp;omega);have hp1:p<1000:=by rw[←hpd];exact qyo k
    have hroot:=qyn k;rw[hpd]at hroot;have A0:=zh1 hroot;have q1:(k:Int)<8:=zo;have q2:(k:Int)<64:=zo;have hbw:b<wr.heap.size:=World.block_lt_of_cell? _ _ ck;clear hp hpd hroot;go_upto_region 10 with(fail)
    obtain⟨S,HS⟩:=zS fun w'=>w'.cell? ⟨b,o+k,none⟩=some (.int .u64 (p:Int))
    refine zrs S 10 (zq 0 6 [(7,false),(8,false),(6,true),(9,false),(10,true)]) ((HS.o _).mpr ck) ?_;repeat(refine zrt0 ?_)
    refine zw ?_;go_simp;refine(qy5 p false wr.drew hp1).mono ?_;rintro e w2 ⟨⟨r,hr,rfl⟩,b2⟩;have hrk:=A0.o r hlt hr;have z2:=(show Blk wr.drew g 211 (qbp (qyc (64+k))).toArray from hz.o).below b2 hz.lt;obtain⟨rr,hrr⟩:=xeq (r % 4294967296);rw[hrr]at hrk ⊢;have gr2:w1.grownBy w2 (some g):=qac (qa9 hgr.o) (qad b2 (some g)) (by rintro d ⟨rfl⟩;exact .inl rfl);refine⟨(HS.o _).mpr ((b2.cell (p:=⟨b,o+k,none⟩) hbw).trans ck),zput ?_⟩;repeat(refine zrt0 ?_)
    have zs:=z2.set_ (64+k) (.int .u32 (rr:Int));rw[qyj,qyg (64+k) rr hrk]at zs;obtain⟨ZS,GS⟩:=zh2 zs (qab (p:=⟨g,64+k,none⟩) gr2 (.inl rfl) (.int .u32 (rr:Int)));have zc:=(z2.cell (64+k)).trans (show _=some (.int .u32 0) by simpa using qyi (qyh (64+k) zo));have zf:=z2.frozen (64+k);refine zw ?_;go_simp;refine qbf ?_;clear zc zf zs gr2 z2 b2 hgr hz hrk hrr hr hbw ck;go_wp2
    go_roundw
    case rel=>exact⟨k+1,by omega,by go_num,ZS,GS⟩
    case measure=>simp[intOf];omega
   obtain rfl:8=k:=zo;have hz':=hz.o;rw[show 64+8=72 from rfl,qyf]at hz';obtain⟨HZ,HB⟩:=zh2 hz' (B1.trans (qyp hgr.o (tA4 _) hgw));clear hz' hz hgr;go_wp2
   go_ret
   exact⟨by rw[HG.o];rfl,by rw[HG.o];exact HZ.o,by rw[HG.o];exact HB.o⟩
theorem qyr(x a:Nat)(w:World)(h:x<4294967296)(a1:1≤a)(a2:a≤31):
 Zc 228 #[.int .u32 x,.int .u64 a] w fun e w'=>e=.returned (.int .u32 (rotr x a))∧w=w':=by
 obtain⟨s,hs⟩:=xeq (32 - a);have hb:IntKind.u64.wrap (32 - (a:Int))=(s:Int):=by rw[show (32 - (a:Int))=(s:Int) by omega];exact tBa _ zo
 have hs2:s≤31:=zo;have hs3:1≤s:=zo;have hm:min s 32=s:=Nat.min_eq_left zo;have ha:min a 32=a:=Nat.min_eq_left zo;have HS:=zh1 hs;clear hs;go_enter Tryz.func228,Tryz.ntmps228
 go_wp2
 go_ret
 refine⟨?_,rfl⟩;have HS':32 - a=s:=HS;have e1:((x:Int)*2^s % 4294967296)=((x*2^s % 4294967296:Nat):Int):=by
  rw[Int.natCast_emod,Int.natCast_mul,Int.natCast_pow];rfl
 have e3:((x:Int) / 2^a)=((x / 2^a:Nat):Int):=by push_cast;rfl
 first
  |rw[e1,e3,u32_or_nat]
  |rw[hm,ha,e1,e3,u32_or_nat]
 · unfold rotr;rw[HS'];rfl
 · exact Nat.lt_of_le_of_lt (Nat.div_le_self _ _) h
 exact Nat.mod_lt _ zdc
theorem qys(h:RTab w g)(hk:k<64):w.cell? ⟨g,k,none⟩=some (.int .u32 (Kt.getD k 0:Nat)):=by
 rw[Blk.cell h,qc2 (by rw[qyd];omega)];unfold qyb;rw[tB4,tBm (by rw[show Kt.length=64 from by decide];omega),←tB4]
theorem qyt(h:RTab w g)(hi:i<8):w.cell? ⟨g,64+i,none⟩=qc1.vals[i]? :=by
 rw[Blk.cell h,qc2 (by rw[qyd];omega),St.vals_list,qc2 (by simpa [St.list] using hi)];unfold qyb;have l:Kt.length=64:=by decide
 rw[tB4,tBn (by rw[l];omega),l,show 64+i - 64=i by omega,←tB4]
end Go.Proofs.YthomgopipiomhaaGreatDoor

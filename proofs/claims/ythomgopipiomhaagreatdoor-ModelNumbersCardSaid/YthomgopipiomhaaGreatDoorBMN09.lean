/-
  Lemmas for ModelNumbers, shortened by program.
-/
import Derived.Test.YthomgopipiomhaaGreatDoorBMN08
namespace Go.Proofs.YthomgopipiomhaaGreatDoor
set_option linter.unusedVariables false
set_option linter.unusedSimpArgs false
set_option maxRecDepth 100000
set_option maxHeartbeats 32000000
section
open Go.RowKit
theorem qom (R:Req)(cav leafv:Value)(ht:R.tag.length=32):(reqv R cav leafv).length=48:=by
 unfold reqv;rw[tA6,List.length_cons,qer _ _ _ ht];rfl
def OwnF (w:World)(base g:Nat)(v:Value)(l:List Fld):Prop:=w.ownsRow base 252 4 v l.length (qgw g l)
theorem OwnF.sl {w:World}{base g:Nat}{v:Value}{l:List Fld}(h:w.ownsRow base 252 4 v l.length (qgw g l)):∃A n c,v=.slice A n c∧n=l.length∧n≤c∧c≤maxLen∧Reads w w.heap.size 4 A n (qgw g l):=by
 obtain⟨A,c,h1,h2,h3,h4⟩:=qaf h;exact⟨A,_,c,h1,rfl,h2,h3,h4⟩
theorem OwnF.kept {w w':World}{base g:Nat}{v:Value}{l:List Fld}(h:OwnF w base g v l)(hb:Below w.heap.size w w'):OwnF w' base g v l:=
 World.ownsRow.kept h ⟨hb.os,hb.tape,hb.output,hb.size,fun k hk _=>hb.block k hk⟩ (row:=none) (by cases v.ownBlock<;>simp)
theorem qon (op:Int)(T:Tok)(cav leafv:Value)(ht:T.2.2.length=32):
 ((zLQ:Array Value).toList).take 1++(tokv T.1 cav T.2.2++((zLQ:Array Value).toList).drop (1+(tokv T.1 cav T.2.2).length))=reqv (req0 T 0) cav (.slice none 0 0):=by
 rw[qer _ _ _ ht];rfl
theorem qoo {w:World}{g:Nat}{L:List Value}(h:Blk w g 34 L.toArray)(hl:L.length=48):(loadVar 34 ⟨g,0,none⟩).run Tryz.prog w=.ok (.agg L.toArray) w:=
 run_loadVar_mid _ _ 0 _ L _ (qap h 0 L (fun j u h=>by simpa using h)) Tryz.underlying34 rfl (by rw[hl];exact Tryz.req_info)
def qop:List Value:=reqv qi3 (.slice none 0 0) (.slice none 0 0)
theorem qoq:(Tryz.prog.info? 34).map (·.size)=some qop.toArray.size:=by kernel_rfl
theorem qor:qop.toArray.all (·.oneCell')=true:=by kernel_rfl
theorem qos:Tryz.prog.built 34 []=some qop.toArray:=by kernel_rfl
theorem qot (bs:List Nat)(A:Option Addr)(n c:Nat)(w:World)(hr:Reads w w.heap.size 1 A n (byv bs))(hn:n≤140737488355328)(hb:∀x∈bs,x<256)(hE:w.cell? ⟨0,0,none⟩=some (.iface 327 (.agg #[.pointer (some ⟨3,81,none⟩)]))):
 Calls Tryz.prog 77 #[.slice A n c] w fun e w'=>∃cav lv r,e=.returned (.tuple #[.agg (reqv (qi4 bs).2 cav lv).toArray,r])∧OwnC w' w.heap.size cav (qi4 bs).2.cavs∧OwnB w' w.heap.size lv (qi4 bs).2.leaf∧RErr w' w.heap.size r (qi4 bs).1∧Below w.heap.size w w':=by
 have HB:=zh1 hb;have r0:=Blk.new w 34 zLQ;obtain⟨HE,R0,HR⟩:=zh3 hE r0 (hr.laid (.cells zLQ 34));have AG:Below w.heap.size w (w.alloc (.cells zLQ 34)):=(tA5 _ _).alloc (tA4 _) _;obtain⟨W0,hW0⟩:=eqx (w.alloc (.cells zLQ 34));rw[←hW0]at R0 HR AG;obtain⟨AO,B0⟩:=zh2 hW0 AG;clear hE r0 hr hW0 AG;go_enter Tryz.func77,Tryz.ntmps77
 go_upto_region 1 with(fail)
 rw[←AO.out];go_wp2_with fail
 refine(qf9 bs A n c W0 HR.out hn).mono ?_;rintro e w1 ⟨g,rfl,h1,b1⟩;obtain⟨B,hB⟩:=xeq W0.heap.size;have hBw:w.heap.size<B:=by rw[←hB];exact R0.out.lt
 rw[hB]at h1;have r1:=R0.out.below b1 R0.out.lt;have bl1:Below w.heap.size w w1:=B0.out.trans (b1.mono (by omega));have q1:=Blk.new w1 34 zLQ;have h1':=h1.below ((tA5 w1.heap.size w1).alloc (tA4 _) (.cells zLQ 34));have hg1:=h1.lt;have hBg:=h1.le;obtain⟨w2,hw2⟩:=eqx (w1.alloc (.cells zLQ 34));rw[←hw2]at q1 h1';obtain⟨H2,Q2,R2,AJ,AP⟩:=zh5 h1' q1 (show Blk w2 w.heap.size 34 zLQ by rw[hw2];exact r1.alloc _) (show Below w.heap.size w w2 by rw[hw2];exact qah bl1 _) hw2;clear h1 h1' r1 bl1 q1 b1 hw2 hB;go_upto_region 4 with(fail)
 rw[←AP.out];obtain⟨G5,hG5⟩:=xeq w1.heap.size;rw[hG5]at Q2 hg1 ⊢;clear hG5;go_wp2_with fail
 refine(qgk B g bs (0,none) 77 w2 H2.out HB.out (by omega)).mono ?_;rintro e w3 ⟨v3,rfl,own3,h3,g3⟩;obtain⟨A3,n3,c3,rfl,nc3,mc3,rd3⟩:=own3.sl;have raw:=qgj bs (0,none) 77 HB.out;have hraw:=qb5 rd3;have bl3:=adv AJ.out g3 (by omega) H2.out.lt;have r3:=R2.out.grown g3 (by simp;omega);have q3:=Q2.out.grown g3 (by simp;omega);have hDE:=qg9 (qgi bs (0,none) 77).2 A3 n3 c3 w3 rd3 (by have:=qi5 bs (0,none) 77 HB.out;omega) raw ((bl3.cell (p:=⟨0,0,none⟩) (World.block_lt_of_cell? _ _ HE.out)).trans HE.out);have hrt:qi1 bs=if (qg4 (qgi bs (0,none) 77).2).1=none then(qgi bs (0,none) 77).1 else qf6 (qgi bs (0,none) 77).1 (qgi bs (0,none) 77).1.1 12:=rfl
 have hT:reqT bs=(qg4 (qgi bs (0,none) 77).2).2:=rfl;have hok:=qgt (qgi bs (0,none) 77).2 raw;obtain⟨⟨E,T⟩,hET⟩:∃x,qg4 (qgi bs (0,none) 77).2=x:=⟨_,rfl⟩;rw[hET]at hDE hrt hT hok;dsimp only at hDE hrt hT hok;obtain⟨s3,hs3⟩:=xeq ((qgi bs (0,none) 77).1);rw[hs3]at h3 hrt;obtain⟨AK,AQ,HT,A5,H3,R3,Q3,AC⟩:=zh8 hDE hrt hT hok h3 r3 q3 bl3;clear hDE hrt hT hok h3 r3 q3 bl3 hET hs3 raw hraw own3 rd3 g3 H2 R2 Q2 AJ;go_wp2_with fail
 refine AK.out.mono ?_;rintro e w4 ⟨cav,er,rfl,own4,her,b4⟩;obtain⟨Ac,nc,cc,rfl,enc,ncc,mcc,rdc⟩:=OwnC.sl own4;have h4:=H3.out.below b4;have r4:=R3.out.below b4 R3.out.lt;have q4:=Q3.out.below b4 Q3.out.lt;have bl4:=AC.out.trans (b4.mono AC.out.size);have own4':OwnC w4 w.heap.size (.slice Ac nc cc) T.2.1:=OwnC.mono own4 AC.out.size;have lV:=qer T.1 (.slice Ac nc cc) T.2.2 A5.out.1.2.2.1;have oV:=qf3 T.1 (.slice Ac nc cc) rfl T.2.2;have hset:=qon 0 T (.slice Ac nc cc) (.slice none 0 0) A5.out.1.2.2.1;obtain⟨V,hV⟩:=xeq (tokv T.1 (.slice Ac nc cc) T.2.2);rw[hV]at lV oV hset ⊢;have q4':Blk w4 G5 34 ((zLQ:Array Value).toList).toArray:=q4;obtain⟨ZR,hZR⟩:=xeq ((zLQ:Array Value).toList);have lZ:ZR.length=48:=by rw[←hZR];rfl
 rw[hZR]at q4' hset;obtain⟨TH,SC⟩:=zh2 (show w4.there G5 1 V.toArray.size by rw[List.size_toArray,lV];exact qf5 q4' 1 34 (by rw[lZ];decide)) (Blk.setCells V 1 w4 ZR q4' (by rw[lZ,lV];decide));rw[hset]at SC;obtain⟨IV,OV⟩:=zh2 (show (Tryz.prog.info? 31).map (·.size)=some V.toArray.size by rw[List.size_toArray,lV];exact Tryz.tok_info) (all_oneCell_toArray oV);have gsc:=qf4 G5 V 1 w4;obtain⟨H5,O5,R5,AD,AL⟩:=zh5 (h4.kept gsc q4 (by decide) (by decide) (by omega)) (show OwnC (w4.setCells G5 1 V) w.heap.size (.slice Ac nc cc) T.2.1 from World.ownsRow.kept own4' gsc (.inr (qa3 own4' q4 (by decide)))) (r4.grown gsc (by simp;omega)) (adv bl4 gsc (by omega) q4.lt) her;clear h4 r4 q4 q4' bl4 own4 own4' lV oV hset hV hZR lZ gsc her rdc enc b4 H3 R3 Q3 AC AK;go_upto_region 5 with(refine wpList_store_mid rfl 31 (.tmp 20) (.tmp 18) rfl G5 1 V.toArray rfl rfl TH.out IV.out OV.out ?_)
 obtain⟨w5,hw5⟩:=eqx (w4.setCells G5 1 V);rw[←hw5]at SC H5 O5 R5 AD ⊢;have hgG:g<G5:=hg1;clear hw5 TH;have AE:Hid (qi1 bs=if E=none then s3 else qf6 s3 s3.1 12):=AQ;go_cut [22] (fun s22 wx=>s22=.bool E.isSome∧wx=w5)
 case first=>
  cases E with
  |none=>
   have he:er=.nilIface:=AL.out;subst he;go_wp2
   go_meet
   case rel=>exact⟨rfl,rfl⟩
  |some x=>
   obtain⟨hh,he,-,-⟩:=AL.out;subst he;go_wp2
   go_meet
   case rel=>exact⟨rfl,rfl⟩
 case rest=>
  obtain⟨rfl,rfl⟩:=hcut;obtain⟨w5',rfl⟩:=eqx wc;go_upto_if 22 with(fail)
  go_cut [] (fun wx=>Hid (Rd wx B g bs (qi1 bs))∧Hid (OwnC wx w.heap.size (.slice Ac nc cc) T.2.1)∧Hid (Blk wx G5 34 (reqv (req0 T 0) (.slice Ac nc cc) (.slice none 0 0)).toArray)∧Hid (Blk wx w.heap.size 34 zLQ)∧Hid (Below w.heap.size w wx))
  case first=>
   cases E with
   |none=>
    rw[if_pos rfl]at AE;go_wp2
    go_meet
    case rel=>exact⟨by rw[AE.out];exact H5.out,O5.out,SC.out,R5.out,AD.out⟩
   |some x=>
    rw[if_neg (by simp)]at AE;go_wp2_with fail
    refine(qfb B g bs s3 12 w5' H5.out (by decide)).mono ?_;rintro e w6 ⟨rfl,h6,g6⟩;have H6:=zh1 h6;have O6:=zh1 (show OwnC w6 w.heap.size (.slice Ac nc cc) T.2.1 from World.ownsRow.kept O5.out g6 (.inr (fun e=>by
     obtain⟨A',n',c',p',hgb,-⟩:=H5.out;exact qa3 O5.out hgb (by decide) e)))
    obtain⟨Q6,R6,AF⟩:=zh3 (SC.out.grown g6 (by simp;omega)) (R5.out.grown g6 (by simp;omega)) (adv AD.out g6 (by omega) H5.out.lt);clear h6 g6;go_wp2
    go_meet
    case rel=>exact⟨by rw[AE.out];exact H6.out,O6.out,Q6.out,R6.out,AF.out⟩
  case rest=>
   obtain⟨H6,O6,Q6,R6,AF⟩:=hcut;clear H5 O5 SC R5 AD;obtain⟨w6,rfl⟩:=eqx wc;go_wp2_with fail
   refine(qfi B g bs (qi1 bs) 1 w6 H6.out HB.out).mono ?_;rintro e w7 ⟨rfl,h7,g7⟩;have hkl:=qfh bs (qi1 bs) 1 HB.out;have hgo:=qi6 bs;have e1:qb0 1=1:=rfl;rw[e1]at h7 ⊢;clear e1;obtain⟨⟨s7,k⟩,hk⟩:∃x,rNum bs (qi1 bs) 1=x:=⟨_,rfl⟩;rw[hk]at h7 hkl ⊢;dsimp only at h7 hkl ⊢;have hk256:k<256:=Nat.lt_of_lt_of_eq hkl (by decide);have kw:IntKind.i64.wrap (k:Int)=k:=IntWalk.i64_in _ (by omega);have AH:=zh1 (hgo s7 k hk);have q7:=Q6.out.grown g7 (by simp;omega);have r7:=R6.out.grown g7 (by simp;omega);have bl7:=adv AF.out g7 (by omega) H6.out.lt;have o7:OwnC w7 w.heap.size (.slice Ac nc cc) T.2.1:=World.ownsRow.kept O6.out g7 (.inr (fun e=>by
    obtain⟨A',n',c',p',hgb,-⟩:=H6.out;exact qa3 O6.out hgb (by decide) e))
   have c70:=q7.cell 0;rw[show (reqv (req0 T 0) (.slice Ac nc cc) (.slice none 0 0)).toArray[0]? =some (.int .i64 0) from rfl]at c70;have f70:=q7.frozen 0;have q8:=q7.set_ 0 (.int .i64 (k:Int));rw[qi7 T (.slice Ac nc cc) (.slice none 0 0) k]at q8;have hset:=qab (p:=⟨G5,0,none⟩) (World.grownBy.refl w7 (some G5)) (.inl rfl) (.int .i64 (k:Int));obtain⟨H8,O8,R8,A6,Q8⟩:=zh5 (h7.kept hset q7 (by decide) (by decide) (by omega)) (show OwnC (w7.setCell ⟨G5,0,none⟩ (.int .i64 (k:Int))) w.heap.size (.slice Ac nc cc) T.2.1 from World.ownsRow.kept o7 hset (.inr (qa3 o7 q7 (by decide)))) (r7.grown hset (by simp;omega)) (adv bl7 hset (by omega) q7.lt) q8;have hGs:=q8.lt;clear h7 g7 hkl hgo hk q7 r7 bl7 o7 q8 hset H6 O6 Q6 R6 AF;go_upto_region 8 with(fail)
   obtain⟨w8,hw8⟩:=eqx (w7.setCell ⟨G5,0,none⟩ (.int .i64 (k:Int)));rw[←hw8]at H8 O8 R8 A6 Q8 hGs ⊢;clear hw8 c70 f70;have fc:=qhl G5 _ (k:Int) w8 Q8.out rfl;obtain⟨bb,hbb⟩:=xeq ((fieldsOf (k:Int)).isSome);rw[hbb]at fc AH;obtain⟨AV,FC⟩:=zh2 hbb fc;clear fc hbb;go_wp2_with fail
   refine FC.out.mono ?_;rintro e w9 ⟨lv,rfl,ownF,b9⟩;obtain⟨Al,nl,cl,rfl,enl,ncl,-,-⟩:=OwnF.sl ownF;obtain⟨H9,O9,Q9,R9,AI,F9,EN⟩:=zh7 (H8.out.below b9) (O8.out.kept b9) (Q8.out.below b9 Q8.out.lt) (R8.out.below b9 R8.out.lt) (A6.out.trans (b9.mono A6.out.size)) ownF enl;have h89:w.heap.size≤w8.heap.size:=A6.out.size;clear ownF b9 enl H8 O8 Q8 R8 A6 FC;go_upto_if 34 with(fail)
   obtain⟨fl,hfl⟩:=xeq ((fieldsOf (k:Int)).getD []);obtain⟨s9,hs9⟩:∃s,(if bb then s7 else qf6 s7 s7.1 12)=s:=⟨_,rfl⟩;rw[hfl,hs9]at AH;rw[hfl]at F9 EN;have hfl4:fl.length≤4∧∀f∈fl,IsFld f:=by
    cases hf:fieldsOf (k:Int) with
    |none=>rw[hf]at hfl;subst hfl;simp
    |some l2=>rw[hf]at hfl;obtain rfl:l2=fl:=hfl;exact⟨(qhv _ _ hf).2.2,fun f hm=>qht _ _ hf f hm⟩
   obtain⟨AM,AN⟩:=zh2 hs9 hfl4;clear hfl hs9 hfl4;go_cut [] (fun wx=>Hid (Rd wx B g bs s9)∧Hid (OwnC wx w.heap.size (.slice Ac nc cc) T.2.1)∧Hid (OwnF wx w8.heap.size G5 (.slice Al nl cl) fl)∧Hid (Blk wx G5 34 (reqv (req0 T (k:Int)) (.slice Ac nc cc) (.slice none 0 0)).toArray)∧Hid (Blk wx w.heap.size 34 zLQ)∧Hid (Below w.heap.size w wx))
   case first=>
    cases bb with
    |true=>
     have h9:=AM.out;rw[if_pos rfl]at h9;subst h9;go_wp2
     go_meet
     case rel=>exact⟨H9.out,O9.out,F9.out,Q9.out,R9.out,AI.out⟩
    |false=>
     have h9:=AM.out;rw[if_neg (by simp)]at h9;subst h9;go_wp2_with fail
     refine(qfb B g bs s7 12 w9 H9.out (by decide)).mono ?_;rintro e wa ⟨rfl,ha,ga⟩;have Ha:=zh1 ha;have Oa:=zh1 (show OwnC wa w.heap.size (.slice Ac nc cc) T.2.1 from World.ownsRow.kept O9.out ga (.inr (fun e=>by
      obtain⟨A',n',c',p',hgb,-⟩:=H9.out;exact qa3 O9.out hgb (by decide) e)))
     have Fa:=zh1 (show OwnF wa w8.heap.size G5 (.slice Al nl cl) fl from World.ownsRow.kept F9.out ga (.inr (fun e=>by
      obtain⟨A',n',c',p',hgb,-⟩:=H9.out;exact qa3 F9.out hgb (by decide) e)))
     obtain⟨Qa,Ra,BLa⟩:=zh3 (Q9.out.grown ga (by simp;omega)) (R9.out.grown ga (by simp;omega)) (adv AI.out ga (by omega) H9.out.lt);clear ha ga;go_wp2
     go_meet
     case rel=>exact⟨Ha.out,Oa.out,Fa.out,Qa.out,Ra.out,BLa.out⟩
   case rest=>
    obtain⟨Ha,Oa,Fa,Qa,Ra,BLa⟩:=hcut;clear H9 O9 F9 Q9 R9 AI;obtain⟨wa,rfl⟩:=eqx wc;go_upto_block 0 with fail
    go_cut [] (fun wx=>∃(s:RSt) (R:Req) (lv:Value),Hid ((s,R)=qi2 bs)∧Hid R.Fine∧Hid (R.cavs=T.2.1)∧Hid (Rd wx B g bs s)∧Hid (OwnC wx w.heap.size (.slice Ac nc cc) T.2.1)∧Hid (OwnB wx w.heap.size lv R.leaf)∧Hid (Blk wx G5 34 (reqv R (.slice Ac nc cc) lv).toArray)∧Hid (Blk wx w.heap.size 34 zLQ)∧Hid (Below w.heap.size w wx))
    case first=>
     go_wp2_with fail
     have hnl:nl=fl.length:=EN.out;subst hnl;go_loopw [39] (fun i wr=>∃(j:Nat) (s:RSt) (R:Req) (lv:Value),j≤fl.length∧i=.int .i64 j∧Hid (qi0 bs (fl.drop j) s R=qi2 bs)∧Hid R.Fine∧Hid (R.cavs=T.2.1)∧Hid (Rd wr B g bs s)∧Hid (OwnC wr w.heap.size (.slice Ac nc cc) T.2.1)∧Hid (OwnB wr w.heap.size lv R.leaf)∧Hid (OwnF wr w8.heap.size G5 (.slice Al fl.length cl) fl)∧Hid (Blk wr G5 34 (reqv R (.slice Ac nc cc) lv).toArray)∧Hid (Blk wr w.heap.size 34 zLQ)∧Hid (Below w.heap.size w wr)) (fun i _=>fl.length - (intOf i).toNat)
     case atStart=>
      refine⟨0,s9,req0 T (k:Int),.slice none 0 0,by omega,rfl,?_,?_,rfl,Ha.out,Oa.out,OwnB.nil _ _,Fa.out,Qa.out,Ra.out,BLa.out⟩
      · show _=_
        rw[AH.out,show reqT bs=T from HT.out];rfl
      exact⟨A5.out.1.2.2.1,A5.out.1.2.2.2,A5.out.1.1,A5.out.1.2.1,A5.out.2,by simp[req0],by simp[req0]⟩
     case round=>
      clear Ha Oa Fa Qa Ra BLa;obtain⟨j,s,R,lv,hj,rfl,hgo,hfine,hcav,hrd,ho,hlo,hf,hq,hz,hbl⟩:=hrel;have fl4:fl.length≤4:=AN.out.1;by_cases hjl:j<fl.length
      ·
       have qk:(j:Int)<fl.length:=by omega
       obtain⟨f,hx⟩:∃f,fl[j]? =some f:=⟨_,tA7 hjl⟩;have q:=qhs G5 fl j f hx;have HF:=AN.out.2 f (List.mem_of_getElem? hx);have rdf:Reads wr wr.heap.size 4 Al fl.length (qgw G5 fl):=Reads.of_own hf.out;obtain⟨fbk,fo,hAl,hab,hcell⟩:=rdf.mid (by omega) (by omega);subst hAl;have Hx:=zh1 hx;have HK:=qia HF;clear hx rdf;rcases HK with⟨f1,f2⟩|⟨f1,f2⟩|⟨f1,f2⟩|rfl
       ·
        have m0:=hcell (j*4+0) _ ((q 0 (by omega)).trans (by unfold fldv;rw[if_pos f1];rfl));have m1:=hcell (j*4+1) _ ((q 1 (by omega)).trans (by unfold fldv;rw[if_pos f1];rfl));have m2:=hcell (j*4+2) _ ((q 2 (by omega)).trans (by unfold fldv;rw[if_pos f1];rfl));have m3:=hcell (j*4+3) _ ((q 3 (by omega)).trans (by unfold fldv;rw[if_pos f1];rfl));clear q hcell;rw[f2]at m0;simp only[←Nat.add_assoc,Nat.add_zero]at m0 m1 m2 m3;have hstep:=qic bs fl j f s R _ hgo.out Hx.out (by rw[f1];decide);have hput:=qi9 R (.slice Ac nc cc) lv hfine.out.tag f HF (by rw[f1];decide);obtain⟨vx,hvx⟩:=qib R (.slice Ac nc cc) lv hfine.out.tag f HF (by rw[f1];decide);obtain⟨fb,fq,x⟩:=f;simp only at f1 f2 m0 m1 m2 m3 hstep hput hvx;subst f1 f2;have nl':=qfh bs s 1 HB.out;have RN:=fun w h=>qfi B g bs s 1 w h HB.out
        have es:qb0 1=1:=rfl;rw[es]at RN;clear es;obtain⟨⟨s',nn⟩,hnn⟩:∃x,rNum bs s 1=x:=⟨_,rfl⟩;simp only[hnn]at RN nl' hstep;have nlt:nn<256:=Nat.lt_of_lt_of_eq nl' (by decide);have nw:IntKind.i64.wrap (nn:Int)=nn:=IntWalk.i64_in _ (by omega);have hp2:=hput nn;rw[show fldN (1,1,x) nn=.int .i64 (nn:Int) by simp[fldN]]at hp2;obtain⟨A7,A0,A2,A8⟩:=zh4 RN hstep hp2 hvx;clear RN hstep hput hp2 hvx nl' hnn;go_upto_region 16 with(fail)
        obtain⟨wf,hwf⟩:=eqx (wr.alloc (.cells #[.int .i64 1,.pointer (some ⟨G5,x,none⟩),.pointer none,.pointer none] 252));have bwf:Below wr.heap.size wr wf:=by rw[hwf];exact(tA5 _ _).alloc (tA4 _) _
        have ff:Blk wf wr.heap.size 252 #[.int .i64 1,.pointer (some ⟨G5,x,none⟩),.pointer none,.pointer none]:=by rw[hwf];exact Blk.new _ _ _
        rw[←hwf];have Rf:=hrd.out.below bwf;have Qf:=hq.out.below bwf hq.out.lt;have Cf:=ho.out.kept bwf;have Lf:=hlo.out.kept bwf;have Ff:OwnF wf w8.heap.size G5 (.slice (some ⟨fbk,fo,none⟩) fl.length cl) fl:=OwnF.kept hf.out bwf;have Zf:=hz.out.below bwf hz.out.lt;have BLf:=hbl.out.trans (bwf.mono hbl.out.size);have hwg:g<wr.heap.size:=hrd.out.lt;clear hwf bwf hrd hq ho hlo hf hz hbl m0 m1 m2 m3;have k0:=ff.cell 0;have kq:=ff.cell 1;rw[show (#[.int .i64 1,.pointer (some ⟨G5,x,none⟩),.pointer none,.pointer none]:Array Value)[0]? =some (.int .i64 1) from rfl]at k0;rw[show (#[.int .i64 1,.pointer (some ⟨G5,x,none⟩),.pointer none,.pointer none]:Array Value)[1]? =some (.pointer (some ⟨G5,x,none⟩)) from rfl]at kq;obtain⟨S,HS⟩:∃S:World→Prop,Hid (∀w',S w'=(w'.cell? ⟨wr.heap.size,0,none⟩=some (.int .i64 1)∧w'.cell? ⟨wr.heap.size,1,none⟩=some (.pointer (some ⟨G5,x,none⟩)))):=⟨_,fun _=>rfl⟩;refine zrs S 8 [(0,false),(1,false),(2,false),(3,false),(4,false),(5,true),(6,false),(7,false),(8,true)] ((HS.out _).mpr ⟨k0,kq⟩) ?_;repeat(refine zrd rfl rfl (fun w1 hS=>by rw[HS.out]at hS;go_split_ands;go_simp;(try go_bits);try rfl) ?_;simp only[Act.put,tA0,tA1,tA2])
        refine qbj rfl rfl ?_;go_simp;refine(A7.out wf.drew Rf).mono ?_;rintro e wb ⟨rfl,hbb,gb⟩;have fb:=(show Blk wf.drew wr.heap.size 252 _ from ff).grown gb (by simp;omega);have l0:=fb.cell 0;have lq:=fb.cell 1;rw[show (#[.int .i64 1,.pointer (some ⟨G5,x,none⟩),.pointer none,.pointer none]:Array Value)[0]? =some (.int .i64 1) from rfl]at l0;rw[show (#[.int .i64 1,.pointer (some ⟨G5,x,none⟩),.pointer none,.pointer none]:Array Value)[1]? =some (.pointer (some ⟨G5,x,none⟩)) from rfl]at lq;refine⟨(HS.out _).mpr ⟨l0,lq⟩,?_⟩;try simp only[Act.put,tA0,tA1,tA2]
        repeat(refine zrd rfl rfl (fun w1 hS=>by rw[HS.out]at hS;go_split_ands;go_simp;(try go_bits);try rfl) ?_;simp only[Act.put,tA0,tA1,tA2])
        have ne1:∀{base:Nat} {e:TypeId} {sz m:Nat} {v:Value} {xs:List Value},wf.drew.ownsRow base e sz v m xs→e≠239→v.ownBlock≠some g:=fun h he=>by
         obtain⟨A',n',c',p',hgb,-⟩:=Rf;exact qa3 h hgb he
        have Qb:=(show Blk wf.drew G5 34 _ from Qf).grown gb (by simp;omega);have Cb:OwnC wb w.heap.size (.slice Ac nc cc) T.2.1:=World.ownsRow.kept (show OwnC wf.drew _ _ _ from Cf) gb (.inr (ne1 (show OwnC wf.drew _ _ _ from Cf) (by decide)));have Lb:OwnB wb w.heap.size lv R.leaf:=World.ownsRow.kept (show OwnB wf.drew _ _ _ from Lf) gb (.inr (ne1 (show OwnB wf.drew _ _ _ from Lf) (by decide)));have Fb:OwnF wb w8.heap.size G5 (.slice (some ⟨fbk,fo,none⟩) fl.length cl) fl:=World.ownsRow.kept (show OwnF wf.drew _ _ _ _ from Ff) gb (.inr (ne1 (show OwnF wf.drew _ _ _ _ from Ff) (by decide)));have Zb:=(show Blk wf.drew w.heap.size 34 _ from Zf).grown gb (by simp;omega);have hgw:g<wf.heap.size:=Rf.lt;have BLb:=adv (show Below w.heap.size w wf.drew from BLf.drew) gb (by omega) hgw;have qx:=Qb.cell x;rw[tA3,A8.out]at qx;have fx:=Qb.frozen x;refine qbj rfl rfl ?_;go_simp;refine qbg ?_;have gset:=qab (p:=⟨G5,x,none⟩) (World.grownBy.refl wb (some G5)) (.inl rfl) (.int .i64 (nn:Int));have Qc:=Qb.set_ x (.int .i64 (nn:Int));rw[A2.out]at Qc;obtain⟨Q9',R9',C9',L9',F9',Z9',A1⟩:=zh7 Qc (hbb.kept gset Qb (by decide) (by decide) (by omega)) (show OwnC (wb.setCell ⟨G5,x,none⟩ (.int .i64 (nn:Int))) w.heap.size (.slice Ac nc cc) T.2.1 from World.ownsRow.kept Cb gset (.inr (qa3 Cb Qb (by decide)))) (show OwnB (wb.setCell ⟨G5,x,none⟩ (.int .i64 (nn:Int))) w.heap.size lv R.leaf from World.ownsRow.kept Lb gset (.inr (qa3 Lb Qb (by decide)))) (show OwnF (wb.setCell ⟨G5,x,none⟩ (.int .i64 (nn:Int))) w8.heap.size G5 (.slice (some ⟨fbk,fo,none⟩) fl.length cl) fl from World.ownsRow.kept Fb gset (.inr (qa3 Fb Qb (by decide)))) (Zb.grown gset (by simp;omega)) (adv BLb gset (by omega) Qb.lt);clear Qc hbb Qb Cb Lb Fb Zb BLb gset Rf Qf Cf Lf Ff Zf BLf ff fb ne1 gb qx fx l0 lq k0 kq;obtain⟨-,p2,-,p4,-⟩:=qif R x nn;obtain⟨A9,AA⟩:=zh2 p2 p4;clear p2 p4;go_wp2
        go_roundw
        case rel=>exact⟨j+1,s',R.put x nn,lv,by omega,by go_num,A0.out,hfine.out.put x nn,by rw[A9.out];exact hcav.out,R9'.out,C9'.out,by rw[AA.out];exact L9'.out,F9'.out,Q9'.out,Z9'.out,A1.out⟩
        case measure=>simp[intOf];omega
       ·
        have m0:=hcell (j*4+0) _ ((q 0 (by omega)).trans (by unfold fldv;rw[if_neg (by rw[f1];decide),if_pos f1];rfl));have m1:=hcell (j*4+1) _ ((q 1 (by omega)).trans (by unfold fldv;rw[if_neg (by rw[f1];decide),if_pos f1];rfl));have m2:=hcell (j*4+2) _ ((q 2 (by omega)).trans (by unfold fldv;rw[if_neg (by rw[f1];decide),if_pos f1];rfl));have m3:=hcell (j*4+3) _ ((q 3 (by omega)).trans (by unfold fldv;rw[if_neg (by rw[f1];decide),if_pos f1];rfl));clear q hcell;rw[f2]at m0;simp only[←Nat.add_assoc,Nat.add_zero]at m0 m1 m2 m3;have hstep:=qic bs fl j f s R _ hgo.out Hx.out (by rw[f1];decide);have hput:=qi9 R (.slice Ac nc cc) lv hfine.out.tag f HF (by rw[f1];decide);obtain⟨vx,hvx⟩:=qib R (.slice Ac nc cc) lv hfine.out.tag f HF (by rw[f1];decide);obtain⟨fb,fq,x⟩:=f;simp only at f1 f2 m0 m1 m2 m3 hstep hput hvx;subst f1 f2;have nl':=qfh bs s 4 HB.out;have RN:=fun w h=>qfi B g bs s 4 w h HB.out
        have es:qb0 4=4:=rfl;rw[es]at RN;clear es;obtain⟨⟨s',nn⟩,hnn⟩:∃x,rNum bs s 4=x:=⟨_,rfl⟩;simp only[hnn]at RN nl' hstep;have nlt:nn<4294967296:=Nat.lt_of_lt_of_eq nl' (by decide);have nw:IntKind.u32.wrap (nn:Int)=nn:=by rw[IntKind.wrap_u32];omega
        have hp2:=hput nn;rw[show fldN (4,2,x) nn=.int .u32 (nn:Int) by simp[fldN]]at hp2;obtain⟨A7,A0,A2,A8⟩:=zh4 RN hstep hp2 hvx;clear RN hstep hput hp2 hvx nl' hnn;go_upto_region 18 with(fail)
        obtain⟨wf,hwf⟩:=eqx (wr.alloc (.cells #[.int .i64 4,.pointer none,.pointer (some ⟨G5,x,none⟩),.pointer none] 252));have bwf:Below wr.heap.size wr wf:=by rw[hwf];exact(tA5 _ _).alloc (tA4 _) _
        have ff:Blk wf wr.heap.size 252 #[.int .i64 4,.pointer none,.pointer (some ⟨G5,x,none⟩),.pointer none]:=by rw[hwf];exact Blk.new _ _ _
        rw[←hwf];have Rf:=hrd.out.below bwf;have Qf:=hq.out.below bwf hq.out.lt;have Cf:=ho.out.kept bwf;have Lf:=hlo.out.kept bwf;have Ff:OwnF wf w8.heap.size G5 (.slice (some ⟨fbk,fo,none⟩) fl.length cl) fl:=OwnF.kept hf.out bwf;have Zf:=hz.out.below bwf hz.out.lt;have BLf:=hbl.out.trans (bwf.mono hbl.out.size);have hwg:g<wr.heap.size:=hrd.out.lt;clear hwf bwf hrd hq ho hlo hf hz hbl m0 m1 m2 m3;have k0:=ff.cell 0;have kq:=ff.cell 2;rw[show (#[.int .i64 4,.pointer none,.pointer (some ⟨G5,x,none⟩),.pointer none]:Array Value)[0]? =some (.int .i64 4) from rfl]at k0;rw[show (#[.int .i64 4,.pointer none,.pointer (some ⟨G5,x,none⟩),.pointer none]:Array Value)[2]? =some (.pointer (some ⟨G5,x,none⟩)) from rfl]at kq;obtain⟨S,HS⟩:∃S:World→Prop,Hid (∀w',S w'=(w'.cell? ⟨wr.heap.size,0,none⟩=some (.int .i64 4)∧w'.cell? ⟨wr.heap.size,2,none⟩=some (.pointer (some ⟨G5,x,none⟩)))):=⟨_,fun _=>rfl⟩;refine zrs S 8 [(0,false),(1,false),(2,false),(3,false),(4,false),(5,true),(6,false),(7,false),(8,true)] ((HS.out _).mpr ⟨k0,kq⟩) ?_;repeat(refine zrd rfl rfl (fun w1 hS=>by rw[HS.out]at hS;go_split_ands;go_simp;(try go_bits);try rfl) ?_;simp only[Act.put,tA0,tA1,tA2])
        refine qbj rfl rfl ?_;go_simp;refine(A7.out wf.drew Rf).mono ?_;rintro e wb ⟨rfl,hbb,gb⟩;have fb:=(show Blk wf.drew wr.heap.size 252 _ from ff).grown gb (by simp;omega);have l0:=fb.cell 0;have lq:=fb.cell 2;rw[show (#[.int .i64 4,.pointer none,.pointer (some ⟨G5,x,none⟩),.pointer none]:Array Value)[0]? =some (.int .i64 4) from rfl]at l0;rw[show (#[.int .i64 4,.pointer none,.pointer (some ⟨G5,x,none⟩),.pointer none]:Array Value)[2]? =some (.pointer (some ⟨G5,x,none⟩)) from rfl]at lq;refine⟨(HS.out _).mpr ⟨l0,lq⟩,?_⟩;try simp only[Act.put,tA0,tA1,tA2]
        repeat(refine zrd rfl rfl (fun w1 hS=>by rw[HS.out]at hS;go_split_ands;go_simp;(try go_bits);try rfl) ?_;simp only[Act.put,tA0,tA1,tA2])
        have ne1:∀{base:Nat} {e:TypeId} {sz m:Nat} {v:Value} {xs:List Value},wf.drew.ownsRow base e sz v m xs→e≠239→v.ownBlock≠some g:=fun h he=>by
         obtain⟨A',n',c',p',hgb,-⟩:=Rf;exact qa3 h hgb he
        have Qb:=(show Blk wf.drew G5 34 _ from Qf).grown gb (by simp;omega);have Cb:OwnC wb w.heap.size (.slice Ac nc cc) T.2.1:=World.ownsRow.kept (show OwnC wf.drew _ _ _ from Cf) gb (.inr (ne1 (show OwnC wf.drew _ _ _ from Cf) (by decide)));have Lb:OwnB wb w.heap.size lv R.leaf:=World.ownsRow.kept (show OwnB wf.drew _ _ _ from Lf) gb (.inr (ne1 (show OwnB wf.drew _ _ _ from Lf) (by decide)));have Fb:OwnF wb w8.heap.size G5 (.slice (some ⟨fbk,fo,none⟩) fl.length cl) fl:=World.ownsRow.kept (show OwnF wf.drew _ _ _ _ from Ff) gb (.inr (ne1 (show OwnF wf.drew _ _ _ _ from Ff) (by decide)));have Zb:=(show Blk wf.drew w.heap.size 34 _ from Zf).grown gb (by simp;omega);have hgw:g<wf.heap.size:=Rf.lt;have BLb:=adv (show Below w.heap.size w wf.drew from BLf.drew) gb (by omega) hgw;have qx:=Qb.cell x;rw[tA3,A8.out]at qx;have fx:=Qb.frozen x;refine qbj rfl rfl ?_;go_simp;refine qbg ?_;have gset:=qab (p:=⟨G5,x,none⟩) (World.grownBy.refl wb (some G5)) (.inl rfl) (.int .u32 (nn:Int));have Qc:=Qb.set_ x (.int .u32 (nn:Int));rw[A2.out]at Qc;obtain⟨Q9',R9',C9',L9',F9',Z9',A1⟩:=zh7 Qc (hbb.kept gset Qb (by decide) (by decide) (by omega)) (show OwnC (wb.setCell ⟨G5,x,none⟩ (.int .u32 (nn:Int))) w.heap.size (.slice Ac nc cc) T.2.1 from World.ownsRow.kept Cb gset (.inr (qa3 Cb Qb (by decide)))) (show OwnB (wb.setCell ⟨G5,x,none⟩ (.int .u32 (nn:Int))) w.heap.size lv R.leaf from World.ownsRow.kept Lb gset (.inr (qa3 Lb Qb (by decide)))) (show OwnF (wb.setCell ⟨G5,x,none⟩ (.int .u32 (nn:Int))) w8.heap.size G5 (.slice (some ⟨fbk,fo,none⟩) fl.length cl) fl from World.ownsRow.kept Fb gset (.inr (qa3 Fb Qb (by decide)))) (Zb.grown gset (by simp;omega)) (adv BLb gset (by omega) Qb.lt);clear Qc hbb Qb Cb Lb Fb Zb BLb gset Rf Qf Cf Lf Ff Zf BLf ff fb ne1 gb qx fx l0 lq k0 kq;obtain⟨-,p2,-,p4,-⟩:=qif R x nn;obtain⟨A9,AA⟩:=zh2 p2 p4;clear p2 p4;go_wp2
        go_roundw
        case rel=>exact⟨j+1,s',R.put x nn,lv,by omega,by go_num,A0.out,hfine.out.put x nn,by rw[A9.out];exact hcav.out,R9'.out,C9'.out,by rw[AA.out];exact L9'.out,F9'.out,Q9'.out,Z9'.out,A1.out⟩
        case measure=>simp[intOf];omega
       ·
        have m0:=hcell (j*4+0) _ ((q 0 (by omega)).trans (by unfold fldv;rw[if_neg (by rw[f1];decide),if_neg (by rw[f1];decide),if_pos f1];rfl));have m1:=hcell (j*4+1) _ ((q 1 (by omega)).trans (by unfold fldv;rw[if_neg (by rw[f1];decide),if_neg (by rw[f1];decide),if_pos f1];rfl));have m2:=hcell (j*4+2) _ ((q 2 (by omega)).trans (by unfold fldv;rw[if_neg (by rw[f1];decide),if_neg (by rw[f1];decide),if_pos f1];rfl));have m3:=hcell (j*4+3) _ ((q 3 (by omega)).trans (by unfold fldv;rw[if_neg (by rw[f1];decide),if_neg (by rw[f1];decide),if_pos f1];rfl));clear q hcell;rw[f2]at m0;simp only[←Nat.add_assoc,Nat.add_zero]at m0 m1 m2 m3;have hstep:=qic bs fl j f s R _ hgo.out Hx.out (by rw[f1];decide);have hput:=qi9 R (.slice Ac nc cc) lv hfine.out.tag f HF (by rw[f1];decide);obtain⟨vx,hvx⟩:=qib R (.slice Ac nc cc) lv hfine.out.tag f HF (by rw[f1];decide);obtain⟨fb,fq,x⟩:=f;simp only at f1 f2 m0 m1 m2 m3 hstep hput hvx;subst f1 f2;have nl':=qfh bs s 8 HB.out;have RN:=fun w h=>qfi B g bs s 8 w h HB.out
        have es:qb0 8=8:=rfl;rw[es]at RN;clear es;obtain⟨⟨s',nn⟩,hnn⟩:∃x,rNum bs s 8=x:=⟨_,rfl⟩;simp only[hnn]at RN nl' hstep;have nlt:nn<18446744073709551616:=Nat.lt_of_lt_of_eq nl' (by decide);have nw:(0:Nat)=0:=rfl;have hp2:=hput nn;rw[show fldN (8,3,x) nn=.int .u64 (nn:Int) by simp[fldN]]at hp2;obtain⟨A7,A0,A2,A8⟩:=zh4 RN hstep hp2 hvx;clear RN hstep hput hp2 hvx nl' hnn;go_upto_region 20 with(fail)
        obtain⟨wf,hwf⟩:=eqx (wr.alloc (.cells #[.int .i64 8,.pointer none,.pointer none,.pointer (some ⟨G5,x,none⟩)] 252));have bwf:Below wr.heap.size wr wf:=by rw[hwf];exact(tA5 _ _).alloc (tA4 _) _
        have ff:Blk wf wr.heap.size 252 #[.int .i64 8,.pointer none,.pointer none,.pointer (some ⟨G5,x,none⟩)]:=by rw[hwf];exact Blk.new _ _ _
        rw[←hwf];have Rf:=hrd.out.below bwf;have Qf:=hq.out.below bwf hq.out.lt;have Cf:=ho.out.kept bwf;have Lf:=hlo.out.kept bwf;have Ff:OwnF wf w8.heap.size G5 (.slice (some ⟨fbk,fo,none⟩) fl.length cl) fl:=OwnF.kept hf.out bwf;have Zf:=hz.out.below bwf hz.out.lt;have BLf:=hbl.out.trans (bwf.mono hbl.out.size);have hwg:g<wr.heap.size:=hrd.out.lt;clear hwf bwf hrd hq ho hlo hf hz hbl m0 m1 m2 m3;have k0:=ff.cell 0;have kq:=ff.cell 3;rw[show (#[.int .i64 8,.pointer none,.pointer none,.pointer (some ⟨G5,x,none⟩)]:Array Value)[0]? =some (.int .i64 8) from rfl]at k0;rw[show (#[.int .i64 8,.pointer none,.pointer none,.pointer (some ⟨G5,x,none⟩)]:Array Value)[3]? =some (.pointer (some ⟨G5,x,none⟩)) from rfl]at kq;obtain⟨S,HS⟩:∃S:World→Prop,Hid (∀w',S w'=(w'.cell? ⟨wr.heap.size,0,none⟩=some (.int .i64 8)∧w'.cell? ⟨wr.heap.size,3,none⟩=some (.pointer (some ⟨G5,x,none⟩)))):=⟨_,fun _=>rfl⟩;refine zrs S 7 [(0,false),(1,false),(2,false),(3,false),(4,false),(5,true),(6,false),(7,true)] ((HS.out _).mpr ⟨k0,kq⟩) ?_;repeat(refine zrd rfl rfl (fun w1 hS=>by rw[HS.out]at hS;go_split_ands;go_simp;(try go_bits);try rfl) ?_;simp only[Act.put,tA0,tA1,tA2])
        refine qbj rfl rfl ?_;go_simp;refine(A7.out wf.drew Rf).mono ?_;rintro e wb ⟨rfl,hbb,gb⟩;have fb:=(show Blk wf.drew wr.heap.size 252 _ from ff).grown gb (by simp;omega);have l0:=fb.cell 0;have lq:=fb.cell 3;rw[show (#[.int .i64 8,.pointer none,.pointer none,.pointer (some ⟨G5,x,none⟩)]:Array Value)[0]? =some (.int .i64 8) from rfl]at l0;rw[show (#[.int .i64 8,.pointer none,.pointer none,.pointer (some ⟨G5,x,none⟩)]:Array Value)[3]? =some (.pointer (some ⟨G5,x,none⟩)) from rfl]at lq;refine⟨(HS.out _).mpr ⟨l0,lq⟩,?_⟩;try simp only[Act.put,tA0,tA1,tA2]
        repeat(refine zrd rfl rfl (fun w1 hS=>by rw[HS.out]at hS;go_split_ands;go_simp;(try go_bits);try rfl) ?_;simp only[Act.put,tA0,tA1,tA2])
        have ne1:∀{base:Nat} {e:TypeId} {sz m:Nat} {v:Value} {xs:List Value},wf.drew.ownsRow base e sz v m xs→e≠239→v.ownBlock≠some g:=fun h he=>by
         obtain⟨A',n',c',p',hgb,-⟩:=Rf;exact qa3 h hgb he
        have Qb:=(show Blk wf.drew G5 34 _ from Qf).grown gb (by simp;omega);have Cb:OwnC wb w.heap.size (.slice Ac nc cc) T.2.1:=World.ownsRow.kept (show OwnC wf.drew _ _ _ from Cf) gb (.inr (ne1 (show OwnC wf.drew _ _ _ from Cf) (by decide)));have Lb:OwnB wb w.heap.size lv R.leaf:=World.ownsRow.kept (show OwnB wf.drew _ _ _ from Lf) gb (.inr (ne1 (show OwnB wf.drew _ _ _ from Lf) (by decide)));have Fb:OwnF wb w8.heap.size G5 (.slice (some ⟨fbk,fo,none⟩) fl.length cl) fl:=World.ownsRow.kept (show OwnF wf.drew _ _ _ _ from Ff) gb (.inr (ne1 (show OwnF wf.drew _ _ _ _ from Ff) (by decide)));have Zb:=(show Blk wf.drew w.heap.size 34 _ from Zf).grown gb (by simp;omega);have hgw:g<wf.heap.size:=Rf.lt;have BLb:=adv (show Below w.heap.size w wf.drew from BLf.drew) gb (by omega) hgw;have qx:=Qb.cell x;rw[tA3,A8.out]at qx;have fx:=Qb.frozen x;refine qbj rfl rfl ?_;go_simp;refine qbg ?_;have gset:=qab (p:=⟨G5,x,none⟩) (World.grownBy.refl wb (some G5)) (.inl rfl) (.int .u64 (nn:Int));have Qc:=Qb.set_ x (.int .u64 (nn:Int));rw[A2.out]at Qc;obtain⟨Q9',R9',C9',L9',F9',Z9',A1⟩:=zh7 Qc (hbb.kept gset Qb (by decide) (by decide) (by omega)) (show OwnC (wb.setCell ⟨G5,x,none⟩ (.int .u64 (nn:Int))) w.heap.size (.slice Ac nc cc) T.2.1 from World.ownsRow.kept Cb gset (.inr (qa3 Cb Qb (by decide)))) (show OwnB (wb.setCell ⟨G5,x,none⟩ (.int .u64 (nn:Int))) w.heap.size lv R.leaf from World.ownsRow.kept Lb gset (.inr (qa3 Lb Qb (by decide)))) (show OwnF (wb.setCell ⟨G5,x,none⟩ (.int .u64 (nn:Int))) w8.heap.size G5 (.slice (some ⟨fbk,fo,none⟩) fl.length cl) fl from World.ownsRow.kept Fb gset (.inr (qa3 Fb Qb (by decide)))) (Zb.grown gset (by simp;omega)) (adv BLb gset (by omega) Qb.lt);clear Qc hbb Qb Cb Lb Fb Zb BLb gset Rf Qf Cf Lf Ff Zf BLf ff fb ne1 gb qx fx l0 lq k0 kq;obtain⟨-,p2,-,p4,-⟩:=qif R x nn;obtain⟨A9,AA⟩:=zh2 p2 p4;clear p2 p4;go_wp2
        go_roundw
        case rel=>exact⟨j+1,s',R.put x nn,lv,by omega,by go_num,A0.out,hfine.out.put x nn,by rw[A9.out];exact hcav.out,R9'.out,C9'.out,by rw[AA.out];exact L9'.out,F9'.out,Q9'.out,Z9'.out,A1.out⟩
        case measure=>simp[intOf];omega
       have m0:=hcell (j*4+0) _ ((q 0 (by omega)).trans rfl);have m1:=hcell (j*4+1) _ ((q 1 (by omega)).trans rfl);have m2:=hcell (j*4+2) _ ((q 2 (by omega)).trans rfl);have m3:=hcell (j*4+3) _ ((q 3 (by omega)).trans rfl);clear q hcell;simp only[←Nat.add_assoc,Nat.add_zero]at m0 m1 m2 m3;have hstep:=qid bs fl j _ s R _ hgo.out Hx.out rfl;have hlb:=qgj bs s 256 HB.out;have hll:=qi5 bs s 256 HB.out;have RB:=fun w h=>qgk B g bs s 256 w h HB.out (by omega)
       obtain⟨⟨s',lf⟩,hlf⟩:∃x,qgi bs s 256=x:=⟨_,rfl⟩;simp only[hlf]at RB hlb hll hstep;obtain⟨AR,A0,AS,AT⟩:=zh4 RB hstep hlb hll;clear RB hstep hlb hll hlf;go_upto_region 14 with(fail)
       obtain⟨wf,hwf⟩:=eqx (wr.alloc (.cells #[.int .i64 0,.pointer none,.pointer none,.pointer none] 252));have bwf:Below wr.heap.size wr wf:=by rw[hwf];exact(tA5 _ _).alloc (tA4 _) _
       rw[←hwf];have Rf:=hrd.out.below bwf;have Qf:=hq.out.below bwf hq.out.lt;have Cf:=ho.out.kept bwf;have Ff:OwnF wf w8.heap.size G5 (.slice (some ⟨fbk,fo,none⟩) fl.length cl) fl:=OwnF.kept hf.out bwf;have Zf:=hz.out.below bwf hz.out.lt;have BLf:=hbl.out.trans (bwf.mono hbl.out.size);clear hwf bwf hrd hq ho hlo hf hz hbl m0 m1 m2 m3;go_wp2_with fail
       refine(AR.out wf Rf).mono ?_;rintro e wb ⟨vb,rfl,ownb,hbb,gb⟩;obtain⟨Av,nv,cv,rfl,-,-,-⟩:=OwnB.sl ownb;have ne1:∀{base:Nat} {e:TypeId} {sz m:Nat} {v:Value} {xs:List Value},wf.ownsRow base e sz v m xs→e≠239→v.ownBlock≠some g:=fun h he=>by
        obtain⟨A',n',c',p',hgb,-⟩:=Rf;exact qa3 h hgb he
       have Qb:=Qf.grown gb (by simp;omega);have Cb:OwnC wb w.heap.size (.slice Ac nc cc) T.2.1:=World.ownsRow.kept Cf gb (.inr (ne1 Cf (by decide)));have Fb:OwnF wb w8.heap.size G5 (.slice (some ⟨fbk,fo,none⟩) fl.length cl) fl:=World.ownsRow.kept Ff gb (.inr (ne1 Ff (by decide)));have Zb:=Zf.grown gb (by simp;omega);have BLb:=adv BLf gb (by omega) Rf.lt;have Lb:OwnB wb w.heap.size (.slice Av nv cv) lf:=OwnB.mono ownb BLf.size;have qx:=Qb.cell 47;have hq47:(reqv R (.slice Ac nc cc) lv)[47]? =some lv:=(qgu R (.slice Ac nc cc) lv hfine.out.tag 12).trans rfl;rw[tA3,hq47]at qx;have fx:=Qb.frozen 47;have gset:=qab (p:=⟨G5,47,none⟩) (World.grownBy.refl wb (some G5)) (.inl rfl) (.slice Av nv cv);have Qc:=Qb.set_ 47 (.slice Av nv cv);rw[qie R (.slice Ac nc cc) lv (.slice Av nv cv) lf hfine.out.tag]at Qc;obtain⟨Q9',R9',C9',L9',F9',Z9',A1⟩:=zh7 Qc (hbb.kept gset Qb (by decide) (by decide) (by omega)) (show OwnC (wb.setCell ⟨G5,47,none⟩ (.slice Av nv cv)) w.heap.size (.slice Ac nc cc) T.2.1 from World.ownsRow.kept Cb gset (.inr (qa3 Cb Qb (by decide)))) (show OwnB (wb.setCell ⟨G5,47,none⟩ (.slice Av nv cv)) w.heap.size (.slice Av nv cv) lf from World.ownsRow.kept Lb gset (.inr (qa3 Lb Qb (by decide)))) (show OwnF (wb.setCell ⟨G5,47,none⟩ (.slice Av nv cv)) w8.heap.size G5 (.slice (some ⟨fbk,fo,none⟩) fl.length cl) fl from World.ownsRow.kept Fb gset (.inr (qa3 Fb Qb (by decide)))) (Zb.grown gset (by simp;omega)) (adv BLb gset (by omega) Qb.lt);clear Qc hbb Qb Cb Lb Fb Zb BLb gset Rf Qf Cf Ff Zf BLf ne1 gb ownb hq47;go_wp2
       go_roundw
       case rel=>exact⟨j+1,s',{R with leaf:=lf},.slice Av nv cv,by omega,by go_num,A0.out,⟨hfine.out.tag,hfine.out.tagb,hfine.out.tid,hfine.out.cavn,hfine.out.cavl,AS.out,AT.out⟩,hcav.out,R9'.out,C9'.out,L9'.out,F9'.out,Q9'.out,Z9'.out,A1.out⟩
       case measure=>simp[intOf];omega
      have qk:¬(j:Int)<fl.length:=by omega
      have hgo':=hgo.out;rw[List.drop_eq_nil_of_le (by omega)]at hgo';have AU:=zh1 hgo';clear hgo';go_wp2
      go_meet
      case rel=>exact⟨s,R,lv,AU.out,hfine.out,hcav.out,hrd.out,ho.out,hlo.out,hq.out,hz.out,hbl.out⟩
    case rest=>
     obtain⟨s,R,lv,hdone,hfine,hcav,hrd,ho,hlo,hq,hz,hbl⟩:=hcut;clear Ha Oa Fa Qa Ra BLa;have hEc:=(hbl.out.cell (p:=⟨0,0,none⟩) (World.block_lt_of_cell? _ _ HE.out)).trans HE.out;have EC:=zh1 (qgl B g bs s wc hrd.out hEc);have hdef:qi4 bs=match rEnd bs s with
      |none=>(none,R)
      |some x=>(some x,qi3):=by
      unfold qi4;rw[←hdone.out];dsimp only;cases rEnd bs s<;>rfl
     have AB:=zh1 hdef;clear hEc hdef;go_wp2_with fail
     refine EC.out.mono ?_;rintro e wd ⟨er2,rfl,hed,bd⟩;obtain⟨Qd,Zd,Cd,Ld,BLd⟩:=zh5 (hq.out.below bd hq.out.lt) (hz.out.below bd hz.out.lt) (ho.out.kept bd) (hlo.out.kept bd) (hbl.out.trans (bd.mono hbl.out.size));have hsz:=hbl.out.size;clear bd;have lR:=qom R (.slice Ac nc cc) lv hfine.out.tag;cases hend:rEnd bs s with
     |none=>
      rw[hend]at hed;have e0:er2=.nilIface:=hed;subst e0;have A4:Hid (qi4 bs=(none,R)):=by
       show _=_;rw[AB.out,hend]
      obtain⟨Av,nv,cv,rfl,-,-,-⟩:=OwnB.sl Ld.out;have oR:∀u∈reqv R (.slice Ac nc cc) (.slice Av nv cv),u.oneCell'=true:=by
       intro u hu;unfold reqv Req.rest at hu;simp only[List.cons_append,List.mem_cons,List.mem_append,List.not_mem_nil,or_false]at hu;rcases hu with rfl|hu|hu
       · rfl
       · exact qf3 _ _ rfl _ u hu
       rcases hu with rfl|rfl|rfl|rfl|rfl|rfl|rfl|rfl|rfl|rfl|rfl|rfl|rfl<;>rfl
      obtain⟨M,hM⟩:=xeq (reqv R (.slice Ac nc cc) (.slice Av nv cv));rw[hM]at Qd oR lR;obtain⟨RG,IM,IM',LM,OM,EM⟩:=zh6 (qap Qd.out 0 M (fun j u h=>by simpa using h)) (zI 34 lR) (show (Tryz.prog.info? 34).map (·.size)=some M.toArray.size by rw[List.size_toArray,lR];exact Tryz.req_info) lR oR hM;clear lR oR hM hend;go_wp2_with (first
       |(refine qaq rfl 34 (.tmp 5) rfl G5 0 rfl M _ RG.out Tryz.underlying34 rfl IM.out ?_)
       |(refine wpList_store_row rfl 34 (.tmp 2) (.tmp 88) rfl w.heap.size M.toArray rfl rfl 34 _ Zd.out IM'.out (by simp[LM.out]) (by simpa using OM.out) ?_))
      have z:=Zd.out.setRow M.toArray;refine bodyPost_ret (qfu rfl rfl (qoo z LM.out)) rfl ⟨.slice Ac nc cc,.slice Av nv cv,.nilIface,?_,?_,?_,?_,?_⟩
      · rw[A4.out,EM.out]
        rfl
      · rw[A4.out]
        dsimp only;rw[hcav.out];exact World.ownsRow.kept Cd.out (qam _ _ _) (.inr (qa3 Cd.out Zd.out (by decide)))
      · rw[A4.out]
        exact World.ownsRow.kept Ld.out (qam _ _ _) (.inr (qa3 Ld.out Zd.out (by decide)))
      · rw[A4.out]
        rfl
      exact below_setRow BLd.out (tA4 _) _
     |some x=>
      rw[hend]at hed;obtain⟨hh,rfl,hhB,hkb⟩:=hed;have A4:Hid (qi4 bs=(some x,qi3)):=by
       show _=_;rw[AB.out,hend]
      have HK:=zh1 hkb;clear hend hkb lR;go_wp2_with (first
       |(refine qbk rfl ⟨.agg qop.toArray,qfq 34 _ rfl _ _ qos (by simp[Act.eval]),?_⟩)
       |(refine wpList_store_row rfl 34 (.tmp 2) (.tmp 86) rfl w.heap.size qop.toArray rfl rfl 34 _ Zd.out qoq rfl qor ?_))
      have z:=Zd.out.setRow qop.toArray;have hne:hh≠w.heap.size:=by
       have h1:=hz.out.lt;omega
      refine bodyPost_ret (qfu rfl rfl (qoo z rfl)) rfl ⟨.slice none 0 0,.slice none 0 0,.iface 237 (.pointer (some ⟨hh,0,none⟩)),?_,?_,?_,?_,?_⟩
      · rw[A4.out]
        rfl
      · rw[A4.out]
        exact OwnC.nil _ _
      · rw[A4.out]
        exact OwnB.nil _ _
      · rw[A4.out]
        exact⟨hh,rfl,Nat.le_trans hsz hhB,HK.out.setRow_far hne _⟩
      exact below_setRow BLd.out (tA4 _) _
end
section
open Go.RowKit
theorem Tryz.digs_info:(Tryz.prog.info? 29).map (fun i=>(i.zero,i.size,i.bytes))=some (some (.agg zLD),32,32):=by kernel_rfl
def OwnD (w:World)(base:Nat)(v:Value)(l:List (List Nat)):Prop:=(∀d∈l,d.length=32)∧w.ownsRow base 29 32 v l.length (digv l)
theorem qou (l:List (List Nat)):∀u∈digv l,u.oneCell'=true:=by
 intro u hu;unfold digv at hu;obtain⟨x,_,hx⟩:=List.mem_flatMap.1 hu;exact qau x u hx
theorem qov (a b:List (List Nat)):digv (a++b)=digv a++digv b:=by simp[digv]
section
variable {w w' : World} {base : Nat} {v : Value} {l : List (List Nat)}
theorem OwnD.nil (w:World)(base:Nat):OwnD w base (.slice none 0 0) []:=⟨fun d hd=>(nomatch hd),World.ownsRow_nil ..⟩
theorem OwnD.sl (h:OwnD w base v l):∃A n c,v=.slice A n c∧n=l.length∧n≤c∧c≤maxLen∧Reads w w.heap.size 32 A n (digv l):=by
 obtain⟨A,c,h1,h2,h3,h4⟩:=qaf h.2;exact⟨A,_,c,h1,rfl,h2,h3,h4⟩
theorem OwnD.kept (h:OwnD w base v l)(hb:Below w.heap.size w w'):OwnD w' base v l:=
 ⟨h.1,World.ownsRow.kept h.2 ⟨hb.os,hb.tape,hb.output,hb.size,fun k hk _=>hb.block k hk⟩ (row:=none) (by cases v.ownBlock<;>simp)⟩
theorem OwnD.alloc (h:OwnD w base v l)(o:Obj):OwnD (w.alloc o) base v l:=h.kept ((tA5 _ _).alloc (tA4 _) o)
theorem OwnD.grown {g:Nat}{t:TypeId}{cs:Array Value}(h:OwnD w base v l)(hg:w.grownBy w' (some g))(hb:Blk w g t cs)(ht:29≠t):OwnD w' base v l:=
 ⟨h.1,World.ownsRow.kept h.2 hg (.inr (qa3 h.2 hb ht))⟩
end
theorem qow {w:World}{o:Oper}{a:Act}{K:Act→World→Prop}{Q:Exit→Act→World→Prop}(s x:Operand)
 (ho:o.op=.call {callee:=.builtin .append,args:=#[s,x],argTypes:=#[51,51]})
 (base:Nat)(v:Value)(l:List (List Nat))(hs:a.eval s=v)(hown:OwnD w base v l)(A:Option Addr)(m c:Nat)(news:List (List Nat))(hx:a.eval x=.slice A m c)(hm:news.length=m)(hnl:∀d∈news,d.length=32)(hr:Reads w w.heap.size 32 A m (digv news))
 (hlen:l.length+m≤4398046511104)(hbase:base≤w.heap.size)
 (h:∀v' w',OwnD w' base v' (l++news)→Below base w w'→w.grownBy w' v.ownBlock→K (a.put o.dst v') w'):o.wp Tryz.prog a w K Q:=by
 obtain⟨i0,hi0,hz0,hz1,hz2⟩:=info_parts Tryz.digs_info;refine qa6 (P:=Tryz.prog) w s x _ ho base 29 i0 _ 32 32 Tryz.underlying51 hi0 hz0 hz1 hz2 rfl (by omega) v l.length (digv l) hs hown.2 w.heap.size A m c (digv news) hx hr (qou _) (by simp only[maxLen];omega) (by omega) hbase ?_;intro v' w' h1 h2 h3;refine h v' w' ?_ ?_ h2
 ·
  refine⟨fun d hd=>?_,?_⟩
  · rcases List.mem_append.1 hd with hd|hd
    · exact hown.1 d hd
    exact hnl d hd
  rw[qov,tA6,hm];exact h1
 exact qae (tA5 _ _) hown.2 h2 (tA4 _) hbase
structure RspAt (w0 w:World)(G:Nat)(R:Rsp)(bv hv cav:Value):Prop where
 q:Blk w G 57 (rspv R bv hv cav).toArray
 bo:OwnB w w0.heap.size bv R.bytes
 ho:OwnD w w0.heap.size hv R.hashes
 co:OwnC w w0.heap.size cav R.tok.2.1
 z:Blk w w0.heap.size 57 Tryz.zeroCells57
 bl:Below w0.heap.size w0 w
section
variable {w0 w w' : World} {G : Nat} {R : Rsp} {bv hv cav : Value}
theorem RspAt.grown {g:Nat}{t:TypeId}{cs:Array Value}(h:RspAt w0 w G R bv hv cav)(hg:w.grownBy w' (some g))(hb:Blk w g t cs)(h1:5≠t)(h2:29≠t)(h3:132≠t)(hne:G≠g)(hlt:w0.heap.size<g):RspAt w0 w' G R bv hv cav:=
 ⟨h.q.grown hg (fun e=>hne (by injection e)),World.ownsRow.kept h.bo hg (.inr (qa3 h.bo hb h1)),h.ho.grown hg hb h2,World.ownsRow.kept h.co hg (.inr (qa3 h.co hb h3)),h.z.grown hg (fun e=>by injection e;omega),adv h.bl hg (by omega) hb.lt⟩
theorem RspAt.below (h:RspAt w0 w G R bv hv cav)(hb:Below w.heap.size w w'):RspAt w0 w' G R bv hv cav:=
 ⟨h.q.below hb h.q.lt,h.bo.kept hb,h.ho.kept hb,h.co.kept hb,h.z.below hb h.z.lt,h.bl.trans (hb.mono h.bl.size)⟩
theorem RspAt.drew (h:RspAt w0 w G R bv hv cav):RspAt w0 w.drew G R bv hv cav:=h.below (tA5 _ _).drew
theorem RspAt.laid {R':Rsp}{bv' hv' cav':Value}(o:Nat)(cs:List Value)(hG:w0.heap.size<G)(h:RspAt w0 w G R bv hv cav)(hl:o+cs.length≤(rspv R bv hv cav).length)(e:(rspv R bv hv cav).take o++(cs++(rspv R bv hv cav).drop (o+cs.length))=rspv R' bv' hv' cav')
 (b:OwnB w w0.heap.size bv' R'.bytes)(d:OwnD w w0.heap.size hv' R'.hashes)(c:OwnC w w0.heap.size cav' R'.tok.2.1):RspAt w0 (w.setCells G o cs) G R' bv' hv' cav':=by
 have gs:=qf4 G cs o w;refine⟨?_,World.ownsRow.kept b gs (.inr (qa3 b h.q (by decide))),d.grown gs h.q (by decide),World.ownsRow.kept c gs (.inr (qa3 c h.q (by decide))),h.z.grown gs (fun e=>by injection e;omega),adv h.bl gs (by omega) h.q.lt⟩;rw[←e];exact Blk.setCells cs o w _ h.q hl
end
theorem qox (R:Rsp)(bv hv cav hv':Value)(l:List (List Nat)):(rspv R bv hv cav).toArray.setIfInBounds 3 hv'=(rspv {R with hashes:=l} bv hv' cav).toArray:=by simp[rspv]
theorem qoy (R:Rsp)(bv hv cav:Value)(h:Hd)(h1:(hdv R.hd).length=68)(h2:(hdv h).length=68):(rspv R bv hv cav).take 4++(hdv h++(rspv R bv hv cav).drop (4+(hdv h).length))=rspv {R with hd:=h} bv hv cav:=by
 rw[h2];have e:(rspv R bv hv cav).drop (4+68)=tokv R.tok.1 cav R.tok.2.2:=by
  unfold rspv;show (hdv R.hd++tokv R.tok.1 cav R.tok.2.2).drop 68=_;exact List.drop_left' h1
 rw[e];simp[rspv]
theorem qoz (R:Rsp)(bv hv cav:Value)(t:Tok)(cav':Value)(h1:(hdv R.hd).length=68)(h2:R.tok.2.2.length=32)(h3:t.2.2.length=32):(rspv R bv hv cav).take 72++(tokv t.1 cav' t.2.2++(rspv R bv hv cav).drop (72+(tokv t.1 cav' t.2.2).length))=rspv {R with tok:=t} bv hv cav':=by
 rw[qer _ _ _ h3];have e:(rspv R bv hv cav).drop (72+34)=[]:=List.drop_eq_nil_of_le (by
  unfold rspv;simp only[List.length_cons,tA6,h1,qer _ _ _ h2];omega)
 have e2:(rspv R bv hv cav).take 72=.int .i64 R.why::.int .u64 (R.n:Int)::bv::hv::hdv R.hd:=by
  unfold rspv;show .int .i64 R.why::.int .u64 (R.n:Int)::bv::hv::(hdv R.hd++tokv R.tok.1 cav R.tok.2.2).take 68=_;rw[List.take_left' h1]
 rw[e,e2];simp[rspv]
theorem qp0 (R:Rsp)(bv hv cav:Value)(h1:(hdv R.hd).length=68)(h2:R.tok.2.2.length=32):(rspv R bv hv cav).length=106:=by
 unfold rspv;simp only[List.length_cons,tA6,h1,qer _ _ _ h2]
theorem qp1 (R:Rsp)(bv hv cav:Value)(h1:bv.oneCell'=true)(h2:hv.oneCell'=true)(h3:cav.oneCell'=true):∀u∈rspv R bv hv cav,u.oneCell'=true:=by
 intro u hu;unfold rspv at hu;simp only[List.mem_cons,List.mem_append]at hu;rcases hu with rfl|rfl|rfl|rfl|hu|hu
 · rfl
 · rfl
 · exact h1
 · exact h2
 · exact qlm _ u hu
 exact qf3 _ _ h3 _ u hu
theorem qp2 (y n:Int)(A:Option Addr)(m c:Nat):Tryz.prog.built 57 [(0,.int .i64 y),(1,.int .u64 n),(2,.slice A m c)]=some (Value.int .i64 y::.int .u64 n::.slice A m c::.slice none 0 0::(hdv Hd.zero++tokv qft.1 (.slice none 0 0) qft.2.2)).toArray:=by kernel_rfl
theorem qp3:Tryz.prog.built 57 []=some (rspv qih (.slice none 0 0) (.slice none 0 0) (.slice none 0 0)).toArray:=by kernel_rfl
theorem qp4 {w:World}{g:Nat}{L:List Value}(h:Blk w g 57 L.toArray)(hl:L.length=106):(loadVar 57 ⟨g,0,none⟩).run Tryz.prog w=.ok (.agg L.toArray) w:=
 run_loadVar_mid _ _ 0 _ L _ (qap h 0 L (fun j u h=>by simpa using h)) Tryz.underlying57 rfl (by rw[hl];exact Tryz.rsp_info)
theorem qp5 (n:Nat)(hn:n≤255):bits .and .u64 (n:Int) 1=((n % 2:Nat):Int):=by
 have:∀n:Fin 256,bits .and .u64 (n.val:Int) 1=((n.val % 2:Nat):Int):=by decide+kernel
 exact this ⟨n,by omega⟩
theorem qp6 (n:Nat)(hn:n≤255):bits .and .u64 (n:Int) 2=((n / 2 % 2*2:Nat):Int):=by
 have:∀n:Fin 256,bits .and .u64 (n.val:Int) 2=((n.val / 2 % 2*2:Nat):Int):=by decide+kernel
 exact this ⟨n,by omega⟩
end
section
open Go
theorem qq6 {P:Program}{Q:Exit→Act→World→Prop}{S:World→Prop}{n:Nat}{l:List Oper}{i:Nat}{r:List (Nat × Bool)}{a:Act}{w:World}{o:Oper}(hi:nth l i=some o)(hw:Region.wanted o (yielded l.toArray a.tmps)=false)
 (h:S w∧qba P l.toArray Q S n r (a.put o.dst undef) w):qba P l.toArray Q S n ((i,true)::r) a w:=by
 show wpOp P l.toArray Q i _ a w;unfold wpOp;simp only[(qb9 l i).symm.trans hi,hw,Bool.false_eq_true,if_false];exact⟨fun _=>h.1,h.2⟩
end
section
open Go.RowKit
theorem qqp (V:List Value)(n:Nat)(hn:V.length=n)(hp:0<n)(cells:Array Value)(hc:cells.size=n):Instr.fill (fun i=>some (i*n,n)) cells [(0,.agg V.toArray)]=some V.toArray:=by
 obtain⟨r,h1,h2,h3⟩:=Great.fill_dense hp [.agg V.toArray] 0 cells (fun v hv=>by obtain rfl:=List.mem_singleton.1 hv;simp[Value.cells,hn]) (by simp[hc]);have e:r=V.toArray:=by
  refine Array.ext_getElem? fun k=>?_
  rw[h3 k];by_cases hk:k<n
  · rw[if_pos ⟨by omega,by simpa using hk⟩]
    have hd:k / n=0:=Nat.div_eq_of_lt hk;have hm:k % n=k:=Nat.mod_eq_of_lt hk;rw[hd,hm];simp[Value.cells]
  rw[if_neg (by simp;omega)];rw[Array.getElem?_eq_none (by omega)];simp;omega
 rw[e]at h1;exact h1
theorem qqq {P:Program}{o:Oper}{a:Act}{w:World}{K:Act→World→Prop}{Q:Exit→Act→World→Prop}(t e:TypeId)(x:Operand)(ho:o.op=.buildSlice t 1 #[(0,x)])
 (V:List Value)(hx:a.eval x=.agg V.toArray)(i:TypeInfo)(z:Value)(n:Nat)(hu:P.underlying t=some (.slice e))(hie:P.info? e=some i)(hz:i.zero=some z)(hs:i.size=n)(hzs:z.cells.size=n)(hV:V.length=n)(hp:0<n)(hsm:n≤1000)
 (h:K (a.put o.dst (.slice (some ⟨w.heap.size,0,none⟩) 1 1)) (w.alloc (.cells V.toArray e))):o.wp P a w K Q:=by
 refine wp_buildSlice t e 1 #[(0,x)] ho V.toArray i z hu hie hz (by rw[hs];omega) (by rw[hs];omega) ?_ h;rw[hs];simp only[List.map_toArray,List.map_cons,List.map_nil,hx];exact qqp V n hV hp _ (by simp)
theorem qqr {o:Oper}{a:Act}{w:World}{K:Act→World→Prop}{Q:Exit→Act→World→Prop}(x:Operand)(ho:o.op=.buildSlice 51 1 #[(0,x)])
 (d:List Nat)(hd:d.length=32)(hx:a.eval x=.agg (byv d).toArray)
 (h:K (a.put o.dst (.slice (some ⟨w.heap.size,0,none⟩) 1 1)) (w.alloc (.cells (byv d).toArray 29))):o.wp Tryz.prog a w K Q:=by
 obtain⟨i0,hi0,hz0,hz1,hz2⟩:=info_parts Tryz.digs_info;exact qqq _ 29 x ho (byv d) hx i0 _ 32 Tryz.underlying51 hi0 hz0 hz1 rfl (by rw[qat,hd]) (by decide) (by decide) h
theorem Rd.grownD {w w':World}{B g base:Nat}{bs:List Nat}{s:RSt}{v:Value}{l:List (List Nat)}(h:Rd w B g bs s)(ho:OwnD w base v l)(hg:w.grownBy w' v.ownBlock):Rd w' B g bs s:=by
 rcases ho.2.2 with⟨rfl,_⟩|⟨q,cap,cur,rfl,_,hh,_⟩
 · exact h.below ⟨hg.os,hg.tape,hg.output,hg.size,fun k hk=>hg.block k hk (by simp[Value.ownBlock])⟩
 obtain⟨A,n,c,p,hgb,-⟩:=id h;exact h.kept (k:=q) (by simpa [Value.ownBlock] using hg) (show Blk w q 29 cur from hh) (by decide) (by decide) (hgb.ne_ (show Blk w q 29 cur from hh) (by decide))
theorem qqs (d:List Nat):digv [d]=byv d:=by simp[digv]
theorem qqt (w:World)(d:List Nat)(hd:d.length=32):Reads (w.alloc (.cells (byv d).toArray 29)) (w.alloc (.cells (byv d).toArray 29)).heap.size 32 (some ⟨w.heap.size,0,none⟩) 1 (digv [d]):=by
 have:=Reads.new w 29 (byv d) 32 1 (by rw[qat,hd]);rw[qar,qqs];exact this
theorem qqu {w:World}{b b':Nat}{e e':TypeId}{s s' n n':Nat}{v v':Value}{xs ys:List Value}(h:w.ownsRow b e s v n xs)(h':w.ownsRow b' e' s' v' n' ys)(hne:e≠e'):v.ownBlock=none∨v.ownBlock≠v'.ownBlock:=by
 rcases h.2 with⟨rfl,_⟩|⟨g,cap,cur,rfl,_,hg,_⟩
 · exact .inl rfl
 rcases h'.2 with⟨rfl,_⟩|⟨g',cap',cur',rfl,_,hg',_⟩
 · exact .inr (by simp[Value.ownBlock])
 refine .inr fun q=>hne ?_
 simp only[Value.ownBlock,Option.some.injEq]at q;subst q;rw[hg]at hg';simp only[Option.some.injEq,Obj.cells.injEq]at hg';exact hg'.2.1
end
section
open Go.RowKit Go.Extern.Stop Go.Stop Go.Extern
theorem qrs (t:Value)(w:World):
 Calls Tryz.prog 126 #[.nilIface,t] w fun e w'=>e=.returned (.bool false)∧w'=w:=by
 go_enter Tryz.func126,Tryz.ntmps126
 go_wp2
 go_ret
 exact⟨rfl,rfl⟩
theorem AsP.valueOf27 (t:Addr)(w:World):(ReflectliteValue.unpack (.iface 222 (.pointer (some t)))).run Tryz.prog w
 =.ok (.agg #[.pointer (some ⟨3,222,none⟩),.pointer (some ⟨w.heap.size,0,none⟩),.int .u64 150]) (w.alloc (.cells #[.pointer (some t)] 222)):=by kernel_rfl
theorem AsP.type27 (a:Addr)(w:World):(ReflectliteValue.methodAny (ReflectliteValue.valueError "reflectlite.Value.Type" 0) (fun t _ _ _=>ReflectliteType.toType t) #[.agg #[.pointer (some ⟨3,222,none⟩),.pointer (some a),.int .u64 150]]).run Tryz.prog w
 =.ok (.iface 327 (.agg #[.pointer (some ⟨3,222,none⟩)])) w:=by kernel_rfl
theorem AsP.methodKind (h:Value)(w:World):(Go.method 495 327 (.agg #[h]) "Kind").run Tryz.prog w=.ok (280,h) w:=by kernel_rfl
theorem AsP.kind27 (w:World):((ReflectliteType.abiMethod fun t=>(fun a:Nat=>Value.int IntKind.u8 (a:Int))<$>Rtype.kind t) #[.pointer (some ⟨3,222,none⟩)]).run Tryz.prog w=.ok (.int .u8 22) w:=by kernel_rfl
theorem AsP.kind25 (w:World):((ReflectliteType.abiMethod fun t=>(fun a:Nat=>Value.int IntKind.u8 (a:Int))<$>Rtype.kind t) #[.pointer (some ⟨3,218,none⟩)]).run Tryz.prog w=.ok (.int .u8 22) w:=by kernel_rfl
theorem qrt (z:Sem Value)(f:TypeId→Addr→Nat→Nat→Sem Value)(v:Value):
 ReflectliteValue.method z f #[v]=(do match ←ReflectliteValue.parts v with|none=>z|some (t,a,fl)=>f t a fl (fl % 32)):=rfl
theorem AsP.parts27 (a:Addr)(w:World):(ReflectliteValue.parts (.agg #[.pointer (some ⟨3,222,none⟩),.pointer (some a),.int .u64 150])).run Tryz.prog w=.ok (some (222,a,150)) w:=by kernel_rfl
theorem AsP.isNil27 (a p:Addr)(W:World)(ha:W.cell? a=some (.pointer (some p))):
 (ReflectliteValue.method (ReflectliteValue.valueError "reflectlite.Value.IsNil" 0) ReflectliteValue.isNil #[.agg #[.pointer (some ⟨3,222,none⟩),.pointer (some a),.int .u64 150]]).run Tryz.prog W=.ok (.bool false) W:=by
 rw[qrt];simp only[Sem.run_bind,AsP.parts27,Result.andThen];simp[ReflectliteValue.isNil,loadVar,isAgg,underlying,Tryz.underlying222,ha,Result.andThen]
theorem AsP.methodElem (h:Value)(w:World):(Go.method 495 327 (.agg #[h]) "Elem").run Tryz.prog w=.ok (294,.agg #[h]) w:=by kernel_rfl
theorem AsP.methodImplements (h:Value)(w:World):(Go.method 495 327 (.agg #[h]) "Implements").run Tryz.prog w=.ok (295,.agg #[h]) w:=by kernel_rfl
theorem AsP.methodAssignableTo (h:Value)(w:World):(Go.method 495 327 (.agg #[h]) "AssignableTo").run Tryz.prog w=.ok (292,.agg #[h]) w:=by kernel_rfl
theorem AsP.elem27 (w:World):(ReflectliteType.method ReflectliteType.elem #[.agg #[.pointer (some ⟨3,222,none⟩)]]).run Tryz.prog w=.ok (.iface 327 (.agg #[.pointer (some ⟨3,218,none⟩)])) w:=by kernel_rfl
theorem AsP.implements25 (w:World):(ReflectliteType.relation "Implements" ReflectliteType.implements_ #[.agg #[.pointer (some ⟨3,218,none⟩)],.iface 327 (.agg #[.pointer (some ⟨3,81,none⟩)])]).run Tryz.prog w=.ok (.bool true) w:=by kernel_rfl
theorem AsP.typeOf25 (v:Value)(w:World):(ReflectliteType.typeOf #[.iface 218 v]).run Tryz.prog w=.ok (.iface 327 (.agg #[.pointer (some ⟨3,218,none⟩)])) w:=by kernel_rfl
theorem AsP.assignable25 (w:World):(ReflectliteType.relation "AssignableTo" ReflectliteType.assignableTo #[.agg #[.pointer (some ⟨3,218,none⟩)],.iface 327 (.agg #[.pointer (some ⟨3,218,none⟩)])]).run Tryz.prog w=.ok (.bool true) w:=by kernel_rfl
theorem AsP.valueOf25 (e:Addr)(w:World):(ReflectliteValue.unpack (.iface 218 (.pointer (some e)))).run Tryz.prog w
 =.ok (.agg #[.pointer (some ⟨3,218,none⟩),.pointer (some ⟨w.heap.size,0,none⟩),.int .u64 150]) (w.alloc (.cells #[.pointer (some e)] 218)):=by kernel_rfl
theorem AsP.elemOf27 (w:World):(Rtype.elem? 222).run Tryz.prog w=.ok (some 218) w:=by kernel_rfl
theorem AsP.mk25 (p:Addr)(w:World):(ReflectliteValue.mk 218 p ReflectliteValue.flagAddr).run Tryz.prog w=.ok (.agg #[.pointer (some ⟨3,218,none⟩),.pointer (some p),.int .u64 406]) w:=by kernel_rfl
theorem AsP.elemV27 (a p:Addr)(W:World)(ha:W.cell? a=some (.pointer (some p))):
 (ReflectliteValue.method (ReflectliteValue.valueError "reflectlite.Value.Elem" 0) ReflectliteValue.elem #[.agg #[.pointer (some ⟨3,222,none⟩),.pointer (some a),.int .u64 150]]).run Tryz.prog W
  =.ok (.agg #[.pointer (some ⟨3,218,none⟩),.pointer (some p),.int .u64 406]) W:=by
 rw[qrt];simp only[Sem.run_bind,AsP.parts27,Result.andThen];simp[ReflectliteValue.elem,loadVar,isAgg,underlying,Tryz.underlying222,ha,Result.andThen,AsP.elemOf27,AsP.mk25]
theorem qru (v x:Value):ReflectliteValue.set #[v,x]=(do
 let (some (dst,a,fl),some (src,b,_)):=(←ReflectliteValue.parts v,←ReflectliteValue.parts x)
  |unsupported (.noEntry "extern/(internal/reflectlite.Value).Set.zeroValue")
 if fl / ReflectliteValue.flagAddr % 2==0 then unsupported (.noEntry "extern/(internal/reflectlite.Value).Set.unaddressable")
 let val ←loadVar src b
 if ←Rtype.directlyAssignable dst src then storeVar dst a val
 else if ←Rtype.implements dst src then
  if (←Rtype.kind src)==20 then
   match val with
   |.nilIface=>unsupported (.noEntry "extern/reflectlite: a nil value of one interface type handed on as a value of another")
   |_=>storeVar dst a val
  else storeVar dst a (.iface src val)
 else panicString ("reflectlite.Set: value of type "++(←Rtype.spelt src)++ " is not assignable to type "++(←Rtype.spelt dst))
 pure (.tuple #[])):=rfl
theorem AsP.parts25a (a:Addr)(w:World):(ReflectliteValue.parts (.agg #[.pointer (some ⟨3,218,none⟩),.pointer (some a),.int .u64 406])).run Tryz.prog w=.ok (some (218,a,406)) w:=by kernel_rfl
theorem AsP.parts25 (a:Addr)(w:World):(ReflectliteValue.parts (.agg #[.pointer (some ⟨3,218,none⟩),.pointer (some a),.int .u64 150])).run Tryz.prog w=.ok (some (218,a,150)) w:=by kernel_rfl
theorem AsP.direct25 (w:World):(Rtype.directlyAssignable 218 218).run Tryz.prog w=.ok true w:=by kernel_rfl
theorem AsP.set25 (ta b e:Addr)(old:Value)(W:World)(hb:W.cell? b=some (.pointer (some e)))(ht:W.cell? ta=some old)(hf:W.frozen? ta=false):
 (ReflectliteValue.set #[.agg #[.pointer (some ⟨3,218,none⟩),.pointer (some ta),.int .u64 406],.agg #[.pointer (some ⟨3,218,none⟩),.pointer (some b),.int .u64 150]]).run Tryz.prog W
  =.ok (.tuple #[]) (W.setCell ta (.pointer (some e))):=by
 rw[qru];simp only[Sem.run_bind,AsP.parts25a,AsP.parts25,Result.andThen];simp[ReflectliteValue.flagAddr,loadVar,isAgg,underlying,Tryz.underlying218,hb,Result.andThen,AsP.direct25,storeVar,Value.cells,storeCells,Addr.add];rw[run_store Tryz.prog W ta _ _ (by rfl)];simp[ht,hf]
theorem qrv (e t:Addr)(old:Value)(w:World)(hg:w.cell? ⟨0,0,none⟩=some (.iface 327 (.agg #[.pointer (some ⟨3,81,none⟩)])))(ht0:w.cell? t=some old)(hf0:w.frozen? t=false):
 Calls Tryz.prog 126 #[.iface 218 (.pointer (some e)),.iface 222 (.pointer (some t))] w fun ev w'=>ev=.returned (.bool true)∧w'=((((w.alloc (.cells #[.pointer (some t)] 222)).alloc (.cells #[.pointer (some ⟨3,222,none⟩),.pointer (some ⟨w.heap.size,0,none⟩),.int .u64 150] 284)).alloc (.cells #[.pointer (some ⟨3,222,none⟩),.pointer (some ⟨w.heap.size,0,none⟩),.int .u64 150] 284)).alloc (.cells #[.pointer (some e)] 218)).setCell t (.pointer (some e)):=by
 have h6:=@run_callFunc_extern Tryz.prog 181 _ (fun args=>ReflectliteValue.unpack (args.getD 0 (.tuple #[]))) Tryz.func181 (by kernel_rfl) (by kernel_rfl) (by kernel_rfl) (by kernel_rfl);have h7:=@run_callFunc_extern Tryz.prog 182 _ (ReflectliteValue.methodAny (ReflectliteValue.valueError "reflectlite.Value.Type" 0) (fun t _ _ _=>ReflectliteType.toType t)) Tryz.func182 (by kernel_rfl) (by kernel_rfl) (by kernel_rfl) (by kernel_rfl);have h8:=@run_callFunc_extern Tryz.prog 183 _ (ReflectliteValue.method (ReflectliteValue.valueError "reflectlite.Value.IsNil" 0) ReflectliteValue.isNil) Tryz.func183 (by kernel_rfl) (by kernel_rfl) (by kernel_rfl) (by kernel_rfl);have h27:=@run_callFunc_extern Tryz.prog 280 _ (ReflectliteType.abiMethod fun t=>do pure (.int .u8 (←Rtype.kind t))) Tryz.func280 (by kernel_rfl) (by kernel_rfl) (by kernel_rfl) (by kernel_rfl);have h37:=@run_callFunc_extern Tryz.prog 294 _ (ReflectliteType.method ReflectliteType.elem) Tryz.func294 (by kernel_rfl) (by kernel_rfl) (by kernel_rfl) (by kernel_rfl);have h38:=@run_callFunc_extern Tryz.prog 295 _ (ReflectliteType.relation "Implements" ReflectliteType.implements_) Tryz.func295 (by kernel_rfl) (by kernel_rfl) (by kernel_rfl) (by kernel_rfl);have h10:=@run_callFunc_extern Tryz.prog 221 _ ReflectliteType.typeOf Tryz.func221 (by kernel_rfl) (by kernel_rfl) (by kernel_rfl) (by kernel_rfl);have h35:=@run_callFunc_extern Tryz.prog 292 _ (ReflectliteType.relation "AssignableTo" ReflectliteType.assignableTo) Tryz.func292 (by kernel_rfl) (by kernel_rfl) (by kernel_rfl) (by kernel_rfl);have h11:=@run_callFunc_extern Tryz.prog 222 _ (ReflectliteValue.method (ReflectliteValue.valueError "reflectlite.Value.Elem" 0) ReflectliteValue.elem) Tryz.func222 (by kernel_rfl) (by kernel_rfl) (by kernel_rfl) (by kernel_rfl);have h12:=@run_callFunc_extern Tryz.prog 223 _ ReflectliteValue.set Tryz.func223 (by kernel_rfl) (by kernel_rfl) (by kernel_rfl) (by kernel_rfl);have tO:=AsP.typeOf25;have mA:=AsP.methodAssignableTo;have a25:=AsP.assignable25;have v25:=AsP.valueOf25;have f6:=AsP.valueOf27;have f7:=AsP.type27;have mK:=AsP.methodKind;have mE:=AsP.methodElem;have mI:=AsP.methodImplements;have k27:=AsP.kind27;have k25:=AsP.kind25;have e27:=AsP.elem27;have i25:=AsP.implements25;have n8:=AsP.isNil27 ⟨w.heap.size,0,none⟩ t ((w.alloc (.cells #[.pointer (some t)] 222)).alloc (.cells #[.pointer (some ⟨3,222,none⟩),.pointer (some ⟨w.heap.size,0,none⟩),.int .u64 150] 284)) (by simp);have hlt:0<w.heap.size:=by
  rcases Nat.eq_zero_or_pos w.heap.size with h0|h
  · simp[World.cell?,h0]at hg
  exact h
 have hg2:((w.alloc (.cells #[.pointer (some t)] 222)).alloc (.cells #[.pointer (some ⟨3,222,none⟩),.pointer (some ⟨w.heap.size,0,none⟩),.int .u64 150] 284)).cell? ⟨0,0,none⟩=some (.iface 327 (.agg #[.pointer (some ⟨3,81,none⟩)])):=by
  rw[World.cell?_alloc_lt _ _ ⟨0,0,none⟩ (by simp),World.cell?_alloc_lt _ _ ⟨0,0,none⟩ hlt];exact hg
 have htl:t.block<w.heap.size:=by
  rcases Nat.lt_or_ge t.block w.heap.size with h|h
  · exact h
  simp[World.cell?,Array.getElem?_eq_none h]at ht0
 have el:=AsP.elemV27 ⟨w.heap.size,0,none⟩ t (((w.alloc (.cells #[.pointer (some t)] 222)).alloc (.cells #[.pointer (some ⟨3,222,none⟩),.pointer (some ⟨w.heap.size,0,none⟩),.int .u64 150] 284)).alloc (.cells #[.pointer (some ⟨3,222,none⟩),.pointer (some ⟨w.heap.size,0,none⟩),.int .u64 150] 284)) (by rw[World.cell?_alloc_lt _ _ ⟨w.heap.size,0,none⟩ (by simp;omega)];simp);have st:=AsP.set25 t ⟨w.heap.size+1+1+1,0,none⟩ e old ((((w.alloc (.cells #[.pointer (some t)] 222)).alloc (.cells #[.pointer (some ⟨3,222,none⟩),.pointer (some ⟨w.heap.size,0,none⟩),.int .u64 150] 284)).alloc (.cells #[.pointer (some ⟨3,222,none⟩),.pointer (some ⟨w.heap.size,0,none⟩),.int .u64 150] 284)).alloc (.cells #[.pointer (some e)] 218))
  (by rw[World.cell?_alloc_at _ _ _ _ (by simp)];rfl)
  (by rw[World.cell?_alloc_lt _ _ t (by simp;omega),World.cell?_alloc_lt _ _ t (by simp;omega),World.cell?_alloc_lt _ _ t (by simp;omega),World.cell?_alloc_lt _ _ t htl];exact ht0)
  (by rw[World.frozen?_alloc_old _ _ t (by simp;omega),World.frozen?_alloc_old _ _ t (by simp;omega),World.frozen?_alloc_old _ _ t (by simp;omega),World.frozen?_alloc_old _ _ t (Nat.ne_of_lt htl)];exact hf0)
 go_enter Tryz.func126,Tryz.ntmps126
 go_wp2
 refine wp_loop_rounds 1 ?_;rw[rounds_succ];go_wp2
 go_ret
 exact⟨rfl,rfl⟩
end
section
open Go.RowKit
theorem qv6 (A:Option Addr)(n c:Nat)(w:World)(hc:n≤c)(hn:(n:Int)≤9223372036854775807):
 Calls Tryz.prog 64 #[.slice A n c] w fun e w'=>e=.returned (.slice A n n)∧w=w':=by
 have hc':(n:Int)≤c:=by omega
 go_enter Tryz.func64,Tryz.ntmps64
 go_wp2_with fail
 go_ret
 exact⟨rfl,rfl⟩
end
end Go.Proofs.YthomgopipiomhaaGreatDoor

/- Lemmas. -/
import Derived.Test.YthomgopipiomhaaGreatDoorBMR03
namespace Go.Proofs.YthomgopipiomhaaGreatDoor
open Go.RowKit
set_option linter.unusedVariables false
set_option linter.unusedSimpArgs false
set_option maxRecDepth 100000
set_option maxHeartbeats 32000000
variable {v cv' bv' hv' cav' v' vi vo vi' vo':Value}{base g j fb fo i n B n' b b' k ai bk oj y p f id:Nat}{w w':World}{Q:Exit→Act→World→Prop}{K:Act→World→Prop}{a:Act}{o oi:Oper}{R':Rsp}{l rest:List Oper}{P:Program}{bs o0 out:List Nat}{xs:List Value}{e e':TypeId}{A:Option Addr}
theorem qq4(R:Req)(cav leafv:Value)(ht:R.tag.length=32):(reqv R cav leafv).length=48:=by
 unfold reqv;rw[tA6,tBi,qdg _ _ _ ht];rfl
def OwnF (w:World)(base g:Nat)(v:Value)(l:List Fld):Prop:=w.ownsRow base 252 4 v l.length (qdn g l)
theorem OwnF.sl{l:List Fld}(h:w.ownsRow base 252 4 v l.length (qdn g l)):∃A n c,v=.slice A n c∧n=l.length∧n≤c∧c≤maxLen∧Reads w w.heap.size 4 A n (qdn g l):=by
 obtain⟨A,c,h1,h2,h3,h4⟩:=qaf h;exact⟨A,_,c,h1,rfl,h2,h3,h4⟩
theorem OwnF.kept{l:List Fld}(h:OwnF w base g v l)(hb:Zb w w'):OwnF w' base g v l:=
 tB3 h ⟨hb.os,hb.tape,hb.output,hb.size,fun k hk _=>hb.block k hk⟩ (row:=none) (by cases v.ownBlock<;>simp)
theorem qq5(op:Int)(T:Tok)(cav leafv:Value)(ht:T.2.2.length=32):
 ((zLQ:Array Value).toList).take 1++(tokv T.1 cav T.2.2++((zLQ:Array Value).toList).drop (1+(tokv T.1 cav T.2.2).length))=reqv (req0 T 0) cav (.slice none 0 0):=by
 rw[qdg _ _ _ ht];rfl
theorem qq6{L:List Value}(h:Blk w g 34 L.toArray)(hl:L.length=48):(loadVar 34 ⟨g,0,none⟩).run Tryz.prog w=.ok (.agg L.toArray) w:=
 run_loadVar_mid _ _ 0 _ L _ (qap h 0 L zjq) Tryz.underlying34 rfl (by rw[hl];exact Tryz.req_info)
def qq7:List Value:=reqv qin (.slice none 0 0) (.slice none 0 0)
theorem qq8:(Tryz.prog.info? 34).map (·.size)=some qq7.toArray.size:=by kernel_rfl
theorem qq9:qq7.toArray.all (·.oneCell')=true:=by kernel_rfl
theorem qqa:Tryz.prog.built 34 []=some qq7.toArray:=by kernel_rfl
structure DSt (w u:World)(B g G:Nat)(bs:List Nat)(C:List (Int × Nat))(cv fv lv:Value)(fl:List Fld)(s:RSt)(R:Req):Prop where
 lo:w.heap.size<B
 hi:g<G
 fine:R.Fine
 cav:R.cavs=C
 rd:Rd u B g bs s
 own:OwnC u w.heap.size cv C
 leaf:OwnB u w.heap.size lv R.leaf
 fld:OwnF u w.heap.size G fv fl
 q:Blk u G 34 (reqv R cv lv).toArray
 z:Blk u w.heap.size 34 zLQ
 bl:Zb w u
section
variable {w u v : World} {B g G : Nat} {bs : List Nat} {C : List (Int × Nat)} {cv fv lv lv' : Value} {fl : List Fld} {s s' : RSt} {R R' : Req}
theorem DSt.below(h:DSt w u B g G bs C cv fv lv fl s R)(b:Zb u v):DSt w v B g G bs C cv fv lv fl s R:=
 ⟨h.lo,h.hi,h.fine,h.cav,h.rd.below b,h.own.kept b,h.leaf.kept b,h.fld.kept b,h.q.below b h.q.lt,h.z.below b h.z.lt,h.bl.trans (b.mono h.bl.size)⟩
theorem DSt.read(h:DSt w u B g G bs C cv fv lv fl s R)(r:Rd v B g bs s')(k:u.grownBy v (some g)):DSt w v B g G bs C cv fv lv fl s' R:=by
 have h1:=h.rd.le;have h2:=h.lo;have h3:=h.hi;have ne:∀{base:Nat} {e:TypeId} {sz m:Nat} {x:Value} {xs:List Value},u.ownsRow base e sz x m xs→e≠239→x.ownBlock≠some g:=fun h' he=>by
  obtain⟨A',n',c',p',hgb,-⟩:=h.rd;exact qa3 h' hgb he
 exact⟨h2,h3,h.fine,h.cav,r,tB3 h.own k (.inr (ne h.own zdc)),tB3 h.leaf k (.inr (ne h.leaf zdc)),tB3 h.fld k (.inr (ne h.fld zdc)),h.q.grown k (by simp;omega),h.z.grown k (by simp;omega),adv h.bl k zo h.rd.lt⟩
theorem DSt.turn(h:DSt w u B g G bs C cv fv lv fl s R)(k:u.grownBy v (some G)){C':List (Int × Nat)}(q:Blk v G 34 (reqv R' cv' lv').toArray)(hf:R'.Fine)(hc:R'.cavs=C')(ho:OwnC u w.heap.size cv' C')(hl:OwnB u w.heap.size lv' R'.leaf):DSt w v B g G bs C' cv' fv lv' fl s R':=by
 have h1:=h.rd.le;have h2:=h.lo;have h3:=h.hi;exact⟨h2,h3,hf,hc,h.rd.kept k h.q zdc zdc zo,tB3 ho k (.inr (qa3 ho h.q zdc)),tB3 hl k (.inr (qa3 hl h.q zdc)),tB3 h.fld k (.inr (qa3 h.fld h.q zdc)),q,h.z.grown k (by simp;omega),adv h.bl k zo h.q.lt⟩
theorem DSt.put(h:DSt w u B g G bs C cv fv lv fl s R)(i:Nat)(x:Value)(e:(reqv R cv lv).toArray.setIfInBounds i x=(reqv R' cv lv').toArray)(hf:R'.Fine)(hc:R'.cavs=C)(hl:OwnB u w.heap.size lv' R'.leaf):DSt w (u.setCell ⟨G,i,none⟩ x) B g G bs C cv fv lv' fl s R':=
 h.turn (qab (p:=⟨G,i,none⟩) (tB9 u (some G)) (.inl rfl) x) (e▸h.q.set_ i x) hf hc h.own hl
theorem DSt.num(h:DSt w u B g G bs C cv fv lv fl s R)(hb:∀x∈bs,x<256){f:Fld}{X:RSt × Req}(hx:fl[j]? =some f)(hF:IsFld f)(h0:f.2.1≠0)(hgo:qik bs (fl.drop j) s R=X):
 ∃nn s',nn<256^f.1∧qik bs (fl.drop (j+1)) s' (R.put f.2.2 nn)=X∧Zc 69 #[.pointer (some ⟨g,0,none⟩),.int .i64 f.1] u fun e v=>e=.returned (.int .u64 nn)∧u.grownBy v (some g)∧(∃y,v.cell? ⟨G,f.2.2,none⟩=some y)∧v.frozen? ⟨G,f.2.2,none⟩=false∧DSt w (v.setCell ⟨G,f.2.2,none⟩ (fldN f nn)) B g G bs C cv fv lv fl s' (R.put f.2.2 nn):=by
 have es:qb0 (f.1:Int)=f.1:=by
  rcases qiu hF with⟨-,e⟩|⟨-,e⟩|⟨-,e⟩|rfl
  · rw[e];rfl
  · rw[e];rfl
  · rw[e];rfl
  exact absurd rfl h0
 obtain⟨-,p2,-,p4,-⟩:=qiz R f.2.2 (rNum bs s f.1).2;refine⟨(rNum bs s f.1).2,(rNum bs s f.1).1,qgh bs s _ hb,qiw bs fl j f s R _ hgo hx h0,(qgi B g bs s f.1 u h.rd hb).mono ?_⟩;rintro e v ⟨rfl,hr,k⟩;rw[es]at hr ⊢;have d:=h.read hr k;obtain⟨y,hy⟩:=qiv R cv lv h.fine.tag f hF h0;exact⟨rfl,k,⟨y,(d.q.cell _).trans (by rw[tA3,hy])⟩,d.q.frozen _,d.put _ _ (qit R cv lv h.fine.tag f hF h0 _) (h.fine.put _ _) (by rw[p2];exact h.cav) (by rw[p4];exact d.leaf)⟩
theorem qqb{f:Fld}{a b c d:Value}(hcell:∀i x,(qdn G fl)[i]? =some x→u.cell? ⟨fb,fo+i,none⟩=some x)(hx:fl[j]? =some f)(e:fldv G f=[a,b,c,d]):
 u.cell? ⟨fb,fo+j*4,none⟩=some a∧u.cell? ⟨fb,fo+j*4+1,none⟩=some b∧u.cell? ⟨fb,fo+j*4+2,none⟩=some c∧u.cell? ⟨fb,fo+j*4+3,none⟩=some d:=by
 have q:=qic G fl j f hx;rw[e]at q;exact⟨hcell _ _ (q 0 zdc),(Nat.add_assoc fo _ 1).symm▸hcell _ _ (q 1 zdc),(Nat.add_assoc fo _ 2).symm▸hcell _ _ (q 2 zdc),(Nat.add_assoc fo _ 3).symm▸hcell _ _ (q 3 zdc)⟩
end
theorem qqc(bs:List Nat)(A:Option Addr)(n c:Nat)(w:World)(hr:Reads w w.heap.size 1 A n (byv bs))(hn:n≤140737488355328)(hb:∀x∈bs,x<256)(hE:w.cell? ⟨0,0,none⟩=some (.iface 327 (.agg #[.pointer (some ⟨3,81,none⟩)]))):
 Zc 77 #[.slice A n c] w fun e w'=>∃cav lv r,e=.returned (.tuple #[.agg (reqv (qio bs).2 cav lv).toArray,r])∧OwnC w' w.heap.size cav (qio bs).2.cavs∧OwnB w' w.heap.size lv (qio bs).2.leaf∧RErr w' w.heap.size r (qio bs).1∧Below w.heap.size w w':=by
 have HB:=zh1 hb;have r0:=Blk.new w 34 zLQ;obtain⟨HE,R0,HR⟩:=zh3 hE r0 (hr.laid (.cells zLQ 34));have A7:Below w.heap.size w (w.alloc (.cells zLQ 34)):=(tA5 _ _).alloc (tA4 _) _;obtain⟨W0,hW0⟩:=eqx (w.alloc (.cells zLQ 34));rw[←hW0]at R0 HR A7;obtain⟨AD,B0⟩:=zh2 hW0 A7;clear hE r0 hr hW0 A7;go_enter Tryz.func77,Tryz.ntmps77
 go_upto_region 1 with(fail)
 rw[←AD.o];go_wp2_with fail
 refine(qg9 bs A n c W0 HR.o hn).mono ?_;rintro e w1 ⟨g,rfl,h1,b1⟩;obtain⟨B,hB⟩:=xeq W0.heap.size;have hBw:w.heap.size<B:=by rw[←hB];exact R0.lt
 rw[hB]at h1;have D2:Hid (DSt w (w1.alloc (.cells zLQ 34)) B g w1.heap.size bs [] (.slice none 0 0) (.slice none 0 0) (.slice none 0 0) [] (0,none) qin):=
  ⟨hBw,h1.lt,⟨rfl,by decide,by decide,by decide,by decide,by decide,by decide⟩,rfl,h1.below ((tA5 _ _).alloc (tA4 _) _),OwnC.nil _ _,OwnB.nil _ _,World.ownsRow_nil ..,Blk.new w1 _ _,(R0.below b1 R0.lt).alloc _,qah (B0.trans (b1.mono zo)) _⟩
 obtain⟨w2,hw2⟩:=eqx (w1.alloc (.cells zLQ 34));rw[←hw2]at D2;have AE:=zh1 hw2;clear h1 b1 hw2 hB;go_upto_region 4 with(fail)
 rw[←AE.o];obtain⟨G5,hG5⟩:=xeq w1.heap.size;rw[hG5]at D2 ⊢;clear hG5;go_wp2_with fail
 refine(qhq B g bs (0,none) 77 w2 D2.rd HB.o zo).mono ?_;rintro e w3 ⟨v3,rfl,own3,h3,g3⟩;obtain⟨A3,n3,c3,rfl,nc3,mc3,rd3⟩:=own3.sl;have raw:=qhp bs (0,none) 77 HB.o;have hraw:=qb5 rd3;have D3:=D2.read h3 g3;have hDE:=qha (qho bs (0,none) 77).2 A3 n3 c3 w3 rd3 (by have:=qip bs (0,none) 77 HB.o;omega) raw ((D3.bl.cell (p:=⟨0,0,none⟩) (World.block_lt_of_cell? _ _ HE.o)).trans HE.o);have hrt:qil bs=if (qh5 (qho bs (0,none) 77).2).1=none then(qho bs (0,none) 77).1 else qg6 (qho bs (0,none) 77).1 (qho bs (0,none) 77).1.1 12:=rfl
 have hT:reqT bs=(qh5 (qho bs (0,none) 77).2).2:=rfl;have hok:=qi5 (qho bs (0,none) 77).2 raw;obtain⟨⟨E,T⟩,hET⟩:∃x,qh5 (qho bs (0,none) 77).2=x:=⟨_,rfl⟩;rw[hET]at hDE hrt hT hok;dsimp only at hDE hrt hT hok;obtain⟨s3,hs3⟩:=xeq ((qho bs (0,none) 77).1);rw[hs3]at D3 hrt;obtain⟨A9,AF,HT,AA⟩:=zh4 hDE hrt hT hok;have FI:∀k,Hid (req0 T k).Fine:=fun k=>⟨hok.1.2.2.1,hok.1.2.2.2,hok.1.1,hok.1.2.1,hok.2,by simp[req0],by simp[req0]⟩
 have A8:=zh1 D3;clear hDE hrt hT hok h3 D3 hET hs3 raw hraw own3 rd3 g3 D2;go_wp2_with fail
 refine A9.o.mono ?_;rintro e w4 ⟨cav,er,rfl,own4,her,b4⟩;obtain⟨Ac,nc,cc,rfl,enc,ncc,mcc,rdc⟩:=OwnC.sl own4;have d4:=A8.below b4;have lV:=qdg T.1 (.slice Ac nc cc) T.2.2 AA.o.1.2.2.1;have oV:=qeh T.1 (.slice Ac nc cc) rfl T.2.2;have hset:=qq5 0 T (.slice Ac nc cc) (.slice none 0 0) AA.o.1.2.2.1;obtain⟨V,hV⟩:=xeq (tokv T.1 (.slice Ac nc cc) T.2.2);rw[hV]at lV oV hset ⊢;have q4':Blk w4 G5 34 ((zLQ:Array Value).toList).toArray:=d4.q;obtain⟨ZR,hZR⟩:=xeq ((zLQ:Array Value).toList);have lZ:ZR.length=48:=by rw[←hZR];rfl
 rw[hZR]at q4' hset;obtain⟨TH,IV,OV,D5,AB⟩:=zh5 (show w4.there G5 1 V.toArray.size by rw[tB6,lV];exact qel q4' 1 34 (by rw[lZ];decide)) (show (Tryz.prog.info? 31).map (·.size)=some V.toArray.size by rw[tB6,lV];exact Tryz.tok_info) (all_oneCell_toArray oV) (d4.turn (qej G5 V 1 w4) (hset▸Blk.setCells V 1 w4 ZR q4' (by rw[lZ,lV];decide)) (FI 0).o rfl (OwnC.mono own4 A8.bl.size) (OwnB.nil _ _)) her;clear d4 q4' own4 lV oV hset hV hZR lZ her rdc enc b4 A8 A9;go_upto_region 5 with(refine wpList_store_mid rfl 31 (.tmp 20) (.tmp 18) rfl G5 1 V.toArray rfl rfl TH.o IV.o OV.o ?_)
 obtain⟨w5,hw5⟩:=eqx (w4.setCells G5 1 V);rw[←hw5]at D5 ⊢;clear hw5 TH;have A5:Hid (qil bs=if E=none then s3 else qg6 s3 s3.1 12):=AF;go_cut [22] (fun s22 wx=>s22=.bool E.isSome∧wx=w5)
 case first=>
  cases E with
  |none=>
   have he:er=.nilIface:=AB.o;subst he;go_wp2
   go_meet
   case rel=>exact⟨rfl,rfl⟩
  |some x=>
   obtain⟨hh,he,-,-⟩:=AB.o;subst he;go_wp2
   go_meet
   case rel=>exact⟨rfl,rfl⟩
 case rest=>
  obtain⟨rfl,rfl⟩:=hcut;obtain⟨w5',rfl⟩:=eqx wc;go_upto_if 22 with(fail)
  go_cut [] (fun wx=>Hid (DSt w wx B g G5 bs T.2.1 (.slice Ac nc cc) (.slice none 0 0) (.slice none 0 0) [] (qil bs) (req0 T 0)))
  case first=>
   cases E with
   |none=>
    rw[if_pos rfl]at A5;go_wp2
    go_meet
    case rel=>exact A5.o▸D5.o
   |some x=>
    rw[if_neg zm]at A5;go_wp2_with fail
    refine(qgb B g bs s3 12 w5' D5.rd zdc).mono ?_;rintro e w6 ⟨rfl,h6,g6⟩;have D6:=zh1 (D5.read h6 g6);clear h6 g6;go_wp2
    go_meet
    case rel=>exact A5.o▸D6.o
  case rest=>
   have D6:=hcut;clear D5 hcut;obtain⟨w6,rfl⟩:=eqx wc;go_wp2_with fail
   refine(qgi B g bs (qil bs) 1 w6 D6.rd HB.o).mono ?_;rintro e w7 ⟨rfl,h7,g7⟩;have hkl:=qgh bs (qil bs) 1 HB.o;have hgo:=qiq bs;have e1:qb0 1=1:=rfl;rw[e1]at h7 ⊢;clear e1;obtain⟨⟨s7,k⟩,hk⟩:∃x,rNum bs (qil bs) 1=x:=⟨_,rfl⟩;rw[hk]at h7 hkl ⊢;dsimp only at h7 hkl ⊢;have hk256:k<256:=Nat.lt_of_lt_of_eq hkl zdc;have kw:IntKind.i64.wrap (k:Int)=k:=tBb _ zo;have A6:=zh1 (hgo s7 k hk);have d7:=D6.read h7 g7;have c70:=d7.q.cell 0;rw[show (reqv (req0 T 0) (.slice Ac nc cc) (.slice none 0 0)).toArray[0]? =some (.int .i64 0) from rfl]at c70;have f70:=d7.q.frozen 0;have D8:=zh1 (d7.put 0 (.int .i64 (k:Int)) (qir T _ _ k) (FI k).o rfl (OwnB.nil _ _));clear h7 g7 hkl hgo hk d7 D6;go_upto_region 8 with(fail)
   obtain⟨w8,hw8⟩:=eqx (w7.setCell ⟨G5,0,none⟩ (.int .i64 (k:Int)));rw[←hw8]at D8 ⊢;clear hw8 c70 f70;have fc:=qe2 G5 _ (k:Int) w8 D8.q rfl;obtain⟨bb,hbb⟩:=xeq ((fieldsOf (k:Int)).isSome);rw[hbb]at fc A6;obtain⟨AK,FC⟩:=zh2 hbb fc;clear fc hbb;go_wp2_with fail
   refine FC.o.mono ?_;rintro e w9 ⟨lv,rfl,ownF,b9⟩;have hfl4:((fieldsOf (k:Int)).getD []).length≤4∧∀f∈(fieldsOf (k:Int)).getD [],IsFld f:=by
    cases hf:fieldsOf (k:Int) with
    |none=>simp
    |some l2=>exact⟨(qif _ _ hf).2.2,fun f hm=>qid _ _ hf f hm⟩
   obtain⟨fl,hfl⟩:=xeq ((fieldsOf (k:Int)).getD []);rw[hfl]at hfl4 ownF A6;obtain⟨Al,nl,cl,rfl,enl,ncl,-,-⟩:=OwnF.sl ownF;have D9:Hid (DSt w w9 B g G5 bs T.2.1 (.slice Ac nc cc) (.slice Al nl cl) (.slice none 0 0) fl s7 (req0 T k)):={D8.below b9 with fld:=qdf ownF D8.bl.size};have EN:=zh1 enl;clear ownF b9 enl D8 FC;go_upto_if 34 with(fail)
   obtain⟨s9,hs9⟩:∃s,(if bb then s7 else qg6 s7 s7.1 12)=s:=⟨_,rfl⟩;rw[hs9]at A6;obtain⟨HS9,AC⟩:=zh2 hs9 hfl4;clear hfl hs9 hfl4;go_cut [] (fun wx=>Hid (DSt w wx B g G5 bs T.2.1 (.slice Ac nc cc) (.slice Al nl cl) (.slice none 0 0) fl s9 (req0 T k)))
   case first=>
    cases bb with
    |true=>
     have h9:=HS9.o;rw[if_pos rfl]at h9;subst h9;go_wp2
     go_meet
     case rel=>exact D9.o
    |false=>
     have h9:=HS9.o;rw[if_neg zm]at h9;subst h9;go_wp2_with fail
     refine(qgb B g bs s7 12 w9 D9.rd zdc).mono ?_;rintro e wa ⟨rfl,ha,ga⟩;have Da:=zh1 (D9.read ha ga);clear ha ga;go_wp2
     go_meet
     case rel=>exact Da.o
   case rest=>
    have Da:=hcut;clear D9 hcut;obtain⟨wa,rfl⟩:=eqx wc;go_upto_block 0 with fail
    go_cut [] (fun wx=>∃(s:RSt) (R:Req) (lv:Value),Hid ((s,R)=qim bs)∧Hid (DSt w wx B g G5 bs T.2.1 (.slice Ac nc cc) (.slice Al nl cl) lv fl s R))
    case first=>
     go_wp2_with fail
     have hnl:nl=fl.length:=EN.o;subst hnl;go_loopw [39] (fun i wr=>∃(j:Nat) (s:RSt) (R:Req) (lv:Value),j≤fl.length∧i=.int .i64 j∧Hid (qik bs (fl.drop j) s R=qim bs)∧Hid (DSt w wr B g G5 bs T.2.1 (.slice Ac nc cc) (.slice Al fl.length cl) lv fl s R)) (fun i _=>fl.length - (intOf i).toNat)
     case atStart=>
      refine⟨0,s9,req0 T (k:Int),.slice none 0 0,by omega,rfl,?_,Da.o⟩;show _=_;rw[A6.o,show reqT bs=T from HT.o];rfl
     case round=>
      clear Da;obtain⟨j,s,R,lv,hj,rfl,hgo,D⟩:=hrel;have fl4:fl.length≤4:=AC.o.1;by_cases hjl:j<fl.length
      ·
       have qk:(j:Int)<fl.length:=zo;obtain⟨f,hx⟩:∃f,fl[j]? =some f:=⟨_,tA7 hjl⟩;have HF:=AC.o.2 f (tB2 hx);obtain⟨fbk,fo,hAl,hab,hcell⟩:=(Reads.of_own D.fld).mid zo zo;subst hAl;obtain⟨Hx,HC,HN⟩:=zh3 hx (fun a b c d=>qqb (a:=a) (b:=b) (c:=c) (d:=d) hcell hx) (fun(u:World)(b:Below wr.heap.size wr u)(h0:f.2.1≠0)=>(D.below b).num HB.o hx HF h0 hgo.o);have HK:=qiu HF;have hwg:=D.rd.lt;clear hx hcell;rcases HK with⟨f1,f2⟩|⟨f1,f2⟩|⟨f1,f2⟩|rfl
       ·
        obtain⟨m0,m1,m2,m3⟩:=HC.o _ _ _ _ (show fldv G5 f=[.int .i64 1,.pointer (some ⟨G5,f.2.2,none⟩),.pointer none,.pointer none] by unfold fldv;simp[f1,f2]);obtain⟨fb,fq,x⟩:=f;simp only at f1 f2 m0 m1 m2 m3 HN;subst f1 f2;go_upto_region 16 with(fail)
        obtain⟨wf,hwf⟩:=eqx (wr.alloc (.cells #[.int .i64 1,.pointer (some ⟨G5,x,none⟩),.pointer none,.pointer none] 252));have bwf:=zMa hwf;have ff:=zNa hwf;rw[←hwf];obtain⟨nn,s',nlt,hs,RN⟩:=HN.o wf.drew bwf.drew zdc;have A0:=zh1 hs;clear hwf bwf m0 m1 m2 m3 HC HN D hs;have k0:=ff.cell 0;have kq:=ff.cell 1;obtain⟨S,HS⟩:=zS fun w'=>w'.cell? ⟨wr.heap.size,0,none⟩=some (.int .i64 1)∧w'.cell? ⟨wr.heap.size,1,none⟩=some (.pointer (some ⟨G5,x,none⟩))
        refine zrs S 8 (zq 0 5 [(5,true),(6,false),(7,false),(8,true)]) ((HS.o _).mpr ⟨k0,kq⟩) ?_;repeat(refine zrt0 ?_)
        refine zw ?_;go_simp;refine RN.mono ?_;rintro e wb ⟨rfl,gb,⟨y,qx⟩,fx,D9⟩;have fb:=(show Blk wf.drew wr.heap.size 252 _ from ff).grown gb (by simp;omega);refine⟨(HS.o _).mpr ⟨fb.cell 0,fb.cell 1⟩,?_⟩;have l0:=fb.cell 0;have lq:=fb.cell 1;have A2:=zh1 D9;have nw:IntKind.i64.wrap (nn:Int)=nn:=tBb _ zo;clear D9;refine zP ?_;repeat(refine zrt0 ?_)
        refine zw ?_;go_simp;refine qbg ?_;clear ff fb gb qx fx l0 lq k0 kq;go_wp2
        go_roundw
        case rel=>exact⟨j+1,s',R.put x nn,lv,by omega,by go_num,A0.o,A2.o⟩
        case measure=>simp[intOf];omega
       ·
        obtain⟨m0,m1,m2,m3⟩:=HC.o _ _ _ _ (show fldv G5 f=[.int .i64 4,.pointer none,.pointer (some ⟨G5,f.2.2,none⟩),.pointer none] by unfold fldv;simp[f1,f2]);obtain⟨fb,fq,x⟩:=f;simp only at f1 f2 m0 m1 m2 m3 HN;subst f1 f2;go_upto_region 18 with(fail)
        obtain⟨wf,hwf⟩:=eqx (wr.alloc (.cells #[.int .i64 4,.pointer none,.pointer (some ⟨G5,x,none⟩),.pointer none] 252));have bwf:=zMa hwf;have ff:=zNa hwf;rw[←hwf];obtain⟨nn,s',nlt,hs,RN⟩:=HN.o wf.drew bwf.drew zdc;have A0:=zh1 hs;clear hwf bwf m0 m1 m2 m3 HC HN D hs;have k0:=ff.cell 0;have kq:=ff.cell 2;obtain⟨S,HS⟩:=zS fun w'=>w'.cell? ⟨wr.heap.size,0,none⟩=some (.int .i64 4)∧w'.cell? ⟨wr.heap.size,2,none⟩=some (.pointer (some ⟨G5,x,none⟩))
        refine zrs S 8 (zq 0 5 [(5,true),(6,false),(7,false),(8,true)]) ((HS.o _).mpr ⟨k0,kq⟩) ?_;repeat(refine zrt0 ?_)
        refine zw ?_;go_simp;refine RN.mono ?_;rintro e wb ⟨rfl,gb,⟨y,qx⟩,fx,D9⟩;have fb:=(show Blk wf.drew wr.heap.size 252 _ from ff).grown gb (by simp;omega);refine⟨(HS.o _).mpr ⟨fb.cell 0,fb.cell 2⟩,?_⟩;have l0:=fb.cell 0;have lq:=fb.cell 2;have A2:=zh1 D9;have nw:IntKind.u32.wrap (nn:Int)=nn:=by rw[IntKind.wrap_u32];omega
        clear D9;refine zP ?_;repeat(refine zrt0 ?_)
        refine zw ?_;go_simp;refine qbg ?_;clear ff fb gb qx fx l0 lq k0 kq;go_wp2
        go_roundw
        case rel=>exact⟨j+1,s',R.put x nn,lv,by omega,by go_num,A0.o,A2.o⟩
        case measure=>simp[intOf];omega
       ·
        obtain⟨m0,m1,m2,m3⟩:=HC.o _ _ _ _ (show fldv G5 f=[.int .i64 8,.pointer none,.pointer none,.pointer (some ⟨G5,f.2.2,none⟩)] by unfold fldv;simp[f1,f2]);obtain⟨fb,fq,x⟩:=f;simp only at f1 f2 m0 m1 m2 m3 HN;subst f1 f2;go_upto_region 20 with(fail)
        obtain⟨wf,hwf⟩:=eqx (wr.alloc (.cells #[.int .i64 8,.pointer none,.pointer none,.pointer (some ⟨G5,x,none⟩)] 252));have bwf:=zMa hwf;have ff:=zNa hwf;rw[←hwf];obtain⟨nn,s',nlt,hs,RN⟩:=HN.o wf.drew bwf.drew zdc;have A0:=zh1 hs;clear hwf bwf m0 m1 m2 m3 HC HN D hs;have k0:=ff.cell 0;have kq:=ff.cell 3;obtain⟨S,HS⟩:=zS fun w'=>w'.cell? ⟨wr.heap.size,0,none⟩=some (.int .i64 8)∧w'.cell? ⟨wr.heap.size,3,none⟩=some (.pointer (some ⟨G5,x,none⟩))
        refine zrs S 7 (zq 0 5 [(5,true),(6,false),(7,true)]) ((HS.o _).mpr ⟨k0,kq⟩) ?_;repeat(refine zrt0 ?_)
        refine zw ?_;go_simp;refine RN.mono ?_;rintro e wb ⟨rfl,gb,⟨y,qx⟩,fx,D9⟩;have fb:=(show Blk wf.drew wr.heap.size 252 _ from ff).grown gb (by simp;omega);refine⟨(HS.o _).mpr ⟨fb.cell 0,fb.cell 3⟩,?_⟩;have l0:=fb.cell 0;have lq:=fb.cell 3;have A2:=zh1 D9;clear D9;refine zP ?_;repeat(refine zrt0 ?_)
        refine zw ?_;go_simp;refine qbg ?_;clear ff fb gb qx fx l0 lq k0 kq;go_wp2
        go_roundw
        case rel=>exact⟨j+1,s',R.put x nn,lv,by omega,by go_num,A0.o,A2.o⟩
        case measure=>simp[intOf];omega
       obtain⟨m0,m1,m2,m3⟩:=HC.o _ _ _ _ rfl;dsimp only at m0;have hstep:=qix bs fl j _ s R _ hgo.o Hx.o rfl;have hlb:=qhp bs s 256 HB.o;have hll:=qip bs s 256 HB.o;have RB:=fun w h=>qhq B g bs s 256 w h HB.o zo
       obtain⟨⟨s',lf⟩,hlf⟩:∃x,qho bs s 256=x:=⟨_,rfl⟩;simp only[hlf]at RB hlb hll hstep;obtain⟨AG,A0,AH,AI⟩:=zh4 RB hstep hlb hll;clear RB hstep hlb hll hlf HC HN;go_upto_region 14 with(fail)
       obtain⟨wf,hwf⟩:=eqx (wr.alloc (.cells #[.int .i64 0,.pointer none,.pointer none,.pointer none] 252));have d:=D.below (show Below wr.heap.size wr wf by rw[hwf];exact(tA5 _ _).alloc (tA4 _) _);rw[←hwf];clear hwf D m0 m1 m2 m3;go_wp2_with fail
       refine(AG.o wf d.rd).mono ?_;rintro e wb ⟨vb,rfl,ownb,hbb,gb⟩;obtain⟨Av,nv,cv,rfl,-,-,-⟩:=OwnB.sl ownb;have d':=d.read hbb gb;have qx:=d'.q.cell 47;rw[tA3,show (reqv R (.slice Ac nc cc) lv)[47]? =some lv from(qdl R (.slice Ac nc cc) lv d.fine.tag 12).trans rfl]at qx;have fx:=d'.q.frozen 47;have D9:=zh1 (d'.put 47 (.slice Av nv cv) (qiy R _ lv _ lf d.fine.tag) ⟨d.fine.tag,d.fine.tagb,d.fine.tid,d.fine.cavn,d.fine.cavl,AH.o,AI.o⟩ d.cav (OwnB.mono ownb d.bl.size));clear hbb d d' gb ownb;go_wp2
       go_roundw
       case rel=>exact⟨j+1,s',{R with leaf:=lf},.slice Av nv cv,by omega,by go_num,A0.o,D9.o⟩
       case measure=>simp[intOf];omega
      have qk:¬(j:Int)<fl.length:=zo;have hgo':=hgo.o;rw[List.drop_eq_nil_of_le zo]at hgo';have AJ:=zh1 hgo';clear hgo';go_wp2
      go_meet
      case rel=>exact⟨s,R,lv,AJ.o,D.o⟩
    case rest=>
     obtain⟨s,R,lv,hdone,D⟩:=hcut;clear Da;have hEc:=(D.bl.cell (p:=⟨0,0,none⟩) (World.block_lt_of_cell? _ _ HE.o)).trans HE.o;have EC:=zh1 (qhr B g bs s wc D.rd hEc);have hdef:qio bs=match rEnd bs s with
      |none=>(none,R)
      |some x=>(some x,qin):=by
      unfold qio;rw[←hdone.o];dsimp only;cases rEnd bs s<;>rfl
     have A4:=zh1 hdef;clear hEc hdef;go_wp2_with fail
     refine EC.o.mono ?_;rintro e wd ⟨er2,rfl,hed,bd⟩;have hsz:=D.bl.size;have DD:=zh1 (D.below bd);have hz:=D.z.lt;clear bd D;have lR:=qq4 R (.slice Ac nc cc) lv DD.fine.tag;cases hend:rEnd bs s with
     |none=>
      rw[hend]at hed;have e0:er2=.nilIface:=hed;subst e0;have A1:Hid (qio bs=(none,R)):=by
       show _=_;rw[A4.o,hend]
      obtain⟨Av,nv,cv,rfl,-,-,-⟩:=OwnB.sl DD.leaf;have oR:∀u∈reqv R (.slice Ac nc cc) (.slice Av nv cv),u.oneCell'=true:=by
       intro u hu;unfold reqv Req.rest at hu;simp only[List.cons_append,List.mem_cons,tBg,List.not_mem_nil,or_false]at hu;rcases hu with rfl|hu|hu
       · rfl
       · exact qeh _ _ rfl _ u hu
       rcases hu with rfl|rfl|rfl|rfl|rfl|rfl|rfl|rfl|rfl|rfl|rfl|rfl|rfl<;>rfl
      obtain⟨M,hM⟩:=xeq (reqv R (.slice Ac nc cc) (.slice Av nv cv));have Qd:=DD.q;rw[hM]at Qd oR lR;obtain⟨RG,IM,IM',LM,OM,EM⟩:=zh6 (qap Qd 0 M zjq) (zI 34 lR) (show (Tryz.prog.info? 34).map (·.size)=some M.toArray.size by rw[tB6,lR];exact Tryz.req_info) lR oR hM;clear lR oR hM hend Qd;go_wp2_with (first
       |(refine zld RG.o zu34 IM.o ?_)
       |(refine wpList_store_row rfl 34 (.tmp 2) (.tmp 88) rfl w.heap.size M.toArray rfl rfl 34 _ DD.z IM'.o (by simp[LM.o]) (by simpa using OM.o) ?_))
      have z:=DD.z.setRow M.toArray;refine bodyPost_ret (qgv rfl rfl (qq6 z LM.o)) rfl ⟨.slice Ac nc cc,.slice Av nv cv,.nilIface,?_,?_,?_,?_,?_⟩
      · rw[A1.o,EM.o]
        rfl
      · rw[A1.o]
        dsimp only;rw[DD.cav];exact tB3 DD.own (qam _ _ _) (.inr (qa3 DD.own DD.z zdc))
      · rw[A1.o]
        exact tB3 DD.leaf (qam _ _ _) (.inr (qa3 DD.leaf DD.z zdc))
      · rw[A1.o]
        rfl
      exact below_setRow DD.bl (tA4 _) _
     |some x=>
      rw[hend]at hed;obtain⟨hh,rfl,hhB,hkb⟩:=hed;have A1:Hid (qio bs=(some x,qin)):=by
       show _=_;rw[A4.o,hend]
      have HK:=zh1 hkb;clear hend hkb lR;go_wp2_with (first
       |(refine qbk rfl ⟨.agg qq7.toArray,qgr 34 _ rfl _ _ qqa (by simp[Act.eval]),?_⟩)
       |(refine wpList_store_row rfl 34 (.tmp 2) (.tmp 86) rfl w.heap.size qq7.toArray rfl rfl 34 _ DD.z qq8 rfl qq9 ?_))
      have z:=DD.z.setRow qq7.toArray;have hne:hh≠w.heap.size:=by
       omega
      refine bodyPost_ret (qgv rfl rfl (qq6 z rfl)) rfl ⟨.slice none 0 0,.slice none 0 0,.iface 237 (.pointer (some ⟨hh,0,none⟩)),?_,?_,?_,?_,?_⟩
      · rw[A1.o]
        rfl
      · rw[A1.o]
        exact OwnC.nil _ _
      · rw[A1.o]
        exact OwnB.nil _ _
      · rw[A1.o]
        exact⟨hh,rfl,tB1 hsz hhB,HK.setRow_far hne _⟩
      exact below_setRow DD.bl (tA4 _) _
theorem Tryz.digs_info:(Tryz.prog.info? 29).map (fun i=>(i.zero,i.size,i.bytes))=some (some (.agg zLD),32,32):=by kernel_rfl
def OwnD (w:World)(base:Nat)(v:Value)(l:List (List Nat)):Prop:=(∀d∈l,d.length=32)∧w.ownsRow base 29 32 v l.length (digv l)
theorem qqd(l:List (List Nat)):∀u∈digv l,u.oneCell'=true:=by
 intro u hu;unfold digv at hu;obtain⟨x,_,hx⟩:=List.mem_flatMap.1 hu;exact qau x u hx
theorem qqe(a b:List (List Nat)):digv (a++b)=digv a++digv b:=by simp[digv]
section
variable {w w' : World} {base : Nat} {v : Value} {l : List (List Nat)}
theorem OwnD.nil(w:World)(base:Nat):OwnD w base (.slice none 0 0) []:=⟨fun d hd=>(nomatch hd),World.ownsRow_nil ..⟩
theorem OwnD.sl(h:OwnD w base v l):∃A n c,v=.slice A n c∧n=l.length∧n≤c∧c≤maxLen∧Reads w w.heap.size 32 A n (digv l):=by
 obtain⟨A,c,h1,h2,h3,h4⟩:=qaf h.2;exact⟨A,_,c,h1,rfl,h2,h3,h4⟩
theorem OwnD.kept(h:OwnD w base v l)(hb:Zb w w'):OwnD w' base v l:=
 ⟨h.1,tB3 h.2 ⟨hb.os,hb.tape,hb.output,hb.size,fun k hk _=>hb.block k hk⟩ (row:=none) (by cases v.ownBlock<;>simp)⟩
theorem OwnD.alloc(h:OwnD w base v l)(o:Obj):OwnD (w.alloc o) base v l:=h.kept ((tA5 _ _).alloc (tA4 _) o)
theorem OwnD.grown{t:TypeId}{cs:Array Value}(h:OwnD w base v l)(hg:w.grownBy w' (some g))(hb:Blk w g t cs)(ht:29≠t):OwnD w' base v l:=
 ⟨h.1,tB3 h.2 hg (.inr (qa3 h.2 hb ht))⟩
end
theorem qqf(s x:Operand)
 (ho:o.op=.call {callee:=.builtin .append,args:=#[s,x],argTypes:=#[51,51]})
 (base:Nat)(v:Value)(l:List (List Nat))(hs:a.eval s=v)(hown:OwnD w base v l)(A:Option Addr)(m c:Nat)(news:List (List Nat))(hx:a.eval x=.slice A m c)(hm:news.length=m)(hnl:∀d∈news,d.length=32)(hr:Reads w w.heap.size 32 A m (digv news))
 (hlen:l.length+m≤4398046511104)(hbase:base≤w.heap.size)
 (h:∀v' w',OwnD w' base v' (l++news)→Below base w w'→w.grownBy w' v.ownBlock→K (a.put o.dst v') w'):o.wp Tryz.prog a w K Q:=by
 obtain⟨i0,hi0,hz0,hz1,hz2⟩:=info_parts Tryz.digs_info;refine qa6 (P:=Tryz.prog) w s x _ ho base 29 i0 _ 32 32 Tryz.underlying51 hi0 hz0 hz1 hz2 rfl zo v l.length (digv l) hs hown.2 w.heap.size A m c (digv news) hx hr (qqd _) (by simp only[maxLen];omega) zo hbase ?_;intro v' w' h1 h2 h3;refine h v' w' ?_ ?_ h2
 ·
  refine⟨fun d hd=>?_,?_⟩
  · rcases List.mem_append.1 hd with hd|hd
    · exact hown.1 d hd
    exact hnl d hd
  rw[qqe,tA6,hm];exact h1
 exact qae (tA5 _ _) hown.2 h2 (tA4 _) hbase
structure RspAt (w0 w:World)(G:Nat)(R:Rsp)(bv hv cav:Value):Prop where
 q:Blk w G 57 (rspv R bv hv cav).toArray
 bo:OwnB w w0.heap.size bv R.bytes
 ho:OwnD w w0.heap.size hv R.hashes
 co:OwnC w w0.heap.size cav R.tok.2.1
 z:Blk w w0.heap.size 57 Tryz.zeroCells57
 bl:Zb w0 w
section
variable {w0 w w' : World} {G : Nat} {R : Rsp} {bv hv cav : Value}
theorem RspAt.grown{t:TypeId}{cs:Array Value}(h:RspAt w0 w G R bv hv cav)(hg:w.grownBy w' (some g))(hb:Blk w g t cs)(h1:5≠t)(h2:29≠t)(h3:132≠t)(hne:G≠g)(hlt:w0.heap.size<g):RspAt w0 w' G R bv hv cav:=
 ⟨h.q.grown hg (fun e=>hne (by injection e)),tB3 h.bo hg (.inr (qa3 h.bo hb h1)),h.ho.grown hg hb h2,tB3 h.co hg (.inr (qa3 h.co hb h3)),h.z.grown hg (fun e=>by injection e;omega),adv h.bl hg zo hb.lt⟩
theorem RspAt.below(h:RspAt w0 w G R bv hv cav)(hb:Zb w w'):RspAt w0 w' G R bv hv cav:=
 ⟨h.q.below hb h.q.lt,h.bo.kept hb,h.ho.kept hb,h.co.kept hb,h.z.below hb h.z.lt,h.bl.trans (hb.mono h.bl.size)⟩
theorem RspAt.drew(h:RspAt w0 w G R bv hv cav):RspAt w0 w.drew G R bv hv cav:=h.below (tA5 _ _).drew
theorem RspAt.laid(o:Nat)(cs:List Value)(hG:w0.heap.size<G)(h:RspAt w0 w G R bv hv cav)(hl:o+cs.length≤(rspv R bv hv cav).length)(e:(rspv R bv hv cav).take o++(cs++(rspv R bv hv cav).drop (o+cs.length))=rspv R' bv' hv' cav')
 (b:OwnB w w0.heap.size bv' R'.bytes)(d:OwnD w w0.heap.size hv' R'.hashes)(c:OwnC w w0.heap.size cav' R'.tok.2.1):RspAt w0 (w.setCells G o cs) G R' bv' hv' cav':=by
 have gs:=qej G cs o w;refine⟨?_,tB3 b gs (.inr (qa3 b h.q zdc)),d.grown gs h.q zdc,tB3 c gs (.inr (qa3 c h.q zdc)),h.z.grown gs (fun e=>by injection e;omega),adv h.bl gs zo h.q.lt⟩;rw[←e];exact Blk.setCells cs o w _ h.q hl
end
theorem qqg(R:Rsp)(bv hv cav hv':Value)(l:List (List Nat)):(rspv R bv hv cav).toArray.setIfInBounds 3 hv'=(rspv {R with hashes:=l} bv hv' cav).toArray:=by simp[rspv]
theorem qqh(R:Rsp)(bv hv cav:Value)(h:Hd)(h1:(hdv R.hd).length=68)(h2:(hdv h).length=68):(rspv R bv hv cav).take 4++(hdv h++(rspv R bv hv cav).drop (4+(hdv h).length))=rspv {R with hd:=h} bv hv cav:=by
 rw[h2];have e:(rspv R bv hv cav).drop (4+68)=tokv R.tok.1 cav R.tok.2.2:=by
  unfold rspv;show (hdv R.hd++tokv R.tok.1 cav R.tok.2.2).drop 68=_;exact List.drop_left' h1
 rw[e];simp[rspv]
theorem qqi(R:Rsp)(bv hv cav:Value)(t:Tok)(cav':Value)(h1:(hdv R.hd).length=68)(h2:R.tok.2.2.length=32)(h3:t.2.2.length=32):(rspv R bv hv cav).take 72++(tokv t.1 cav' t.2.2++(rspv R bv hv cav).drop (72+(tokv t.1 cav' t.2.2).length))=rspv {R with tok:=t} bv hv cav':=by
 rw[qdg _ _ _ h3];have e:(rspv R bv hv cav).drop (72+34)=[]:=List.drop_eq_nil_of_le (by
  unfold rspv;simp only[tBi,tA6,h1,qdg _ _ _ h2];omega)
 have e2:(rspv R bv hv cav).take 72=.int .i64 R.why::.int .u64 (R.n:Int)::bv::hv::hdv R.hd:=by
  unfold rspv;show .int .i64 R.why::.int .u64 (R.n:Int)::bv::hv::(hdv R.hd++tokv R.tok.1 cav R.tok.2.2).take 68=_;rw[List.take_left' h1]
 rw[e,e2];simp[rspv]
theorem qqj(R:Rsp)(bv hv cav:Value)(h1:(hdv R.hd).length=68)(h2:R.tok.2.2.length=32):(rspv R bv hv cav).length=106:=by
 unfold rspv;simp only[tBi,tA6,h1,qdg _ _ _ h2]
theorem qqk(R:Rsp)(bv hv cav:Value)(h1:bv.oneCell'=true)(h2:hv.oneCell'=true)(h3:cav.oneCell'=true):∀u∈rspv R bv hv cav,u.oneCell'=true:=by
 intro u hu;unfold rspv at hu;simp only[List.mem_cons,tBg]at hu;rcases hu with rfl|rfl|rfl|rfl|hu|hu
 · rfl
 · rfl
 · exact h1
 · exact h2
 · exact qmr _ u hu
 exact qeh _ _ h3 _ u hu
theorem qql(y n:Int)(A:Option Addr)(m c:Nat):Tryz.prog.built 57 [(0,.int .i64 y),(1,.int .u64 n),(2,.slice A m c)]=some (Value.int .i64 y::.int .u64 n::.slice A m c::.slice none 0 0::(hdv Hd.zero++tokv qgu.1 (.slice none 0 0) qgu.2.2)).toArray:=by kernel_rfl
theorem qqm:Tryz.prog.built 57 []=some (rspv qj2 (.slice none 0 0) (.slice none 0 0) (.slice none 0 0)).toArray:=by kernel_rfl
theorem qqn{L:List Value}(h:Blk w g 57 L.toArray)(hl:L.length=106):(loadVar 57 ⟨g,0,none⟩).run Tryz.prog w=.ok (.agg L.toArray) w:=
 run_loadVar_mid _ _ 0 _ L _ (qap h 0 L zjq) Tryz.underlying57 rfl (by rw[hl];exact Tryz.rsp_info)
theorem qqo(n:Nat)(hn:n≤255):bits .and .u64 (n:Int) 1=((n % 2:Nat):Int):=by
 have:∀n:Fin 256,bits .and .u64 (n.val:Int) 1=((n.val % 2:Nat):Int):=by decide+kernel
 exact this ⟨n,by omega⟩
theorem qqp(n:Nat)(hn:n≤255):bits .and .u64 (n:Int) 2=((n / 2 % 2*2:Nat):Int):=by
 have:∀n:Fin 256,bits .and .u64 (n.val:Int) 2=((n.val / 2 % 2*2:Nat):Int):=by decide+kernel
 exact this ⟨n,by omega⟩
section
open Go
theorem qrt{S:World→Prop}{r:List (Nat × Bool)}(hi:nth l i=some o)(hw:Region.wanted o (yielded l.toArray a.tmps)=false)
 (h:S w∧qba P l.toArray Q S n r (a.put o.dst undef) w):qba P l.toArray Q S n ((i,true)::r) a w:=by
 show wpOp P l.toArray Q i _ a w;unfold wpOp;simp only[(qb9 l i).symm.trans hi,hw,Bool.false_eq_true,if_false];exact⟨fun _=>h.1,h.2⟩
end
theorem qsg(V:List Value)(n:Nat)(hn:V.length=n)(hp:0<n)(cells:Array Value)(hc:cells.size=n):Instr.fill (fun i=>some (i*n,n)) cells [(0,.agg V.toArray)]=some V.toArray:=by
 obtain⟨r,h1,h2,h3⟩:=Great.fill_dense hp [.agg V.toArray] 0 cells (fun v hv=>by obtain rfl:=List.mem_singleton.1 hv;simp[Value.cells,hn]) (by simp[hc]);have e:r=V.toArray:=by
  refine Array.ext_getElem? fun k=>?_
  rw[h3 k];by_cases hk:k<n
  · rw[if_pos ⟨by omega,by simpa using hk⟩]
    have hd:k / n=0:=Nat.div_eq_of_lt hk;have hm:k % n=k:=Nat.mod_eq_of_lt hk;rw[hd,hm];simp[Value.cells]
  rw[if_neg (by simp;omega)];rw[Array.getElem?_eq_none zo];simp;omega
 rw[e]at h1;exact h1
theorem qsh(t e:TypeId)(x:Operand)(ho:o.op=.buildSlice t 1 #[(0,x)])
 (V:List Value)(hx:a.eval x=.agg V.toArray)(i:TypeInfo)(z:Value)(n:Nat)(hu:P.underlying t=some (.slice e))(hie:P.info? e=some i)(hz:i.zero=some z)(hs:i.size=n)(hzs:z.cells.size=n)(hV:V.length=n)(hp:0<n)(hsm:n≤1000)
 (h:K (a.put o.dst (.slice (some ⟨w.heap.size,0,none⟩) 1 1)) (w.alloc (.cells V.toArray e))):o.wp P a w K Q:=by
 refine wp_buildSlice t e 1 #[(0,x)] ho V.toArray i z hu hie hz (by rw[hs];omega) (by rw[hs];omega) ?_ h;rw[hs];simp only[List.map_toArray,List.map_cons,List.map_nil,hx];exact qsg V n hV hp _ zm
theorem qsi(x:Operand)(ho:o.op=.buildSlice 51 1 #[(0,x)])
 (d:List Nat)(hd:d.length=32)(hx:a.eval x=.agg (byv d).toArray)
 (h:K (a.put o.dst (.slice (some ⟨w.heap.size,0,none⟩) 1 1)) (w.alloc (.cells (byv d).toArray 29))):o.wp Tryz.prog a w K Q:=by
 obtain⟨i0,hi0,hz0,hz1,hz2⟩:=info_parts Tryz.digs_info;exact qsh _ 29 x ho (byv d) hx i0 _ 32 Tryz.underlying51 hi0 hz0 hz1 rfl (by rw[qat,hd]) zdc zdc h
theorem Rd.grownD{s:RSt}{l:List (List Nat)}(h:Rd w B g bs s)(ho:OwnD w base v l)(hg:w.grownBy w' v.ownBlock):Rd w' B g bs s:=by
 rcases ho.2.2 with⟨rfl,_⟩|⟨q,cap,cur,rfl,_,hh,_⟩
 · exact h.below ⟨hg.os,hg.tape,hg.output,hg.size,fun k hk=>hg.block k hk (by simp[Value.ownBlock])⟩
 obtain⟨A,n,c,p,hgb,-⟩:=id h;exact h.kept (k:=q) (by simpa [Value.ownBlock] using hg) (show Blk w q 29 cur from hh) zdc zdc (hgb.ne_ (show Blk w q 29 cur from hh) zdc)
theorem qsj(d:List Nat):digv [d]=byv d:=by simp[digv]
theorem qsk(w:World)(d:List Nat)(hd:d.length=32):Reads (w.alloc (.cells (byv d).toArray 29)) (w.alloc (.cells (byv d).toArray 29)).heap.size 32 (some ⟨w.heap.size,0,none⟩) 1 (digv [d]):=by
 have:=Reads.new w 29 (byv d) 32 1 (by rw[qat,hd]);rw[qar,qsj];exact this
theorem qsl{s s':Nat}{ys:List Value}(h:w.ownsRow b e s v n xs)(h':w.ownsRow b' e' s' v' n' ys)(hne:e≠e'):v.ownBlock=none∨v.ownBlock≠v'.ownBlock:=by
 rcases h.2 with⟨rfl,_⟩|⟨g,cap,cur,rfl,_,hg,_⟩
 · exact .inl rfl
 rcases h'.2 with⟨rfl,_⟩|⟨g',cap',cur',rfl,_,hg',_⟩
 · exact .inr (by simp[Value.ownBlock])
 refine .inr fun q=>hne ?_
 simp only[Value.ownBlock,Option.some.injEq]at q;subst q;rw[hg]at hg';simp only[Option.some.injEq,Obj.cells.injEq]at hg';exact hg'.2.1
theorem qtn(t:Value)(w:World):
 Zc 126 #[.nilIface,t] w fun e w'=>e=.returned (.bool false)∧w'=w:=qgn t w
theorem qto(e t:Addr)(old:Value)(w:World)(hg:w.cell? ⟨0,0,none⟩=some (.iface 327 (.agg #[.pointer (some ⟨3,81,none⟩)])))(ht0:w.cell? t=some old)(hf0:w.frozen? t=false):
 Zc 126 #[.iface 218 (.pointer (some e)),.iface 222 (.pointer (some t))] w fun ev w'=>ev=.returned (.bool true)∧w'=((((w.alloc (.cells #[.pointer (some t)] 222)).alloc (.cells #[.pointer (some ⟨3,222,none⟩),.pointer (some ⟨w.heap.size,0,none⟩),.int .u64 150] 284)).alloc (.cells #[.pointer (some ⟨3,222,none⟩),.pointer (some ⟨w.heap.size,0,none⟩),.int .u64 150] 284)).alloc (.cells #[.pointer (some e)] 218)).setCell t (.pointer (some e)):=qgo (tb:=224) {} e t old w hg ht0 hf0
theorem qxj(A:Option Addr)(n c:Nat)(w:World)(hc:n≤c)(hn:(n:Int)≤9223372036854775807):
 Zc 64 #[.slice A n c] w fun e w'=>e=.returned (.slice A n n)∧w=w':=by
 have hc':(n:Int)≤c:=zo;go_enter Tryz.func64,Tryz.ntmps64
 go_wp2
 go_ret
 exact⟨rfl,rfl⟩
def pval:List Nat→Nat
 |[]=>0
 |a::l=>a+65536*pval l
def Parts (l:List Nat):Prop:=∀x∈l,x<65536
theorem Parts.get{l:List Nat}(h:Parts l){x:Nat}(hx:l[i]? =some x):x<65536:=h x (tB2 hx)
theorem Parts.set{l:List Nat}(h:Parts l)(i x:Nat)(hx:x<65536):Parts (l.set i x):=by
 intro y hy;rcases List.mem_or_eq_of_mem_set hy with hy|rfl
 · exact h y hy
 exact hx
theorem qxx:∀(l:List Nat) (i x o:Nat),l[i]? =some o→pval (l.set i x)+o*65536^i=pval l+x*65536^i
 |[],i,x,o,h=>by simp at h
 |a::l,0,x,o,h=>by
  simp at h;subst h;simp[pval];omega
 |a::l,i+1,x,o,h=>by
  have ih:=qxx l i x o (by simpa using h);simp only[List.set_cons_succ,pval];rw[Nat.pow_succ];have e1:o*(65536^i*65536)=65536*(o*65536^i):=by rw[←Nat.mul_assoc,Nat.mul_comm]
  have e2:x*(65536^i*65536)=65536*(x*65536^i):=by rw[←Nat.mul_assoc,Nat.mul_comm]
  rw[e1,e2];omega
theorem qxy:∀(l:List Nat),Parts l→pval l<65536^l.length
 |[],_=>by simp[pval]
 |a::l,h=>by
  have ih:=qxy l (fun x hx=>h x (List.mem_cons_of_mem _ hx));have ha:=h a zm;simp only[pval,tBi];rw[Nat.pow_succ];have:65536*pval l+65536≤65536*65536^l.length:=by
   have:=Nat.mul_le_mul_left 65536 (Nat.succ_le_of_lt ih);omega
  rw[Nat.mul_comm (65536^l.length)];omega
theorem qxz(l:List Nat):∀(k x:Nat),l[k]? =some x→pval (l.take (k+1))=pval (l.take k)+x*65536^k:=by
 induction l with
 |nil=>intro k x h;simp at h
 |cons a l ih=>
  intro k x h;cases k with
  |zero=>
   simp at h;subst h;simp[pval]
  |succ k=>
   have:=ih k x (by simpa using h);simp only[List.take_succ_cons,pval];rw[this,Nat.pow_succ];have e1:x*(65536^k*65536)=65536*(x*65536^k):=by rw[←Nat.mul_assoc,Nat.mul_comm]
   rw[e1];omega
theorem qy0:∀(l:List Nat) (k:Nat),k≤l.length→pval l=pval (l.take k)+65536^k*pval (l.drop k)
 |l,0,_=>by simp[pval]
 |[],k+1,h=>by simp at h
 |a::l,k+1,h=>by
  have ih:=qy0 l k (by simpa using h);simp only[List.take_succ_cons,List.drop_succ_cons,pval];rw[ih,Nat.pow_succ,Nat.mul_add];have e:65536^k*65536*pval (l.drop k)=65536*(65536^k*pval (l.drop k)):=by
   rw[Nat.mul_comm (65536^k) 65536,Nat.mul_assoc]
  rw[e];omega
theorem qy1{a b:List Nat}(ha:Parts a)(hb:Parts b)(hl:a.length=b.length)(i x y:Nat)(hx:a[i]? =some x)(hy:b[i]? =some y)(hd:a.drop (i+1)=b.drop (i+1))(h:x<y):pval a<pval b:=by
 have hi:i+1≤a.length:=(tA8 hx).1;rw[qy0 a (i+1) hi,qy0 b (i+1) zo,hd,qxz a i x hx,qxz b i y hy];have h1:=qxy (a.take i) (fun z hz=>ha z (tB7 hz));rw[tBd,Nat.min_eq_left zo]at h1;have h2:(x+1)*65536^i≤y*65536^i:=Nat.mul_le_mul_right _ h;rw[Nat.add_mul]at h2;omega
def qy2 (x:Nat):List Nat:=[x % 65536,x / 65536 % 65536,x / 4294967296 % 65536,x / 281474976710656]
theorem qy3(x:Nat)(h:x<18446744073709551616):pval (qy2 x)=x:=by
 simp only[qy2,pval];omega
theorem qy4(x:Nat)(h:x<18446744073709551616):Parts (qy2 x):=by
 intro y hy;simp only[qy2,List.mem_cons,List.not_mem_nil,or_false]at hy;rcases hy with rfl|rfl|rfl|rfl
 · exact Nat.mod_lt _ zdc
 · exact Nat.mod_lt _ zdc
 · exact Nat.mod_lt _ zdc
 omega
structure RowAt (A B:List Nat)(i k:Nat)(ai:Nat)(o:List Nat)(c:Nat)(v0:Nat):Prop where
 parts:Parts o
 len:o.length=A.length+B.length
 top:∀j,i+B.length≤j→j<o.length→o[j]? =some 0
 carry:c<65536
 val:pval o+c*65536^(i+k)=v0+ai*pval (B.take k)*65536^i
theorem qy5{A B:List Nat}{c v0:Nat}{o:List Nat}(hB:Parts B)(hai:ai<65536)(h:RowAt A B i k ai o c v0)(hk:B[k]? =some bk)(hj:o[i+k]? =some oj):
 RowAt A B i (k+1) ai (o.set (i+k) ((oj+ai*bk+c) % 65536)) ((oj+ai*bk+c) / 65536) v0:=by
 have hbk:=hB.get hk;have hoj:=h.parts.get hj;have hkl:k<B.length:=(tA8 hk).1;have hm:ai*bk≤65535*65535:=Nat.mul_le_mul zo zo;have hc:=h.carry;obtain⟨n,hn⟩:=xeq (oj+ai*bk+c);refine⟨h.parts.set _ _ (Nat.mod_lt _ zdc),by rw[List.length_set];exact h.len,?_,by omega,?_⟩
 · intro j h1 h2
   rw[List.length_set]at h2;rw[List.getElem?_set_ne zo];exact h.top j h1 h2
 have hs:=qxx o (i+k) ((oj+ai*bk+c) % 65536) oj hj;have hv:=h.val;have ht:=qxz B k bk hk;rw[hn]at hs ⊢;obtain⟨E,hE⟩:=xeq (65536^(i+k));have hE1:65536^(i+(k+1))=65536*E:=by rw[←hE,←Nat.add_assoc,Nat.pow_succ,Nat.mul_comm]
 have hEi:65536^k*65536^i=E:=by rw[←hE,←Nat.pow_add,Nat.add_comm]
 rw[hE]at hs hv;rw[hE1,ht];have e1:n=65536*(n / 65536)+n % 65536:=(Nat.div_add_mod n 65536).symm;obtain⟨q,hq⟩:=xeq (n / 65536);obtain⟨r,hr⟩:=xeq (n % 65536);rw[hq,hr]at e1;rw[hr]at hs;rw[hr,hq];have e2:q*(65536*E)=65536*q*E:=by rw[←Nat.mul_assoc,Nat.mul_comm q]
 have e3:n*E=65536*q*E+r*E:=by rw[e1,Nat.add_mul]
 have e4:n*E=oj*E+ai*bk*E+c*E:=by rw[←hn,Nat.add_mul,Nat.add_mul]
 have e5:ai*(pval (B.take k)+bk*65536^k)*65536^i=ai*pval (B.take k)*65536^i+ai*bk*E:=by
  rw[Nat.mul_add,Nat.add_mul,←Nat.mul_assoc,Nat.mul_assoc (ai*bk),hEi]
 rw[e2,e5];omega
structure RowsAt (A B:List Nat)(i:Nat)(o:List Nat):Prop where
 parts:Parts o
 len:o.length=A.length+B.length
 top:∀j,i+B.length≤j→j<o.length→o[j]? =some 0
 val:pval o=pval (A.take i)*pval B
theorem qy6:∀n,pval (List.replicate n 0)=0
 |0=>rfl
 |n+1=>by simp[List.replicate_succ,pval,qy6 n]
theorem qy7(A B:List Nat):RowsAt A B 0 (List.replicate (A.length+B.length) 0):=
 ⟨fun x hx=>by obtain rfl:=List.eq_of_mem_replicate hx;decide,by simp,fun j _ h=>by simp at h;simp[h],by simp[qy6,pval]⟩
theorem qy8{A B:List Nat}{o:List Nat}(h:RowsAt A B i o):RowAt A B i 0 ai o 0 (pval o):=
 ⟨h.parts,h.len,h.top,by decide,by simp[pval]⟩
theorem qy9{A B:List Nat}{c:Nat}{o:List Nat}(h0:RowsAt A B i o0)(hi:A[i]? =some ai)(h:RowAt A B i B.length ai o c (pval o0)):
 o[i+B.length]? =some 0∧RowsAt A B (i+1) (o.set (i+B.length) c):=by
 have hil:i<A.length:=(tA8 hi).1;have h1:o[i+B.length]? =some 0:=h.top _ (tA4 _) (by rw[h.len];omega);refine⟨h1,h.parts.set _ _ h.carry,by rw[List.length_set];exact h.len,?_,?_⟩
 · intro j g1 g2
   rw[List.length_set]at g2;rw[List.getElem?_set_ne zo];exact h.top j zo g2
 have hs:=qxx o (i+B.length) c 0 h1;have hv:=h.val;rw[List.take_length,h0.val]at hv;rw[qxz A i ai hi,Nat.add_mul,Nat.mul_right_comm ai];omega
theorem qya{A B:List Nat}{o:List Nat}(h:RowsAt A B A.length o):pval o=pval A*pval B:=by
 have:=h.val;rwa[List.take_length]at this
def qyb (x p:Nat)(cube:Bool):Bool:=if cube then decide (x^3≤p*2^96) else decide (x^2≤p*2^64)
theorem qyc{x:Nat}{cube:Bool}(h:x≤y)(hb:qyb y p cube=true):qyb x p cube=true:=by
 unfold qyb at hb ⊢;cases cube with
 |true=>
  simp only[if_true,decide_eq_true_eq]at hb ⊢;exact tB1 (Nat.pow_le_pow_left h 3) hb
 |false=>
  simp only[Bool.false_eq_true,if_false,decide_eq_true_eq]at hb ⊢;exact tB1 (Nat.pow_le_pow_left h 2) hb
def IsRoot (r p:Nat)(cube:Bool):Prop:=qyb r p cube=true∧qyb (r+1) p cube=false
theorem IsRoot.eq{r s:Nat}{cube:Bool}(h:IsRoot r p cube)(k:IsRoot s p cube):r=s:=by
 rcases Nat.lt_trichotomy r s with hlt|rfl|hlt
 · have:=qyc (show r+1≤s from hlt) k.1
   rw[h.2]at this;cases this
 · rfl
 have:=qyc (show s+1≤r from hlt) h.1;rw[k.2]at this;cases this
def qyd (out:List Nat)(p:Nat):Bool:=out.all fun q=>decide (p % q≠0)
def qye (n:Nat):Nat→Nat→List Nat→List Nat
 |0,_,out=>out
 |f+1,p,out=>if out.length<n then(if qyd out p then qye n f (p+1) (out++[p]) else qye n f (p+1) out) else out
def qyf:List Nat:=[2,3,5,7,11,13,17,19,23,29,31,37,41,43,47,53,59,61,67,71,73,79,83,89,97,101,103,107,109,113,127,131,137,139,149,151,157,163,167,173,179,181,191,193,197,199,211,223,227,229,233,239,241,251,257,263,269,271,277,281,283,293,307,311]
theorem qyg:qye 64 400 2 []=qyf:=by decide+kernel
theorem qyh(n:Nat):∀(f p:Nat) (out:List Nat),n≤out.length→qye n f p out=out
 |0,_,_,_=>rfl
 |f+1,p,out,h=>by
  unfold qye;rw[if_neg zo]
theorem qyi(out:List Nat)(p k q:Nat)(h:out[k]? =some q):qyd (out.take (k+1)) p=(qyd (out.take k) p&&decide (p % q≠0)):=by
 unfold qyd;rw[List.take_add_one,h,List.all_append];simp
def qyj (p k:Nat):Nat→Nat
 |0=>0
 |n+1=>if (n+1)^k≤p then n+1 else qyj p k n
def qyk (p r:Nat)(cube:Bool):Bool:=qyb r p cube&&!qyb (r+1) p cube
theorem qyl{r:Nat}{cube:Bool}(h:qyk p r cube=true):IsRoot r p cube:=by
 unfold qyk at h;simp only[Bool.and_eq_true,Bool.not_eq_true']at h;exact h
def u64v (l:List Nat):List Value:=l.map fun n:Nat=>Value.int .u64 (n:Int)
theorem qym(l:List Nat):(u64v l).length=l.length:=by simp[u64v]
theorem qyn{l:List Nat}{x:Nat}(h:l[i]? =some x):(u64v l)[i]? =some (.int .u64 (x:Int)):=by simp[u64v,h]
theorem qyo(l:List Nat)(i x:Nat):(u64v l).toArray.setIfInBounds i (.int .u64 (x:Int))=(u64v (l.set i x)).toArray:=by simp[u64v,List.map_set]
theorem Tryz.u64_info:(Tryz.prog.info? 32).map (fun i=>(i.zero,i.size,i.bytes))=some (some (.int .u64 0),1,8):=by kernel_rfl
theorem qyp(n:Nat)(hn:n≤1000000)(w:World):(Instr.makeSlice 212 (.int .i64 (n:Int)) (.int .i64 (n:Int))).run Tryz.prog w=.ok (.slice (some ⟨w.heap.size,0,none⟩) n n) (w.alloc (.cells (u64v (List.replicate n 0)).toArray 32)):=by
 obtain⟨i0,hi0,hz0,hz1,hz2⟩:=info_parts Tryz.u64_info;have h:=run_make (P:=Tryz.prog) w 212 32 i0 _ Tryz.underlying212 hi0 hz0 .i64 .i64 n n zo (Int.le_refl _) (by rw[hz2];omega) zo;rw[h,hz1];have e:madeCells (Value.int .u64 0).cells ((n:Int).toNat*1)=(u64v (List.replicate n 0)).toArray:=by
  apply Array.ext';rw[show (Value.int .u64 0).cells=#[Value.int .u64 0] from rfl,toList_madeCells_one];simp[u64v]
 rw[e];simp
theorem qyq{l:List Nat}(h:Reads w B 1 A n (u64v l)):l.length=n:=by
 have:=h.1;simpa [u64v] using this
theorem qyr{l:List Nat}(h:Blk w g 32 (u64v l).toArray):Reads w w.heap.size 1 (some ⟨g,0,none⟩) l.length (u64v l):=by
 refine⟨by rw[qym,Nat.mul_one],fun _=>⟨_,rfl,h.lt,fun j u hu=>?_⟩⟩;rw[Addr.add_mid,h.cell (0+j),Nat.zero_add];simpa using hu
theorem qys(n:Nat)(hn:n<18446744073709551616):bits .and .u64 (n:Int) 65535=((n % 65536:Nat):Int):=by
 have h:=bits_and_u64_nat n 65535 hn zdc;rw[show ((65535:Nat):Int)=65535 from rfl]at h;rw[h,show (65535:Nat)=2^16 - 1 from rfl,Nat.and_two_pow_sub_one_eq_mod]
theorem qyt(x:Nat)(w:World)(hx:x<18446744073709551616):
 Zc 218 #[.int .u64 x] w fun e w'=>e=.returned (.slice (some ⟨w.heap.size,0,none⟩) 4 4)∧Blk w' w.heap.size 32 (u64v (qy2 x)).toArray∧Zb w w':=by
 obtain⟨x1,h1⟩:=xeq (x / 65536);obtain⟨x2,h2⟩:=xeq (x / 4294967296);obtain⟨x3,h3⟩:=xeq (x / 281474976710656);have a0:=qys x hx;have a1:=qys x1 zo;have a2:=qys x2 zo;have q1:(x:Int) / 65536=x1:=zo;have q2:(x:Int) / 4294967296=x2:=zo;have q3:(x:Int) / 281474976710656=x3:=zo;have e:qy2 x=[x % 65536,x1 % 65536,x2 % 65536,x3]:=by rw[←h1,←h2,←h3];rfl
 rw[e];clear h1 h2 h3 e;go_enter Tryz.func218,Tryz.ntmps218
 go_wp2
 go_ret
 exact⟨rfl,Blk.new _ _ _,(tA5 _ _).alloc (tA4 _) _⟩
theorem qyu(A B:List Nat)(pa pb:Option Addr)(na ca nb cb:Nat)(w:World)(ha:Reads w w.heap.size 1 pa na (u64v A))(hb:Reads w w.heap.size 1 pb nb (u64v B))(h1:0<na)(h2:0<nb)(h3:na≤1000)(h4:nb≤1000)(hA:Parts A)(hB:Parts B):
 Zc 219 #[.slice pa na ca,.slice pb nb cb] w fun e w'=>∃o:List Nat,e=.returned (.slice (some ⟨w.heap.size,0,none⟩) (na+nb) (na+nb))∧Blk w' w.heap.size 32 (u64v o).toArray∧o.length=na+nb∧Parts o∧pval o=pval A*pval B∧Below w.heap.size w w':=by
 have lA:=qyq ha;have lB:=qyq hb;obtain⟨m,hm⟩:=xeq (na+nb);have hmi:(na:Int)+nb=m:=zo;have mk:=fun w=>qyp m zo w
 obtain⟨Z,hZ⟩:=xeq ((u64v (List.replicate m 0)).toArray);simp only[hZ]at mk;have z0:=Blk.new w 32 Z;have b0:Below w.heap.size w (w.alloc (.cells Z 32)):=(tA5 _ _).alloc (tA4 _) _;obtain⟨W0,hW0⟩:=eqx (w.alloc (.cells Z 32));rw[←hW0]at z0 b0;rw[←hZ]at z0;obtain⟨ba,oa,rfl,hba,hca⟩:=ha.mid zo zo;obtain⟨bb,ob,rfl,hbb,hcb⟩:=hb.mid zo zo;obtain⟨g,hg⟩:=xeq w.heap.size;have r0:=qy7 A B;rw[lA,lB,hm]at r0;obtain⟨A4,A5,HA,HBp,LA,LB,HM,Z0⟩:=zh8 hca hcb hA hB lA lB hm (show Blk W0 g 32 (u64v (List.replicate m 0)).toArray by rw[←hg];exact z0);obtain⟨B0,R0,A6⟩:=zh3 (show Below g w W0 by rw[←hg];exact b0) r0 hW0;(try simp only[Zb]at hba hbb);rw[hg]at hba hbb ⊢
 have HG:=zh1 hg;clear ha hb lA lB hA hB hca hcb z0 b0 r0 hZ hW0 hm hg;go_enter Tryz.func219,Tryz.ntmps219
 go_upto_region 2 with(fail)
 rw[←A6.o,HG.o];clear mk hmi;go_wp2_with fail
 go_loopw [6] (fun i wr=>∃(k:Nat) (o:List Nat),k≤na∧i=.int .i64 k∧Hid (RowsAt A B k o)∧Hid (Blk wr g 32 (u64v o).toArray)∧Hid (Below g w wr)) (fun i _=>na - (intOf i).toNat)
 case atStart=>exact⟨0,_,by omega,rfl,R0.o,Z0.o,B0.o⟩
 case round=>
  clear R0 Z0 B0;obtain⟨k,o,hk,rfl,hrows,hblk,hbel⟩:=hrel;by_cases hlt:k<na
  ·
   obtain⟨ai,hai⟩:∃x,A[k]? =some x:=⟨_,tA7 (by rw[LA.o];exact hlt)⟩;have hai1:=HA.get hai;obtain⟨A3,RS⟩:=zh2 hai (qy8 (ai:=ai) hrows.o);clear hai;have qk:(k:Int)<na:=zo;go_wp2_with fail
   go_loopw [7,8] (fun c j wr=>∃(jk:Nat) (o':List Nat) (cv:Nat),jk≤nb∧cv<65536∧c=.int .u64 cv∧j=.int .i64 jk∧Hid (RowAt A B k jk ai o' cv (pval o))∧Hid (Blk wr g 32 (u64v o').toArray)∧Hid (Below g w wr)) (fun _ j _=>nb - (intOf j).toNat)
   case atStart=>exact⟨0,o,0,by omega,by omega,rfl,rfl,RS.o,hblk.o,hbel.o⟩
   case round=>
    clear RS hblk hbel;obtain⟨jk,o',cv,hj,hcv,rfl,rfl,hrow,hblk,hbel⟩:=hrel;have lo:o'.length=m:=by rw[hrow.len,LA.o,LB.o];exact HM.o
    by_cases hlj:jk<nb
    ·
     obtain⟨bk,hbk⟩:∃x,B[jk]? =some x:=⟨_,tA7 (by rw[LB.o];exact hlj)⟩;obtain⟨oj,hoj⟩:∃x,o'[k+jk]? =some x:=⟨_,tA7 (by rw[lo];have:=HM.o;omega)⟩;have hbk1:=HBp.get hbk;have hoj1:=hrow.parts.get hoj;have ca:=(hbel.cell (p:=⟨ba,oa+k,none⟩) hba).trans (A4.o k _ (qyn A3.o));have cb:=(hbel.cell (p:=⟨bb,ob+jk,none⟩) hbb).trans (A5.o jk _ (qyn hbk));have A0:=qy5 HBp.o hai1 hrow.o hbk hoj;have hpm:ai*bk≤65535*65535:=Nat.mul_le_mul zo zo;obtain⟨s,hs⟩:=xeq (k+jk);rw[hs]at hoj A0;have co:=(hblk.cell s).trans (show _=some (.int .u64 (oj:Int)) by simpa using qyn hoj);have cf:=hblk.frozen s;have hsm:s<m:=by have:=HM.o;omega
     obtain⟨pm,hpm'⟩:=xeq (ai*bk);rw[hpm']at A0 hpm;obtain⟨n,hn⟩:=xeq (oj+pm+cv);rw[hn]at A0;obtain⟨nd,hnd⟩:=xeq (n / 65536);obtain⟨nm,hnm⟩:=xeq (n % 65536);rw[hnd,hnm]at A0;have ST:=zh1 A0;have f1:IntKind.i64.wrap ((k:Int)+jk)=s:=by rw[show (k:Int)+jk=s by omega];exact tBb _ zo
     have f2:IntKind.u64.wrap ((ai:Int)*bk)=pm:=by
      rw[show (ai:Int)*bk=pm by rw[←hpm'];simp];exact tBa _ zo
     have f3:IntKind.u64.wrap ((oj:Int)+pm)=((oj+pm:Nat):Int):=by rw[show (oj:Int)+pm=((oj+pm:Nat):Int) by omega];exact tBa _ zo
     have f4:IntKind.u64.wrap (((oj+pm:Nat):Int)+cv)=n:=by rw[show ((oj+pm:Nat):Int)+cv=n by omega];exact tBa _ zo
     obtain⟨op,hop⟩:=xeq (oj+pm);rw[hop]at f3 f4;have f5:bits .and .u64 (n:Int) 65535=nm:=by rw[qys n zo,hnm]
     have f6:(n:Int) / 65536=nd:=zo;have qs:(s:Int)<m:=zo;have G1:=zh1 (show (k:Int)+jk=s by omega);have qj:(jk:Int)<nb:=zo;have hnd1:nd<65536:=zo;have A1:=zh1 (show Blk (wr.drew.setCell ⟨g,s,none⟩ (.int .u64 (nm:Int))) g 32 (u64v (o'.set s nm)).toArray by
      have:=(hblk.drew).set_ s (.int .u64 (nm:Int));rw[qyo]at this;exact this)
     have A2:=zh1 (show Below g w (wr.drew.setCell ⟨g,s,none⟩ (.int .u64 (nm:Int))) from hbel.drew.setCell (p:=⟨g,s,none⟩) (tA4 _) _);clear hbk hoj A0 hs hpm' hn hnd hnm hop hpm hrow hblk hbel;go_upto_region 9 with(fail)
     obtain⟨S,HS⟩:=zS fun w'=>w'.cell? ⟨g,s,none⟩=some (.int .u64 (oj:Int))∧w'.cell? ⟨ba,oa+k,none⟩=some (.int .u64 (ai:Int))∧w'.cell? ⟨bb,ob+jk,none⟩=some (.int .u64 (bk:Int))
     refine zrs S 19 (zq 0 19 []) ((HS.o _).mpr ⟨co,ca,cb⟩) ?_;repeat(refine zrt0 ?_)
     refine qbg ?_;clear f1 f2 f3 f4;have f1:=G1.o;go_wp2
     go_roundw
     case rel=>exact⟨jk+1,_,nd,by omega,hnd1,rfl,by go_num,ST,A1,A2⟩
     case measure=>simp[intOf];omega
    obtain rfl:nb=jk:=zo;have hrow':=hrow.o;rw[←LB.o]at hrow';obtain⟨e1,e2⟩:=qy9 hrows.o A3.o hrow';rw[LB.o]at e1 e2;obtain⟨s,hs⟩:=xeq (k+nb);rw[hs]at e1 e2;have co:=(hblk.cell s).trans (show _=some (.int .u64 ((0:Nat):Int)) by simpa using qyn e1);rw[show ((0:Nat):Int)=0 from rfl]at co;have cf:=hblk.frozen s;have hsm:s<m:=by have:=HM.o;omega
    have f1:(k:Int)+nb=s:=zo;have qs:(s:Int)<m:=zo;have q0:¬(nb:Int)<nb:=zo;have ER:=zh1 e2;have A1:=zh1 (show Blk (wr.setCell ⟨g,s,none⟩ (.int .u64 (cv:Int))) g 32 (u64v (o'.set s cv)).toArray by
     have:=hblk.set_ s (.int .u64 (cv:Int));rw[qyo]at this;exact this)
    have A2:=zh1 (show Below g w (wr.setCell ⟨g,s,none⟩ (.int .u64 (cv:Int))) from hbel.setCell (p:=⟨g,s,none⟩) (tA4 _) _);clear hrow hrow' hrows e1 e2 hs hblk hbel lo;go_wp2
    go_roundw
    case rel=>exact⟨k+1,_,by omega,by go_num,ER,A1,A2⟩
    case measure=>simp[intOf];omega
  obtain rfl:na=k:=zo;have hr:=hrows.o;rw[←LA.o]at hr;have hv:=qya hr;have HR:=zh1 (show o.length=na+nb∧Parts o∧pval o=pval A*pval B from⟨by rw[hr.len,LA.o,LB.o],hr.parts,hv⟩);clear hr hv;go_wp2
  go_ret
  exact⟨o,by rw[HM.o];rfl,hblk.o,HR.o.1,HR.o.2.1,HR.o.2.2,hbel.o⟩
def qyv (len n p:Nat):List Nat:=((List.replicate len 0).set n (p % 65536)).set (n+1) (p / 65536)
theorem qyw(len n p:Nat):(qyv len n p).length=len:=by simp[qyv]
theorem qyx(len n p:Nat)(hp:p<4294967296):Parts (qyv len n p):=by
 have h0:Parts (List.replicate len 0):=fun x hx=>by obtain rfl:=List.eq_of_mem_replicate hx;decide
 exact(h0.set _ _ (Nat.mod_lt _ zdc)).set _ _ zo
theorem qyy(len n p:Nat)(hn:n+1<len):pval (qyv len n p)=p*65536^n:=by
 have h1:=qxx (List.replicate len 0) n (p % 65536) 0 (by rw[List.getElem?_replicate,if_pos zo]);rw[qy6]at h1;have h2:=qxx ((List.replicate len 0).set n (p % 65536)) (n+1) (p / 65536) 0 (by rw[List.getElem?_set_ne zo,List.getElem?_replicate,if_pos zo]);unfold qyv;rw[Nat.pow_succ]at h2;obtain⟨E,hE⟩:=xeq (65536^n);rw[hE]at h1 h2 ⊢;have e1:p / 65536*(E*65536)=65536*(p / 65536)*E:=by rw[Nat.mul_comm E,←Nat.mul_assoc,Nat.mul_comm (p / 65536)]
 have e2:p*E=65536*(p / 65536)*E+p % 65536*E:=by rw[←Nat.add_mul,Nat.div_add_mod]
 rw[e1]at h2;omega
theorem qyz{a b:List Nat}(ha:Parts a)(hb:Parts b)(hl:a.length=b.length)(i x y:Nat)(hx:a[i]? =some x)(hy:b[i]? =some y)(hd:a.drop (i+1)=b.drop (i+1))(h:x≠y):decide (x<y)=decide (pval a≤pval b):=by
 rcases Nat.lt_or_ge x y with hlt|hge
 · have:=qy1 ha hb hl i x y hx hy hd hlt
   simp[hlt];omega
 have:=qy1 hb ha hl.symm i y x hy hx hd.symm zo;have h1:¬x<y:=zo;simp[h1];omega
theorem qz0{a b:List Nat}{x:Nat}(hx:a[i]? =some x)(hy:b[i]? =some x)(hd:a.drop (i+1)=b.drop (i+1)):a.drop i=b.drop i:=by
 have h1:a.drop i=x::a.drop (i+1):=by
  obtain⟨h,e⟩:=tA8 hx;rw[←e];exact List.drop_eq_getElem_cons h
 have h2:b.drop i=x::b.drop (i+1):=by
  obtain⟨h,e⟩:=tA8 hy;rw[←e];exact List.drop_eq_getElem_cons h
 rw[h1,h2,hd]
theorem qz1(x p:Nat)(cube:Bool)(w:World)(hx:x<18446744073709551616)(hp:p<4294967296):
 Zc 177 #[.int .u64 x,.int .u64 p,.bool cube] w fun e w'=>e=.returned (.bool (qyb x p cube))∧Below w.heap.size w w':=by
 go_enter Tryz.func177,Tryz.ntmps177
 go_wp2_with fail
 refine(qyt x w hx).mono ?_;rintro e w1 ⟨rfl,k1,b1⟩;have r1:=qyr k1;rw[show (qy2 x).length=4 from rfl]at r1;have PL:=qy4 x hx;have VL:=qy3 x hx;obtain⟨HP,HV,R1,B1⟩:=zh4 PL VL r1 b1;clear k1 b1 r1 PL VL;go_wp2_with fail
 refine(qyu (qy2 x) (qy2 x) _ _ 4 4 4 4 w1 R1.o R1.o zdc zdc zdc zdc HP.o HP.o).mono ?_;rintro e w2 ⟨o,rfl,k2,l2,p2,v2,b2⟩;obtain⟨B2,R1',K2⟩:=zh3 (B1.trans (b2.mono B1.size)) (R1.call b2) k2;have r2:=qyr k2;rw[l2]at r2;obtain⟨R2,L2,P2⟩:=zh3 r2 l2 p2;rw[HV.o]at v2;have V2:=zh1 v2;clear k2 l2 p2 v2 b2 r2 R1 B1;rw[show 4+4=8 from rfl]at R2 L2 ⊢;go_upto_if 17 with(fail)
 go_cut [8,9] (fun s8 s9 wx=>∃(o':List Nat) (g L n:Nat),s8=.slice (some ⟨g,0,none⟩) L L∧s9=.int .i64 n∧n+1<L∧L≤12∧Hid (Blk wx g 32 (u64v o').toArray)∧Hid (o'.length=L∧Parts o')∧Hid (decide (pval o'≤p*65536^n)=qyb x p cube)∧Hid (Below w.heap.size w wx))
 case first=>
  cases cube with
  |false=>
   have hv:decide (pval o≤p*65536^4)=qyb x p false:=by
    rw[V2.o];unfold qyb;simp only[Bool.false_eq_true,if_false];rw[show (65536:Nat)^4=2^64 from by decide,Nat.pow_two]
   have A0:=zh1 hv;clear hv;go_wp2
   go_meet
   case rel=>exact⟨o,w1.heap.size,8,4,rfl,rfl,by omega,by omega,K2,⟨L2.o,P2.o⟩,A0,B2⟩
  |true=>
   go_wp2_with fail
   refine(qyu o (qy2 x) _ _ 8 8 4 4 w2 R2.o R1'.o zdc zdc zdc zdc P2.o HP.o).mono ?_;rintro e w3 ⟨o3,rfl,k3,l3,p3,v3,b3⟩;rw[V2.o,HV.o]at v3;have hv:decide (pval o3≤p*65536^6)=qyb x p true:=by
    rw[v3];unfold qyb;simp only[if_true];rw[show (65536:Nat)^6=2^96 from by decide,show x^3=x*x*x from by rw[Nat.pow_succ,Nat.pow_two]]
   obtain⟨A0,K3,HL,B3⟩:=zh4 hv k3 (show o3.length=12∧Parts o3 from⟨l3,p3⟩) (B2.trans (b3.mono B2.size));clear k3 l3 p3 v3 b3 hv;rw[show 8+4=12 from rfl];go_wp2
   go_meet
   case rel=>exact⟨o3,w2.heap.size,12,6,rfl,rfl,by omega,by omega,K3,HL,A0,B3⟩
 case rest=>
  obtain⟨o',g,L,n,rfl,rfl,hnL,hL12,K3,HL,A0,B3⟩:=hcut;obtain⟨w3,rfl⟩:=eqx wc;clear B2 R1' K2 R2 L2 P2 V2 HP HV;have mk:=fun w=>qyp L zo w
  obtain⟨Z,hZ⟩:=xeq ((u64v (List.replicate L 0)).toArray);simp only[hZ]at mk;obtain⟨pm,hpm⟩:=xeq (p % 65536);obtain⟨pd,hpd⟩:=xeq (p / 65536);have f1:bits .and .u64 (p:Int) 65535=pm:=by rw[qys p zo,hpm]
  have f2:(p:Int) / 65536=pd:=zo;have z0:=Blk.new w3 32 Z;obtain⟨w4,hw4⟩:=eqx (w3.alloc (.cells Z 32));rw[←hw4]at z0;rw[←hZ]at z0;have k4:Blk w4 g 32 (u64v o').toArray:=by rw[hw4];exact K3.alloc _
  have b4:Below w.heap.size w w4:=by rw[hw4];exact B3.alloc B3.size _
  have hgl:g<w3.heap.size:=K3.lt;have hws:w.heap.size≤w3.heap.size:=B3.size;obtain⟨G,hG⟩:=xeq w3.heap.size;rw[hG]at z0 hgl hws;obtain⟨HG,A1⟩:=zh2 hG hw4;have zc:=(z0.cell n).trans (show _=some (.int .u64 0) by simpa using qyn (show (List.replicate L 0)[n]? =some 0 by rw[List.getElem?_replicate,if_pos zo]));have zf:=z0.frozen n;have z1:=z0.set_ n (.int .u64 (pm:Int));rw[qyo]at z1;have k5:=k4.far (p:=⟨G,n,none⟩) (by show g≠G;omega) (.int .u64 (pm:Int));have b5:=b4.setCell (p:=⟨G,n,none⟩) (by show w.heap.size≤G;omega) (.int .u64 (pm:Int));obtain⟨w5,hw5⟩:=eqx (w4.setCell ⟨G,n,none⟩ (.int .u64 (pm:Int)));rw[←hw5]at z1 k5 b5;have zc1:=(z1.cell (n+1)).trans (show _=some (.int .u64 0) by simpa using qyn (show ((List.replicate L 0).set n pm)[n+1]? =some 0 by rw[List.getElem?_set_ne zo,List.getElem?_replicate,if_pos zo]));have zf1:=z1.frozen (n+1);have z2:=z1.set_ (n+1) (.int .u64 (pd:Int));rw[qyo]at z2;have k6:=k5.far (p:=⟨G,n+1,none⟩) (by show g≠G;omega) (.int .u64 (pd:Int));have b6:=b5.setCell (p:=⟨G,n+1,none⟩) (by show w.heap.size≤G;omega) (.int .u64 (pd:Int));obtain⟨n1,hn1⟩:=xeq (n+1);rw[hn1]at zc1 zf1 z2 k6 b6 hnL;have hn1i:(n:Int)+1=n1:=zo;obtain⟨w6,hw6⟩:=eqx (w5.setCell ⟨G,n1,none⟩ (.int .u64 (pd:Int)));rw[←hw6]at z2 k6 b6;have Z2:Hid (Blk w6 G 32 (u64v (qyv L n p)).toArray):=by
   unfold qyv;rw[hn1,hpm,hpd];exact z2
  obtain⟨K6,B6,A2,A3,A5⟩:=zh5 k6 b6 hw5 hw6 hn1;have qL:(n1:Int)<L:=zo;have qn:(n:Int)<L:=zo;have WV:Hid (pval (qyv L n p)=p*65536^n):=qyy L n p zo;have WL:Hid ((qyv L n p).length=L):=qyw L n p;have WP:Hid (Parts (qyv L n p)):=qyx L n p hp;obtain⟨W,hWW⟩:=xeq (qyv L n p);rw[hWW]at Z2 WV WL WP;clear z0 z1 z2 k4 k5 k6 b4 b5 b6 hw4 hw5 hw6 hn1 hpm hpd hG hZ hWW K3 B3;go_upto_region 8 with(fail)
  rw[←A1.o,HG.o];go_upto_region 10 with(fail)
  rw[←A2.o];clear zc zf f1 mk;go_upto_region 11 with(fail)
  rw[←A3.o];clear zc1 zf1 f2 hn1i;go_wp2_with fail
  go_loopw [11] (fun i wr=>∃m:Nat,m≤L∧i=.int .i64 ((m:Int) - 1)∧Hid (o'.drop m=W.drop m)∧Hid (Blk wr g 32 (u64v o').toArray)∧Hid (Blk wr G 32 (u64v W).toArray)∧Hid (Below w.heap.size w wr)) (fun i _=>(intOf i+1).toNat)
  case atStart=>exact⟨L,by omega,rfl,by show o'.drop L=W.drop L;rw[List.drop_eq_nil_of_le (by rw[HL.o.1];omega),List.drop_eq_nil_of_le (by rw[WL.o];omega)],K6.o,Z2.o,B6.o⟩
  case round=>
   clear K6 Z2 B6;obtain⟨m,hm,rfl,hdr,hko,hkw,hbe⟩:=hrel;cases m with
   |zero=>
    have hb:qyb x p cube=true:=by
     rw[←A0.o,show o'=W by simpa using hdr.o,WV.o];simp
    have A4:=zh1 hb;clear hb;go_wp2
    go_ret
    exact⟨by rw[A4.o];rfl,hbe.o⟩
   |succ m=>
    have em:((m+1:Nat):Int) - 1=m:=zo;rw[em];clear em;obtain⟨x1,hx1⟩:∃y,o'[m]? =some y:=⟨_,tA7 (by rw[HL.o.1];omega)⟩;obtain⟨y1,hy1⟩:∃y,W[m]? =some y:=⟨_,tA7 (by rw[WL.o];omega)⟩;have c1:=(hko.cell m).trans (show _=some (.int .u64 (x1:Int)) by simpa using qyn hx1);have c2:=(hkw.cell m).trans (show _=some (.int .u64 (y1:Int)) by simpa using qyn hy1);have qm:(m:Int)<L:=zo;obtain⟨S,HS⟩:=zS fun w'=>w'.cell? ⟨g,m,none⟩=some (.int .u64 (x1:Int))∧w'.cell? ⟨G,m,none⟩=some (.int .u64 (y1:Int))
    by_cases he:x1=y1
    ·
     subst he;have HD:=zh1 (qz0 hx1 hy1 hdr.o);clear hx1 hy1 hdr;go_upto_region 14 with(fail)
     refine zrs S 9 (zq 0 9 []) ((HS.o _).mpr ⟨c1,c2⟩) ?_;repeat(refine zrt0 ?_)
     refine qbg ?_;obtain⟨K7,Z7,B7⟩:=zh3 hko.drew hkw.drew hbe.drew;clear c1 c2 hko hkw hbe;go_wp2
     go_roundw
     case rel=>exact⟨m,by omega,rfl,HD,K7,Z7,B7⟩
     case measure=>simp[intOf]
    have q:¬(x1:Int)=y1:=zo;have ht:=qyz HL.o.2 WP.o (by rw[HL.o.1,WL.o]) m x1 y1 hx1 hy1 hdr.o he;rw[WV.o,A0.o]at ht;have HT:=zh1 ht;have qt:decide ((x1:Int)<y1)=decide (x1<y1):=by rw[Bool.eq_iff_iff];simp
    have QT:=zh1 qt;clear hx1 hy1 hdr ht qt;go_upto_region 14 with(fail)
    refine zrs S 9 (zq 0 9 []) ((HS.o _).mpr ⟨c1,c2⟩) ?_;repeat(refine zrt0 ?_)
    refine qbg ?_;have k1:wr.drew.cell? ⟨g,m,none⟩=some (.int .u64 (x1:Int)):=c1;have k2:wr.drew.cell? ⟨G,m,none⟩=some (.int .u64 (y1:Int)):=c2;go_upto_region 15 with(fail)
    refine zrs S 10 (zq 0 10 []) ((HS.o _).mpr ⟨c1,c2⟩) ?_;repeat(refine zrt0 ?_)
    refine qbg ?_;have B7:=zh1 hbe.drew.drew;clear c1 c2 k1 k2 hko hkw hbe;go_wp2
    go_ret
    exact⟨by rw[←HT.o,←QT.o];rfl,B7.o⟩
theorem qz2(p:Nat)(cube:Bool):qyb 0 p cube=true:=by unfold qyb;cases cube<;>simp
theorem qz3(p:Nat)(cube:Bool)(hp:p<1000):qyb 171798691840 p cube=false:=by
 unfold qyb;cases cube with
 |true=>
  have e:(171798691840:Nat)^3=64000*2^96:=by decide
  simp only[if_true,decide_eq_false_iff_not];rw[e];intro h;have:=Nat.le_of_mul_le_mul_right h zdc;omega
 |false=>
  have e:(171798691840:Nat)^2=1600*2^64:=by decide
  simp only[Bool.false_eq_true,if_false,decide_eq_false_iff_not];rw[e];intro h;have:=Nat.le_of_mul_le_mul_right h zdc;omega
theorem qz4(p:Nat)(cube:Bool)(w:World)(hp:p<1000):
 Zc 123 #[.int .u64 p,.bool cube] w fun e w'=>(∃r:Nat,IsRoot r p cube∧e=.returned (.int .u32 ((r % 4294967296:Nat):Int)))∧Zb w w':=by
 obtain⟨H0,HT⟩:=zh2 (qz2 p cube) (qz3 p cube hp);go_enter Tryz.func123,Tryz.ntmps123
 go_wp2_with fail
 go_loopw [5,6] (fun a b wr=>∃lo hi:Nat,lo<hi∧hi≤171798691840∧a=.int .u64 lo∧b=.int .u64 hi∧Hid (qyb lo p cube=true)∧Hid (qyb hi p cube=false)∧Hid (Zb w wr)) (fun a b _=>(intOf b - intOf a).toNat)
 case atStart=>exact⟨0,171798691840,by omega,by omega,rfl,rfl,H0.o,HT.o,tA5 _ _⟩
 case round=>
  obtain⟨lo,hi,hlt,htop,rfl,rfl,hlo,hhi,hbe⟩:=hrel;by_cases h1:1<hi - lo
  ·
   obtain⟨m,hm⟩:=xeq ((lo+hi) / 2);have m1:lo<m:=zo;have m2:m<hi:=zo;have q1:(1:Int)<hi - lo:=zo;have q2:((lo:Int)+hi) / 2=m:=zo;have q3:(0:Int)≤hi - lo:=zo;clear hm h1;go_wp2_with fail
   refine zcb (qz1 m p cube _ zo zo) fun w2 b2=>?_
   have B2:=zh1 (hbe.trans (b2.mono hbe.size));obtain⟨b,hb⟩:=xeq (qyb m p cube);have HBm:=zh1 hb;rw[hb];clear hb b2 hbe;cases b with
   |true=>
    go_wp2
    go_roundw
    case rel=>exact⟨m,hi,by omega,by omega,rfl,rfl,HBm,hhi,B2⟩
    case measure=>simp[intOf];omega
   |false=>
    go_wp2
    go_roundw
    case rel=>exact⟨lo,m,by omega,by omega,rfl,rfl,hlo,HBm,B2⟩
    case measure=>simp[intOf];omega
  obtain rfl:hi=lo+1:=zo;have q1:¬(1:Int)<((lo+1:Nat):Int) - lo:=zo;have q3:(0:Int)≤((lo+1:Nat):Int) - lo:=zo;have hw:IntKind.u32.wrap (lo:Int)=((lo % 4294967296:Nat):Int):=by rw[IntKind.wrap_u32];omega
  clear h1;go_wp2
  go_ret
  exact⟨⟨lo,⟨hlo.o,hhi.o⟩,rfl⟩,hbe.o⟩
def OwnU (w:World)(base:Nat)(v:Value)(l:List Nat):Prop:=w.ownsRow base 32 1 v l.length (u64v l)
theorem qz5(l:List Nat):∀u∈u64v l,u.oneCell'=true:=by
 intro u hu;obtain⟨x,_,rfl⟩:=List.mem_map.1 hu;rfl
section
variable {w w' : World} {base : Nat} {v : Value} {l : List Nat}
theorem OwnU.nil(w:World)(base:Nat):OwnU w base (.slice none 0 0) []:=World.ownsRow_nil ..
theorem OwnU.sl(h:OwnU w base v l):∃A n c,v=.slice A n c∧n=l.length∧n≤c∧c≤maxLen∧Reads w w.heap.size 1 A n (u64v l):=by
 obtain⟨A,c,h1,h2,h3,h4⟩:=qaf h;exact⟨A,_,c,h1,rfl,h2,h3,h4⟩
theorem OwnU.kept(h:OwnU w base v l)(hb:Zb w w'):OwnU w' base v l:=
 tB3 h ⟨hb.os,hb.tape,hb.output,hb.size,fun k hk _=>hb.block k hk⟩ (row:=none) (by cases v.ownBlock<;>simp)
theorem OwnU.alloc(h:OwnU w base v l)(o:Obj):OwnU (w.alloc o) base v l:=h.kept ((tA5 _ _).alloc (tA4 _) o)
end
theorem qz6{ops:Array Oper}(hgd:o.guard=none)(s x:Operand)
 (ho:o.op=.call {callee:=.builtin .append,args:=#[s,x],argTypes:=#[212,212]})
 (base:Nat)(v:Value)(bs:List Nat)(hs:a.eval s=v)(hown:OwnU w base v bs)(A:Option Addr)(m c:Nat)(news:List Nat)(hx:a.eval x=.slice A m c)(hr:Reads w w.heap.size 1 A m (u64v news))
 (hlen:bs.length+m≤65536)(hbase:base≤w.heap.size)
 (h:∀v' w',OwnU w' base v' (bs++news)→Below base w w'→w.grownBy w' v.ownBlock→wpList Tryz.prog ops Q rest (a.put o.dst v') w'):wpList Tryz.prog ops Q (o::rest) a w:=by
 obtain⟨i0,hi0,hz0,hz1,hz2⟩:=info_parts Tryz.u64_info;have hm:news.length=m:=qyq hr;refine qa7 (P:=Tryz.prog) w hgd s x _ ho base 32 i0 _ 1 8 Tryz.underlying212 hi0 hz0 hz1 hz2 rfl zo v bs.length (u64v bs) hs hown w.heap.size A m c (u64v news) hx hr (qz5 _) (by simp only[maxLen];omega) zo hbase ?_;intro v' w' h1 h2 h3;refine h v' w' ?_ ?_ h2
 · unfold OwnU
   rw[tA6,hm];simpa [u64v] using h1
 exact qae (tA5 _ _) hown h2 (tA4 _) hbase
theorem qz7(w:World)(p:Nat):Reads (w.alloc (.cells #[.int .u64 (p:Int)] 32)) (w.alloc (.cells #[.int .u64 (p:Int)] 32)).heap.size 1 (some ⟨w.heap.size,0,none⟩) 1 (u64v [p]):=by
 have:=Reads.new1 w 32 (.int .u64 (p:Int));simpa [u64v] using this
theorem qz8(h:out.length<64)(hp:qye 64 f p out=qyf):∃g,f=g+1∧qye 64 g (p+1) (if qyd out p then out++[p] else out)=qyf:=by
 cases f with
 |zero=>
  have e:out=qyf:=hp;rw[e]at h;exact absurd h zdc
 |succ g=>
  refine⟨g,rfl,?_⟩;unfold qye at hp;rw[if_pos h]at hp;split at hp
  · rename_i hn
    rw[if_pos hn];exact hp
  rename_i hn
  rw[if_neg hn];exact hp
theorem qz9(w:World):
 Zc 122 #[.int .i64 64] w fun e w'=>∃v,e=.returned v∧OwnU w' w.heap.size v qyf∧Zb w w':=by
 have H0:=zh1 qyg;go_enter Tryz.func122,Tryz.ntmps122
 go_wp2_with fail
 go_loopw [3,4] (fun a b wr=>∃(out:List Nat) (p f:Nat),p+f=402∧2≤p∧b=.int .u64 p∧out.length≤64∧Hid (qye 64 f p out=qyf)∧Hid (∀q∈out,2≤q∧q≤402)∧Hid (OwnU wr w.heap.size a out)∧Hid (Zb w wr)) (fun _ b _=>402 - (intOf b).toNat)
 case atStart=>exact⟨[],2,400,by omega,by omega,rfl,by simp,H0.o,fun q hq=>(nomatch hq),OwnU.nil _ _,tA5 _ _⟩
 case round=>
  clear H0;obtain⟨out,p,f,hf,hp2,rfl,hlo,hgo,hq2,hown,hbe⟩:=hrel;obtain⟨A,n,c,rfl,hn,hnc,hcm,hrd⟩:=hown.sl;obtain⟨HN,HR⟩:=zh2 hn hrd;by_cases hlt:n<64
  ·
   obtain⟨f',rfl,hgo'⟩:=qz8 (by rw[←HN.o];exact hlt) hgo.o;have HG:=zh1 hgo';have q1:(n:Int)<64:=zo;clear hgo' hgo hn hrd;go_wp2_with fail
   go_loop [5,6] (fun a b=>∃k:Nat,k≤n∧b=.int .i64 k∧a=.bool (qyd (out.take k) p)) (fun _ b=>n - (intOf b).toNat)
   case atStart=>exact⟨0,by omega,rfl,rfl⟩
   case round=>
    obtain⟨k,hk,rfl,rfl⟩:=hrel;by_cases hkl:k<n
    ·
     have q2:(k:Int)<n:=zo;obtain⟨q,hq⟩:∃q,out[k]? =some q:=⟨_,tA7 (by rw[←HN.o];exact hkl)⟩;have hqb:=hq2.o q (tB2 hq);obtain⟨b,o,rfl,hab,hcell⟩:=HR.mid zo zo;have ck:=hcell k _ (qyn hq);have hst:=qyi out p k q hq;have A0:=zh1 hst;obtain⟨bb,hbb⟩:=xeq (qyd (out.take k) p);have A1:=zh1 hbb;rw[hbb];have q3:(0:Int)<q:=zo;have q4:¬(q:Int)=0:=zo;obtain⟨r,hr⟩:=xeq (p % q);have q5:(p:Int) % q=r:=by rw[←hr];simp
     have A3:=zh1 hr;clear hq hcell hst hbb hr;cases bb with
     |false=>
      go_wp2
      go_round
      case rel=>exact⟨k+1,by omega,by go_num,by rw[A0.o,A1.o];rfl⟩
      case measure=>simp[intOf];omega
     |true=>
      by_cases hr0:r=0
      · subst hr0
        go_wp2
        go_round
        case rel=>exact⟨k+1,by omega,by go_num,by rw[A0.o,A1.o,A3.o];rfl⟩
        case measure=>simp[intOf];omega
      have q6:¬(r:Int)=0:=zo;go_wp2
      go_round
      case rel=>exact⟨k+1,by omega,by go_num,by rw[A0.o,A1.o,A3.o];simp[hr0]⟩
      case measure=>simp[intOf];omega
    obtain rfl:n=k:=zo;have et:out.take n=out:=tB5 (by rw[←HN.o];exact tA4 _);rw[et];have q2:¬(n:Int)<n:=zo;obtain⟨bb,hbb⟩:=xeq (qyd out p);have hg:=HG.o;rw[hbb]at hg ⊢;have A4:=zh1 hg;clear et hbb hg HG;cases bb with
    |false=>
     have A2:=zh1 (show qye 64 f' (p+1) out=qyf from A4.o);go_wp2
     go_roundw
     case rel=>exact⟨out,p+1,f',by omega,by omega,by go_num,hlo,A2,hq2,hown,hbe⟩
     case measure=>simp[intOf];omega
    |true=>
     have A2:=zh1 (show qye 64 f' (p+1) (out++[p])=qyf from A4.o);have hszb:=hbe.size;go_wp2_with (at_builtin;refine qz6 rfl (.tmp 30) (.tmp 32) rfl w.heap.size _ out rfl (hown.alloc _) _ 1 1 [p] rfl (qz7 wr p) (by have:=HN.o;omega) (by rw[qar];omega) ?_)
     intro v2 w2 own2 b2 g2;obtain⟨OW,BW⟩:=zh2 own2 ((hbe.alloc hbe.size (.cells #[.int .u64 (p:Int)] 32)).trans b2);have A5:Hid (∀q∈out++[p],2≤q∧q≤402):=by
      intro q hq;rcases List.mem_append.1 hq with hq|hq
      · exact hq2.o q hq
      obtain rfl:=List.mem_singleton.1 hq;omega
     have hl2:(out++[p]).length≤64:=by rw[tA6,←HN.o];simp;omega
     clear own2 b2 g2 hbe hown;go_wp2
     go_roundw
     case rel=>exact⟨out++[p],p+1,f',by omega,by omega,by go_num,hl2,A2,A5,OW,BW⟩
     case measure=>simp[intOf];omega
  have hle:64≤out.length:=by rw[←HN.o];omega
  have he:=hgo.o;rw[qyh 64 f p out hle]at he;have HE:=zh1 he;have q1:¬(n:Int)<64:=zo;clear he hn hrd hgo;go_wp2
  go_ret
  exact⟨_,rfl,by rw[←HE.o];exact hown.o,hbe.o⟩
def qza:List Nat:=Kt++qc2.list
def qzb (j:Nat):List Nat:=qza.take j++List.replicate (72 - j) 0
theorem qzc:qza.length=72:=by decide
theorem qzd:u32s qza:=by
 intro x hx;have h:(qza.all fun x=>decide (x<4294967296))=true:=by decide+kernel
 simpa using List.all_eq_true.1 h x hx
theorem qze:qzb 72=qza:=by
 unfold qzb;rw[tB5 (by rw[qzc];exact tA4 _)];simp
theorem qzf(j x:Nat)(h:qza[j]? =some x):(qzb j).set j x=qzb (j+1):=by
 have hj:j<72:=by have:=(tA8 h).1;rwa[qzc]at this
 have lt:(qza.take j).length=j:=by rw[tBd,qzc];omega
 unfold qzb;rw[List.set_append_right _ _ (by rw[lt];exact tA4 _),lt,Nat.sub_self,show 72 - j=(72 - (j+1))+1 by omega,List.replicate_succ,List.set_cons_zero,List.take_add_one,h];simp
theorem qzg(j:Nat)(h:j<72):(qzb j)[j]? =some 0:=by
 have lt:(qza.take j).length=j:=by rw[tBd,qzc];omega
 unfold qzb;rw[tBn (by rw[lt];exact tA4 _),lt,Nat.sub_self,List.getElem?_replicate,if_pos zo]
theorem qzh{l:List Nat}{x:Nat}(h:l[i]? =some x):(qbq l)[i]? =some (.int .u32 (x:Int)):=by simp[qbq,h]
theorem qzi(l:List Nat)(i x:Nat):(qbq l).toArray.setIfInBounds i (.int .u32 (x:Int))=(qbq (l.set i x)).toArray:=by simp[qbq,List.map_set]
theorem qzj:((List.range 64).all fun k=>qyk (qyf.getD k 0) (qyj (qyf.getD k 0) 3 7*4294967296+qza.getD k 0) true)=true:=by decide+kernel
theorem qzk:((List.range 8).all fun k=>qyk (qyf.getD k 0) (qyj (qyf.getD k 0) 2 7*4294967296+qza.getD (64+k) 0) false)=true:=by decide+kernel
theorem qzl(k r:Nat)(hk:k<64)(h:IsRoot r (qyf.getD k 0) true):qza[k]? =some (r % 4294967296):=by
 have h1:=qyl (List.all_eq_true.1 qzj k (List.mem_range.2 hk));rw[h.eq h1];have hl:k<qza.length:=by rw[qzc];omega
 have hb:=qzd.getD k;rw[Nat.mul_add_mod',Nat.mod_eq_of_lt hb,tB4,tA7 hl];rfl
theorem qzm(k r:Nat)(hk:k<8)(h:IsRoot r (qyf.getD k 0) false):qza[64+k]? =some (r % 4294967296):=by
 have h1:=qyl (List.all_eq_true.1 qzk k (List.mem_range.2 hk));rw[h.eq h1];have hl:64+k<qza.length:=by rw[qzc];omega
 have hb:=qzd.getD (64+k);rw[Nat.mul_add_mod',Nat.mod_eq_of_lt hb,tB4,tA7 hl];rfl
theorem qzn(k:Nat):qyf.getD k 0<1000:=by
 rw[tB4];rcases hx:qyf[k]? with _|x
 · simp
 have h:(qyf.all fun x=>decide (x<1000))=true:=by decide
 simpa using List.all_eq_true.1 h x (tB2 hx)
def RTab (w:World)(g:Nat):Prop:=Blk w g 211 (qbq qza).toArray
theorem qzo(h:w.grownBy w' (some g))(hB:B≤g)(hg:g<w.heap.size):Below B w w':=
 ⟨h.os,h.tape,h.output,h.size,fun k hk=>h.block k zo (fun e=>by injection e;omega)⟩
theorem qzp(w:World):
 Zc 48 #[] w fun e w'=>e=.returned (.pointer (some ⟨w.heap.size,0,none⟩))∧RTab w' w.heap.size∧Below w.heap.size w w':=by
 have z0:Blk (w.alloc (.cells Tryz.zeroCells211 211)) w.heap.size 211 (qbq (qzb 0)).toArray:=by
  have h:=Blk.new w 211 Tryz.zeroCells211;rw[show Tryz.zeroCells211=(qbq (qzb 0)).toArray by kernel_rfl]at h ⊢;exact h
 have b0:Below w.heap.size w (w.alloc (.cells Tryz.zeroCells211 211)):=(tA5 _ _).alloc (tA4 _) _;obtain⟨W0,hW0⟩:=eqx (w.alloc (.cells Tryz.zeroCells211 211));rw[←hW0]at z0 b0;obtain⟨A1,Z0,B0⟩:=zh3 hW0 z0 b0;obtain⟨g,hg⟩:=xeq w.heap.size;have HG:=zh1 hg;clear hW0 z0 b0 hg;go_enter Tryz.func48,Tryz.ntmps48
 go_wp2_with fail
 rw[←A1.o];refine(qz9 W0).mono ?_;rintro e w1 ⟨v,rfl,own1,b1⟩;obtain⟨A,n,c,rfl,hn,hnc,hcm,hrd⟩:=own1.sl;obtain rfl:n=64:=hn.trans zdc;have z1:=Z0.below b1 Z0.lt;have b1':=B0.trans (b1.mono B0.size);have hne:=qa3 own1 z1 zdc;obtain⟨b,o,rfl,hab,hcell⟩:=hrd.mid zo zo;have hbg:b≠w.heap.size:=fun e=>hne (by simp[Value.ownBlock,e])
 have hgw:w.heap.size<w1.heap.size:=z1.lt;(try simp only[Zb]at b1' hbg);rw[HG.o]at z1 b1' hbg hgw ⊢
 obtain⟨HC,Z1,B1⟩:=zh3 hcell z1 b1';clear own1 b1 hrd hcell hn A1 Z0 B0 z1 b1' hne;go_wp2_with fail
 go_loopw [3] (fun i wr=>∃k:Nat,k≤64∧i=.int .i64 k∧Hid (Blk wr g 211 (qbq (qzb k)).toArray)∧Hid (w1.grownBy wr (some g))) (fun i _=>64 - (intOf i).toNat)
 case atStart=>exact⟨0,by omega,rfl,Z1.o,tB9 _ _⟩
 case round=>
  obtain⟨k,hk,rfl,hz,hgr⟩:=hrel;by_cases hlt:k<64
  ·
   obtain⟨p,hp⟩:∃p,qyf[k]? =some p:=⟨_,tA7 (by rw[show qyf.length=64 from by decide];exact hlt)⟩;have hpd:qyf.getD k 0=p:=by rw[tB4,hp];rfl
   have ck:wr.cell? ⟨b,o+k,none⟩=some (.int .u64 (p:Int)):=hgr.cell (HC.o k _ (qyn hp)) (by simp;omega);have hp1:p<1000:=by rw[←hpd];exact qzn k
   have hroot:=qzl k;rw[hpd]at hroot;have A0:=zh1 hroot;have q1:(k:Int)<64:=zo;have hbw:b<wr.heap.size:=World.block_lt_of_cell? _ _ ck;clear hp hpd hroot;go_upto_region 6 with(fail)
   obtain⟨S,HS⟩:=zS fun w'=>w'.cell? ⟨b,o+k,none⟩=some (.int .u64 (p:Int))
   refine zrs S 10 (zq 0 6 [(7,false),(8,false),(6,true),(9,false),(10,true)]) ((HS.o _).mpr ck) ?_;repeat(refine zrt0 ?_)
   refine zw ?_;go_simp;refine(qz4 p true wr.drew hp1).mono ?_;rintro e w2 ⟨⟨r,hr,rfl⟩,b2⟩;have hrk:=A0.o r hlt hr;have z2:=(show Blk wr.drew g 211 (qbq (qzb k)).toArray from hz.o).below b2 hz.lt;obtain⟨rr,hrr⟩:=xeq (r % 4294967296);rw[hrr]at hrk ⊢;have gr2:w1.grownBy w2 (some g):=qac (qa9 hgr.o) (qad b2 (some g)) (by rintro d ⟨rfl⟩;exact .inl rfl);refine⟨(HS.o _).mpr ((b2.cell (p:=⟨b,o+k,none⟩) hbw).trans ck),zput ?_⟩;repeat(refine zrt0 ?_)
   have zs:=z2.set_ k (.int .u32 (rr:Int));rw[qzi,qzf k rr hrk]at zs;obtain⟨ZS,GS⟩:=zh2 zs (qab (p:=⟨g,k,none⟩) gr2 (.inl rfl) (.int .u32 (rr:Int)));have zc:=(z2.cell k).trans (show _=some (.int .u32 0) by simpa using qzh (qzg k zo));have zf:=z2.frozen k;refine zw ?_;go_simp;refine qbg ?_;clear zc zf zs gr2 z2 b2 hgr hz hrk hrr hr hbw ck;go_wp2
   go_roundw
   case rel=>exact⟨k+1,by omega,by go_num,ZS,GS⟩
   case measure=>simp[intOf];omega
  obtain rfl:64=k:=zo;clear Z1;rw[show ((64:Nat):Int)=64 from rfl];go_wp2_with fail
  go_loopw [4] (fun i wr=>∃k:Nat,k≤8∧i=.int .i64 k∧Hid (Blk wr g 211 (qbq (qzb (64+k))).toArray)∧Hid (w1.grownBy wr (some g))) (fun i _=>8 - (intOf i).toNat)
  case atStart=>exact⟨0,by omega,rfl,hz.o,hgr.o⟩
  case round=>
   clear hz hgr;obtain⟨k,hk,rfl,hz,hgr⟩:=hrel;by_cases hlt:k<8
   ·
    obtain⟨p,hp⟩:∃p,qyf[k]? =some p:=⟨_,tA7 (by rw[show qyf.length=64 from by decide];omega)⟩;have hpd:qyf.getD k 0=p:=by rw[tB4,hp];rfl
    have ck:wr.cell? ⟨b,o+k,none⟩=some (.int .u64 (p:Int)):=hgr.cell (HC.o k _ (qyn hp)) (by simp;omega);have hp1:p<1000:=by rw[←hpd];exact qzn k
    have hroot:=qzm k;rw[hpd]at hroot;have A0:=zh1 hroot;have q1:(k:Int)<8:=zo;have q2:(k:Int)<64:=zo;have hbw:b<wr.heap.size:=World.block_lt_of_cell? _ _ ck;clear hp hpd hroot;go_upto_region 10 with(fail)
    obtain⟨S,HS⟩:=zS fun w'=>w'.cell? ⟨b,o+k,none⟩=some (.int .u64 (p:Int))
    refine zrs S 10 (zq 0 6 [(7,false),(8,false),(6,true),(9,false),(10,true)]) ((HS.o _).mpr ck) ?_;repeat(refine zrt0 ?_)
    refine zw ?_;go_simp;refine(qz4 p false wr.drew hp1).mono ?_;rintro e w2 ⟨⟨r,hr,rfl⟩,b2⟩;have hrk:=A0.o r hlt hr;have z2:=(show Blk wr.drew g 211 (qbq (qzb (64+k))).toArray from hz.o).below b2 hz.lt;obtain⟨rr,hrr⟩:=xeq (r % 4294967296);rw[hrr]at hrk ⊢;have gr2:w1.grownBy w2 (some g):=qac (qa9 hgr.o) (qad b2 (some g)) (by rintro d ⟨rfl⟩;exact .inl rfl);refine⟨(HS.o _).mpr ((b2.cell (p:=⟨b,o+k,none⟩) hbw).trans ck),zput ?_⟩;repeat(refine zrt0 ?_)
    have zs:=z2.set_ (64+k) (.int .u32 (rr:Int));rw[qzi,qzf (64+k) rr hrk]at zs;obtain⟨ZS,GS⟩:=zh2 zs (qab (p:=⟨g,64+k,none⟩) gr2 (.inl rfl) (.int .u32 (rr:Int)));have zc:=(z2.cell (64+k)).trans (show _=some (.int .u32 0) by simpa using qzh (qzg (64+k) zo));have zf:=z2.frozen (64+k);refine zw ?_;go_simp;refine qbg ?_;clear zc zf zs gr2 z2 b2 hgr hz hrk hrr hr hbw ck;go_wp2
    go_roundw
    case rel=>exact⟨k+1,by omega,by go_num,ZS,GS⟩
    case measure=>simp[intOf];omega
   obtain rfl:8=k:=zo;have hz':=hz.o;rw[show 64+8=72 from rfl,qze]at hz';obtain⟨HZ,HB⟩:=zh2 hz' (B1.trans (qzo hgr.o (tA4 _) hgw));clear hz' hz hgr;go_wp2
   go_ret
   exact⟨by rw[HG.o];rfl,by rw[HG.o];exact HZ.o,by rw[HG.o];exact HB.o⟩
theorem qzq(x a:Nat)(w:World)(h:x<4294967296)(a1:1≤a)(a2:a≤31):
 Zc 228 #[.int .u32 x,.int .u64 a] w fun e w'=>e=.returned (.int .u32 (rotr x a))∧w=w':=by
 obtain⟨s,hs⟩:=xeq (32 - a);have hb:IntKind.u64.wrap (32 - (a:Int))=(s:Int):=by rw[show (32 - (a:Int))=(s:Int) by omega];exact tBa _ zo
 have hs2:s≤31:=zo;have hs3:1≤s:=zo;have hm:min s 32=s:=Nat.min_eq_left zo;have ha:min a 32=a:=Nat.min_eq_left zo;have HS:=zh1 hs;clear hs;go_enter Tryz.func228,Tryz.ntmps228
 go_wp2
 go_ret
 refine⟨?_,rfl⟩;have HS':32 - a=s:=HS;have e1:((x:Int)*2^s % 4294967296)=((x*2^s % 4294967296:Nat):Int):=by
  rw[Int.natCast_emod,Int.natCast_mul,Int.natCast_pow];rfl
 have e3:((x:Int) / 2^a)=((x / 2^a:Nat):Int):=by push_cast;rfl
 first
  |rw[e1,e3,u32_or_nat]
  |rw[hm,ha,e1,e3,u32_or_nat]
 · unfold rotr;rw[HS'];rfl
 · exact Nat.lt_of_le_of_lt (Nat.div_le_self _ _) h
 exact Nat.mod_lt _ zdc
theorem qzr(h:RTab w g)(hk:k<64):w.cell? ⟨g,k,none⟩=some (.int .u32 (Kt.getD k 0:Nat)):=by
 rw[Blk.cell h,qc3 (by rw[qzc];omega)];unfold qza;rw[tB4,tBm (by rw[show Kt.length=64 from by decide];omega),←tB4]
theorem qzs(h:RTab w g)(hi:i<8):w.cell? ⟨g,64+i,none⟩=qc2.vals[i]? :=by
 rw[Blk.cell h,qc3 (by rw[qzc];omega),St.vals_list,qc3 (by simpa [St.list] using hi)];unfold qza;have l:Kt.length=64:=by decide
 rw[tB4,tBn (by rw[l];omega),l,show 64+i - 64=i by omega,←tB4]
theorem qzt(g n cc:Nat)(A:Option Addr)(bs:List Nat)(s0:St)(w:World)(hS2:s0.ok)(hb:bs.length=n)(hn:64≤n)(hb2:∀b∈bs,b<256)
 (hT:RTab w g)(hr:Reads w w.heap.size 1 A n (byv bs)):
 Zc 193 #[.pointer (some ⟨g,0,none⟩),.agg #[.int .u32 s0.a,.int .u32 s0.b,.int .u32 s0.c,.int .u32 s0.d,.int .u32 s0.e,.int .u32 s0.f,.int .u32 s0.g,.int .u32 s0.h],.slice A n cc] w fun e w'=>e=.returned (.agg (mixed bs s0).vals)∧Below w.heap.size w w':=by
 have hb2':∀b,b∈bs→b<256:=hb2;obtain⟨gb,ob,rfl,hadB,hr⟩:=hr.mid zo zo;obtain⟨W0,hW0⟩:=eqx (((w.alloc (.cells #[.int .u32 s0.a,.int .u32 s0.b,.int .u32 s0.c,.int .u32 s0.d,.int .u32 s0.e,.int .u32 s0.f,.int .u32 s0.g,.int .u32 s0.h] 209)).alloc (.cells #[.int .u32 0,.int .u32 0,.int .u32 0,.int .u32 0,.int .u32 0,.int .u32 0,.int .u32 0,.int .u32 0] 209)).alloc (.cells #[.int .u32 0,.int .u32 0,.int .u32 0,.int .u32 0,.int .u32 0,.int .u32 0,.int .u32 0,.int .u32 0,.int .u32 0,.int .u32 0,.int .u32 0,.int .u32 0,.int .u32 0,.int .u32 0,.int .u32 0,.int .u32 0,.int .u32 0,.int .u32 0,.int .u32 0,.int .u32 0,.int .u32 0,.int .u32 0,.int .u32 0,.int .u32 0,.int .u32 0,.int .u32 0,.int .u32 0,.int .u32 0,.int .u32 0,.int .u32 0,.int .u32 0,.int .u32 0,.int .u32 0,.int .u32 0,.int .u32 0,.int .u32 0,.int .u32 0,.int .u32 0,.int .u32 0,.int .u32 0,.int .u32 0,.int .u32 0,.int .u32 0,.int .u32 0,.int .u32 0,.int .u32 0,.int .u32 0,.int .u32 0,.int .u32 0,.int .u32 0,.int .u32 0,.int .u32 0,.int .u32 0,.int .u32 0,.int .u32 0,.int .u32 0,.int .u32 0,.int .u32 0,.int .u32 0,.int .u32 0,.int .u32 0,.int .u32 0,.int .u32 0,.int .u32 0] 208));obtain⟨gh,hgh⟩:=xeq w.heap.size;obtain⟨gr,hgr⟩:=xeq (w.heap.size+1);obtain⟨gw,hgw⟩:=xeq (w.heap.size+1+1);have bh0:Blk W0 gh 209 #[.int .u32 s0.a,.int .u32 s0.b,.int .u32 s0.c,.int .u32 s0.d,.int .u32 s0.e,.int .u32 s0.f,.int .u32 s0.g,.int .u32 s0.h]:=by rw[hW0,←hgh];exact((Blk.new w _ _).alloc _).alloc _
 have br0:Blk W0 gr 209 #[.int .u32 0,.int .u32 0,.int .u32 0,.int .u32 0,.int .u32 0,.int .u32 0,.int .u32 0,.int .u32 0]:=by
  have h:=Blk.new (w.alloc (.cells #[.int .u32 s0.a,.int .u32 s0.b,.int .u32 s0.c,.int .u32 s0.d,.int .u32 s0.e,.int .u32 s0.f,.int .u32 s0.g,.int .u32 s0.h] 209)) 209 #[.int .u32 0,.int .u32 0,.int .u32 0,.int .u32 0,.int .u32 0,.int .u32 0,.int .u32 0,.int .u32 0];rw[qar]at h;rw[hW0,←hgr];exact h.alloc _
 have bw0:Blk W0 gw 208 (qbq (qbw (qbs bs 0))).toArray:=by
  have h:=Blk.new ((w.alloc (.cells #[.int .u32 s0.a,.int .u32 s0.b,.int .u32 s0.c,.int .u32 s0.d,.int .u32 s0.e,.int .u32 s0.f,.int .u32 s0.g,.int .u32 s0.h] 209)).alloc (.cells #[.int .u32 0,.int .u32 0,.int .u32 0,.int .u32 0,.int .u32 0,.int .u32 0,.int .u32 0,.int .u32 0] 209)) 208 (qbq (qbw (qbs bs 0))).toArray;rw[qar,qar]at h;rw[hW0,←hgw];exact h
 have B0:=zMc hW0;have T0:RTab W0 g:=Blk.below hT B0 (Blk.lt hT);have glt:g<gh:=by rw[←hgh];exact Blk.lt hT
 have hadB':gb<gh:=by rw[←hgh];exact hadB
 have hrw:gr<gw:=zo;have hhr:gh<gr:=zo;have hgw0:gw<W0.heap.size:=bw0.lt;obtain⟨A0,AB,AC,A8,AD,AE,AF,AG⟩:=zh8 hgh hgr hgw B0 bw0 bh0 br0 T0;clear hT hgh hgr hgw;go_enter Tryz.func193,Tryz.ntmps193
 go_upto_region 3 with(fail)
 rw[←hW0,show w.heap.size+1+1=gw from AC.o,show w.heap.size+1=gr from AB.o,show w.heap.size=gh from A0.o];clear hW0 B0 bw0 bh0 br0 T0;go_loopw [8] (fun i wr=>∃k:Nat,k≤16∧i=.int .i64 k∧Blk wr gw 208 (qbq (qbw (qbs bs k))).toArray∧Below gw W0 wr) (fun i _=>16 - (intOf i).toNat)
 case atStart=>exact⟨0,by omega,rfl,AD.o,tA5 _ _⟩
 case round=>
  obtain⟨k,hk,rfl,hw,hbl⟩:=hrel;have hbl0:Below w.heap.size w wr:=A8.trans (hbl.mono (by rw[A0.o];omega));by_cases h16:k<16
  ·
   have hwc:=hw.cell k;rw[qbx (qbt bs k) zo]at hwc;have hwf:=hw.frozen k;have hk64:k<64:=zo;have h16':k<16:=h16;obtain⟨j,hj⟩:=xeq (4*k);obtain⟨b0,q0,e0⟩:=qcg hr hb hbl0 (tA4 _) hadB (j:=j) zo;obtain⟨b1,q1,e1⟩:=qcg hr hb hbl0 (tA4 _) hadB (j:=j+1) zo;obtain⟨b2,q2,e2⟩:=qcg hr hb hbl0 (tA4 _) hadB (j:=j+2) zo;obtain⟨b3,q3,e3⟩:=qcg hr hb hbl0 (tA4 _) hadB (j:=j+3) zo;obtain⟨a1,a2,a3,l3,j60,hm,⟨w1,w2,w3⟩,⟨p0,p1,p2,p3⟩,⟨t1,t2,t3⟩,⟨v0,v1,v2,v3⟩,⟨x0,x1,x2,x3⟩,⟨y0,y1,y2⟩,⟨n2,n3⟩,⟨o1,o2,o3⟩,k64,k16⟩:=qch hb2 hn hj h16 q0 q1 q2 q3;obtain⟨L3,HJ⟩:=zh2 l3 hj;clear q0 q1 q2 q3 l3 hj hr;go_wp2_with fail
   go_still_tail 35,zk
   change wpList _ _ _ _ _ wr.drew;go_wp2
   go_roundw
   case rel=>
    refine⟨k+1,by omega,by go_num,?_,?_⟩
    · rw[qbs,←qby (qbt bs k) hk64,qbr,if_pos h16',←L3.o]
      exact hw.drew.set_ k _
    exact hbl.drew.setCell (tA4 _) _
   case measure=>simp[intOf];omega
  have k16:¬(k:Int)<16:=zo;have hk':k=16:=zo;rw[hk']at hw;obtain⟨W1,rfl⟩:=eqx wr;obtain⟨AH,AI⟩:=zh2 hw hbl;have l1:W0.heap.size≤W1.heap.size:=hbl.size;clear hw hbl hbl0 hr hk hk' h16;go_wp2_with fail
  go_loopw [9,10,11] (fun i _ _ wr=>∃k:Nat,16≤k∧k≤64∧i=.int .i64 k∧Blk wr gw 208 (qbq (qbw (qbs bs k))).toArray∧Below gw W0 wr) (fun i _ _ _=>64 - (intOf i).toNat)
  case atStart=>exact⟨16,by omega,by omega,rfl,AH.o,AI.o⟩
  case round=>
   obtain⟨k,h16,hk,rfl,hw,hbl⟩:=hrel;by_cases hk64:k<64
   ·
    obtain⟨m2,m7,m15,m16,x2,x7,x15,x16,hwx,⟨e2,e7,e15,e16,ek⟩,⟨u2,u7,u15,u16⟩,⟨i2,i7,i15,i16⟩,⟨q2,q7,q15,q16,qk⟩,z2,z7,z15,z16⟩:=qci hb2 zo hk64;have c2:=(hw.cell m2).trans e2;have c7:=(hw.cell m7).trans e7;have c15:=(hw.cell m15).trans e15;have c16:=(hw.cell m16).trans e16;have hwc:=(hw.cell k).trans ek;have hwf:=hw.frozen k;have AJ:=zh1 hwx;clear hwx e2 e7 e15 e16 ek;obtain⟨r17,A1⟩:=xeq (rotr x2 17);obtain⟨r19,A2⟩:=xeq (rotr x2 19);obtain⟨r7,R7⟩:=xeq (rotr x15 7);obtain⟨r18,A3⟩:=xeq (rotr x15 18);have b17:r17<4294967296:=A1▸qbl _ _ u2;have b19:r19<4294967296:=A2▸qbl _ _ u2;have b7:r7<4294967296:=R7▸qbl _ _ u15;have b18:r18<4294967296:=A3▸qbl _ _ u15;obtain⟨p1,hp1,op1⟩:∃p:Nat,p=(r17^^^r19)∧bits .xor .u32 (r17:Int) (r19:Int)=p:=⟨_,rfl,u32_xor_nat _ _ b17 b19⟩;have lp1:p1<4294967296:=by rw[hp1];exact Nat.xor_lt_two_pow (n:=32) zo zo
    obtain⟨p2,hp2,op2⟩:∃p:Nat,p=(p1^^^x2 / 2^10)∧bits .xor .u32 (p1:Int) ((x2:Int) / 1024)=p:=⟨_,rfl,by
     rw[show ((x2:Int) / 1024)=((x2 / 2^10:Nat):Int) by push_cast;rfl];exact u32_xor_nat _ _ lp1 (Nat.lt_of_le_of_lt (Nat.div_le_self _ _) u2)⟩
    obtain⟨p3,hp3,op3⟩:∃p:Nat,p=(r7^^^r18)∧bits .xor .u32 (r7:Int) (r18:Int)=p:=⟨_,rfl,u32_xor_nat _ _ b7 b18⟩;have lp3:p3<4294967296:=by rw[hp3];exact Nat.xor_lt_two_pow (n:=32) zo zo
    obtain⟨p4,hp4,op4⟩:∃p:Nat,p=(p3^^^x15 / 2^3)∧bits .xor .u32 (p3:Int) ((x15:Int) / 8)=p:=⟨_,rfl,by
     rw[show ((x15:Int) / 8)=((x15 / 2^3:Nat):Int) by push_cast;rfl];exact u32_xor_nat _ _ lp3 (Nat.lt_of_le_of_lt (Nat.div_le_self _ _) u15)⟩
    have AK:Hid (sig1 x2=p2):=zh1 (by unfold sig1;rw[A1,A2,hp2,hp1]);have A4:Hid (sig0 x15=p4):=zh1 (by unfold sig0;rw[R7,A3,hp4,hp3]);have K1:∀w,Zc 228 #[.int .u32 x2,.int .u64 17] w fun e w'=>e=.returned (.int .u32 (r17:Nat))∧w=w':=fun w=>A1▸qzq x2 17 w u2 zo zo
    have K2:∀w,Zc 228 #[.int .u32 x2,.int .u64 19] w fun e w'=>e=.returned (.int .u32 (r19:Nat))∧w=w':=fun w=>A2▸qzq x2 19 w u2 zo zo
    have K3:∀w,Zc 228 #[.int .u32 x15,.int .u64 7] w fun e w'=>e=.returned (.int .u32 (r7:Nat))∧w=w':=fun w=>R7▸qzq x15 7 w u15 zo zo
    have K4:∀w,Zc 228 #[.int .u32 x15,.int .u64 18] w fun e w'=>e=.returned (.int .u32 (r18:Nat))∧w=w':=fun w=>A3▸qzq x15 18 w u15 zo zo
    obtain⟨AL,A5⟩:=zh2 hw hbl;clear A1 A2 R7 A3 hp1 hp2 hp3 hp4 hw hbl;go_upto_region 11 with(fail)
    go_region_held3 (fun w'=>w'.cell? ⟨gw,m7,none⟩=some (.int .u32 x7)∧w'.cell? ⟨gw,m16,none⟩=some (.int .u32 x16))
     (first|exact⟨c7,c16⟩|exact⟨qc0 z7 c7,qc0 z16 c16⟩)
     (first|(go_at_call 228;(with_reducible refine(K1 _).mono ?_);rintro e w2 ⟨rfl,rfl⟩;go_split_ands)|(go_at_call 228;(with_reducible refine(K2 _).mono ?_);rintro e w2 ⟨rfl,rfl⟩;go_split_ands)|(go_at_call 228;(with_reducible refine(K3 _).mono ?_);rintro e w2 ⟨rfl,rfl⟩;go_split_ands)|(go_at_call 228;(with_reducible refine(K4 _).mono ?_);rintro e w2 ⟨rfl,rfl⟩;go_split_ands))
    all_goals
     go_wp2
     go_roundw
     case rel=>
      refine⟨k+1,by omega,by omega,by go_num,?_,?_⟩
      · rw[qbs,←qby (qbt bs k) hk64,AJ.o,AK.o,A4.o,←add4]
        exact AL.set_ k _
      first|exact(qa8 A5.o _).setCell (tA4 _) _|exact A5.drew.setCell (tA4 _) _|exact Below.setCell (p:=⟨gw,k,none⟩) A5.o (tA4 _) _
     case measure=>simp[intOf];omega
   have hk':k=64:=zo;have hk2:¬(k:Int)<64:=zo;obtain⟨wo,rfl⟩:=eqx wr;rw[hk',qc1 (qbt bs 64)]at hw;obtain⟨W,hW⟩:=xeq (qbs bs 64);have hWl:=qbt bs 64;have hWu:=qbv bs hb2 64;rw[hW]at hw hWl hWu;obtain⟨HW,HWl,HWu,A6⟩:=zh4 hW hWl hWu hS2;have hg2:Blk wo gh 209 #[.int .u32 s0.a,.int .u32 s0.b,.int .u32 s0.c,.int .u32 s0.d,.int .u32 s0.e,.int .u32 s0.f,.int .u32 s0.g,.int .u32 s0.h]:=AE.below hbl zo;have hr2:Blk wo gr 209 #[.int .u32 0,.int .u32 0,.int .u32 0,.int .u32 0,.int .u32 0,.int .u32 0,.int .u32 0,.int .u32 0]:=AF.below hbl zo;have hT2:RTab wo g:=Blk.below AG.o hbl zo;have hbo:Below w.heap.size w wo:=A8.trans (hbl.mono (by rw[A0.o];omega));obtain⟨AM,A7,AN⟩:=zh3 hr2 hT2 hbo;have hgwo:gw<wo.heap.size:=hw.lt;have c0:=hg2.cell 0;have c1:=hg2.cell 1;have c2:=hg2.cell 2;have c3:=hg2.cell 3;have c4:=hg2.cell 4;have c5:=hg2.cell 5;have c6:=hg2.cell 6;have c7:=hg2.cell 7;simp at c0 c1 c2 c3 c4 c5 c6 c7;obtain⟨AO,HWo⟩:=zh2 hg2 hw;clear hW hWl hWu hS2 hk h16 hk64 hk' hb hb2 hb2' hw hg2 hr2 hT2 hbo hbl;go_wp2_with fail
   go_loopw [13,14,15,16,17] (fun i _ _ _ _ wr=>∃(k:Nat) (s:St),k≤64∧i=.int .i64 k∧s=rounds W s0 k∧s.ok∧Blk wr wo.heap.size 209 #[.int .u32 s.a,.int .u32 s.b,.int .u32 s.c,.int .u32 s.d,.int .u32 s.e,.int .u32 s.f,.int .u32 s.g,.int .u32 s.h]∧Below wo.heap.size wo wr) (fun i _ _ _ _ _=>64 - (intOf i).toNat)
   case atStart=>exact⟨0,s0,by omega,rfl,rfl,A6.o,Blk.new ..,(tA5 _ wo).alloc (tA4 _) _⟩
   case round=>
    clear c0 c1 c2 c3 c4 c5 c6 c7;obtain⟨k,s,hk,rfl,hs,hok,hst,hb3⟩:=hrel;obtain⟨Hs,Hok⟩:=zh2 hs hok;clear hs;obtain⟨a,b,c,d,e,f,g',h⟩:=s;obtain⟨oa,ob',oc,od,oe,of,og,oh⟩:=hok;dsimp only at oa ob' oc od oe of og oh hst;by_cases hk64:k<64
    ·
     have c0:=hst.cell 0;have c1:=hst.cell 1;have c2:=hst.cell 2;have c3:=hst.cell 3;have c4:=hst.cell 4;have c5:=hst.cell 5;have c6:=hst.cell 6;have c7:=hst.cell 7;simp at c0 c1 c2 c3 c4 c5 c6 c7;have qk:(k:Int)<64:=zo;have ckk:wr.cell? ⟨g,k,none⟩=some (.int .u32 (Kt.getD k 0:Nat)):=qzr (Blk.below A7.o hb3 zo) hk64;have cww:wr.cell? ⟨gw,k,none⟩=some (.int .u32 (W.getD k 0:Nat)):=by
      have hx:=qbz HWl.o hk64;rw[qc1 HWl.o]at hx;rw[(HWo.below hb3 hgwo).cell];exact hx
     obtain⟨kk,hkk⟩:=xeq (Kt.getD k 0);obtain⟨ww,hww⟩:=xeq (W.getD k 0);rw[hkk]at ckk;rw[hww]at cww;have okk:kk<4294967296:=hkk▸Kt_lt k;have oww:ww<4294967296:=hww▸HWu.getD k;obtain⟨AP,AQ⟩:=zh2 hkk hww;clear hkk hww;obtain⟨Hst,Hb3⟩:=zh2 hst hb3;clear hst hb3;obtain⟨n1,p1,p2,p3,q1,q2,q3,q4,q5,⟨hch,hmj,ln1⟩,on1,op1,op2,op3,oq1,oq2,oq3,oq4,oq5⟩:=qcj (d:=d) (h:=h) oa ob' oc oe of og;obtain⟨AR,AS⟩:=zh2 hch hmj;clear hch hmj;obtain⟨fe,hfe⟩:∃f:Int→Nat,∀n,f n=rotr e n.toNat:=⟨_,fun _=>rfl⟩;obtain⟨fa,hfa⟩:∃f:Int→Nat,∀n,f n=rotr a n.toNat:=⟨_,fun _=>rfl⟩;have be:∀n,fe n<4294967296:=fun n=>by rw[hfe];exact qbl _ _ oe
     have ba:∀n,fa n<4294967296:=fun n=>by rw[hfa];exact qbl _ _ oa
     obtain⟨v1,hv1,ov1⟩:∃p:Nat,p=(fe 6^^^fe 11)∧bits .xor .u32 (fe 6:Int) (fe 11:Int)=p:=⟨_,rfl,u32_xor_nat _ _ (be _) (be _)⟩;have lv1:v1<4294967296:=by rw[hv1];exact Nat.xor_lt_two_pow (n:=32) (be _) (be _)
     obtain⟨t1,ht1,ot1⟩:∃p:Nat,p=(v1^^^fe 25)∧bits .xor .u32 (v1:Int) (fe 25:Int)=p:=⟨_,rfl,u32_xor_nat _ _ lv1 (be _)⟩;have lt1:t1<4294967296:=by rw[ht1];exact Nat.xor_lt_two_pow (n:=32) zo (be _)
     obtain⟨v2,hv2,ov2⟩:∃p:Nat,p=(fa 2^^^fa 13)∧bits .xor .u32 (fa 2:Int) (fa 13:Int)=p:=⟨_,rfl,u32_xor_nat _ _ (ba _) (ba _)⟩;have lv2:v2<4294967296:=by rw[hv2];exact Nat.xor_lt_two_pow (n:=32) (ba _) (ba _)
     obtain⟨t2,ht2,ot2⟩:∃p:Nat,p=(v2^^^fa 22)∧bits .xor .u32 (v2:Int) (fa 22:Int)=p:=⟨_,rfl,u32_xor_nat _ _ lv2 (ba _)⟩;have lt2:t2<4294967296:=by rw[ht2];exact Nat.xor_lt_two_pow (n:=32) zo (ba _)
     have AT:Hid (Sig1 e=t1):=zh1 (by rw[ht1,hv1,hfe,hfe,hfe];rfl);have AU:Hid (Sig0 a=t2):=zh1 (by rw[ht2,hv2,hfa,hfa,hfa];rfl);have KE:∀(n:Int) w,1≤n∧n≤31→Zc 228 #[.int .u32 e,.int .u64 n] w fun e w'=>e=.returned (.int .u32 (fe n:Nat))∧w=w':=fun n w hn=>by
      have h:=qzq e n.toNat w oe zo zo;rw[←hfe,Int.toNat_of_nonneg zo]at h;exact h
     have KA:∀(n:Int) w,1≤n∧n≤31→Zc 228 #[.int .u32 a,.int .u64 n] w fun e w'=>e=.returned (.int .u32 (fa n:Nat))∧w=w':=fun n w hn=>by
      have h:=qzq a n.toNat w oa zo zo;rw[←hfa,Int.toNat_of_nonneg zo]at h;exact h
     have A9:∀(n:Int) k w,1≤n∧n≤31→Zc 228 #[.int .u32 e,.int .u64 n] (World.drewN w k) fun e w''=>e=.returned (.int .u32 (fe n:Nat))∧∃m,w''=w.drewN m:=fun n k w hn=>Calls.quiet_of_same ((KE n _ hn).mono (by rintro _ _ ⟨rfl,rfl⟩;exact⟨rfl,rfl⟩))
     have AA:∀(n:Int) j k w,1≤n∧n≤31→Zc 228 #[.int .u32 a,.int .u64 n] (World.drewN w (j+k)) fun e w''=>e=.returned (.int .u32 (fa n:Nat))∧∃m,w''=w.drewN (j+m):=fun n j k w hn=>(KA n _ hn).mono (by rintro _ _ ⟨rfl,rfl⟩;exact⟨rfl,k,rfl⟩)
     obtain⟨AV,AW⟩:=zh2 A9 AA;clear hfe hfa hv1 hv2 ht1 ht2 be ba KE KA A9 AA;go_upto_region 18 with(fail)
     go_quiet ((go_at_call 228;((refine AV.o _ _ _ ?_));decide))
     go_upto_region 19 with(fail)
     go_quiet ((go_at_call 228;((refine AW.o _ _ _ _ ?_));decide))
     go_upto_region 20 with(fail)
     refine wp_region_lit ?_;iterate 20 (refine qbk rfl ⟨?_,?_,?_⟩;rotate_left;(focus(go_simp;(try go_bits);try rfl));simp only[Act.put,tA0,tA1,tA2])
     refine wpList_store_row rfl 209 _ _ rfl wo.heap.size _ rfl rfl 209 #[.int .u32 a,.int .u32 b,.int .u32 c,.int .u32 d,.int .u32 e,.int .u32 f,.int .u32 g',.int .u32 h] (by exact Hst.o) zk rfl (by simp[Value.oneCell']) ?_;go_wp2
     go_roundw
     case rel=>
      refine⟨k+1,round ⟨a,b,c,d,e,f,g',h⟩ kk ww,by omega,by go_num,?_,?_,?_,?_⟩
      · rw[rounds,←Hs.o,AP.o,AQ.o]
      · exact qcc _ _ _ Hok.o
      · show Blk _ _ _ (round ⟨a,b,c,d,e,f,g',h⟩ kk ww).vals
        rw[qce a b c d e f g' h kk ww t1 t2 p3 q5 AT.o AU.o AR.o AS.o];exact(Hst.drewN _).setRow _
      exact(qa8 Hb3.o _).grown (qam _ _ _) (Nat.le_of_lt Hst.lt) (fun k hk=>by injection hk with hk;omega)
     case measure=>simp[intOf];omega
    have qk:¬(k:Int)<64:=zo;have hk':k=64:=zo;have hz:(⟨a,b,c,d,e,f,g',h⟩:St)=rounds W s0 64:=by rw[←hk'];exact Hs.o
    obtain⟨z,hzz⟩:∃z:St,z=⟨a,b,c,d,e,f,g',h⟩:=⟨_,rfl⟩;have hzb:Blk wr wo.heap.size 209 (qbq z.list).toArray:=by rw[hzz];exact hst
    rw[←hzz]at hz;obtain⟨Hz,Hzb⟩:=zh2 hz hzb;have hzu:u32s z.list:=by
     rw[hz];exact St.ok_list (qcd W s0 A6.o 64)
    have Hzu:=zh1 hzu;obtain⟨wq,rfl⟩:=eqx wr;have hgq:Blk wq gh 209 (qbq s0.list).toArray:=(AO.below hb3 zo);have Hgq:=zh1 hgq;have hrq:Blk wq gr 209 #[.int .u32 0,.int .u32 0,.int .u32 0,.int .u32 0,.int .u32 0,.int .u32 0,.int .u32 0,.int .u32 0]:=(AM.below hb3 zo);obtain⟨Hrq,Hb3⟩:=zh2 hrq hb3;have hgo:gh≠wo.heap.size:=zo;have Hs0:=zh1 (St.ok_list A6.o);clear hzz hz hzb hzu hst hb3 hgq hk' hk64 oa ob' oc od oe of og oh hrq;go_wp2_with fail
    go_loopw [18] (fun i wr=>∃(k:Nat),k≤8∧i=.int .i64 k∧Blk wr gh 209 (qbq (addl s0.list z.list k)).toArray∧wq.grownBy wr (some gh)) (fun i _=>8 - (intOf i).toNat)
    case atStart=>exact⟨0,by omega,rfl,by rw[qc5];exact Hgq.o,tB9 _ _⟩
    case round=>
     obtain⟨k,hk,rfl,hgk,hgr⟩:=hrel;by_cases hk8:k<8
     ·
      have qk8:(k:Int)<8:=zo;have cg:=hgk.cell k;rw[qc6 (by simp[St.list];omega),if_neg (Nat.lt_irrefl k)]at cg;have cz:=(Hzb.grown hgr (by intro e;injection e with e;exact hgo e.symm)).cell k;rw[qc3 (by simp[St.list];omega)]at cz;have fg:=hgk.frozen k;obtain⟨Hgk,Hgr⟩:=zh2 hgk hgr;obtain⟨x,hx⟩:=xeq (s0.list.getD k 0);obtain⟨y,hy⟩:=xeq (z.list.getD k 0);rw[hx]at cg;rw[hy]at cz;have lx:x<4294967296:=hx▸Hs0.getD k;have ly:y<4294967296:=hy▸Hzu.getD k;obtain⟨Hx,Hy⟩:=zh2 hx hy;clear hx hy hgk hgr;go_wp2_with fail
      go_still_tail 9,zk
      change wpList _ _ _ _ _ wr.drew;go_wp2
      go_roundw
      case rel=>
       refine⟨k+1,by omega,by go_num,?_,?_⟩
       · rw[←qc7 (by simp[St.list];omega),Hx.o,Hy.o]
         have e:(((x+y) % 4294967296:Nat):Int)=((x:Int)+y) % 4294967296:=zo;rw[e];exact Hgk.drew.set_ k _
       exact qab (qa9 Hgr.o) (.inl rfl) _
      case measure=>simp[intOf];omega
     have qk8:¬(k:Int)<8:=zo;have hk8':k=8:=zo;rw[hk8',qca]at hgk;have hmx:qc9 s0 z=mixed bs s0:=by rw[Hz.o,←HW.o];rfl
     rw[hmx,←St.vals_list]at hgk;obtain⟨z',hz'⟩:=xeq (mixed bs s0);rw[hz']at hgk;have AX:=zh1 hz';clear hz';have hrr:=Hrq.grown hgr (by intro e;injection e with e;omega);have d0:=hgk.cell 0;have d1:=hgk.cell 1;have d2:=hgk.cell 2;have d3:=hgk.cell 3;have d4:=hgk.cell 4;have d5:=hgk.cell 5;have d6:=hgk.cell 6;have d7:=hgk.cell 7;simp[St.vals]at d0 d1 d2 d3 d4 d5 d6 d7;have hend:Below w.heap.size w wr:=(AN.trans (Hb3.mono (by rw[A0.o];omega))).trans (qzo hgr (by rw[A0.o];omega) (by have:=Hgq.lt;omega));obtain⟨HE,Hrr⟩:=zh2 hend hrr;have hwr:gr<wr.heap.size:=hrr.lt;clear hgk hgr hk8' hk8 hrr hend hmx;go_wp2_with (refine wpList_store_row rfl 209 (.tmp 6) _ rfl gr _ rfl rfl 209 _ Hrr.o zk rfl (by simp[Value.oneCell']) ?_)
     have z8:=Hrr.setRow #[.int .u32 z'.a,.int .u32 z'.b,.int .u32 z'.c,.int .u32 z'.d,.int .u32 z'.e,.int .u32 z'.f,.int .u32 z'.g,.int .u32 z'.h];have AY:=qap (l:=[.int .u32 z'.a,.int .u32 z'.b,.int .u32 z'.c,.int .u32 z'.d,.int .u32 z'.e,.int .u32 z'.f,.int .u32 z'.g,.int .u32 z'.h]) z8 0 [.int .u32 z'.a,.int .u32 z'.b,.int .u32 z'.c,.int .u32 z'.d,.int .u32 z'.e,.int .u32 z'.f,.int .u32 z'.g,.int .u32 z'.h] zjq;refine bodyPost_ret (v:=.agg #[.int .u32 z'.a,.int .u32 z'.b,.int .u32 z'.c,.int .u32 z'.d,.int .u32 z'.e,.int .u32 z'.f,.int .u32 z'.g,.int .u32 z'.h]) (qao rfl rfl (run_loadVar_mid _ _ 0 _ _ _ AY Tryz.underlying209 rfl zk)) rfl ⟨?_,below_setRow HE.o (by rw[A0.o];omega) _⟩;rw[AX.o];rfl
theorem qzu{a b:List Nat}(h:∀j,j<64→a.getD j 0=b.getD j 0)(hi:i<16):be32 a (4*i)=be32 b (4*i):=by
 unfold be32;rw[h (4*i) zo,h (4*i+1) zo,h (4*i+2) zo,h (4*i+3) zo]
theorem qzv {a b:List Nat}(h:∀j,j<64→a.getD j 0=b.getD j 0):∀i,qbs a i=qbs b i
 |0=>rfl
 |i+1=>by
  have e:qbr a (qbs b i) i=qbr b (qbs b i) i:=by
   unfold qbr;by_cases hi:i<16
   · rw[if_pos hi,if_pos hi];exact qzu h hi
   rw[if_neg hi,if_neg hi]
  rw[qbs,qzv h i,e];rfl
theorem qzw{a b:List Nat}(h:∀j,j<64→a.getD j 0=b.getD j 0)(s:St):mixed a s=mixed b s:=by
 unfold mixed;rw[qzv h]
theorem qzx {a b:List Nat}(s:St):∀k,(∀j,j<64*k→a.getD j 0=b.getD j 0)→blocks a s k=blocks b s k
 |0,_=>rfl
 |k+1,h=>by
  rw[blocks,blocks,qzx s k (fun j hj=>h j zo)];apply qzw;intro j hj;have:=h (64*k+j) zo;simpa [tB4,List.getElem?_drop] using this
theorem qzy (l:List Nat)(s:St)(m:Nat):∀j,blocks l s (m+j)=blocks (l.drop (64*m)) (blocks l s m) j
 |0=>rfl
 |j+1=>by
  rw[show m+(j+1)=(m+j)+1 by omega,blocks,blocks,qzy l s m j,List.drop_drop,Nat.mul_add]
def padZ (n:Nat):Nat:=qf7 (n % 64) - n % 64 - 9
def qzz (bs:List Nat):List Nat:=(bs++128::List.replicate (padZ bs.length) 0)++be (8*bs.length) 8
theorem xa0(n:Nat):(n+1+padZ n) % 64=56:=by
 have h:=qfh (n % 64) (Nat.mod_lt _ zdc);unfold padZ;omega
theorem xa1(n z:Nat)(h:z<padZ n):(n+1+z) % 64≠56:=by
 unfold padZ qf7 at h;split at h<;>omega
theorem xa2(bs:List Nat):(qzz bs).length=64*(bs.length / 64+qf7 (bs.length % 64) / 64):=by
 have h:=qfh (bs.length % 64) (Nat.mod_lt _ zdc);simp only[qzz,padZ,tA6,tBi,List.length_replicate,qaw];omega
theorem xa3(bs:List Nat):(qzz bs).drop (64*(bs.length / 64))++List.replicate (128 - qf7 (bs.length % 64)) 0=qf8 bs 8:=by
 have h:=qfh (bs.length % 64) (Nat.mod_lt _ zdc);have e:64*(bs.length / 64)=bs.length - bs.length % 64:=zo;unfold qzz qf8 padZ;dsimp only;rw[e,List.append_assoc,List.drop_append_of_le_length zo,show qf7 (bs.length % 64) - bs.length % 64 - 1 - 8=qf7 (bs.length % 64) - bs.length % 64 - 9 by omega];simp only[List.append_assoc]
theorem xa4(bs:List Nat):blocks (qzz bs) qc2 (bs.length / 64+qf7 (bs.length % 64) / 64)=qf9 bs:=by
 have h:=qfh (bs.length % 64) (Nat.mod_lt _ zdc);have hl:=xa2 bs;rw[qzy];unfold qf9;have e1:blocks (qzz bs) qc2 (bs.length / 64)=blocks bs qc2 (bs.length / 64):=by
  apply qzx;intro j hj;unfold qzz;rw[tB4,List.append_assoc,tBm zo,←tB4]
 rw[e1];apply qzx;intro j hj;rw[←xa3,tB4,tB4,tBm (by rw[tBk];omega)]
theorem xa5(bs:List Nat)(h:∀b∈bs,b<256):∀b∈qzz bs,b<256:=by
 intro b hb;simp only[qzz,tBg,List.mem_cons,List.mem_replicate]at hb;rcases hb with(hb|rfl|⟨_,rfl⟩)|hb
 · exact h b hb
 · decide
 · decide
 exact qaz _ _ b hb
def slen:Value→Nat|.slice _ n _=>n|_=>0
theorem xa6(N j m:Nat)(h:8=j+(m+1)):(be N 8).take (j+1)=(be N 8).take j++[N / 2^(8*m) % 256]:=by
 rw[qax N 8 j zo,show 8 - 1 - j=m by omega];rw[show qav N m=N / 2^(8*m) % 256 from by unfold qav;rw[Nat.pow_mul]]
theorem xa7(g n cc:Nat)(A:Option Addr)(bs:List Nat)(w:World)(hb2:∀b∈bs,b<256)(hT:RTab w g)(hr:Reads w w.heap.size 1 A n (byv bs))(hn:n≤4294967296):
 Zc 144 #[.pointer (some ⟨g,0,none⟩),.slice A n cc] w fun e w'=>e=.returned (.agg (byv (sha bs)).toArray)∧Below w.heap.size w w':=by
 have hlen:bs.length=n:=qb5 hr;obtain⟨N,hN⟩:=xeq (n*8);have d1:IntKind.u64.wrap (n:Int)=n:=tBa _ zo;have d2:IntKind.u64.wrap ((n:Int)*8)=(N:Int):=by rw[show ((n:Int)*8)=(N:Int) by omega];exact tBa _ zo
 have hN2:N<18446744073709551616:=zo;obtain⟨Z,hZ⟩:=xeq (padZ n);have hZ64:Z≤128:=by rw[←hZ];have:=qfh (n % 64) (Nat.mod_lt _ zdc);unfold padZ;omega
 obtain⟨W0,hW0⟩:=eqx (w.alloc (.cells zLD 29));obtain⟨G,hG⟩:=xeq w.heap.size;have z0:Blk W0 G 29 zLD:=by rw[hW0,←hG];exact Blk.new w _ _
 have b0:=zMa hW0;have t0:RTab W0 g:=Blk.below hT b0 (Blk.lt hT);have r0:Reads W0 W0.heap.size 1 A n (byv bs):=hr.call b0;have hr0:=r0.laid (.cells #[] 5);have glt:g<G:=by rw[←hG];exact Blk.lt hT
 have gsz:G<W0.heap.size:=z0.lt;obtain⟨HG,AG,AH,AI,AJ,A6,A0,AK⟩:=zh8 hG z0 b0 t0 hN hZ hlen hb2;clear hT hr hlen hN hZ b0 t0 z0 r0 hG hb2;go_enter Tryz.func144,Tryz.ntmps144
 go_upto_region 1 with(fail)
 rw[←hW0,show w.heap.size=G from HG.o];clear hW0;go_wp2_with (at_builtin;refine qe3 rfl (.tmp 12) (.tmp 13) rfl W0.heap.size _ [] rfl (OwnB.made W0 [] (by simp[maxLen])) A n cc bs rfl hr0 (by simp;omega) zm ?_)
 intro v1 w1 hown1 hb1 hg1;have B1:Below W0.heap.size W0 w1:=((tA5 _ _).alloc (tA4 _) _).trans hb1;have hs1:=B1.size;have l1:([]++bs).length+1≤140737488355328:=by have:=A0.o;simp;omega
 go_wp2_with (at_builtin;refine qe3 rfl (.tmp 14) (.tmp 15) rfl W0.heap.size _ _ rfl (hown1.alloc _) _ 1 1 [128] rfl (by simpa using qe7 w1 128) l1 (by simp;omega) ?_)
 intro v2 w2 hown2 hb2 hg2;obtain⟨A5,AC⟩:=zh2 ((B1.alloc hs1 (.cells #[.int .u8 128] 5)).trans hb2) hown2;clear hown1 hb1 hg1 B1 hs1 l1 hown2 hb2 hg2 hr0;go_wp2_with fail
 go_loopw [5] (fun v wr=>∃z,z≤Z∧Hid (OwnB wr W0.heap.size v (bs++128::List.replicate z 0))∧Hid (Below W0.heap.size W0 wr)) (fun v _=>n+1+Z - slen v)
 case atStart=>exact⟨0,by omega,zh1 (by simpa using AC.o),A5.o⟩
 case round=>
  clear AC A5;obtain⟨z,hz,hown,hbe⟩:=hrel;obtain⟨A1,n1,c1,rfl,hnc,hcm,hrd⟩:=hown.sl;have hn1:n1=n+1+z:=by
   have:=qb5 hrd;have e:=A0.o;simp only[tA6,tBi,List.length_replicate]at this;omega
  obtain⟨q,hq⟩:=xeq (n1 % 64);have q1:Int.tmod (n1:Int) 64=(q:Int):=by rw[Int.tmod_eq_emod_of_nonneg zo];omega
  have q2:IntKind.i64.wrap (q:Int)=q:=tBb _ zo;obtain⟨HQ,AL⟩:=zh2 hq hn1;by_cases hzZ:z<Z
  ·
   have q3:¬(q:Int)=56:=by
    have:=xa1 n z (by rw[A6.o];exact hzZ);omega
   clear hq hn1 hrd;have hbs:=hbe.size;have l2:(bs++128::List.replicate z 0).length+1≤140737488355328:=by have:=A0.o;simp;omega
   go_wp2_with (at_builtin;refine qe3 rfl (.tmp 21) (.tmp 22) rfl W0.heap.size _ _ rfl (hown.alloc _) _ 1 1 [0] rfl (by simpa using qe7 wr 0) l2 (by simp;omega) ?_)
   intro v3 w3 hown3 hb3 hg3;have AD:Hid (OwnB w3 W0.heap.size v3 (bs++128::List.replicate (z+1) 0)):=zh1 (by
    have e:(bs++128::List.replicate z 0)++[0]=bs++128::List.replicate (z+1) 0:=by rw[List.replicate_succ'];simp
    rw[←e];simpa using hown3)
   have A7:=zh1 ((hbe.alloc hbs (.cells #[.int .u8 0] 5)).trans hb3);have hv3:slen v3=n+1+(z+1):=by
    obtain⟨A3,n3,c3,rfl,-,-,rd3⟩:=AD.sl;have:=qb5 rd3;have e:=A0.o;simp only[tA6,tBi,List.length_replicate]at this;simp only[slen];omega
   have AM:=zh1 hv3;clear hown3 hb3 hg3 hv3 l2 hbs;go_wp2
   go_roundw
   case rel=>exact⟨z+1,by omega,AD,A7⟩
   case measure=>rw[AM.o,show n1=n+1+z from AL.o];simp only[slen];omega
  have hzz:z=Z:=zo;have q3:(q:Int)=56:=by
   have:=xa0 n;rw[A6.o]at this;omega
  subst hzz;obtain⟨T,hTT⟩:=xeq (bs++128::List.replicate z 0);have hTl:T.length≤4294967296+200:=by rw[←hTT];have:=A0.o;simp;omega
  have hown':=hown.o;rw[hTT]at hown';obtain⟨AN,AO⟩:=zh2 hTT hTl;obtain⟨W1,rfl⟩:=eqx wr;have HO:=zh1 hown';clear hq hn1 hrd hTT hTl hown' hown;go_wp2_with fail
  go_loopw [5,7] (fun v i wr=>∃j m:Nat,8=j+m∧i=.int .i64 (8*(m:Int) - 8)∧Hid (OwnB wr W0.heap.size v (T++(be N 8).take j))∧Hid (Below W0.heap.size W0 wr)) (fun _ i _=>(intOf i+8).toNat)
  case atStart=>exact⟨0,8,by omega,rfl,zh1 (by simpa using HO.o),hbe.o⟩
  case round=>
   clear hbe;obtain⟨j,m,hjm,rfl,hown,hbe⟩:=hrel;cases m with
   |zero=>
    obtain rfl:j=8:=zo;rw[show 8*((0:Nat):Int) - 8= -8 from by decide];have hO:=hown.o;rw[tB5 (by rw[qaw];exact tA4 _)]at hO;have hX:T++be N 8=qzz bs:=by unfold qzz;rw[A0.o,A6.o,AN.o,show 8*n=N by have:=AJ.o;omega]
    rw[hX]at hO;have hXl:=xa2 bs;obtain⟨X,hXX⟩:=xeq (qzz bs);obtain⟨M,hM⟩:=xeq (bs.length / 64+qf7 (bs.length % 64) / 64);have hM2:M≤67108870:=by rw[←hM];have:=A0.o;have:=qfh (bs.length % 64) (Nat.mod_lt _ zdc);omega
    have hsh:=xa4 bs;have hXlt:=xa5 bs AK.o;rw[hXX]at hO hXl hsh hXlt;rw[hM]at hXl hsh;obtain⟨A2,n2,c2,rfl,hnc2,hcm2,hrd2⟩:=OwnB.sl hO;have hn2:n2=64*M:=by have:=qb5 hrd2;omega
    obtain⟨AE,AP,AQ,A8⟩:=zh4 hn2 hsh hXl hXlt;obtain⟨wo,rfl⟩:=eqx wr;have tab:=(show RTab W0 g from AI.o).below hbe.o zo;have c0:=qzs (i:=0) tab zo;have c1:=qzs (i:=1) tab zo;have c2':=qzs (i:=2) tab zo;have c3:=qzs (i:=3) tab zo;have c4:=qzs (i:=4) tab zo;have c5:=qzs (i:=5) tab zo;have c6:=qzs (i:=6) tab zo;have c7:=qzs (i:=7) tab zo;simp[St.vals,qc2]at c0 c1 c2' c3 c4 c5 c6 c7;have hM1:1≤M:=by rw[←hM];have:=qfh (bs.length % 64) (Nat.mod_lt _ zdc);omega
    obtain⟨gb,ob,hA2,hgb,-⟩:=hrd2.mid zo zo;have AR:=zh1 hrd2;subst hA2;have A9:=zh1 tab;have hzo:Blk wo G 29 zLD:=AG.below hbe.o gsz;obtain⟨AS,AT⟩:=zh2 hzo (AH.trans (hbe.mono (by have:=HG.o;omega)));have B6:=hbe;have glo:g<wo.heap.size:=Blk.lt tab;have gho:G<wo.heap.size:=hzo.lt;clear hO hX hXl hsh hXlt hXX hM hn2 hrd2 tab hzo hown hbe hjm;go_wp2_with fail
    go_loopw [9] (fun i wr=>∃k p:Nat,k≤M∧Hid (64*k=p)∧i=.int .i64 p∧Hid (Blk wr wo.heap.size 209 (blocks X qc2 k).vals)∧Hid (Below wo.heap.size wo wr)) (fun i _=>n2 - (intOf i).toNat)
    case atStart=>exact⟨0,0,by omega,rfl,rfl,Blk.new ..,(tA5 _ _).alloc (tA4 _) _⟩
    case round=>
     clear c0 c1 c2' c3 c4 c5 c6 c7;obtain⟨k,p,hk,hp,rfl,hst,hbw⟩:=hrel;by_cases hkM:k<M
     ·
      obtain⟨s,hs⟩:=xeq (blocks X qc2 k);have hok:s.ok:=hs▸qf5 X qc2 qf6 k;have hstv:=hst.o;rw[hs]at hstv;have hp':=hp.o;have hn2':=AE.o;have p1:(p:Int)<n2:=zo;have p2:p+64≤n2:=zo;have p4:¬c2=p:=zo;have p5:p≤n2:=zo;have p6:(p:Int)≤(p:Int)+64:=zo;have p7:(p:Int)+64≤c2:=zo;have p10:0≤(p:Int)+64:=zo;have p11:((p:Int)+64).toNat=p+64:=zo;have p12:(p:Int)+64 - p=64:=zo;have p3':IntKind.i64.wrap ((p:Int)+64)=(p:Int)+64:=tBb _ zo;have hrp:=((AR.below hbw.o).cut (k:=p) (cap:=c2) p5 hnc2);rw[if_neg p4,Nat.mul_one,show (byv X).drop p=byv (X.drop p) by simp[byv],Option.map_some,Addr.add_mid]at hrp;have hrq:=(hrp.pre (k:=64) zo).more hbw.size;rw[show (byv (X.drop p)).take 64=byv ((X.drop p).take 64) by simp[byv]]at hrq;have htw:RTab wr g:=(show RTab wo g from A9.o).below hbw.o glo;obtain⟨s',hs'⟩:=xeq (mixed ((X.drop p).take 64) s);have hnx:s'=blocks X qc2 (k+1):=by
       rw[←hs',blocks,hp',hs];apply qzw;intro j hj;rw[tB4,tB4,List.getElem?_take_of_lt hj]
      have K:=qzt g 64 (c2 - p) (some ⟨gb,ob+p,none⟩) ((X.drop p).take 64) s wr.drew hok (by rw[tBd,tBk,AQ.o];omega) (tA4 _) (fun b hb=>A8.o b (List.mem_of_mem_drop (tB7 hb))) htw hrq;rw[hs']at K;obtain⟨HK,AU,A4⟩:=zh3 K hnx hstv;have p8:((p+64:Nat):Int) - p=64:=zo;have p9:p+64 - p=64:=zo;clear K hrp hrq htw hs' hnx hp' hn2' hstv hst hs;go_upto_region 13 with(fail)
      obtain⟨S,HS⟩:=zS fun w'=>w'.rangeAt wo.heap.size 0 [.int .u32 s.a,.int .u32 s.b,.int .u32 s.c,.int .u32 s.d,.int .u32 s.e,.int .u32 s.f,.int .u32 s.g,.int .u32 s.h]
      refine zrs S 7 (zq 0 7 [(7,true),(8,true)]) ((HS.o _).mpr (qap (l:=[.int .u32 s.a,.int .u32 s.b,.int .u32 s.c,.int .u32 s.d,.int .u32 s.e,.int .u32 s.f,.int .u32 s.g,.int .u32 s.h]) A4.o 0 _ zjq)) ?_;iterate 1 (refine zrb ?_)
      refine qos rfl rfl 209 (.tmp 8) rfl wo.heap.size 0 rfl [.int .u32 s.a,.int .u32 s.b,.int .u32 s.c,.int .u32 s.d,.int .u32 s.e,.int .u32 s.f,.int .u32 s.g,.int .u32 s.h] _ (fun w1 hS=>(HS.o w1).mp hS) Tryz.underlying209 rfl zk ?_;refine zP ?_;iterate 1 (refine zrb ?_)
      iterate 1 (refine zrb ?_)
      iterate 1 (refine zrb ?_)
      iterate 1 (refine zrb ?_)
      refine qbh rfl rfl ⟨.slice (some ⟨gb,ob+p,none⟩) 64 (c2 - p),fun w1 hS=>?_,?_⟩
      · go_simp
        trace_state
      refine zP ?_;refine zw ?_;go_simp;refine zcb HK.o fun w2 b2=>?_
      have b2':=qe6 b2;have s2:=A4.below b2' A4.lt;obtain⟨AF,A7⟩:=zh2 s2 (below_setRow ((hbw.o).trans (b2'.mono hbw.size)) (tA4 wo.heap.size) s'.vals);refine zP ?_;refine zw ?_;refine wp_store_row 209 (.tmp 8) (.tmp 57) rfl wo.heap.size s'.vals rfl rfl 209 _ AF.o zk rfl (by simp[St.vals,Value.oneCell']) ?_;refine⟨fun h=>absurd h zdc,?_⟩;refine qbg ?_;clear b2 b2' s2;go_wp2
      go_roundw
      case rel=>exact⟨k+1,p+64,by omega,zh1 (by have:=hp.o;omega),by go_num,zh1 (by rw[←AU.o];exact AF.setRow _),A7⟩
      case measure=>simp only[intOf];omega
     have hk':k=M:=zo;have q1:¬(p:Int)<n2:=by have:=hp.o;have:=AE.o;omega
     have hsq:=hst.o;rw[hk',AP.o]at hsq;obtain⟨st,hst'⟩:=xeq (qf9 bs);rw[hst']at hsq;obtain⟨W6,rfl⟩:=eqx wr;have hok:st.ok:=by rw[←hst'];exact qf5 _ _ (qf5 _ _ qf6 _) _
     have hlist:=St.ok_list hok;have hZ6:Blk W6 G 29 zLD:=AS.below hbw.o gho;have hB6:Below w.heap.size w W6:=AT.trans (hbw.mono (by have:=HG.o;omega));obtain⟨AV,AW,AX,AA,AY⟩:=zh5 hsq hZ6 hB6 hst' hlist;have lW6:wo.heap.size<W6.heap.size:=hsq.lt;have gW6:G<W6.heap.size:=hZ6.lt;have hD7:Blk (W6.alloc (.cells zLD 29)) W6.heap.size 29 (byv (qfd (qfa st) 0)).toArray:=by
      have h:=Blk.new W6 29 zLD;exact h
     have AZ:=zh1 hD7;clear hsq hZ6 hB6 hst' hlist hok hD7 hst hbw hk' hp hkM;go_wp2_with fail
     go_loopw [11] (fun i wr=>∃k:Nat,k≤32∧i=.int .i64 k∧Blk wr W6.heap.size 29 (byv (qfd (qfa st) k)).toArray∧Below W6.heap.size W6 wr) (fun i _=>32 - (intOf i).toNat)
     case atStart=>exact⟨0,by omega,rfl,AZ.o,(tA5 _ _).alloc (tA4 _) _⟩
     case round=>
      obtain⟨k,hk,rfl,hdk,hbk⟩:=hrel;by_cases hk32:k<32
      ·
       have qk:(k:Int)<32:=zo;obtain⟨a,ha⟩:=xeq (k / 4);obtain⟨b,hb⟩:=xeq (k % 4);obtain⟨s,hs⟩:=xeq (24 - 8*b);have u1:Int.tdiv (k:Int) 4=(a:Int):=by rw[Int.tdiv_eq_ediv_of_nonneg zo];omega
       have u2:Int.tmod (k:Int) 4=(b:Int):=by rw[Int.tmod_eq_emod_of_nonneg zo];omega
       have u3:IntKind.i64.wrap (a:Int)=a:=tBb _ zo;have u4:IntKind.i64.wrap (b:Int)=b:=tBb _ zo;have u5:IntKind.i64.wrap (8*(b:Int))=8*(b:Int):=tBb _ zo;have u6:IntKind.i64.wrap (24 - 8*(b:Int))=(s:Int):=by rw[show (24 - 8*(b:Int))=(s:Int) by omega];exact tBb _ zo
       have u7:(a:Int)<8:=zo;have u8':IntKind.u64.wrap (s:Int)=s:=tBa _ zo;have u9:min s 32=s:=zo;have cs:=(AV.below hbk lW6).cell a;rw[St.vals_list,qc3 (by simp[St.list];omega)]at cs;obtain⟨x,hx⟩:=xeq (st.list.getD a 0);rw[hx]at cs;have lx:x<4294967296:=hx▸AY.getD a;have cd:=hdk.cell k;rw[qfb (by simp[qfd,qfa];omega)]at cd;have fd:=hdk.frozen k;obtain⟨Hdk,Hbk,Hx,Ha,Hb,Hs⟩:=zh6 hdk hbk hx ha hb hs;clear hdk hbk hx ha hb hs;go_wp2
       go_roundw
       case rel=>
        refine⟨k+1,by omega,by go_num,?_,Hbk.setCell (tA4 _) _⟩;have e:((x:Int) / 2^s % 256)=((x / 2^s % 256:Nat):Int):=by
         push_cast
         rfl
        rw[e,←qfe (L:=qfa st) (k:=k) (v:=x / 2^s % 256) (by simp[qfa];omega) (by rw[qfg st hk32,Ha.o,Hb.o,Hs.o,Hx.o])];exact Hdk.set_ k _
       case measure=>simp[intOf];omega
      have qk:¬(k:Int)<32:=zo;have hk':k=(qfa st).length:=by simp[qfa];omega
      rw[hk',qff]at hdk;have hV:(byv (qfa st)).length=32:=by simp[byv,qfa]
      have hV1:=qau (qfa st);obtain⟨V,hVV⟩:=xeq (byv (qfa st));rw[hVV]at hdk hV hV1;have B0:=zh1 (qap hdk 0 V zjq);have z7:=AW.below hbk gW6;obtain⟨HV,B2,B3,Hbk,HI⟩:=zh5 hV hV1 hVV hbk (zI 29 hV);clear hdk hV hV1 hVV hbk hk' hk32;go_wp2_with (first
       |(refine zld B0.o zu29 HI.o ?_)
       |(refine zst z7 HI.o (by simp[HV.o]) B2.o ?_))
      have z8:=z7.setRow V.toArray;have B4:=qap z8 0 V zjq;refine zrt B4 zu29 HI.o ⟨?_,below_setRow (AX.trans (Hbk.mono (by have:=HG.o;omega))) (by rw[HG.o];exact tA4 _) _⟩;rw[←B3.o,←AA.o];rfl
   |succ m=>
    have em:8*(((m+1:Nat)):Int) - 8=((8*m:Nat):Int):=zo;rw[em];clear em;have hlj:(T++(be N 8).take j).length+1≤140737488355328:=by have:=AO.o;rw[tA6,tBd,qaw];omega
    have Hjm:=zh1 hjm;have hm8:m≤7:=zo;have hbs:=hbe.size;obtain⟨s,hs⟩:=xeq (8*m);rw[hs];have s56:s≤56:=zo;have s1:IntKind.u64.wrap (s:Int)=s:=tBa _ zo;have s2:min s 64=s:=zo;have s3:IntKind.i64.wrap ((s:Int) - 8)=(s:Int) - 8:=tBb _ zo;obtain⟨bv,hbv⟩:=xeq (N / 2^s % 256);have s4:((N:Int) / 2^s % 256)=(bv:Int):=by rw[←hbv];push_cast;rfl
    obtain⟨B5,AB⟩:=zh2 hbv hs;clear hbv hjm hs;go_wp2_with (at_builtin;refine qe3 rfl (.tmp 32) (.tmp 38) rfl W0.heap.size _ _ rfl (hown.alloc _) _ 1 1 [bv] rfl (by simpa using qe7 wr bv) hlj (by simp;omega) ?_)
    intro v3 w3 hown3 hb3 hg3;have HW:Hid (OwnB w3 W0.heap.size v3 (T++(be N 8).take (j+1))):=zh1 (by
     rw[xa6 N j m Hjm.o,AB.o,B5.o];exact hown3)
    have HB:=zh1 ((hbe.alloc hbs (.cells #[.int .u8 (bv:Int)] 5)).trans hb3);clear hown3 hb3 hg3 hbe hown;go_wp2
    go_roundw
    case rel=>exact⟨j+1,m,by have:=Hjm.o;omega,by have:=AB.o;congr 1;omega,HW,HB⟩
    case measure=>simp only[intOf];have:=AB.o;omega
theorem OwnB.grownNe{r:Option Nat}(h:OwnB w base v bs)(hg:w.grownBy w' r)(hne:∀b,v.ownBlock=some b→r≠some b):OwnB w' base v bs:=by
 refine⟨h.1,?_⟩;rcases h.2 with h|⟨g,cap,cur,hv,hb,hh,rest⟩
 · exact .inl h
 refine .inr ⟨g,cap,cur,hv,hb,?_,rest⟩;subst hv;exact(hg.block g (by
  rcases Nat.lt_or_ge g w.heap.size with hlt|hge
  · exact hlt
  rw[Array.getElem?_eq_none hge]at hh;cases hh) (fun e=>hne g rfl e.symm)).trans hh
theorem OwnB.blk_lt(h:OwnB w base v bs)(e:v.ownBlock=some b):b<w.heap.size:=by
 rcases h.2 with⟨rfl,_⟩|⟨g,cap,cur,rfl,hb,hh,rest⟩
 · cases e
 injection e with e;subst e;rcases Nat.lt_or_ge g w.heap.size with hlt|hge
 · exact hlt
 rw[Array.getElem?_eq_none hge]at hh;cases hh
def Apart (v v':Value):Prop:=∀b,v.ownBlock=some b→v'.ownBlock≠some b
theorem xa8(h:Apart vi vo)(ho:OwnB w base vo bs)(he:vi'.ownBlock=vi.ownBlock∨vi'.ownBlock=some n)(hn:w.heap.size≤n):Apart vi' vo:=by
 intro b hb e;rcases he with he|he
 · exact h b (he▸hb) e
 rw[he]at hb;injection hb with hb;have:=ho.blk_lt e;omega
theorem xa9(h:Apart vi vo)(ho:OwnB w base vi bs)(he:vo'.ownBlock=vo.ownBlock∨vo'.ownBlock=some n)(hn:w.heap.size≤n):Apart vi vo':=by
 intro b hb e;rcases he with he|he
 · exact h b hb (he▸e)
 rw[he]at e;injection e with e;have:=ho.blk_lt hb;omega
theorem xaa{ops:Array Oper}(hgd:o.guard=none)(s x:Operand)
 (ho:o.op=.call {callee:=.builtin .append,args:=#[s,x],argTypes:=#[23,23]})
 (base:Nat)(v:Value)(bs:List Nat)(hs:a.eval s=v)(hown:OwnB w base v bs)(A:Option Addr)(m c:Nat)(news:List Nat)(hx:a.eval x=.slice A m c)(hr:Reads w w.heap.size 1 A m (byv news))
 (hlen:bs.length+m≤8589934592)(hbase:base≤w.heap.size)
 (h:∀v' w',OwnB w' base v' (bs++news)→Below base w w'→w.grownBy w' v.ownBlock→(v'.ownBlock=v.ownBlock∨v'.ownBlock=some w.heap.size)→wpList Tryz.prog ops Q rest (a.put o.dst v') w'):wpList Tryz.prog ops Q (o::rest) a w:=by
 obtain⟨i0,hi0,hz0,hz1,hz2⟩:=info_parts Tryz.u8_info;have hm:=qb5 hr;refine qa7 (P:=Tryz.prog) w hgd s x _ ho base 5 i0 _ 1 1 Tryz.underlying23 hi0 hz0 hz1 hz2 rfl zo v bs.length (byv bs) hs hown w.heap.size A m c (byv news) hx hr (qau _) (by simp only[maxLen];omega) zo hbase ?_;intro v' w' h1 h2 h3;refine h v' w' ?_ ?_ h2 h3
 · unfold OwnB
   rw[qas,tA6,hm];exact h1
 exact qae (tA5 _ _) hown h2 (tA4 _) hbase
theorem xab{K:List Nat}{x:Nat}(f:Nat→Nat)(h:K[k]? =some x):(K.take (k+1)).map f=(K.take k).map f++[f x]:=by
 rw[List.take_add_one,h];simp
theorem xac(g nk ck n cc:Nat)(Ak A:Option Addr)(key b:List Nat)(w:World)(hT:RTab w g)(hk:Reads w w.heap.size 1 Ak nk (byv key))(hb:Reads w w.heap.size 1 A n (byv b))(hk2:∀x∈key,x<256)(hb2:∀x∈b,x<256)
 (hnk:nk≤64)(hn:n≤65536):
 Zc 60 #[.pointer (some ⟨g,0,none⟩),.slice Ak nk ck,.slice A n cc] w fun e w'=>e=.returned (.agg (byv (mac key b)).toArray)∧Below w.heap.size w w':=by
 have lk:=qb5 hk;have lb:=qb5 hb;obtain⟨W0,hW0⟩:=eqx (w.alloc (.cells zLD 29));obtain⟨G,hG⟩:=xeq w.heap.size;have z0:Blk W0 G 29 zLD:=by rw[hW0,←hG];exact Blk.new w _ _
 have b0:=zMa hW0;have t0:RTab W0 g:=Blk.below hT b0 (Blk.lt hT);have hk0:=(hk.call b0).laid (.cells #[] 5);have hbr0:Reads W0 W0.heap.size 1 A n (byv b):=hb.call b0;have gsz:G<W0.heap.size:=z0.lt;have glt:g<W0.heap.size:=Blk.lt t0;obtain⟨HG,AV,AW,AP,AX,A0,AY,AB⟩:=zh8 hG z0 b0 t0 hbr0 lk lb hk2;have AZ:=zh1 hb2;clear hT hk hb lk lb hk2 hb2 b0 t0 z0 hbr0 hG;go_enter Tryz.func60,Tryz.ntmps60
 go_upto_region 1 with(fail)
 rw[←hW0,show w.heap.size=G from HG.o];clear hW0;go_wp2_with (at_builtin;refine qe3 rfl (.tmp 13) (.tmp 14) rfl W0.heap.size _ [] rfl (OwnB.made W0 [] (by simp[maxLen])) Ak nk ck key rfl hk0 (by simp;omega) zm ?_)
 intro v1 w1 hown1 hb1 hg1;have B1:Below W0.heap.size W0 w1:=((tA5 _ _).alloc (tA4 _) _).trans hb1;obtain⟨A1,n1,c1,rfl,hnc1,hcm1,hrd1⟩:=hown1.sl;have hn1:n1=nk:=by have:=qb5 hrd1;have:=A0.o;omega
 subst hn1;have q64:¬(n1:Int)>64:=zo;have q64':(n1:Int)≤64:=zo;obtain⟨AQ,AR⟩:=zh2 hown1 B1;clear hb1 hg1 hown1 B1 hrd1 hk0;go_wp2_with fail
 go_loopw [7] (fun v wr=>∃z,n1+z≤64∧Hid (OwnB wr W0.heap.size v (key++List.replicate z 0))∧Hid (Below W0.heap.size W0 wr)) (fun v _=>64 - slen v)
 case atStart=>exact⟨0,by omega,zh1 (by simpa using AQ.o),AR.o⟩
 case round=>
  clear AQ AR;obtain⟨z,hz,hown,hbe⟩:=hrel;obtain⟨A2,n2,c2,rfl,hnc,hcm,hrd⟩:=hown.sl;have hn2:n2=n1+z:=by
   have:=qb5 hrd;have e:=A0.o;simp only[tA6,List.length_replicate]at this;omega
  have AS:=zh1 hn2;by_cases hzZ:n1+z<64
  ·
   have q3:(n2:Int)<64:=zo;clear hn2 hrd;have hbs:=hbe.size;have l2:(key++List.replicate z 0).length+1≤140737488355328:=by have:=A0.o;simp;omega
   go_wp2_with (at_builtin;refine qe3 rfl (.tmp 28) (.tmp 29) rfl W0.heap.size _ _ rfl (hown.alloc _) _ 1 1 [0] rfl (by simpa using qe7 wr 0) l2 (by simp;omega) ?_)
   intro v3 w3 hown3 hb3 hg3;have AT:Hid (OwnB w3 W0.heap.size v3 (key++List.replicate (z+1) 0)):=zh1 (by
    have e:(key++List.replicate z 0)++[0]=key++List.replicate (z+1) 0:=by rw[List.replicate_succ'];simp
    rw[←e];simpa using hown3)
   have AA:=zh1 ((hbe.alloc hbs (.cells #[.int .u8 0] 5)).trans hb3);have hv3:slen v3=n1+(z+1):=by
    obtain⟨A3,n3,c3,rfl,-,-,rd3⟩:=AT.sl;have:=qb5 rd3;have e:=A0.o;simp only[tA6,List.length_replicate]at this;simp only[slen];omega
   have B0:=zh1 hv3;clear hown3 hb3 hg3 hv3 l2 hbs;go_wp2
   go_roundw
   case rel=>exact⟨z+1,by omega,AT,AA⟩
   case measure=>rw[B0.o,show n2=n1+z from AS.o];simp only[slen];omega
  have q3:¬(n2:Int)<64:=zo;obtain⟨K,hKK⟩:=xeq (key++List.replicate z 0);have hz':z=64 - key.length:=by have:=A0.o;omega
  have hKl:K.length=64:=by rw[←hKK];have:=A0.o;simp;omega
  have hKb:∀x∈K,x<256:=by
   intro x hx;rw[←hKK]at hx;rcases List.mem_append.1 hx with h|h
   · exact AB.o x h
   rw[(List.mem_replicate.1 h).2];decide
  have hp1:K.map (fun x=>x^^^54)=qjj key 54:=by unfold qjj;rw[←hKK,hz']
  have hp2:K.map (fun x=>x^^^92)=qjj key 92:=by unfold qjj;rw[←hKK,hz']
  rw[hKK]at hrd;have hn64:n2=64:=by have:=qb5 hrd;omega
  obtain⟨W1,rfl⟩:=eqx wr;obtain⟨gk,ok,rfl,hgk,hck⟩:=hrd.mid zo zo;obtain⟨B2,B3,B4,AC,B6⟩:=zh5 hck hp1 hp2 hKl hKb;subst hn64;have hw01:=hbe.size;clear hn2 hrd hKK hz' hKl hKb hp1 hp2 hck AS hown;go_wp2_with fail
  go_loopw [9,10,11] (fun vi vo i wr=>∃k:Nat,k≤64∧i=.int .i64 k∧Hid (OwnB wr W1.heap.size vi ((K.take k).map (fun x=>x^^^54)))∧Hid (OwnB wr W1.heap.size vo ((K.take k).map (fun x=>x^^^92)))∧Hid (Apart vi vo)∧Hid (Below W1.heap.size W1 wr)) (fun _ _ i _=>64 - (intOf i).toNat)
  case atStart=>exact⟨0,by omega,rfl,zh1 (OwnB.nil _ _),zh1 (OwnB.nil _ _),zh1 (fun b h=>nomatch h),zh1 (tA5 _ _)⟩
  case round=>
   obtain⟨k,hk,rfl,hvi,hvo,hne,hbw⟩:=hrel;by_cases hk64:k<64
   ·
    have qk:(k:Int)<64:=zo;obtain⟨x,hx⟩:∃x,K[k]? =some x:=⟨_,tA7 (by rw[AC.o];exact hk64)⟩;have lx:=B6.o x (tB2 hx);have ck1:W1.cell? ⟨gk,ok+k,none⟩=some (.int .u8 (x:Int)):=B2.o k _ (by simp[byv,hx]);have ck:=(hbw.cell (p:=⟨gk,ok+k,none⟩) hgk).trans ck1;obtain⟨y1,hy1,oy1⟩:∃y:Nat,x^^^54=y∧bits .xor .u8 (x:Int) 54=y:=⟨_,rfl,u8_xor_nat x 54 lx zdc⟩;obtain⟨y2,hy2,oy2⟩:∃y:Nat,x^^^92=y∧bits .xor .u8 (x:Int) 92=y:=⟨_,rfl,u8_xor_nat x 92 lx zdc⟩;have hm1:=xab (fun x=>x^^^54) hx;have hm2:=xab (fun x=>x^^^92) hx;rw[hy1]at hm1;rw[hy2]at hm2;obtain⟨BA,BB⟩:=zh2 hm1 hm2;have hbs:=hbw.size;have la:((K.take k).map (fun x=>x^^^54)).length+1≤8589934592:=by rw[tBl,tBd];omega
    have lb:((K.take k).map (fun x=>x^^^92)).length+1≤8589934592:=by rw[tBl,tBd];omega
    have AD:=zh1 ck1;clear hx hy1 hy2 hm1 hm2 ck1;go_wp2_with (at_builtin;refine xaa rfl (.tmp 35) (.tmp 41) rfl W1.heap.size _ _ rfl (hvi.alloc _) _ 1 1 [y1] rfl (by simpa using qe7 wr y1) la (by simp;omega) ?_)
    intro v3 w3 hown3 hb3 hg3 he3;have hB3:=(hbw.alloc hbs (.cells #[.int .u8 (y1:Int)] 5)).trans hb3;obtain⟨A7,A4⟩:=zh2 ((hvo.alloc (.cells #[.int .u8 (y1:Int)] 5)).grownNe hg3 (fun b h e=>hne.o b e h)) (xa8 hne.o hvo.o he3 zm);have hb3s:=hB3.size;have ck:=(hB3.cell (p:=⟨gk,ok+k,none⟩) hgk).trans AD.o;have A6:Hid (OwnB w3 W1.heap.size v3 ((K.take (k+1)).map (fun x=>x^^^54))):=zh1 (by rw[BA.o,List.map_take];exact hown3);have AA:=zh1 hB3;clear hown3 hb3 hg3 he3 hB3 hvi hvo hne hbw;go_wp2_with (at_builtin;refine xaa rfl (.tmp 43) (.tmp 49) rfl W1.heap.size _ _ rfl (A7.alloc _) _ 1 1 [y2] rfl (by simpa using qe7 w3 y2) lb (by simp;omega) ?_)
    intro v4 w4 hown4 hb4 hg4 he4;have BC:=zh1 ((AA.alloc hb3s (.cells #[.int .u8 (y2:Int)] 5)).trans hb4);have AE:Hid (OwnB w4 W1.heap.size v4 ((K.take (k+1)).map (fun x=>x^^^92))):=zh1 (by rw[BB.o,List.map_take];exact hown4);have AF:Hid (OwnB w4 W1.heap.size v3 ((K.take (k+1)).map (fun x=>x^^^54))):=zh1 ((A6.alloc (.cells #[.int .u8 (y2:Int)] 5)).grownNe hg4 (fun b h e=>A4.o b h e));have AG:=zh1 (xa9 A4.o A6.o he4 zm);clear hown4 hb4 hg4 he4 AA A7 A4 A6;go_wp2
    go_roundw
    case rel=>exact⟨k+1,by omega,by go_num,AF,AE,AG,BC⟩
    case measure=>simp[intOf];omega
   have qk:¬(k:Int)<64:=zo;obtain rfl:k=64:=zo;have hvi':=hvi.o;have hvo':=hvo.o;rw[tB5 (by rw[AC.o];exact tA4 _),B3.o]at hvi';rw[tB5 (by rw[AC.o];exact tA4 _),B4.o]at hvo';obtain⟨P1,hP1⟩:=xeq (qjj key 54);obtain⟨P2,hP2⟩:=xeq (qjj key 92);have lP1:P1.length=64:=by rw[←hP1];exact qjs key (by have:=A0.o;omega) 54
   have lP2:P2.length=64:=by rw[←hP2];exact qjs key (by have:=A0.o;omega) 92
   have bP1:∀x∈P1,x<256:=by rw[←hP1];exact qjr key AB.o 54 zdc
   have bP2:∀x∈P2,x<256:=by rw[←hP2];exact qjr key AB.o 92 zdc
   rw[hP1]at hvi';rw[hP2]at hvo';obtain⟨W2,rfl⟩:=eqx wr;have b02:Below W0.heap.size W0 W2:=hbe.trans (hbw.mono hw01);have rb2:=AX.call b02;have hw12:=hbw.size;obtain⟨BD,BE,AH,AI,AJ,A9,AK,AL⟩:=zh8 hvi' hvo' hP1 hP2 lP1 lP2 bP1 bP2;have AM:=zh1 b02;have l5:P1.length+n≤8589934592:=by rw[lP1];omega
   clear hvi' hvo' hP1 hP2 lP1 lP2 bP1 bP2 b02 hvi hvo hbw hbe;go_wp2_with (at_builtin;refine xaa rfl (.tmp 52) (.tmp 53) rfl W1.heap.size _ _ rfl BD.o A n cc b rfl rb2 l5 hw12 ?_)
   intro v5 w5 hown5 hb5 hg5 he5;have B5:=AM.trans (hb5.mono hw01);have vo5:=BE.grownNe hg5 (fun b h e=>hne.o b e h);obtain⟨A5,n5,c5,rfl,hnc5,hcm5,hrd5⟩:=hown5.sl;have hn5:n5=64+n:=by have:=qb5 hrd5;rw[tA6,AJ.o]at this;have:=AY.o;omega
   have T5:RTab w5 g:=(show RTab W0 g from AP.o).below B5 glt;have K5:=xa7 g n5 c5 A5 (P1++b) w5 (by intro x hx;rcases List.mem_append.1 hx with h|h;exact AK.o x h;exact AZ.o x h) T5 hrd5 zo;obtain⟨D,hD⟩:=xeq (sha (P1++b));rw[hD]at K5;have lD:D.length=32:=by rw[←hD];exact qjp _
   have bD:∀x∈D,x<256:=by rw[←hD];exact qjq _
   obtain⟨V,hV⟩:=xeq (byv D);rw[hV]at K5;have lV:V.length=32:=by rw[←hV,qat];exact lD
   have oV:∀u∈V,u.oneCell'=true:=by rw[←hV];exact qau D
   obtain⟨BF,AN,BG,HD,HlD,HbD,HV,HlV⟩:=zh8 K5 vo5 B5 hD lD bD hV lV;obtain⟨HoV,HI⟩:=zh2 oV (zI 29 lV);have hw15:W1.heap.size≤w5.heap.size:=tB1 hw12 hb5.size;clear K5 vo5 B5 hown5 hb5 hg5 he5 hrd5 T5 hD lD bD hV lV oV hne rb2 hn5;go_wp2_with fail
   refine zcb BF.o fun w6 b6=>?_
   have hb56:=b6.size;obtain⟨AO,BH,Hz6⟩:=zh3 (AN.kept b6) (BG.trans (b6.mono (tB1 hw01 hw15))) (Blk.new w6 29 zLD);clear b6;go_upto_region 14 with(refine zst Hz6.o HI.o (by simp[HlV.o]) HoV.o ?_)
   obtain⟨w7,hw7⟩:=eqx ((w6.alloc (.cells zLD 29)).setRow w6.heap.size V.toArray);rw[←hw7];have d7:Blk w7 w6.heap.size 29 V.toArray:=by rw[hw7];exact Hz6.setRow _
   have b67:Below w6.heap.size w6 w7:=by rw[hw7];exact below_setRow ((tA5 _ _).alloc (tA4 _) _) (tA4 _) _
   have hb67:=b67.size;have vo7:=AO.kept b67;have B7:=BH.trans (b67.mono (tB1 (tB1 hw01 hw15) hb56));rw[←HV.o]at d7;have rd:=qfc d7 (p:=0) zo;rw[HlD.o,List.drop_zero]at rd;have l8:P2.length+32≤8589934592:=by rw[A9.o];omega
   have hw17:W1.heap.size≤w7.heap.size:=tB1 (tB1 hw15 hb56) hb67;have BI:=zh1 B7;clear d7 b67 B7 hw7;go_wp2_with (at_builtin;refine xaa rfl (.tmp 57) (.tmp 58) rfl W1.heap.size _ _ rfl vo7 _ 32 32 D rfl rd l8 hw17 ?_)
   intro v8 w8 hown8 hb8 hg8 he8;have B8:=BI.trans (hb8.mono hw01);obtain⟨A8,n8,c8,rfl,hnc8,hcm8,hrd8⟩:=hown8.sl;have hn8:n8=96:=by have:=qb5 hrd8;rw[tA6,A9.o,HlD.o]at this;omega
   have T8:RTab w8 g:=(show RTab W0 g from AP.o).below B8 glt;have K8:=xa7 g n8 c8 A8 (P2++D) w8 (by intro x hx;rcases List.mem_append.1 hx with h|h;exact AL.o x h;exact HbD.o x h) T8 hrd8 zo;have hm:sha (P2++D)=mac key b:=by unfold mac;rw[←HD.o,←AH.o,←AI.o]
   rw[hm]at K8;have lM:(byv (mac key b)).length=32:=by rw[qat];exact qjp _
   have oM:=qau (mac key b);obtain⟨M,hM⟩:=xeq (byv (mac key b));rw[hM]at K8 lM oM;have HM:=zh1 hM;have z8:=AV.below B8 gsz;obtain⟨BJ,BK,BL,HlM,HoM,AU⟩:=zh6 K8 B8 z8 lM oM (zI 29 lM);have gw8:G<w8.heap.size:=z8.lt;clear K8 B8 z8 lM oM hM hm T8 hrd8 hown8 hb8 hg8 he8 vo7 rd hn8;go_wp2_with fail
   refine zcb BJ.o fun w9 b9=>?_
   have z9:=BL.below b9 gw8;have B9:Below w.heap.size w w9:=(AW.trans (BK.mono (by have:=HG.o;omega))).trans (b9.mono (by have:=HG.o;omega));go_wp2_with (refine zst z9 AU.o (by simp[HlM.o]) HoM.o ?_)
   have z10:=z9.setRow M.toArray;have BM:=qap z10 0 M zjq;exact zrt BM zu29 AU.o ⟨by rw[HM.o],below_setRow B9 (by rw[HG.o];exact tA4 _) _⟩
theorem xad(g:Nat)(root:List Nat)(id:Nat)(w:World)(hl:root.length=32)(hr:∀x∈root,x<256)(hid:id<4294967296)(hT:RTab w g):
 Zc 58 #[.pointer (some ⟨g,0,none⟩),.agg (byv root).toArray,.int .u32 id] w fun e w'=>e=.returned (.agg (tokv id (.slice none 0 0) (qke root id)).toArray)∧Zb w w':=by
 have lR:(byv root).length=32:=by rw[qat];exact hl
 obtain⟨V,hV⟩:=xeq (byv root);rw[hV]at lR ⊢;obtain⟨W0,hW0⟩:=eqx ((w.alloc (.cells V.toArray 29)).alloc (.cells zLT 31));have k0:=zNb hW0;have z0:=zNc hW0;have b0:=zMb hW0;have u0:IntKind.u64.wrap (id:Int)=id:=by rw[IntKind.wrap_u64];omega
 have lW:w.heap.size+1<W0.heap.size:=z0.lt;have glt:g<w.heap.size:=Blk.lt hT;obtain⟨AC,HV,A2,Ht,Hr,Hl,A4,A5⟩:=zh8 lR hV hW0 hT hr hl k0 z0;have A6:=zh1 b0;clear lR hV hW0 hT hr hl k0 z0 b0;go_enter Tryz.func58,Tryz.ntmps58
 go_upto_region 1 with(fail)
 rw[←A2.o];obtain⟨S,HS⟩:∃S:World→Prop,Hid (∀w',S w'):=⟨fun _=>True,fun _=>trivial⟩;refine zrs S 10 (zq 0 3 [(5,false),(6,false),(3,true),(4,true),(7,true),(8,true),(9,false),(10,true)]) (HS.o _) ?_;iterate 5 (refine zrb ?_)
 obtain⟨Wd,hWd⟩:=eqx W0.drew;rw[←hWd];have kd:Blk Wd w.heap.size 29 V.toArray:=by rw[hWd];exact A4.o
 have zd:Blk Wd (w.heap.size+1) 31 zLT:=by rw[hWd];exact A5.o
 have bd:Zb w Wd:=by rw[hWd];exact A6.drew
 have ld:w.heap.size+1<Wd.heap.size:=zd.lt;clear hWd A4 A5 A6 A2;obtain⟨w1,hw1⟩:=eqx (Wd.alloc (.cells (byv qkc).toArray 5));have e1:w1.heap[Wd.heap.size]? =some (.cells (byv qkc).toArray 5 (0,0)):=by rw[hw1];exact heap_alloc_new Wd _
 have b1:=zMa hw1;have s1:w1.heap.size=Wd.heap.size+1:=by rw[hw1,qar]
 obtain⟨E1,S1⟩:=zh2 hw1 s1;clear hw1 s1;refine zw ?_;go_simp;refine⟨by first|exact HS.o _|exact fun _=>HS.o _,?_⟩;change qba _ _ _ _ _ _ _ (Wd.alloc (.cells (byv qkc).toArray 5));rw[←E1.o];refine zP ?_;refine zw ?_;refine qki (.tmp 10) rfl Wd.heap.size 5 5 rfl _ e1 ?_;intro w2 g2 l2;refine⟨by first|exact HS.o _|exact fun _=>HS.o _,?_⟩;have b2:Zb Wd w2:=b1.grown g2 (by have:=S1.o;omega) (by intro g hg;injection hg with hg;omega);have r2:=l2.reads;rw[show qkc.length=5 from rfl]at r2;have N2:=qhc (some ⟨Wd.heap.size,0,none⟩) 5 5 id 4 qkc w2 r2 zdc zo;rw[show qb0 4=4 from rfl]at N2;obtain⟨A8,A7⟩:=zh2 N2 b2;clear N2 r2 b2 b1 e1 g2 l2;refine zP ?_;refine zw ?_;go_simp;refine A8.o.mono ?_;rintro e w3 ⟨v3,rfl,own3,b3⟩;obtain⟨A3,n3,c3,rfl,nc3,-,r3⟩:=own3.sl;have ln3:=qb5 r3;rw[tA6,qaw,show qkc.length=5 from rfl]at ln3;have B3:=A7.trans (b3.mono A7.size);have k3:=kd.below B3 kd.lt;rw[←HV.o]at k3;have rk:=qfc k3 (p:=0) zo;rw[Hl.o,List.drop_zero]at rk;have A1:=bd.trans (B3.mono bd.size);have T3:RTab w3 g:=(show RTab w g from Ht.o).below A1 glt;have M3:=xac g 32 32 n3 c3 _ A3 root (qkc++be id 4) w3 T3 rk r3 Hr.o (by intro x hx;rcases List.mem_append.1 hx with h|h;exact qkd x h;exact qaz _ _ x h) zo zo;obtain⟨A9,Z3,A0⟩:=zh3 M3 (zd.below B3 ld) A1;clear M3 ln3 own3 r3 rk k3 b3 B3 A1 T3 kd zd bd;refine⟨by first|exact HS.o _|exact fun _=>HS.o _,zput ?_⟩;refine zw ?_;go_simp;refine zcb A9.o fun w7 b7=>?_
 rw[show mac root (qkc++be id 4)=qke root id from rfl];have lM:(byv (qke root id)).length=32:=by rw[qat];exact qkf _ _
 have oT:=qeh id (.slice none 0 0) rfl (qke root id);have bT:=qgs id (byv (qke root id)) lM (qau _);have hT:(Value.int .u32 (id:Int)::Value.slice none 0 0::byv (qke root id))=tokv id (.slice none 0 0) (qke root id):=rfl;have lT:=qdg id (.slice none 0 0) (qke root id) (qkf _ _);rw[hT]at bT;obtain⟨T,hTT⟩:=xeq (tokv id (.slice none 0 0) (qke root id));rw[hTT]at bT oT lT;obtain⟨D,hD⟩:=xeq (byv (qke root id));rw[hD]at bT ⊢;obtain⟨BT,AA,HI⟩:=zh3 bT hTT (zI 31 lT);have z7:=Z3.below b7 Z3.lt;have b77:=A0.trans (b7.mono A0.size);clear bT hTT hD hT lM;refine⟨by first|exact HS.o _|exact fun _=>HS.o _,zput ?_⟩;refine qbh rfl rfl ⟨.agg T.toArray,fun w1 hS=>?_,?_⟩
 · exact qgr 31 _ rfl _ _ BT.o (by simp[Act.eval])
 refine zP ?_;refine zw ?_;refine wp_store_row 31 (.tmp 6) (.tmp 16) rfl (w.heap.size+1) T.toArray rfl rfl 31 _ z7 (by simpa using HI.o) (by simp[lT]) (by simpa using oT) ?_;refine⟨fun h=>absurd h zo,?_⟩;refine qbg ?_;go_wp2_with fail
 have z8:=z7.setRow T.toArray;have AB:=qap z8 0 T zjq;exact zrt AB zu31 HI.o ⟨by rw[AA.o],below_setRow b77 zo _⟩
section
open Go.Extern.Stop (cell)
theorem xae(R:Req)(cav cav' leafv:Value)(ht:R.tag.length=32):(reqv R cav leafv).take 1++(tokv R.tid cav' R.tag++(reqv R cav leafv).drop (1+(tokv R.tid cav' R.tag).length))=reqv R cav' leafv:=by
 have h:(Value.int .i64 R.op::tokv R.tid cav R.tag).length=35:=by rw[tBi,qdg _ _ _ ht]
 rw[qdg _ _ _ ht];have hd:(reqv R cav leafv).drop (1+34)=R.rest leafv:=by
  unfold reqv;rw[List.drop_left' h]
 rw[hd];rfl
theorem xaf(R:Req)(cav leafv leafv':Value)(ht:R.tag.length=32):(reqv R cav leafv).set 47 leafv'=reqv R cav leafv':=by
 have h:(Value.int .i64 R.op::tokv R.tid cav R.tag).length=35:=by rw[tBi,qdg _ _ _ ht]
 unfold reqv;rw[List.set_append_right _ _ (by rw[h];omega),h];rfl
theorem xag(R:Req)(cav leafv:Value)(hc:cav.oneCell'=true)(hl:leafv.oneCell'=true):∀u∈reqv R cav leafv,u.oneCell'=true:=by
 intro u hu;unfold reqv at hu;rcases List.mem_append.1 hu with hu|hu
 · rcases List.mem_cons.1 hu with rfl|hu
   · rfl
   exact qeh _ _ hc _ u hu
 simp[Req.rest]at hu;rcases hu with rfl|rfl|rfl|rfl|rfl|rfl|rfl|rfl|rfl|rfl|rfl|rfl|rfl<;>first|rfl|exact hl
theorem xah(R:Req)(Ac:Option Addr)(n cc:Nat)(Al:Option Addr)(m cl:Nat)(w:World)(ht:R.tag.length=32)(hc:Reads w w.heap.size 2 Ac n (cavv R.cavs))(hn:n≤8796093022208)(hl:Reads w w.heap.size 1 Al m (byv R.leaf))(hm:m≤140737488355328):
 Zc 91 #[.agg (reqv R (.slice Ac n cc) (.slice Al m cl)).toArray] w fun e w'=>∃v u,e=.returned (.agg (reqv R v u).toArray)∧OwnC w' w.heap.size v R.cavs∧OwnB w' w.heap.size u R.leaf∧Zb w w':=by
 have hlen:=qjd R (.slice Ac n cc) (.slice Al m cl) ht;have hrt:=qje R (.slice Ac n cc) (.slice Al m cl);have h47:=(qdl R (.slice Ac n cc) (.slice Al m cl) ht 12).trans (show _=some (.slice Al m cl) from rfl);have hcopy:=fun w' h=>qei R.tid R.cavs Ac n cc R.tag w' h hn ht
 have hspl:=fun v=>xae R (.slice Ac n cc) v (.slice Al m cl) ht
 obtain⟨L,hL⟩:=xeq (reqv R (.slice Ac n cc) (.slice Al m cl));have hlenT:=qdg R.tid (.slice Ac n cc) R.tag ht;obtain⟨T,hT⟩:=xeq (tokv R.tid (.slice Ac n cc) R.tag);rw[hL]at hlen hrt h47 ⊢;rw[hT]at hrt hlenT;simp only[hT]at hcopy;simp only[hL]at hspl;obtain⟨A6,A7,AC,A0,AD⟩:=zh5 hcopy hspl h47 hlen (zI 31 hlenT);have t0:Blk ((w.alloc (.cells L.toArray 34)).alloc (.cells zLQ 34)) w.heap.size 34 L.toArray:=(Blk.new w _ _).alloc _;have z0:Blk ((w.alloc (.cells L.toArray 34)).alloc (.cells zLQ 34)) (w.heap.size+1) 34 zLQ:=by
  have:=Blk.new (w.alloc (.cells L.toArray 34)) 34 zLQ;rwa[qar]at this
 have A5:=zh1 (qap t0 1 T hrt);have hc0:=(hc.laid (.cells L.toArray 34)).laid (.cells zLQ 34);clear hcopy hspl h47 hlen hlenT hrt hL hT;go_enter Tryz.func91,Tryz.ntmps91
 go_wp2_with (refine zld A5.o zu31 AD.o ?_)
 refine(A6.o _ hc0).mono ?_;rintro e w1 ⟨v1,rfl,hown1,hb1⟩;simp only[qar,Zb]at hown1 hb1;have B1:Zb w w1:=(qah (qah (tA5 _ _) _) _).trans (hb1.mono zo);have t1:=t0.below hb1 zo;have z1:=z0.below hb1 zo;have hsz1:=hb1.size;simp only[qar]at hsz1;clear hb1 t0 z0 hc0 A5 hc;obtain⟨A1,n1,c1,rfl,-,-,-,-⟩:=hown1.sl;have hlenT2:=qdg R.tid (.slice A1 n1 c1) R.tag ht;have honeT2:=qeh R.tid (.slice A1 n1 c1) rfl R.tag;have hsp2:=A7.o (.slice A1 n1 c1);obtain⟨T2,hT2⟩:=xeq (tokv R.tid (.slice A1 n1 c1) R.tag);rw[hT2]at hlenT2 honeT2 hsp2 ⊢;clear hT2;have t2:=Blk.setCells T2 1 w1 L t1 (by rw[hlenT2,A0.o];decide);rw[hsp2]at t2;have hth:=qel t1 1 T2.toArray.size (by rw[tB6,hlenT2,A0.o];decide);have z2:=z1.grown (qej w.heap.size T2 1 w1) zm;have B2:=qek B1 (tA4 _) B1.size 1 T2;have hown2:OwnC (w1.setCells w.heap.size 1 T2) (w.heap.size+2) (.slice A1 n1 c1) R.cavs:=tB3 hown1 (qej w.heap.size T2 1 w1) (.inr (qa3 hown1 t1 zdc));have h47':=(qdl R (.slice A1 n1 c1) (.slice Al m cl) ht 12).trans (show _=some (.slice Al m cl) from rfl);have hsz2:w.heap.size+2≤(w1.setCells w.heap.size 1 T2).heap.size:=tB1 hsz1 (qej w.heap.size T2 1 w1).size;have hset:=fun u=>xaf R (.slice A1 n1 c1) (.slice Al m cl) u ht
 obtain⟨w2,hw2⟩:=xeq (w1.setCells w.heap.size 1 T2);obtain⟨M,hM⟩:=xeq (reqv R (.slice A1 n1 c1) (.slice Al m cl));rw[hw2]at z2 B2 hown2 hsz2;rw[hM]at h47';simp only[hM]at hset;rw[hw2,hM]at t2;obtain⟨A4,A8,A9,AA,AB,A2⟩:=zh6 hset hw2 hth (show (Tryz.prog.info? 31).map (·.size)=some T2.toArray.size by rw[tB6,hlenT2];exact Tryz.tok_info) (all_oneCell_toArray honeT2) h47';clear hM hset hw2 hth hlenT2 honeT2 hsp2 h47' A7 AC A0 t1 z1 hown1 hsz1 A6 B1;have hl2:=(hl.call B2).laid (.cells #[] 5);have t2l:=t2.lt;have c47:=(t2.cell 47).trans (show M.toArray[47]? =some (.slice Al m cl) by simpa using A2.o);clear hl;go_wp2_with (first
  |(refine wpList_store_mid rfl 31 (.tmp 6) (.tmp 5) rfl w.heap.size 1 T2.toArray rfl rfl A9.o AA.o AB.o ?_;rw[show T2.toArray.toList=T2 from rfl,A8.o])
  |(at_builtin;refine qe3 rfl _ _ rfl w2.heap.size _ [] rfl (OwnB.made w2 [] (by simp[maxLen])) Al m cl R.leaf rfl hl2 (by simp;omega) zm ?_))
 intro v3 w3 hown3 hb3 hg3;have B3:Zb w w3:=(B2.alloc B2.size _).trans (hb3.mono B2.size);have hb3':Zb w2 w3:=((tA5 _ _).alloc (tA4 _) _).trans hb3;have t3:=t2.below hb3' t2l;have z3:=z2.below hb3' zo;have hownc3:=hown2.kept hb3';clear hb3 hg3 hl2 c47 t2 z2 hown2 B2 A9 AA AB A8;obtain⟨A3,n3,c3,rfl,-,-,-⟩:=hown3.sl;have cc:=(t3.cell 47).trans (show M.toArray[47]? =some (.slice Al m cl) by simpa using A2.o);have ff:=t3.frozen 47;have hlt:=t3.lt;have t4:=t3.set_ 47 (.slice A3 n3 c3);rw[List.setIfInBounds_toArray,A4.o]at t4;have z4:=z3.far (p:=⟨w.heap.size,47,none⟩) zm (.slice A3 n3 c3);have B4:=B3.setCell (p:=⟨w.heap.size,47,none⟩) (tA4 _) (.slice A3 n3 c3);have hownc4:OwnC _ (w.heap.size+2) _ R.cavs:=qal hownc3 (p:=⟨w.heap.size,47,none⟩) (qa3 hownc3 t3 zdc) (.slice A3 n3 c3);have hownb4:OwnB _ w2.heap.size _ R.leaf:=qal hown3 (p:=⟨w.heap.size,47,none⟩) (qa3 hown3 t3 zdc) (.slice A3 n3 c3);have hlen4:=qjd R (.slice A1 n1 c1) (.slice A3 n3 c3) ht;have hone4:=xag R (.slice A1 n1 c1) (.slice A3 n3 c3) rfl rfl;obtain⟨N,hN⟩:=xeq (reqv R (.slice A1 n1 c1) (.slice A3 n3 c3));rw[hN]at t4 hlen4 hone4;obtain⟨HN,A5,HI,AE,HO⟩:=zh5 hN (qap t4 0 N zjq) (zI 34 hlen4) hlen4 (all_oneCell_toArray hone4);clear hN hlen4 hone4 A4 A2 t3 z3 hownc3 hown3 B3;go_wp2_with (first
  |(refine zld A5.o zu34 HI.o ?_)
  |(refine wpList_store_row rfl 34 (.tmp 2) (.tmp 12) rfl (w.heap.size+1) N.toArray rfl rfl 34 _ z4 (by simpa using HI.o) (by simp[AE.o]) HO.o ?_))
 have z5:=z4.setRow N.toArray;have AF:=qap z5 0 N zjq;refine zrt AF zu34 HI.o ⟨_,_,by rw[←HN.o],?_,?_,below_setRow B4 zo _⟩
 · exact qdf (tB3 hownc4 (qam _ (w.heap.size+1) N.toArray) (.inr (qa3 hownc4 z4 zdc))) zo
 exact qdf (tB3 hownb4 (qam _ (w.heap.size+1) N.toArray) (.inr (qa3 hownb4 z4 zdc))) zo
end
section
open Go
section
variable {P : Program} {ops : Array Oper} {Q : Exit → Act → World → Prop} {md : Region.Mode} {S : World → Prop} {p : Nat → Bool}
def xbs (P:Program)(md:Region.Mode)(ops:Array Oper)(Q:Exit→Act→World→Prop)(S:World→Prop)(p:Nat→Bool):Nat→Array Bool→Act→World→Prop
 |0,listed,a,w=>Region.ready md ops listed=[]∧Q .normal a w
 |fuel+1,listed,a,w=>
  (Region.ready md ops listed=[]→Q .normal a w)∧
  ∀i∈Region.ready md ops listed,wpOp P ops Q i (fun a' w'=>(p i=true→S w→S w')∧xbs P md ops Q S p fuel (listed.setIfInBounds i true) a' w') a w
theorem xbt:∀(fuel:Nat) (listed:Array Bool) (a:Act) (w:World),xbs P md ops Q S p fuel listed a w→wpAny P md ops Q fuel listed a w
 |0,_,_,_,h=>h
 |fuel+1,_,_,_,h=>⟨h.1,fun i hi=>wpOp_mono (fun a' w' h'=>xbt fuel _ a' w' h'.2) (h.2 i hi)⟩
theorem xbu(T:World→Prop)(hi:ops[i]? =some oi)(hsel:∀(j:Nat) (o:Oper) cs b,ops[j]? =some o→o.op≠.select cs b)
 (hQ:∀c a w,Q (.panic c) (a.put oi.dst v) w→Q (.panic c) a w)
 (hT:(∀w,T w)∨((∀w,S w→T w)∧∀j oj,ops[j]? =some oj→j≠i→p j=false→∃e∈oj.after,Region.binds md e=true∧e.on=i)):
 ∀(fuel:Nat) (listed:Array Bool) (a:Act) (w:World),
  (∀j oj,ops[j]? =some oj→j≠i→listed.getD j true=false→(∀e∈oj.after,Region.binds md e=true→e.on≠i)→oi.apart ops oj=true)→
  i∈Region.ready md ops listed→YieldsIf P ops T oi v a→((∀w,T w)∨S w)→
  xbs P md ops Q S p fuel (listed.setIfInBounds i true) (a.put oi.dst v) w→xbs P md ops Q S p (fuel+1) listed a w:=by
 intro fuel;induction fuel with
 |zero=>
  intro listed a w _ hr hy hS H;have hTw:T w:=by
   rcases hS with h|h
   · exact h w
   rcases hT with h'|h'
   · exact h' w
   exact h'.1 w h
  refine⟨fun h=>(by rw[h]at hr;cases hr),fun j hj=>?_⟩;by_cases hji:j=i
  · subst hji;exact hy.wpOp hi hTw ⟨fun _ h=>h,H⟩
  have:=ready_mono hj hji;rw[H.1]at this;cases this
 |succ fuel ih=>
  intro listed a w hfree hr hy hS H;have hTw:T w:=by
   rcases hS with h|h
   · exact h w
   rcases hT with h'|h'
   · exact h' w
   exact h'.1 w h
  refine⟨fun h=>(by rw[h]at hr;cases hr),fun j hj=>?_⟩;by_cases hji:j=i
  · subst hji;exact hy.wpOp hi hTw ⟨fun _ h=>h,H⟩
  have h1:=H.2 j (ready_mono hj hji);obtain⟨hjun,oj,hoj,hall⟩:=mem_ready.1 hj;have hnot:∀e∈oj.after,Region.binds md e=true→e.on≠i:=fun e he hb heq=>by
   have h1:=hall e he hb;have h0:=(mem_ready.1 hr).1;rw[heq]at h1;rcases Nat.lt_or_ge i listed.size with h'|h'
   · simp[h']at h0 h1;rw[h0]at h1;cases h1
   simp[Array.getElem?_eq_none h']at h1
  have h2:=wpOp_putIf hoj (hfree j oj hoj hji hjun hnot) (fun cs b=>hsel i oi cs b hi) (fun cs b=>hsel j oj cs b hoj) hQ hy h1;have hfree':∀k ok,ops[k]? =some ok→k≠i→(listed.setIfInBounds j true).getD k true=false→
   (∀e∈ok.after,Region.binds md e=true→e.on≠i)→oi.apart ops ok=true:=fun k ok hk hki hun hno=>by
   refine hfree k ok hk hki ?_ hno;by_cases hjk:j=k
   · subst hjk;exact hjun
   rw[getD_set_ne true hjk]at hun;exact hun
  refine wpOp_mono (fun a' w' h3=>⟨h3.2.1,ih (listed.setIfInBounds j true) a' w' hfree' (ready_mono hr (Ne.symm hji)) h3.1 ?_ ?_⟩) h2
  ·
   rcases hS with h|h
   · exact .inl h
   rcases hT with h'|h'
   · exact .inl h'
   right;refine h3.2.1 ?_ h;cases hp:p j with
   |true=>rfl
   |false=>
    obtain⟨e,he,hb,heq⟩:=h'.2 j oj hoj hji hp;exact absurd heq (hnot e he hb)
  rw[Array.setIfInBounds_comm _ _ hji];exact h3.2.2
def xbv (md:Region.Mode)(ops:Array Oper)(p:Nat→Bool)(i:Nat):Bool:=
 (List.range ops.size).all fun j=>p j||j==i||(match ops[j]? with|none=>true|some o=>o.after.any fun e=>Region.binds md e&&e.on==i)
def xbw (md:Region.Mode)(ops:Array Oper)(p:Nat→Bool):Bool→List (Nat × Option Bool)→Array Bool→Bool
 |_,[],listed=>(Region.ready md ops listed).isEmpty
 |b,(i,none)::r,listed=>(Region.ready md ops listed).contains i&&Region.free md ops listed i&&xbw md ops p b r (listed.setIfInBounds i true)
 |b,(i,some false)::r,listed=>b&&xbv md ops p i&&(Region.ready md ops listed).contains i&&Region.free md ops listed i&&xbw md ops p b r (listed.setIfInBounds i true)
 |b,(i,some true)::r,listed=>(Region.ready md ops listed==[i])&&xbw md ops p (b&&p i) r (listed.setIfInBounds i true)
def xbx (P:Program)(ops:Array Oper)(Q:Exit→Act→World→Prop)(S:World→Prop)(p:Nat→Bool):List (Nat × Option Bool)→Act→World→Prop
 |[],a,w=>Q .normal a w
 |(i,none)::r,a,w=>∃o v,ops[i]? =some o∧YieldsIf P ops (fun _=>True) o v a∧xbx P ops Q S p r (a.put o.dst v) w
 |(i,some false)::r,a,w=>∃o v,ops[i]? =some o∧YieldsIf P ops S o v a∧xbx P ops Q S p r (a.put o.dst v) w
 |(i,some true)::r,a,w=>wpOp P ops Q i (fun a' w'=>(p i=true→S w')∧xbx P ops Q S p r a' w') a w
theorem xby(hsel:Region.noSelect ops=true)(hQ:∀c a d v w,Q (.panic c) (a.put d v) w→Q (.panic c) a w):
 ∀(r:List (Nat × Option Bool)) (b:Bool) (listed:Array Bool) (a:Act) (w:World),(b=true→S w)→xbw md ops p b r listed=true→xbx P ops Q S p r a w→xbs P md ops Q S p r.length listed a w:=by
 intro r;induction r with
 |nil=>
  intro b listed a w _ ho h;simp only[xbw,List.isEmpty_iff]at ho;exact⟨ho,h⟩
 |cons x r ih=>
  obtain⟨i,k⟩:=x;intro b listed a w hS ho h;rcases k with _|_|_
  · simp only[xbw,Bool.and_eq_true]at ho
    obtain⟨⟨hr,hf⟩,ho⟩:=ho;obtain⟨o,v,hi,hy,h⟩:=h;have hr':i∈Region.ready md ops listed:=by simpa using hr
    exact xbu (fun _=>True) hi (Region.noSelect_spec hsel) (fun c a w=>hQ c a o.dst v w) (.inl fun _=>trivial) r.length listed a w (Region.free_spec hi hf) hr' hy (.inl fun _=>trivial) (ih b _ _ _ hS ho h)
  ·
   simp only[xbw,Bool.and_eq_true]at ho;obtain⟨⟨⟨⟨hb,hw⟩,hr⟩,hf⟩,ho⟩:=ho;obtain⟨o,v,hi,hy,h⟩:=h;have hr':i∈Region.ready md ops listed:=by simpa using hr
   refine xbu S hi (Region.noSelect_spec hsel) (fun c a w=>hQ c a o.dst v w) (.inr ⟨fun _ h=>h,fun j oj hj hji hp=>?_⟩) r.length listed a w (Region.free_spec hi hf) hr' hy (.inr (hS hb)) (ih b _ _ _ hS ho h);unfold xbv at hw;obtain⟨hjs,_⟩:=Array.getElem?_eq_some_iff.1 hj;have:=List.all_eq_true.1 hw j (List.mem_range.2 hjs);rw[hj]at this;simp only[Bool.or_eq_true,beq_iff_eq,hp,Array.any_eq_true',Bool.and_eq_true]at this;rcases this with(h0|h0)|⟨e,he,h1,h2⟩
   · cases h0
   · exact absurd h0 hji
   exact⟨e,he,h1,h2⟩
  simp only[xbw,Bool.and_eq_true,beq_iff_eq]at ho;obtain⟨hr,ho⟩:=ho;have hr':i∈Region.ready md ops listed:=by rw[hr];simp
  refine⟨fun h0=>(by rw[hr]at h0;cases h0),fun j hj=>?_⟩;obtain rfl:j=i:=by rw[hr]at hj;simpa using hj
  refine wpOp_mono (fun a' w' h'=>⟨fun hp _=>h'.1 hp,ih (b&&p j) _ _ _ (fun hbp=>h'.1 (by simp only[Bool.and_eq_true]at hbp;exact hbp.2)) ho h'.2⟩) h
theorem xbz(S:World→Prop)(pl:List Nat)(r:List (Nat × Option Bool))(hm:P.follows .mixedOrders=true)(hlen:(r.length==ops.size)=true)(hsel:Region.noSelect ops=true)
 (ho:xbw .any ops (fun i=>pl.contains i) true r (Array.replicate ops.size false)=true)(hQ:∀c a d v w,Q (.panic c) (a.put d v) w→Q (.panic c) a w)(hS:S w.drew)
 (h:xbx P ops Q S (fun i=>pl.contains i) r a w.drew):(Code.region id ops true).wp P Q a w:=by
 have hl:r.length=ops.size:=by simpa using hlen
 refine wp_region_any hm (xbt (S:=S) (p:=fun i=>pl.contains i) _ _ _ _ ?_);have:=xby (P:=P) (Q:=Q) (S:=S) (md:=.any) hsel hQ r true (Array.replicate ops.size false) a w.drew (fun _=>hS) ho h;rw[hl]at this;exact this
theorem xc0(h:Q .normal a w):xbx P ops Q S p [] a w:=h
theorem xc1{r:List (Nat × Option Bool)}(hi:nth l i=some o)(hw:Region.wanted o (yielded l.toArray a.tmps)=true)
 (h:∃v,(∀w1:World,(execOp a.eval o).run P w1=.ok (.value v) w1)∧xbx P l.toArray Q S p r (a.put o.dst v) w):xbx P l.toArray Q S p ((i,none)::r) a w:=
 h.elim fun v hv=>⟨o,v,(qb9 l i).symm.trans hi,.inl ⟨hw,fun w _=>hv.1 w⟩,hv.2⟩
theorem xc2{r:List (Nat × Option Bool)}(hi:nth l i=some o)(hw:Region.wanted o (yielded l.toArray a.tmps)=true)
 (h:∃v,(∀w,S w→(execOp a.eval o).run P w=.ok (.value v) w)∧xbx P l.toArray Q S p r (a.put o.dst v) w):xbx P l.toArray Q S p ((i,some false)::r) a w:=
 h.elim fun v hv=>⟨o,v,(qb9 l i).symm.trans hi,.inl ⟨hw,hv.1⟩,hv.2⟩
theorem xc3{r:List (Nat × Option Bool)}(hi:nth l i=some o)(hw:Region.wanted o (yielded l.toArray a.tmps)=true)
 (h:o.wp P a w (fun a' w'=>(p i=true→S w')∧xbx P l.toArray Q S p r a' w') Q):xbx P l.toArray Q S p ((i,some true)::r) a w:=by
 show wpOp P l.toArray Q i _ a w;unfold wpOp;simp only[(qb9 l i).symm.trans hi,hw,if_true];exact .inl h
end
end
structure Enc (w0:World)(g:Nat)(bx:List (Nat × TypeId × Array Value))(m:Nat)(w:World)(bs:List Nat):Prop where
 wri:Wri w w0.heap.size g bs
 len:bs.length≤m
 box:∀p∈bx,Blk w p.1 p.2.1 p.2.2∧p.1≠g∧p.2.1≠5
 below:Zb w0 w
section
variable {w0 w w' : World} {g m k q : Nat} {t : TypeId} {X : Array Value} {bx : List (Nat × TypeId × Array Value)} {bs : List Nat}
theorem Enc.mono(h:Enc w0 g bx m w bs)(hk:m≤k):Enc w0 g bx k w bs:=⟨h.wri,tB1 h.len hk,h.box,h.below⟩
theorem Enc.call(h:Enc w0 g bx m w bs)(hb:Zb w w'):Enc w0 g bx m w' bs:=⟨h.wri.kept_call hb,h.len,fun p hp=>⟨(h.box p hp).1.below hb (h.box p hp).1.lt,(h.box p hp).2⟩,h.below.trans (hb.mono h.below.size)⟩
theorem Enc.cast{cs:List Nat}(h:Enc w0 g bx m w bs)(e:bs=cs):Enc w0 g bx m w cs:=e▸h
theorem Enc.tail{p:Nat × TypeId × Array Value}(h:Enc w0 g (p::bx) m w bs):Enc w0 g bx m w bs:=⟨h.wri,h.len,fun p hp=>h.box p (List.mem_cons_of_mem _ hp),h.below⟩
theorem Enc.cons(h:Enc w0 g bx m w bs)(hq:Blk w q t X)(hg:q≠g)(ht:t≠5):Enc w0 g ((q,t,X)::bx) m w bs:=
 ⟨h.wri,h.len,fun p hp=>by
  rcases List.mem_cons.1 hp with rfl|hp
  · exact⟨hq,hg,ht⟩
  exact h.box p hp,h.below⟩
theorem Enc.boxed{Z:Array Value}(h:Enc w0 g bx m w bs)(t:TypeId)(X:Array Value)(ht:t≠5:=by decide):∃W' q,(w.alloc (.cells Z t)).setRow w.heap.size X=W'∧w.heap.size=q∧Hid (Enc w0 g ((q,t,X)::bx) m W' bs):=
 ⟨_,_,rfl,rfl,zh1 ((h.call (below_setRow ((tA5 _ _).alloc (tA4 _) _) (tA4 _) _)).cons ((Blk.new _ _ _).setRow _) (by obtain⟨v,hv,-,-⟩:=h.wri;have:=hv.lt;omega) ht)⟩
theorem Enc.turn{u:World}{r:List Nat}(h:Enc w0 g bx m w bs)(h1:Wri u w0.heap.size g r)(h2:Below w0.heap.size w u)(h3:NB w u g)(hr:r.length≤k):Enc w0 g bx k u r:=
 ⟨h1,hr,fun p hp=>⟨h3.blk (h.box p hp).1 (h.box p hp).2.2 (h.box p hp).2.1,(h.box p hp).2⟩,h.below.trans h2⟩
theorem Enc.num(h:Enc w0 g bx m w bs)(n:Nat)(v:Int)(hv:v=(n:Int))(k:Int)(K:Nat)(hK:qb0 k=K)(hn:n<18446744073709551616)(hm:m≤4200000000):
 Zc 107 #[.pointer (some ⟨g,0,none⟩),.int .u64 v,.int .i64 k] w fun e w'=>e=.returned (.tuple #[])∧Enc w0 g bx (m+8) w' (bs++be n K):=by
 subst hv hK;refine(qd2 w0.heap.size g n k bs w h.wri hn (by have:=h.len;omega)).mono ?_;rintro e w' ⟨rfl,h1,h2,h3⟩;exact⟨rfl,h.turn h1 h2 h3 (by rw[tA6,qaw];have:=h.len;have:=(qb1 k).2;omega)⟩
theorem Enc.dig(h:Enc w0 g bx m w bs)(d:List Nat)(hd:d.length=32)(hm:m≤4200000000):
 Zc 110 #[.pointer (some ⟨g,0,none⟩),.agg (byv d).toArray] w fun e w'=>e=.returned (.tuple #[])∧Enc w0 g bx (m+32) w' (bs++d):=by
 refine(qd8 w0.heap.size g bs d w h.wri (by have:=h.len;omega) hd).mono ?_;rintro e w' ⟨rfl,h1,h2,h3⟩;exact⟨rfl,h.turn h1 h2 h3 (by rw[tA6,hd];have:=h.len;omega)⟩
theorem Enc.txt{K:Nat}(h:Enc w0 g bx m w bs)(xs:List Nat)(A:Option Addr)(n c:Nat)(hr:Reads w0 w0.heap.size 1 A n (byv xs))(hnc:n≤c)(hc:c≤maxLen)(h4:xs.length≤K)(hm:m≤4200000000):
 Zc 108 #[.pointer (some ⟨g,0,none⟩),.slice A n c] w fun e w'=>e=.returned (.tuple #[])∧Enc w0 g bx (m+(K+10)) w' (bs++Go.Proofs.YthomgopipiomhaaGreatDoor.txt xs):=by
 refine(qd7 w0.heap.size g bs xs A n c w h.wri (by have:=h.len;omega) (hr.below h.below) hnc hc).mono ?_;rintro e w' ⟨rfl,h1,h2,h3⟩;exact⟨rfl,h.turn h1 h2 h3 (by unfold Go.Proofs.YthomgopipiomhaaGreatDoor.txt;rw[tA6,tA6,qaw,tBd];have:=h.len;omega)⟩
theorem Enc.at0(h:Enc w0 g ((q,t,X)::bx) m w bs):Blk w q t X:=(h.box _ (List.mem_cons_self ..)).1
theorem Enc.at1{p:Nat × TypeId × Array Value}(h:Enc w0 g (p::(q,t,X)::bx) m w bs):Blk w q t X:=h.tail.at0
theorem Enc.at2{p r:Nat × TypeId × Array Value}(h:Enc w0 g (p::r::(q,t,X)::bx) m w bs):Blk w q t X:=h.tail.tail.at0
end
end Go.Proofs.YthomgopipiomhaaGreatDoor

/-
  Lemmas for ModelNumbers, shortened by program.
-/
import Derived.Test.YthomgopipiomhaaGreatDoorBMN20
namespace Go.Proofs.YthomgopipiomhaaGreatDoor
set_option linter.unusedVariables false
set_option linter.unusedSimpArgs false
set_option maxRecDepth 100000
set_option maxHeartbeats 32000000
section
open Go.RowKit
def Rsp.Shape (A:Rsp):Prop:=A.hd.Ok∧A.tok.2.2.length=32
theorem qtb (n:Nat):(rWhy n).Shape:=⟨Hd.zero_Ok,by simp[rWhy,qih,qft]⟩
theorem qtc (n:Nat):(qlz n).Shape:=⟨Hd.zero_Ok,by simp[qlz,qih,qft]⟩
theorem qtd (n:Nat)(bs:List Nat)(hs:List (List Nat)):({qih with n:=n,bytes:=bs,hashes:=hs}:Rsp).Shape:=⟨Hd.zero_Ok,by simp[qih,qft]⟩
theorem qte {c:Cfg}{s:Sta}{R:Req}{t:Tre}(ho:t.hd.Ok):(qm5 c s R t).Shape:=by
 unfold qm5;split
 · exact⟨ho,by simp[qih,qft]⟩
 split
 · split
   · exact qtb _
   exact qtd _ _ []
 split
 · split
   · exact qtb _
   exact qtd _ [] _
 split
 · exact qtb _
 exact qtd _ [] _
theorem qtf {c:Cfg}{s:Sta}{R:Req}(hs:s.Ok):(qmd c s R).2.Shape:=by
 unfold qmd;split
 · unfold qm6
   repeat' split
   all_goals first|exact qtb _|exact qtc _
 split
 · unfold qma
   repeat' split
   all_goals first|exact qtb _|exact qtc _|exact⟨Hd.zero_Ok,qjt _ _⟩
 split
 · unfold qmb
   repeat' split
   all_goals first|exact qtb _|exact qtc _
 split
 · unfold qmc
   repeat' split
   all_goals first|exact qtb _|exact qtc _
 split
 · exact qtb _
 rename_i t ht
 split
 · unfold qm4
   repeat' split
   all_goals first|exact qtb _|exact qtc _
 split
 · unfold qm7
   split
   · exact qtb _
   exact qtc _
 split
 · unfold qm8
   repeat' split
   all_goals first|exact qtb _|exact qtc _
 split
 · unfold qm9
   split
   · exact qtb _
   exact qtc _
 exact qte (s:=s) (hs.tre (Sta.tree_some ht).2.1).hd
theorem RspV.row {W:World}{col:Col}{base base' G:Nat}{v:Value}{A:Rsp}{cs X:Array Value}(h:RspV W col base v A)(hz:Blk W G 57 cs)(hb:base'≤base):RspV (W.setRow G X) col base' v A:=by
 obtain⟨bv,hv,cav,e,h1,h2,h3,h4,h5,h6⟩:=h;exact⟨bv,hv,cav,e,qeq (World.ownsRow.kept h1 (qam _ G X) (.inr (qa3 h1 hz (by decide)))) hb,
  ⟨h2.1,qeq (World.ownsRow.kept h2.2 (qam _ G X) (.inr (qa3 h2.2 hz (by decide)))) hb⟩,
  qeq (World.ownsRow.kept h3 (qam _ G X) (.inr (qa3 h3 hz (by decide)))) hb,h4,h5,h6⟩
theorem Did.pre {w W w':World}{col col':Col}{k g:Nat}{c:Cfg}{css:List (List Value)}{s s':Sta}(hb:Below w.heap.size w W)(h:Did W col w' col' k g c css s s'):Did w col w' col' k g c css s s':=
 ⟨h.mdl,h.old,(Turns.of_below _ hb).trans h.turns⟩
theorem RspV.cells {W:World}{col:Col}{base:Nat}{v:Value}{A:Rsp}(h:RspV W col base v A)(hs:A.Shape):∃X:List Value,v=.agg X.toArray∧X.length=106∧∀u∈X,u.oneCell'=true:=by
 obtain⟨bv,hv,cav,e,h1,h2,h3,-⟩:=h;obtain⟨A1,n1,c1,rfl,-⟩:=h1.sl;obtain⟨A2,n2,c2,rfl,-⟩:=h2.sl;obtain⟨A3,n3,c3,rfl,-⟩:=h3.sl;exact⟨_,e,qp0 _ _ _ _ (qmw hs.1) hs.2,qp1 _ _ _ _ rfl rfl rfl⟩
theorem qtg (a b c d:Value)(R M:List Value)(hR:R.length=32)(hM:M.length=32):Tryz.prog.built 57 [(4,.agg (a::b::c::d::(R++M)).toArray)]=some (Value.int .i64 0::.int .u64 0::.slice none 0 0::.slice none 0 0::((a::b::c::d::(R++M))++tokv qft.1 (.slice none 0 0) qft.2.2)).toArray:=by
 obtain⟨a0,a1,a2,a3,a4,a5,a6,a7,a8,a9,a10,a11,a12,a13,a14,a15,a16,a17,a18,a19,a20,a21,a22,a23,a24,a25,a26,a27,a28,a29,a30,a31,rfl⟩:=qfp R hR;obtain⟨b0,b1,b2,b3,b4,b5,b6,b7,b8,b9,b10,b11,b12,b13,b14,b15,b16,b17,b18,b19,b20,b21,b22,b23,b24,b25,b26,b27,b28,b29,b30,b31,rfl⟩:=qfp M hM;kernel_rfl
theorem qth {h:Hd}(ho:h.Ok):Tryz.prog.built 57 [(4,.agg (hdv h).toArray)]=some (qpe {qih with hd:=h}).toArray:=
 qtg _ _ _ _ (byv h.root) (byv h.tag) (by rw[qat,ho.rootl]) (by rw[qat,ho.tagl])
theorem qti (t:Tre)(a b d:Value)(j:Nat):(trev t a b d)[7+j]? =(hdv t.hd)[j]? :=by
 unfold trev;rw[show 7+j=j+1+1+1+1+1+1+1 by omega];simp only[List.getElem?_cons_succ]
theorem qtj {w W0 W5:World}{col col5:Col}{k g:Nat}{c:Cfg}{css:List (List Value)}{s s':Sta}{v5:Value}{a:Rsp}(d5:Did W0 col W5 col5 k g c css s s')(r5:RspV W5 col5 W0.heap.size v5 a)(hs:a.Shape)(z0:Blk W0 (w.heap.size+1) 57 Tryz.zeroCells57)(g0:col (w.heap.size+1)=0)(hk:Kind k)(b0:Below w.heap.size w W0):
 ∃X:List Value,v5=.agg X.toArray∧RspK X∧Hid (Blk W5 (w.heap.size+1) 57 Tryz.zeroCells57)∧Hid (RspV (W5.setRow (w.heap.size+1) X.toArray) col5 w.heap.size v5 a)∧Hid (Did w col (W5.setRow (w.heap.size+1) X.toArray) col5 k g c css s s'):=by
 obtain⟨X,rfl,lX,oX⟩:=r5.cells hs;have z5:Blk W5 (w.heap.size+1) 57 Tryz.zeroCells57:=(d5.turns.block _ z0.lt (by rw[g0];exact qq7 hk)).trans z0;have g5:col5 (w.heap.size+1)=0:=(d5.turns.same _ z0.lt).trans g0;exact⟨X,rfl,⟨lX,oX⟩,z5,r5.row (X:=X.toArray) z5 b0.size,(d5.pre b0).row0 hk X.toArray g5 (by omega)⟩
theorem qtk (c:Cfg)(s:Sta)(L:Loc)(col:Col)(k g:Nat)(css:List (List Value))(R:Req)(Ac:Option Addr)(cc:Nat)(Al:Option Addr)(cl:Nat)(w:World)(hk:Kind k)(hc:c.Ok)(hs:s.Ok)(h:Mdl w col k g c s L css)
 (hr:Asked w col R Ac cc Al cl)(hT:Tabs w)(he:(qir R).1=0):
 Calls Tryz.prog 54 #[.pointer (some ⟨g,0,none⟩),.agg (reqv R (.slice Ac R.cavs.length cc) (.slice Al R.leaf.length cl)).toArray] w fun e w'=>∃v col',e=.returned v∧RspV w' col' w.heap.size v (qmd c s R).2∧Did w col w' col' k g c css s (qmd c s R).1:=by
 have rlen:=qis R (.slice Ac R.cavs.length cc) (.slice Al R.leaf.length cl) hr.good.tag;have rest:=qgu R (.slice Ac R.cavs.length cc) (.slice Al R.leaf.length cl) hr.good.tag;obtain⟨Q,hQ⟩:=xeq (reqv R (.slice Ac R.cavs.length cc) (.slice Al R.leaf.length cl));rw[hQ]at rlen rest ⊢;obtain⟨W0,hW0⟩:=eqx ((w.alloc (.cells Q.toArray 34)).alloc (.cells Tryz.zeroCells57 57));have q0:Blk W0 w.heap.size 34 Q.toArray:=by rw[hW0];exact(Blk.new w _ _).alloc _
 have z0:Blk W0 (w.heap.size+1) 57 Tryz.zeroCells57:=by
  have h:=Blk.new (w.alloc (.cells Q.toArray 34)) 57 Tryz.zeroCells57;rw[qar]at h;rw[hW0];exact h
 have b0:Below w.heap.size w W0:=by rw[hW0];exact qah (qah (tA5 _ _) _) _
 have hG0:col (w.heap.size+1)=0:=by
  by_cases e:col (w.heap.size+1)=0
  · exact e
  have:=h.fin _ e;omega
 have D0:=Did.same (css:=css) h b0;obtain⟨H,A8,Q0,Z0,B0,A1,A9,HK⟩:=zh8 h hW0 q0 z0 b0 hG0 D0 hk;obtain⟨HS,HR,RL,AA,HQ⟩:=zh5 hs hr rlen rest hQ;clear h hW0 q0 z0 b0 hG0 D0 hk hs hr rlen rest hQ;obtain⟨HC,A6,AB,A2⟩:=zh4 hc (hT.below B0.out hT.size) he (qtf (c:=c) (R:=R) HS.out);have hop:=qs4 he;obtain⟨A3,A4⟩:=zh2 (qap Q0.out 0 Q (fun j u h=>by simpa using h)) (zI 34 RL.out);obtain⟨op,hop'⟩:=xeq R.op;rw[hop']at hop;have k0:=(Q0.out.cell 0).trans (show Q.toArray[0]? =some (.int .i64 op) by rw[tA3,←hop',←HQ.out];rfl);have k35:=(Q0.out.cell 35).trans (show Q.toArray[35]? =some (.int .i64 R.tree) by rw[tA3];exact AA.out 0);obtain⟨A7,A0,HW,AW⟩:=zh4 k35 hop' (H.out.call B0.out) (HR.out.call B0.out);clear hc hT he hop' k35;cases htr:s.tree R.tree with
 |none=>
  obtain⟨CT,AC⟩:=zh2 (qpl R.tree c s L col k g css W0 HS.out HW.out htr) htr;clear htr;have k0':=k0;rw[A8.out]at k0';go_enter Tryz.func54,Tryz.ntmps54
  go_upto_region 1 with(fail)
  rw[←A8.out];clear k0';have k35:=A7.out;go_wp2_with fail
  refine CT.out.mono ?_;rintro e w' ⟨rfl,rfl⟩;clear k35;have no:op≠6→op≠10→op≠11→op≠12→qmd c s R=(s,rWhy 23):=by
   intro h6 h10 h11 h12;unfold qmd;rw[A0.out,if_neg h6,if_neg h10,if_neg h11,if_neg h12,AC.out]
  have hcases:op=6∨op=10∨op=11∨op=12∨op=1∨op=2∨op=3∨op=4∨op=5∨op=7∨op=8∨op=9:=by omega
  clear hop;rcases hcases with rfl|rfl|rfl|rfl|hrest
  ·
   clear no;have hd:qmd c s R=qm6 c s R:=by unfold qmd;rw[if_pos A0.out]
   obtain⟨HA,HB⟩:=zh2 (show (qmd c s R).2=(qm6 c s R).2 by rw[hd]) (show (qmd c s R).1=(qm6 c s R).1 by rw[hd]);have C1:=qr6 c s L col k g css R Ac cc Al cl W0 HK.out HC.out HS.out HW.out AW.out A6.out (qs6 (o:=35) (l:=[(1,1,35),(1,1,36),(1,1,39)]) AB.out (by rw[A0.out];rfl) (by simp)).1;rw[HQ.out]at C1;have CL:=zh1 C1;clear hd C1;go_wp2_with (refine qaq rfl 34 (.tmp 3) rfl w.heap.size 0 rfl Q _ A3.out Tryz.underlying34 rfl A4.out ?_)
   refine(CL.out).mono ?_;rintro e W5 ⟨v5,col5,rfl,r5,d5⟩;rw[←HA.out]at r5;have d5':Did W0 col W5 col5 k g c css s (qmd c s R).1:=by rw[HB.out];exact d5
   obtain⟨X,rfl,pk,Z5,R9,D9⟩:=qtj d5' r5 A2.out Z0.out A1.out HK.out B0.out;clear r5 d5 d5';go_wp2_with (refine qpo (.tmp 4) (.tmp 20) (w.heap.size+1) X Z5.out pk ?_)
   exact qpp (Z5.out.setRow X.toArray) pk ⟨_,col5,rfl,R9.out,D9.out⟩
  ·
   clear no;have hd:qmd c s R=qma c s R:=by unfold qmd;rw[if_neg (by rw[A0.out];decide),if_pos A0.out]
   obtain⟨HA,HB⟩:=zh2 (show (qmd c s R).2=(qma c s R).2 by rw[hd]) (show (qmd c s R).1=(qma c s R).1 by rw[hd]);have C1:=qrd c s L col k g css R Ac cc Al cl W0 HK.out HC.out HS.out HW.out AW.out A6.out;rw[HQ.out]at C1;have CL:=zh1 C1;clear hd C1;go_wp2_with fail
   refine(qgx 10 W0).mono ?_;rintro e w' ⟨rfl,rfl⟩;rw[show qgv 10=false from rfl];go_wp2_with (refine qaq rfl 34 (.tmp 3) rfl w.heap.size 0 rfl Q _ A3.out Tryz.underlying34 rfl A4.out ?_)
   refine(CL.out).mono ?_;rintro e W5 ⟨v5,col5,rfl,r5,d5⟩;rw[←HA.out]at r5;have d5':Did W0 col W5 col5 k g c css s (qmd c s R).1:=by rw[HB.out];exact d5
   obtain⟨X,rfl,pk,Z5,R9,D9⟩:=qtj d5' r5 A2.out Z0.out A1.out HK.out B0.out;clear r5 d5 d5';go_wp2_with (refine qpo (.tmp 4) (.tmp 72) (w.heap.size+1) X Z5.out pk ?_)
   exact qpp (Z5.out.setRow X.toArray) pk ⟨_,col5,rfl,R9.out,D9.out⟩
  ·
   clear no;have hd:qmd c s R=qmb s R:=by unfold qmd;rw[if_neg (by rw[A0.out];decide),if_neg (by rw[A0.out];decide),if_pos A0.out]
   obtain⟨HA,HB⟩:=zh2 (show (qmd c s R).2=(qmb s R).2 by rw[hd]) (show (qmd c s R).1=(qmb s R).1 by rw[hd]);have C1:=qqm c s L col k g css R Ac cc Al cl W0 HK.out HS.out HW.out AW.out;rw[HQ.out]at C1;have CL:=zh1 C1;clear hd C1;go_wp2_with fail
   refine(qgx 11 W0).mono ?_;rintro e w' ⟨rfl,rfl⟩;rw[show qgv 11=false from rfl];go_wp2_with (refine qaq rfl 34 (.tmp 3) rfl w.heap.size 0 rfl Q _ A3.out Tryz.underlying34 rfl A4.out ?_)
   refine(CL.out).mono ?_;rintro e W5 ⟨v5,col5,rfl,r5,d5⟩;rw[←HA.out]at r5;have d5':Did W0 col W5 col5 k g c css s (qmd c s R).1:=by rw[HB.out];exact d5
   obtain⟨X,rfl,pk,Z5,R9,D9⟩:=qtj d5' r5 A2.out Z0.out A1.out HK.out B0.out;clear r5 d5 d5';go_wp2_with (refine qpo (.tmp 4) (.tmp 75) (w.heap.size+1) X Z5.out pk ?_)
   exact qpp (Z5.out.setRow X.toArray) pk ⟨_,col5,rfl,R9.out,D9.out⟩
  ·
   clear no;have hd:qmd c s R=qmc s R:=by unfold qmd;rw[if_neg (by rw[A0.out];decide),if_neg (by rw[A0.out];decide),if_neg (by rw[A0.out];decide),if_pos A0.out]
   obtain⟨HA,HB⟩:=zh2 (show (qmd c s R).2=(qmc s R).2 by rw[hd]) (show (qmd c s R).1=(qmc s R).1 by rw[hd]);have C1:=qqo c s L col k g css R Ac cc Al cl W0 HK.out HS.out HW.out AW.out;rw[HQ.out]at C1;have CL:=zh1 C1;clear hd C1;go_wp2_with fail
   refine(qgx 12 W0).mono ?_;rintro e w' ⟨rfl,rfl⟩;rw[show qgv 12=false from rfl];go_wp2_with (refine qaq rfl 34 (.tmp 3) rfl w.heap.size 0 rfl Q _ A3.out Tryz.underlying34 rfl A4.out ?_)
   refine(CL.out).mono ?_;rintro e W5 ⟨v5,col5,rfl,r5,d5⟩;rw[←HA.out]at r5;have d5':Did W0 col W5 col5 k g c css s (qmd c s R).1:=by rw[HB.out];exact d5
   obtain⟨X,rfl,pk,Z5,R9,D9⟩:=qtj d5' r5 A2.out Z0.out A1.out HK.out B0.out;clear r5 d5 d5';go_wp2_with (refine qpo (.tmp 4) (.tmp 78) (w.heap.size+1) X Z5.out pk ?_)
   exact qpp (Z5.out.setRow X.toArray) pk ⟨_,col5,rfl,R9.out,D9.out⟩
  have A5:=zh1 (no (by omega) (by omega) (by omega) (by omega));have e6:(op==6)=false:=by simp;omega
  have ht:qgv op=true:=by unfold qgv;exact decide_eq_true (by omega)
  have AG:=zh1 ht;clear no hrest ht;go_wp2_with fail
  refine(qgx op W0).mono ?_;rintro e w' ⟨rfl,rfl⟩;rw[AG.out];go_wp2_with fail
  refine(qpj 23 W0).mono ?_;rintro e w9 ⟨rfl,b9⟩;obtain⟨X,hX,pk⟩:=qpn (rWhy 23) Hd.zero_Ok (by simp[qlz,rWhy,qih,qft]);rw[hX];obtain⟨Z9,HX,DD⟩:=zh3 ((Z0.out).below b9 (Z0.out).lt) hX ((A9.out).call b9);clear hX b9;go_wp2_with (refine qpo (.tmp 4) (.tmp 29) (w.heap.size+1) X Z9.out pk ?_)
  exact qpp (Z9.out.setRow X.toArray) pk ⟨_,col,rfl,(by rw[A5.out,←HX.out];exact RspV.plain _ _ _ _ rfl rfl rfl),(by (try rw[A5.out]);exact DD.out.row0 HK.out X.toArray (A1.out) (by omega))⟩
 |some t=>
  obtain⟨hp,ht,h0,h4⟩:=Sta.tree_some htr;obtain⟨n,hn⟩:∃n:Nat,R.tree=n:=⟨R.tree.toNat,by omega⟩;rw[hn,Int.toNat_natCast]at ht;obtain⟨CT,AC,HN,HT⟩:=zh4 (qpm n t c s L col k g css W0 HS.out HW.out ht h0 h4) htr hn ht;clear hp h0 h4;have k35:=A7.out;rw[hn]at k35;have A7:=zh1 k35;have k0':=k0;rw[A8.out]at k0';have hto:=HS.out.tre ht;obtain⟨-,Ad,cd,Al',cl',Aq,cq,-,hcell,-,-,-⟩:=HW.out.st.tree HS.out ht;obtain⟨HV,hHV⟩:=xeq (hdv t.hd);have AH:=zh1 (show W0.rangeAt L.rg (n*75+7) HV from fun j u hu=>by
   have h7:=hcell (7+j) u ((qti _ _ _ _ j).trans (by rw[hHV];exact hu));rw[←Nat.add_assoc]at h7;exact h7)
  have lHV:HV.length=68:=by rw[←hHV];exact qmw hto.hd
  obtain⟨AI,AJ,AE⟩:=zh3 (zI 55 lHV) hHV hto;clear htr hn ht k35 hto hcell hHV lHV;go_enter Tryz.func54,Tryz.ntmps54
  go_upto_region 1 with(fail)
  rw[←A8.out];clear k0';have k35:=A7.out;go_wp2_with fail
  refine CT.out.mono ?_;rintro e w' ⟨rfl,rfl⟩;clear k35;have yes:op≠6→op≠10→op≠11→op≠12→qmd c s R=(if op=1 then qm4 c s R t else if op=7 then qm7 c s R t else if op=8 then qm8 s R else if op=9 then qm9 c s R t else(s,qm5 c s R t)):=by
   intro h6 h10 h11 h12;unfold qmd;rw[A0.out,if_neg h6,if_neg h10,if_neg h11,if_neg h12,AC.out]
  have hcases:op=6∨op=10∨op=11∨op=12∨op=1∨op=2∨op=3∨op=4∨op=5∨op=7∨op=8∨op=9:=by omega
  clear hop;rcases hcases with rfl|rfl|rfl|rfl|rfl|rfl|rfl|rfl|rfl|rfl|rfl|rfl
  ·
   clear yes;have hd:qmd c s R=qm6 c s R:=by unfold qmd;rw[if_pos A0.out]
   obtain⟨HA,HB⟩:=zh2 (show (qmd c s R).2=(qm6 c s R).2 by rw[hd]) (show (qmd c s R).1=(qm6 c s R).1 by rw[hd]);have C1:=qr6 c s L col k g css R Ac cc Al cl W0 HK.out HC.out HS.out HW.out AW.out A6.out (qs6 (o:=35) (l:=[(1,1,35),(1,1,36),(1,1,39)]) AB.out (by rw[A0.out];rfl) (by simp)).1;rw[HQ.out]at C1;have CL:=zh1 C1;clear hd C1;go_wp2_with (refine qaq rfl 34 (.tmp 3) rfl w.heap.size 0 rfl Q _ A3.out Tryz.underlying34 rfl A4.out ?_)
   refine(CL.out).mono ?_;rintro e W5 ⟨v5,col5,rfl,r5,d5⟩;rw[←HA.out]at r5;have d5':Did W0 col W5 col5 k g c css s (qmd c s R).1:=by rw[HB.out];exact d5
   obtain⟨X,rfl,pk,Z5,R9,D9⟩:=qtj d5' r5 A2.out Z0.out A1.out HK.out B0.out;clear r5 d5 d5';go_wp2_with (refine qpo (.tmp 4) (.tmp 20) (w.heap.size+1) X Z5.out pk ?_)
   exact qpp (Z5.out.setRow X.toArray) pk ⟨_,col5,rfl,R9.out,D9.out⟩
  ·
   clear yes;have hd:qmd c s R=qma c s R:=by unfold qmd;rw[if_neg (by rw[A0.out];decide),if_pos A0.out]
   obtain⟨HA,HB⟩:=zh2 (show (qmd c s R).2=(qma c s R).2 by rw[hd]) (show (qmd c s R).1=(qma c s R).1 by rw[hd]);have C1:=qrd c s L col k g css R Ac cc Al cl W0 HK.out HC.out HS.out HW.out AW.out A6.out;rw[HQ.out]at C1;have CL:=zh1 C1;clear hd C1;go_wp2_with fail
   refine(qgx 10 W0).mono ?_;rintro e w' ⟨rfl,rfl⟩;rw[show qgv 10=false from rfl];go_wp2_with (refine qaq rfl 34 (.tmp 3) rfl w.heap.size 0 rfl Q _ A3.out Tryz.underlying34 rfl A4.out ?_)
   refine(CL.out).mono ?_;rintro e W5 ⟨v5,col5,rfl,r5,d5⟩;rw[←HA.out]at r5;have d5':Did W0 col W5 col5 k g c css s (qmd c s R).1:=by rw[HB.out];exact d5
   obtain⟨X,rfl,pk,Z5,R9,D9⟩:=qtj d5' r5 A2.out Z0.out A1.out HK.out B0.out;clear r5 d5 d5';go_wp2_with (refine qpo (.tmp 4) (.tmp 72) (w.heap.size+1) X Z5.out pk ?_)
   exact qpp (Z5.out.setRow X.toArray) pk ⟨_,col5,rfl,R9.out,D9.out⟩
  ·
   clear yes;have hd:qmd c s R=qmb s R:=by unfold qmd;rw[if_neg (by rw[A0.out];decide),if_neg (by rw[A0.out];decide),if_pos A0.out]
   obtain⟨HA,HB⟩:=zh2 (show (qmd c s R).2=(qmb s R).2 by rw[hd]) (show (qmd c s R).1=(qmb s R).1 by rw[hd]);have C1:=qqm c s L col k g css R Ac cc Al cl W0 HK.out HS.out HW.out AW.out;rw[HQ.out]at C1;have CL:=zh1 C1;clear hd C1;go_wp2_with fail
   refine(qgx 11 W0).mono ?_;rintro e w' ⟨rfl,rfl⟩;rw[show qgv 11=false from rfl];go_wp2_with (refine qaq rfl 34 (.tmp 3) rfl w.heap.size 0 rfl Q _ A3.out Tryz.underlying34 rfl A4.out ?_)
   refine(CL.out).mono ?_;rintro e W5 ⟨v5,col5,rfl,r5,d5⟩;rw[←HA.out]at r5;have d5':Did W0 col W5 col5 k g c css s (qmd c s R).1:=by rw[HB.out];exact d5
   obtain⟨X,rfl,pk,Z5,R9,D9⟩:=qtj d5' r5 A2.out Z0.out A1.out HK.out B0.out;clear r5 d5 d5';go_wp2_with (refine qpo (.tmp 4) (.tmp 75) (w.heap.size+1) X Z5.out pk ?_)
   exact qpp (Z5.out.setRow X.toArray) pk ⟨_,col5,rfl,R9.out,D9.out⟩
  ·
   clear yes;have hd:qmd c s R=qmc s R:=by unfold qmd;rw[if_neg (by rw[A0.out];decide),if_neg (by rw[A0.out];decide),if_neg (by rw[A0.out];decide),if_pos A0.out]
   obtain⟨HA,HB⟩:=zh2 (show (qmd c s R).2=(qmc s R).2 by rw[hd]) (show (qmd c s R).1=(qmc s R).1 by rw[hd]);have C1:=qqo c s L col k g css R Ac cc Al cl W0 HK.out HS.out HW.out AW.out;rw[HQ.out]at C1;have CL:=zh1 C1;clear hd C1;go_wp2_with fail
   refine(qgx 12 W0).mono ?_;rintro e w' ⟨rfl,rfl⟩;rw[show qgv 12=false from rfl];go_wp2_with (refine qaq rfl 34 (.tmp 3) rfl w.heap.size 0 rfl Q _ A3.out Tryz.underlying34 rfl A4.out ?_)
   refine(CL.out).mono ?_;rintro e W5 ⟨v5,col5,rfl,r5,d5⟩;rw[←HA.out]at r5;have d5':Did W0 col W5 col5 k g c css s (qmd c s R).1:=by rw[HB.out];exact d5
   obtain⟨X,rfl,pk,Z5,R9,D9⟩:=qtj d5' r5 A2.out Z0.out A1.out HK.out B0.out;clear r5 d5 d5';go_wp2_with (refine qpo (.tmp 4) (.tmp 78) (w.heap.size+1) X Z5.out pk ?_)
   exact qpp (Z5.out.setRow X.toArray) pk ⟨_,col5,rfl,R9.out,D9.out⟩
  ·
   have hd:qmd c s R=qm4 c s R t:=by rw[yes (by decide) (by decide) (by decide) (by decide)];rfl
   obtain⟨HA,HB⟩:=zh2 (show (qmd c s R).2=(qm4 c s R t).2 by rw[hd]) (show (qmd c s R).1=(qm4 c s R t).1 by rw[hd]);have C1:=qql c s L col k g css n t R Ac cc Al cl W0 HK.out HC.out HS.out HW.out AW.out HN.out HT.out (qs5 AB.out A0.out);rw[HQ.out]at C1;have CL:=zh1 C1;clear hd C1 yes;go_wp2_with fail
   refine(qgx 1 W0).mono ?_;rintro e w' ⟨rfl,rfl⟩;rw[show qgv 1=true from rfl];go_wp2_with (refine qaq rfl 34 (.tmp 3) rfl w.heap.size 0 rfl Q _ A3.out Tryz.underlying34 rfl A4.out ?_)
   refine(CL.out).mono ?_;rintro e W5 ⟨v5,col5,rfl,r5,d5⟩;rw[←HA.out]at r5;have d5':Did W0 col W5 col5 k g c css s (qmd c s R).1:=by rw[HB.out];exact d5
   obtain⟨X,rfl,pk,Z5,R9,D9⟩:=qtj d5' r5 A2.out Z0.out A1.out HK.out B0.out;clear r5 d5 d5';go_wp2_with (refine qpo (.tmp 4) (.tmp 52) (w.heap.size+1) X Z5.out pk ?_)
   exact qpp (Z5.out.setRow X.toArray) pk ⟨_,col5,rfl,R9.out,D9.out⟩
  ·
   have hd:qmd c s R=(s,{qih with hd:=t.hd}):=by
    rw[yes (by decide) (by decide) (by decide) (by decide)];show (s,qm5 c s R t)=_;unfold qm5;rw[if_pos A0.out]
   have A5:=zh1 hd;clear hd yes;go_wp2_with fail
   refine(qgx 2 W0).mono ?_;rintro e w' ⟨rfl,rfl⟩;rw[show qgv 2=true from rfl];obtain⟨X,hX⟩:=xeq (qpe {qih with hd:=t.hd});have lX:X.length=106:=by rw[←hX];exact qpf _ AE.out.hd (by simp[qih,qft])
   have oX:∀u∈X,u.oneCell'=true:=by rw[←hX];exact qpg _
   have bT:Tryz.prog.built 57 [(4,.agg HV.toArray)]=some X.toArray:=by rw[←hX,←AJ.out];exact qth AE.out.hd
   obtain⟨HX,LX,OX,BT,AF,AD⟩:=zh6 hX lX oX bT (zI 57 lX) qph;clear hX lX oX bT;go_wp2_with (first
    |(refine qaq rfl 55 (.tmp 55) rfl L.rg (n*75+7) rfl HV _ AH.out Tryz.underlying55 rfl AI.out ?_)
    |(refine qbk rfl ⟨.agg X.toArray,qfq 57 _ rfl _ _ BT.out (by simp[Act.eval,Act.put]),?_⟩)
    |(refine zst 57 (.tmp 4) (.tmp 57) (w.heap.size+1) X Z0.out AF.out (by simp[LX.out,AD.out]) OX.out ?_))
   have AK:=qap (Z0.out.setRow X.toArray) 0 X (fun j u h=>by simpa using h);exact zrt AK Tryz.underlying57 AF.out ⟨_,col,rfl,(by rw[A5.out,←HX.out];exact RspV.plain _ _ _ _ rfl rfl rfl),(by rw[A5.out];exact A9.out.row0 HK.out X.toArray A1.out (by omega))⟩
  ·
   have hd:qmd c s R=(s,qm5 c s R t):=by rw[yes (by decide) (by decide) (by decide) (by decide)];rfl
   obtain⟨HA,HB⟩:=zh2 (show (qmd c s R).2=((s,qm5 c s R t)).2 by rw[hd]) (show (qmd c s R).1=((s,qm5 c s R t)).1 by rw[hd]);have C1:=qr3 c s L col k g css n t R Ac cc Al cl W0 HK.out HS.out HW.out AW.out HT.out A6.out (.inl A0.out);rw[HQ.out]at C1;have CL:=zh1 C1;clear hd C1 yes;go_wp2_with fail
   refine(qgx 3 W0).mono ?_;rintro e w' ⟨rfl,rfl⟩;rw[show qgv 3=true from rfl];go_wp2_with (refine qaq rfl 34 (.tmp 3) rfl w.heap.size 0 rfl Q _ A3.out Tryz.underlying34 rfl A4.out ?_)
   refine(CL.out).mono ?_;rintro e W5 ⟨v5,col5,rfl,r5,d5⟩;rw[←HA.out]at r5;have d5':Did W0 col W5 col5 k g c css s (qmd c s R).1:=by rw[HB.out];exact d5
   obtain⟨X,rfl,pk,Z5,R9,D9⟩:=qtj d5' r5 A2.out Z0.out A1.out HK.out B0.out;clear r5 d5 d5';go_wp2_with (refine qpo (.tmp 4) (.tmp 61) (w.heap.size+1) X Z5.out pk ?_)
   exact qpp (Z5.out.setRow X.toArray) pk ⟨_,col5,rfl,R9.out,D9.out⟩
  ·
   have hd:qmd c s R=(s,qm5 c s R t):=by rw[yes (by decide) (by decide) (by decide) (by decide)];rfl
   obtain⟨HA,HB⟩:=zh2 (show (qmd c s R).2=((s,qm5 c s R t)).2 by rw[hd]) (show (qmd c s R).1=((s,qm5 c s R t)).1 by rw[hd]);have C1:=qr3 c s L col k g css n t R Ac cc Al cl W0 HK.out HS.out HW.out AW.out HT.out A6.out (.inr (.inl A0.out));rw[HQ.out]at C1;have CL:=zh1 C1;clear hd C1 yes;go_wp2_with fail
   refine(qgx 4 W0).mono ?_;rintro e w' ⟨rfl,rfl⟩;rw[show qgv 4=true from rfl];go_wp2_with (refine qaq rfl 34 (.tmp 3) rfl w.heap.size 0 rfl Q _ A3.out Tryz.underlying34 rfl A4.out ?_)
   refine(CL.out).mono ?_;rintro e W5 ⟨v5,col5,rfl,r5,d5⟩;rw[←HA.out]at r5;have d5':Did W0 col W5 col5 k g c css s (qmd c s R).1:=by rw[HB.out];exact d5
   obtain⟨X,rfl,pk,Z5,R9,D9⟩:=qtj d5' r5 A2.out Z0.out A1.out HK.out B0.out;clear r5 d5 d5';go_wp2_with (refine qpo (.tmp 4) (.tmp 61) (w.heap.size+1) X Z5.out pk ?_)
   exact qpp (Z5.out.setRow X.toArray) pk ⟨_,col5,rfl,R9.out,D9.out⟩
  ·
   have hd:qmd c s R=(s,qm5 c s R t):=by rw[yes (by decide) (by decide) (by decide) (by decide)];rfl
   obtain⟨HA,HB⟩:=zh2 (show (qmd c s R).2=((s,qm5 c s R t)).2 by rw[hd]) (show (qmd c s R).1=((s,qm5 c s R t)).1 by rw[hd]);have C1:=qr3 c s L col k g css n t R Ac cc Al cl W0 HK.out HS.out HW.out AW.out HT.out A6.out (.inr (.inr A0.out));rw[HQ.out]at C1;have CL:=zh1 C1;clear hd C1 yes;go_wp2_with fail
   refine(qgx 5 W0).mono ?_;rintro e w' ⟨rfl,rfl⟩;rw[show qgv 5=true from rfl];go_wp2_with (refine qaq rfl 34 (.tmp 3) rfl w.heap.size 0 rfl Q _ A3.out Tryz.underlying34 rfl A4.out ?_)
   refine(CL.out).mono ?_;rintro e W5 ⟨v5,col5,rfl,r5,d5⟩;rw[←HA.out]at r5;have d5':Did W0 col W5 col5 k g c css s (qmd c s R).1:=by rw[HB.out];exact d5
   obtain⟨X,rfl,pk,Z5,R9,D9⟩:=qtj d5' r5 A2.out Z0.out A1.out HK.out B0.out;clear r5 d5 d5';go_wp2_with (refine qpo (.tmp 4) (.tmp 61) (w.heap.size+1) X Z5.out pk ?_)
   exact qpp (Z5.out.setRow X.toArray) pk ⟨_,col5,rfl,R9.out,D9.out⟩
  ·
   by_cases hn0:n=0
   ·
    subst hn0;have hd:qmd c s R=(s,rWhy 24):=by
     rw[yes (by decide) (by decide) (by decide) (by decide)];show qm7 c s R t=_;unfold qm7;rw[if_pos (.inl HN.out)]
    have A5:=zh1 hd;clear hd yes;go_wp2_with fail
    refine(qgx 7 W0).mono ?_;rintro e w' ⟨rfl,rfl⟩;rw[show qgv 7=true from rfl];have k35:=A7.out;go_wp2_with fail
    refine(qpj 24 W0).mono ?_;rintro e w9 ⟨rfl,b9⟩;obtain⟨X,hX,pk⟩:=qpn (rWhy 24) Hd.zero_Ok (by simp[qlz,rWhy,qih,qft]);rw[hX];obtain⟨Z9,HX,DD⟩:=zh3 ((Z0.out).below b9 (Z0.out).lt) hX ((A9.out).call b9);clear hX b9;go_wp2_with (refine qpo (.tmp 4) (.tmp 65) (w.heap.size+1) X Z9.out pk ?_)
    exact qpp (Z9.out.setRow X.toArray) pk ⟨_,col,rfl,(by rw[A5.out,←HX.out];exact RspV.plain _ _ _ _ rfl rfl rfl),(by (try rw[A5.out]);exact DD.out.row0 HK.out X.toArray (A1.out) (by omega))⟩
   have qn:((n:Int)==0)=false:=by simp;omega
   have hd:qmd c s R=qm7 c s R t:=by rw[yes (by decide) (by decide) (by decide) (by decide)];rfl
   obtain⟨HA,HB⟩:=zh2 (show (qmd c s R).2=(qm7 c s R t).2 by rw[hd]) (show (qmd c s R).1=(qm7 c s R t).1 by rw[hd]);have C1:=qrh c s L col k g css n t R Ac cc Al cl W0 HK.out HS.out HW.out AW.out HT.out HN.out hn0 A0.out;rw[HQ.out]at C1;have CL:=zh1 C1;clear hd C1 yes hn0;go_wp2_with fail
   refine(qgx 7 W0).mono ?_;rintro e w' ⟨rfl,rfl⟩;rw[show qgv 7=true from rfl];have k35:=A7.out;go_wp2_with (refine qaq rfl 34 (.tmp 3) rfl w.heap.size 0 rfl Q _ A3.out Tryz.underlying34 rfl A4.out ?_)
   refine(CL.out).mono ?_;rintro e W5 ⟨v5,col5,rfl,r5,d5⟩;rw[←HA.out]at r5;have d5':Did W0 col W5 col5 k g c css s (qmd c s R).1:=by rw[HB.out];exact d5
   obtain⟨X,rfl,pk,Z5,R9,D9⟩:=qtj d5' r5 A2.out Z0.out A1.out HK.out B0.out;clear r5 d5 d5';go_wp2_with (refine qpo (.tmp 4) (.tmp 69) (w.heap.size+1) X Z5.out pk ?_)
   exact qpp (Z5.out.setRow X.toArray) pk ⟨_,col5,rfl,R9.out,D9.out⟩
  ·
   by_cases hn0:n=0
   ·
    subst hn0;have hd:qmd c s R=(s,rWhy 24):=by
     rw[yes (by decide) (by decide) (by decide) (by decide)];show qm8 s R=_;unfold qm8;rw[if_pos (c:=R.tree=0) HN.out]
    have A5:=zh1 hd;clear hd yes;go_wp2_with fail
    refine(qgx 8 W0).mono ?_;rintro e w' ⟨rfl,rfl⟩;rw[show qgv 8=true from rfl];have k35:=A7.out;go_wp2_with fail
    refine(qpj 24 W0).mono ?_;rintro e w9 ⟨rfl,b9⟩;obtain⟨X,hX,pk⟩:=qpn (rWhy 24) Hd.zero_Ok (by simp[qlz,rWhy,qih,qft]);rw[hX];obtain⟨Z9,HX,DD⟩:=zh3 ((Z0.out).below b9 (Z0.out).lt) hX ((A9.out).call b9);clear hX b9;go_wp2_with (refine qpo (.tmp 4) (.tmp 65) (w.heap.size+1) X Z9.out pk ?_)
    exact qpp (Z9.out.setRow X.toArray) pk ⟨_,col,rfl,(by rw[A5.out,←HX.out];exact RspV.plain _ _ _ _ rfl rfl rfl),(by (try rw[A5.out]);exact DD.out.row0 HK.out X.toArray (A1.out) (by omega))⟩
   have qn:((n:Int)==0)=false:=by simp;omega
   have hd:qmd c s R=qm8 s R:=by rw[yes (by decide) (by decide) (by decide) (by decide)];rfl
   obtain⟨HA,HB⟩:=zh2 (show (qmd c s R).2=(qm8 s R).2 by rw[hd]) (show (qmd c s R).1=(qm8 s R).1 by rw[hd]);have C1:=qre c s L col k g css n t R Ac cc Al cl W0 HK.out HS.out HW.out AW.out HT.out HN.out hn0 A0.out;rw[HQ.out]at C1;have CL:=zh1 C1;clear hd C1 yes hn0;go_wp2_with fail
   refine(qgx 8 W0).mono ?_;rintro e w' ⟨rfl,rfl⟩;rw[show qgv 8=true from rfl];have k35:=A7.out;go_wp2_with (refine qaq rfl 34 (.tmp 3) rfl w.heap.size 0 rfl Q _ A3.out Tryz.underlying34 rfl A4.out ?_)
   refine(CL.out).mono ?_;rintro e W5 ⟨v5,col5,rfl,r5,d5⟩;rw[←HA.out]at r5;have d5':Did W0 col W5 col5 k g c css s (qmd c s R).1:=by rw[HB.out];exact d5
   obtain⟨X,rfl,pk,Z5,R9,D9⟩:=qtj d5' r5 A2.out Z0.out A1.out HK.out B0.out;clear r5 d5 d5';go_wp2_with (refine qpo (.tmp 4) (.tmp 69) (w.heap.size+1) X Z5.out pk ?_)
   exact qpp (Z5.out.setRow X.toArray) pk ⟨_,col5,rfl,R9.out,D9.out⟩
  have hd:qmd c s R=qm9 c s R t:=by rw[yes (by decide) (by decide) (by decide) (by decide)];rfl
  obtain⟨HA,HB⟩:=zh2 (show (qmd c s R).2=(qm9 c s R t).2 by rw[hd]) (show (qmd c s R).1=(qm9 c s R t).1 by rw[hd]);have C1:=qrf c s L col k g css n t R Ac cc Al cl W0 HK.out HC.out HS.out HW.out AW.out A6.out HT.out HN.out A0.out;rw[HQ.out]at C1;have CL:=zh1 C1;clear hd C1 yes;go_wp2_with fail
  refine(qgx 9 W0).mono ?_;rintro e w' ⟨rfl,rfl⟩;rw[show qgv 9=true from rfl];go_wp2_with (refine qaq rfl 34 (.tmp 3) rfl w.heap.size 0 rfl Q _ A3.out Tryz.underlying34 rfl A4.out ?_)
  refine(CL.out).mono ?_;rintro e W5 ⟨v5,col5,rfl,r5,d5⟩;rw[←HA.out]at r5;have d5':Did W0 col W5 col5 k g c css s (qmd c s R).1:=by rw[HB.out];exact d5
  obtain⟨X,rfl,pk,Z5,R9,D9⟩:=qtj d5' r5 A2.out Z0.out A1.out HK.out B0.out;clear r5 d5 d5';go_wp2_with (refine qpo (.tmp 4) (.tmp 69) (w.heap.size+1) X Z5.out pk ?_)
  exact qpp (Z5.out.setRow X.toArray) pk ⟨_,col5,rfl,R9.out,D9.out⟩
end
section
open Go.RowKit
structure Rest (w:World)(col:Col)(w':World)(col':Col):Prop where
 os:w'.os=w.os
 tape:w'.tape=w.tape
 output:w'.output=w.output
 size:w.heap.size≤w'.heap.size
 block:∀b,b<w.heap.size→col b=0→w'.heap[b]? =w.heap[b]? ∧col' b=0
section
variable {w w' w'' : World} {col col' col'' : Col} {p : Nat → Bool}
theorem Rest.trans (h:Rest w col w' col')(h':Rest w' col' w'' col''):Rest w col w'' col'':=
 ⟨h'.os.trans h.os,h'.tape.trans h.tape,h'.output.trans h.output,Nat.le_trans h.size h'.size,fun b hb hc=>by
  obtain⟨h1,h2⟩:=h.block b hb hc;obtain⟨h3,h4⟩:=h'.block b (Nat.lt_of_lt_of_le hb h.size) h2;exact⟨h3.trans h1,h4⟩⟩
theorem Rest.of_turns (h:Turns p w col w' col')(h0:p 0=false):Rest w col w' col':=
 ⟨h.os,h.tape,h.output,h.size,fun b hb hc=>⟨h.block b hb (by rw[hc];exact h0),(h.same b hb).trans hc⟩⟩
theorem Rest.of_below (hb:Below w.heap.size w w'):Rest w col w' col:=⟨hb.os,hb.tape,hb.output,hb.size,fun b h hc=>⟨hb.block b h,hc⟩⟩
theorem Rest.below {B:Nat}(h:Rest w col w' col')(hc:∀b,b<B→col b=0)(hB:B≤w.heap.size):Below B w w'∧∀b,b<B→col' b=0:=
 ⟨⟨h.os,h.tape,h.output,h.size,fun b hb=>(h.block b (Nat.lt_of_lt_of_le hb hB) (hc b hb)).1⟩,fun b hb=>(h.block b (Nat.lt_of_lt_of_le hb hB) (hc b hb)).2⟩
theorem Rest.blk {b:Nat}{t:TypeId}{cs:Array Value}(h:Rest w col w' col')(hb:Blk w b t cs)(hc:col b=0):Blk w' b t cs:=(h.block b hb.lt hc).1.trans hb
theorem Rest.reads {size n:Nat}{A:Option Addr}{xs:List Value}(h:Rest w col w' col')(hr:Reads w w.heap.size size A n xs)(h0:0<n→∀ad,A=some ad→col ad.block=0):Reads w' w'.heap.size size A n xs:=by
 refine⟨hr.1,fun hn=>?_⟩;obtain⟨ad,e,hb,hc⟩:=hr.2 hn;refine⟨ad,e,Nat.lt_of_lt_of_le hb h.size,fun j u hu=>?_⟩;refine(World.cell?_of_block ?_).trans (hc j u hu);rw[qa1];exact(h.block _ hb (h0 hn ad e)).1
theorem qtl {base n size:Nat}{e:TypeId}{v:Value}{xs:List Value}(h:w.ownsRow base e size v n xs)(hn:0<n):
 ∃g c,v=.slice (some ⟨g,0,none⟩) n c∧base≤g∧g<w.heap.size∧(∃cs,Blk w g e cs)∧∀(col:Col) (k:Nat),col g=k→TopAt w col k e g c size n xs:=by
 obtain⟨h1,h2⟩:=h;rcases h2 with⟨rfl,rfl⟩|⟨g,cap,cur,rfl,hb,hg,hn',hc,hs,ht⟩
 · omega
 have hb':Blk w g e cur.toList.toArray:=by simpa [Blk] using hg
 refine⟨g,cap,rfl,hb,hb'.lt,⟨_,hb'⟩,fun col k hk=>⟨hk,cur.toList.drop (n*size),?_,h1,hn',hc,?_⟩⟩
 · have:xs++cur.toList.drop (n*size)=cur.toList:=by rw[←ht];exact List.take_append_drop _ _
   rw[this];exact hb'
 have hl:n*size≤cap*size:=Nat.mul_le_mul_right _ hn';rw[h1,List.length_drop,Array.length_toList,hs];omega
theorem TopAt.recol {k k':Nat}{e:TypeId}{g c size n:Nat}{xs:List Value}(h:TopAt w col k e g c size n xs)(hk:∀b,col b=k→col' b=k'):TopAt w col' k' e g c size n xs:=⟨hk g h.1,h.2⟩
theorem RowC.recol {k k':Nat}{v:Value}{e:TypeId}{size n:Nat}{xs:List Value}(h:RowC w col k v e size n xs)(hk:∀b,col b=k→col' b=k'):RowC w col' k' v e size n xs:=by
 refine⟨h.1,?_⟩;rcases h.2 with h0|⟨g,o,c,cur,e1,hc,rest⟩
 · exact .inl h0
 exact .inr ⟨g,o,c,cur,e1,hk g hc,rest⟩
theorem TextC.recol {v:Value}{bs:List Nat}(h:TextC w col v bs)(hk:∀b,col b=5→col' b=5):TextC w col' v bs:=by
 obtain⟨A,n,c,e,h1,h2,h3,h4⟩:=h;exact⟨A,n,c,e,h1,h2,h3,fun h0=>by obtain⟨ad,h5,h6⟩:=h4 h0;exact⟨ad,h5,hk _ h6⟩⟩
theorem TextsC.recol {k k':Nat}{v:Value}{ls:List (List Nat)}(h:TextsC w col k v ls)(hk:∀b,col b=k→col' b=k')(h5:∀b,col b=5→col' b=5):TextsC w col' k' v ls:=by
 obtain⟨vs,h1,h2⟩:=h;exact⟨vs,h1.recol hk,fun i bs hi=>by obtain⟨u,h3,h4⟩:=h2 i bs hi;exact⟨u,h3,h4.recol h5⟩⟩
theorem TrsAt.recol {css:List (List Value)}{l:List Tre}(h:TrsAt w col css l)(hk:∀k,k=5∨10≤k→∀b,col b=k→col' b=k):TrsAt w col' css l:=
 ⟨h.1,fun i t ht=>by
  obtain⟨cs,h1,vd,vl,vq,e,r1,r2,r3⟩:=h.2 i t ht;exact⟨cs,h1,vd,vl,vq,e,r1.recol (hk _ (.inr (by omega))),r2.recol (hk _ (.inr (by omega))) (hk _ (.inl rfl)),r3.recol (hk _ (.inr (by omega))) (hk _ (.inl rfl))⟩⟩
theorem StAt.recol {tt rt gt:TypeId}{k k':Nat}{L:Loc}{css:List (List Value)}{s:Sta}(h:StAt tt rt gt w col k L css s)(h0:∀b,col b=k→col' b=k')(h1:∀b,col b=k+1→col' b=k'+1)(h2:∀b,col b=k+2→col' b=k'+2)(hk:∀k,k=5∨10≤k→∀b,col b=k→col' b=k):StAt tt rt gt w col' k' L css s:=
 ⟨h.tens.recol h0,h.tres.recol h1,h.gras.recol h2,h.trs.recol hk⟩
def Col.back (col:Col):Col:=fun b=>if col b=6 then 2 else if col b=7 then 3 else if col b=8 then 4 else if col b=2∨col b=3∨col b=4 then 0 else col b
theorem Col.back_0 {b:Nat}(h:col b=0):col.back b=0:=by unfold Col.back;rw[h];simp
theorem Col.back_1 {b:Nat}(h:col b=1):col.back b=1:=by unfold Col.back;rw[h];simp
theorem Col.back_5 {b:Nat}(h:col b=5):col.back b=5:=by unfold Col.back;rw[h];simp
theorem Col.back_big {b k:Nat}(h:col b=k)(hk:10≤k):col.back b=k:=by
 unfold Col.back;rw[h,if_neg (by omega),if_neg (by omega),if_neg (by omega),if_neg (by omega)]
theorem Col.back_ne {b:Nat}(h:col.back b≠0):col b≠0:=fun e=>h (Col.back_0 e)
theorem Mdl.back {g:Nat}{c:Cfg}{s:Sta}{L:Loc}{css:List (List Value)}(h:Mdl w col 6 g c s L css):Mdl w col.back 2 g c s L css:=
 ⟨h.blk,Col.back_1 h.own,⟨h.base.1,fun b hb=>Col.back_0 (h.base.2 b hb)⟩,fun b hb=>h.fin b (Col.back_ne hb),h.seed.recol (fun b hb=>Col.back_5 hb),
  h.st.recol (fun b hb=>by unfold Col.back;rw[hb];rfl) (fun b hb=>by unfold Col.back;rw[hb];rfl) (fun b hb=>by unfold Col.back;rw[hb];rfl) (fun k hk b hb=>by rcases hk with rfl|hk;exact Col.back_5 hb;exact Col.back_big hb hk)⟩
theorem Rest.back (h:Rest w col w' col'):Rest w col w' col'.back:=⟨h.os,h.tape,h.output,h.size,fun b hb hc=>⟨(h.block b hb hc).1,Col.back_0 (h.block b hb hc).2⟩⟩
theorem RspV.back {base:Nat}{v:Value}{R:Rsp}(h:RspV w col base v R):RspV w col.back base v R:=by
 obtain⟨bv,hv,cav,e,h1,h2,h3,h4,h5,h6⟩:=h;exact⟨bv,hv,cav,e,h1,h2,h3,fun g hg=>Col.back_0 (h4 g hg),fun g hg=>Col.back_0 (h5 g hg),fun g hg=>Col.back_0 (h6 g hg)⟩
def Col.three (col:Col)(a b d:Nat):Col:=fun x=>if x=a then 6 else if x=b then 7 else if x=d then 8 else col x
theorem Mdl.fork {g:Nat}{c:Cfg}{s:Sta}{L:Loc}{css:List (List Value)}(h:Mdl w col 2 g c s L css)(hs:s.Ok)(hb:Below w.heap.size w w'){vt vr vg:Value}
 (ht:w'.ownsRow w.heap.size 92 6 vt 16 (s.tens.flatMap tenv))(hr:w'.ownsRow w.heap.size 74 75 vr 16 css.flatten)(hg:w'.ownsRow w.heap.size 66 4 vg s.gras.length (s.gras.flatMap grav)):
 ∃(L6:Loc) (col':Col),vt=.slice (some ⟨L6.tg,0,none⟩) 16 L6.tc∧vr=.slice (some ⟨L6.rg,0,none⟩) 16 L6.rc∧vg=.slice (some ⟨L6.gg,0,none⟩) s.gras.length L6.gc∧
  Mdl (((w'.setCell ⟨g,7,none⟩ vt).setCell ⟨g,8,none⟩ vr).setCell ⟨g,9,none⟩ vg) col' 6 g c s L6 css∧
  StAt 92 74 66 (((w'.setCell ⟨g,7,none⟩ vt).setCell ⟨g,8,none⟩ vr).setCell ⟨g,9,none⟩ vg) col' 2 L css s∧
  Turns (· ==1) w col (((w'.setCell ⟨g,7,none⟩ vt).setCell ⟨g,8,none⟩ vr).setCell ⟨g,9,none⟩ vg) col':=by
 have hgn:0<s.gras.length:=by obtain⟨h,_⟩:=List.getElem?_eq_some_iff.1 hs.owner;exact h
 obtain⟨tg,tc,rfl,t1,t2,⟨tcs,t3⟩,t4⟩:=qtl ht (by decide);obtain⟨rg,rc,rfl,r1,r2,⟨rcs,r3⟩,r4⟩:=qtl hr (by decide);obtain⟨gg,gc,rfl,g1,g2,⟨gcs,g3⟩,g4⟩:=qtl hg hgn;have n1:tg≠rg:=fun e=>by
  subst e;have:=t3.symm.trans r3;injection this with this;injection this with _ this;cases this
 have n2:tg≠gg:=fun e=>by
  subst e;have:=t3.symm.trans g3;injection this with this;injection this with _ this;cases this
 have n3:rg≠gg:=fun e=>by
  subst e;have:=r3.symm.trans g3;injection this with this;injection this with _ this;cases this
 obtain⟨col',hcol⟩:∃col':Col,col'=col.three tg rg gg:=⟨_,rfl⟩;have same:∀b,b<w.heap.size→col' b=col b:=fun b hb'=>by
  rw[hcol];unfold Col.three;rw[if_neg (by omega),if_neg (by omega),if_neg (by omega)]
 have c6:col' tg=6:=by rw[hcol];unfold Col.three;rw[if_pos rfl]
 have c7:col' rg=7:=by rw[hcol];unfold Col.three;rw[if_neg (Ne.symm n1),if_pos rfl]
 have c8:col' gg=8:=by rw[hcol];unfold Col.three;rw[if_neg (Ne.symm n2),if_neg (Ne.symm n3),if_pos rfl]
 have fin':Fin_ col' w':=fun b hb'=>by
  rw[hcol]at hb';unfold Col.three at hb';split at hb'
  · omega
  split at hb'
  · omega
  split at hb'
  · omega
  exact Nat.lt_of_lt_of_le (h.fin b hb') hb.size
 have T0:Turns (fun _=>false) w col w' col':=(Turns.of_below (fun _=>false) hb).recolour same;have gl:g<w.heap.size:=h.blk.lt;have cg:col' g=1:=(same g gl).trans h.own;have gw':Blk w' g 117 (mdlv c s L):=(hb.block g gl).trans h.blk;obtain⟨W1,hW1⟩:=eqx (w'.setCell ⟨g,7,none⟩ (.slice (some ⟨tg,0,none⟩) 16 tc));obtain⟨W2,hW2⟩:=eqx (W1.setCell ⟨g,8,none⟩ (.slice (some ⟨rg,0,none⟩) 16 rc));obtain⟨W3,hW3⟩:=eqx (W2.setCell ⟨g,9,none⟩ (.slice (some ⟨gg,0,none⟩) s.gras.length gc));rw[←hW1,←hW2,←hW3];have T3:Turns (· ==1) w' col' W3 col':=by
  rw[hW3,hW2,hW1];exact((Turns.setCell (col:=col') _ (by simp[cg])).trans (Turns.setCell (col:=col') _ (by simp[cg]))).trans (Turns.setCell (col:=col') _ (by simp[cg]))
 have TT:Turns (· ==1) w col W3 col':=(T0.mono (fun k hk=>by cases hk)).trans T3;have kp:∀i,i≠1→KeepsCol i w' col' W3 col':=fun i hi=>T3.keeps (by simpa using hi)
 have kq:∀i,i≠1→KeepsCol i w col W3 col':=fun i hi=>TT.keeps (by simpa using hi)
 have B3:Blk W3 g 117 (mdlv c s {L with tg:=tg,tc:=tc,rg:=rg,rc:=rc,gg:=gg,gc:=gc}):=by
  rw[hW3,hW2,hW1];exact((gw'.set_ 7 _).set_ 8 _).set_ 9 _
 refine⟨{L with tg:=tg,tc:=tc,rg:=rg,rc:=rc,gg:=gg,gc:=gc},col',rfl,rfl,rfl,⟨B3,cg,⟨Nat.le_trans h.base.1 TT.size,fun b hb'=>(same b (Nat.lt_of_lt_of_le hb' h.base.1)).trans (h.base.2 b hb')⟩,fin'.mono T3.size,h.seed.keep (kq 5 (by decide)),?_⟩,?_,TT⟩
 · exact⟨(t4 col' 6 c6).keep (kp 6 (by decide)),(r4 col' 7 c7).keep (kp 7 (by decide)),(g4 col' 8 c8).keep (kp 8 (by decide)),h.st.trs.keep fun i hi=>kq i (by omega)⟩
 exact h.st.keep (kq 2 (by decide)) (kq 3 (by decide)) (kq 4 (by decide)) fun i hi=>kq i (by omega)
theorem Mdl.unfork {g:Nat}{c:Cfg}{s s1:Sta}{L L1:Loc}{css css1:List (List Value)}(h:Mdl w col 6 g c s1 L1 css1)(hst:StAt 92 74 66 w col 2 L css s):
 ∃L',Mdl (w.setCells g 4 (stav s L)) col 2 g c s L' css∧Turns (· ==1) w col (w.setCells g 4 (stav s L)) col:=by
 have T:Turns (· ==1) w col (w.setCells g 4 (stav s L)) col:=Turns.setCells _ (by simp[h.own]);have kp:∀i,i≠1→KeepsCol i w col (w.setCells g 4 (stav s L)) col:=fun i hi=>T.keeps (by simpa using hi)
 have hst':=hst.keep (kp 2 (by decide)) (kp 3 (by decide)) (kp 4 (by decide)) fun i hi=>kp i (by omega)
 refine⟨{L with sa:=L1.sa,sn:=L1.sn,sc:=L1.sc},⟨?_,h.own,⟨Nat.le_trans h.base.1 T.size,h.base.2⟩,h.fin.mono T.size,h.seed.keep (kp 5 (by decide)),⟨hst'.tens,hst'.tres,hst'.gras,hst'.trs⟩⟩,T⟩;have hb:Blk w g 117 (mdlv c s1 L1).toList.toArray:=by simpa using h.blk
 have h2:=qmi (stav s L) 4 w _ hb (by simp[mdlv,stav]);exact h2
end
end
section
open Go.RowKit
def qtm (c:Cfg)(s:Sta):Nat:=if 1024≤(s.tres[0]?.getD Tre.zero).leaves.length then 4 else if c.store<stored s+64 then 26 else 0
theorem qtn (c:Cfg)(s s1:Sta)(L L1:Loc)(col:Col)(g:Nat)(css css1:List (List Value))(w:World)(hc:c.Ok)(hs:s.Ok)(h:Mdl w col 6 g c s1 L1 css1)(hst:StAt 92 74 66 w col 2 L css s):
 Calls Tryz.prog 56 #[.pointer (some ⟨g,0,none⟩),.agg (stav s L).toArray] w fun e w'=>e=.returned (.int .i64 ((qtm c s:Nat):Int))∧Below w.heap.size w w':=by
 show Calls Tryz.prog 56 #[.pointer (some ⟨g,0,none⟩),.agg #[.int .u64 (s.clock:Int),.int .u32 (s.draw:Int),.int .i64 s.lane,.slice (some ⟨L.tg,0,none⟩) 16 L.tc,.slice (some ⟨L.rg,0,none⟩) 16 L.rc,.slice (some ⟨L.gg,0,none⟩) s.gras.length L.gc]] w _;obtain⟨t,ht,-,-⟩:=hs.first;obtain⟨-,Ad,cd,Al,cl,Aq,cq,-,hcell,-,-,-⟩:=hst.tree hs ht;have hto:=hs.tre ht;obtain⟨nl,hnl⟩:=xeq t.leaves.length;have e5:=hcell 5 (.slice Al t.leaves.length cl) rfl;rw[hnl]at e5;rw[show 0*75+5=5 from rfl]at e5;have nb:nl≤1024:=by have:=hto.leaves;omega
 have hsb:stored s≤16*851968:=by rw[←qpx s hs];exact qpw hs.tres 16
 have hfw:qtm c s=if 1024≤nl then 4 else if c.store<stored s+64 then 26 else 0:=by
  unfold qtm;rw[ht,Option.getD_some,hnl]
 rw[hfw];have CS:=zh1 (fun(w':World)(hb:Below w.heap.size w w')=>qpy s L col 2 css w' hs (hst.keep ((Turns.of_below (fun _=>false) hb).keeps rfl) ((Turns.of_below (fun _=>false) hb).keeps rfl) ((Turns.of_below (fun _=>false) hb).keeps rfl) fun i _=>(Turns.of_below (fun _=>false) hb).keeps rfl));obtain⟨st,hstd⟩:=xeq (stored s);rw[hstd]at CS hsb ⊢;have csb:c.store≤32768:=hc.store;obtain⟨cst,hcst⟩:=xeq c.store;have c2:=h.c2;rw[hcst]at c2 csb ⊢;obtain⟨E5,C2⟩:=zh2 e5 c2;clear hcell ht hto hnl e5 hfw hstd hcst c2 h hst hc hs;obtain⟨W0,hW0⟩:=eqx (w.alloc (.cells #[.int .u64 (s.clock:Int),.int .u32 (s.draw:Int),.int .i64 s.lane,.slice (some ⟨L.tg,0,none⟩) 16 L.tc,.slice (some ⟨L.rg,0,none⟩) 16 L.rc,.slice (some ⟨L.gg,0,none⟩) s.gras.length L.gc] 49));have B0:=zh1 (show Below w.heap.size w W0 by rw[hW0];exact qah (tA5 _ _) _);have z0:Blk W0 w.heap.size 49 #[.int .u64 (s.clock:Int),.int .u32 (s.draw:Int),.int .i64 s.lane,.slice (some ⟨L.tg,0,none⟩) 16 L.tc,.slice (some ⟨L.rg,0,none⟩) 16 L.rc,.slice (some ⟨L.gg,0,none⟩) s.gras.length L.gc]:=by rw[hW0];exact Blk.new _ _ _
 have Z0:=zh1 z0;have e5:=qai E5.out B0.out;rw[hW0]at e5;clear z0;obtain⟨fw,hfw⟩:∃n:Nat,(if 1024≤nl then 4 else if cst<st+64 then 26 else 0)=n:=⟨_,rfl⟩;rw[hfw];have A1:=zh1 hfw;clear hfw;go_enter Tryz.func56,Tryz.ntmps56
 by_cases hl:1024≤nl
 ·
  have ql:(1024:Int)≤nl:=by omega
  have HF:=zh1 (show fw=4 by rw[←A1.out,if_pos hl]);clear hl;go_wp2_with fail
  go_ret
  exact⟨by rw[HF.out];rfl,by rw[←hW0];exact B0.out⟩
 have ql:¬(1024:Int)≤nl:=by omega
 have A2:=zh1 hl;clear hl;go_upto_region 3 with(fail)
 rw[←hW0];clear e5 hW0;obtain⟨S,A0⟩:∃S:World→Prop,Hid (∀w',S w'=(Below W0.heap.size W0 w')):=⟨_,fun _=>rfl⟩;refine zrs S 11 [(0,false),(3,false),(4,false),(5,false),(6,false),(7,false),(8,false),(1,true),(2,true),(9,false),(10,false)] ((A0.out _).mpr ((tA5 _ _).drew)) ?_;obtain⟨F2,FS,SI⟩:=zh3 (fun(w':World)(h:S w')=>qai (qai C2.out B0.out) ((A0.out w').mp h)) (fun(w':World)(h:S w')=>qap (Z0.out.below ((A0.out w').mp h) Z0.out.lt) 0 (stav s L) (fun j u hu=>by simpa [stav] using hu)) (show (Tryz.prog.info? 49).map (·.size)=some 6 by kernel_rfl);refine qnf rfl rfl 49 (.tmp 3) rfl w.heap.size 0 rfl (stav s L) _ FS.out Tryz.underlying49 rfl SI.out ?_;try simp only[Act.put,tA0,tA1,tA2]
 have w1:IntKind.u64.wrap (cst:Int)=(cst:Int):=IntWalk.u64_in _ (by omega);iterate 6 (refine zrd rfl rfl (fun w1 hS=>by have g2:=F2.out w1 hS;clear hS;go_simp;try rfl) ?_;simp only[Act.put,tA0,tA1,tA2])
 obtain⟨Wd,hWd⟩:=eqx W0.drew;have BD:=zh1 (show Below W0.heap.size W0 Wd by rw[hWd];exact(tA5 _ _).drew);rw[←hWd];clear hWd;refine qbj rfl rfl ?_;go_simp;refine(CS.out Wd (B0.out.trans (BD.out.mono B0.out.size))).mono ?_;rintro e w1 ⟨rfl,b1⟩;have B1:=zh1 (BD.out.trans (b1.mono BD.out.size));clear b1;refine⟨(A0.out _).mpr B1.out,?_⟩;try simp only[Act.put,tA0,tA1,tA2]
 refine qbj rfl rfl ?_;go_simp;refine(qp7 (st:Int) 64 w1 (by omega) (by omega) (by omega) (by omega)).mono ?_;rintro e w2 ⟨rfl,rfl⟩;rw[show sumI (st:Int) 64=((st+64:Nat):Int) by unfold sumI;rw[if_neg (by omega)];omega];refine⟨(A0.out _).mpr B1.out,?_⟩;try simp only[Act.put,tA0,tA1,tA2]
 by_cases hf:cst<st+64
 ·
  have qf:(cst:Int)<((st+64:Nat):Int):=by omega
  have qf2:(cst:Int)<(st:Int)+64:=by omega
  have HF:=zh1 (show fw=26 by rw[←A1.out,if_neg A2.out,if_pos hf]);clear hf;iterate 2 (refine zrd rfl rfl (fun w1 hS=>by go_simp;(try go_bits);try rfl) ?_;simp only[Act.put,tA0,tA1,tA2])
  refine qbg ?_;clear A0 F2 FS;go_wp2_with fail
  go_ret
  exact⟨by rw[HF.out];rfl,B0.out.trans (B1.out.mono B0.out.size)⟩
 have qf:¬(cst:Int)<((st+64:Nat):Int):=by omega
 have qf2:¬(cst:Int)<(st:Int)+64:=by omega
 have HF:=zh1 (show fw=0 by rw[←A1.out,if_neg A2.out,if_neg hf]);clear hf;iterate 2 (refine zrd rfl rfl (fun w1 hS=>by go_simp;(try go_bits);try rfl) ?_;simp only[Act.put,tA0,tA1,tA2])
 refine qbg ?_;clear A0 F2 FS;go_wp2_with fail
 go_ret
 exact⟨by rw[HF.out];rfl,B0.out.trans (B1.out.mono B0.out.size)⟩
end
section
open Go.RowKit
theorem Mdl.leafAdd {w w':World}{col col':Col}{k g:Nat}{c:Cfg}{s:Sta}{L:Loc}{css:List (List Value)}(h:Mdl w col k g c s L css)(hk:Kind k)(hs:s.Ok){n:Nat}{t:Tre}(ht:s.tres[n]? =some t){vd vl vq:Value}(hcs:css[n]? =some (trev t vd vl vq)){vs:List Value}(hlen:vs.length=t.leaves.length)
 (htx:∀(i:Nat) (bs:List Nat),t.leaves[i]? =some bs→∃u,vs[i]? =some u∧TextC w col u bs){u v':Value}{bs:List Nat}(hu:TextC w col u bs)(ha:AppendedC w col w' col' (11+3*n) vl v' 23 1 t.leaves.length 1 vs [u]):
 Mdl (w'.setCell ⟨L.rg,n*75+5,none⟩ v') col' k g c (s.setT n fun t=>{t with leaves:=t.leaves++[bs]}) L (css.modify n fun x=>x.set 5 v')∧TrsAt (w'.setCell ⟨L.rg,n*75+5,none⟩ v') col' css s.tres∧Turns (inP k) w col (w'.setCell ⟨L.rg,n*75+5,none⟩ v') col':=by
 obtain⟨r1,r2,r3⟩:=h.rows ht hcs;have kp:∀i,i≠11+3*n→KeepsCol i w col w' col':=fun i hi=>ha.turns.keeps (by simpa using hi)
 obtain⟨t1,t2⟩:=qqc ha hlen htx hu (kp 5 (by omega));exact h.treRow hk hs ht hcs (.inr (.inl rfl)) ha.turns (ha.fin h.fin) _ v' (by omega)
  ⟨vd,vl,vq,rfl,r1.keep (kp _ (by omega)),t1,r3.keep (kp _ (by omega)) (kp 5 (by omega))⟩
  ⟨vd,v',vq,rfl,r1.keep (kp _ (by omega)),t2,r3.keep (kp _ (by omega)) (kp 5 (by omega))⟩
theorem qto (c:Cfg)(s:Sta)(L:Loc)(col:Col)(k g:Nat)(css:List (List Value))(R:Req)(Ac:Option Addr)(cc:Nat)(Al:Option Addr)(cl:Nat)(w:World)(hk:Kind k)(hc:c.Ok)(hs:s.Ok)(h:Mdl w col k g c s L css)
 (hr:Asked w col R Ac cc Al cl)(hT:Tabs w)(ha:qku R.op=true)(hl:∀t,s.tres[0]? =some t→t.leaves.length<1024):
 Calls Tryz.prog 57 #[.pointer (some ⟨g,0,none⟩),.agg (reqv R (.slice Ac R.cavs.length cc) (.slice Al R.leaf.length cl)).toArray] w fun e w'=>∃col',e=.returned (.tuple #[])∧Did w col w' col' k g c css s ((s.setT 0 fun t=>{t with leaves:=t.leaves++[qme s R]}).pub c 0):=by
 have rlen:=qis R (.slice Ac R.cavs.length cc) (.slice Al R.leaf.length cl) hr.good.tag;have rtok:=qit R (.slice Ac R.cavs.length cc) (.slice Al R.leaf.length cl);obtain⟨Q,hQ⟩:=xeq (reqv R (.slice Ac R.cavs.length cc) (.slice Al R.leaf.length cl));have CB:=fun(w':World)(hb:Below w.heap.size w w')=>qhz R (.slice Ac R.cavs.length cc) Al cl w' hr.good.fit (hr.leaf.call hb) hr.leafc hr.leafm
 rw[hQ]at rlen rtok CB ⊢;obtain⟨t,ht,hst,hq0⟩:=hs.first;obtain⟨-,Ad,cd,Al',cl',Aq,cq,hcs,hcell,-,-,-⟩:=h.st.tree hs ht;have hto:=hs.tre ht;have hl0:=hl t ht;obtain⟨W0,hW0⟩:=eqx (w.alloc (.cells Q.toArray 34));have q0:Blk W0 w.heap.size 34 Q.toArray:=by rw[hW0];exact Blk.new w _ _
 have b0:Below w.heap.size w W0:=by rw[hW0];exact qah (tA5 _ _) _
 obtain⟨ti,hti⟩:=xeq R.tid;have tb:ti<4294967296:=by rw[←hti];exact hr.good.tid
 have k1:Q.toArray[1]? =some (.int .u32 (ti:Int)):=by rw[tA3,←hti];exact rtok 0 _ rfl
 obtain⟨clk,hclk⟩:=xeq s.clock;have cb:clk<18446744073709551616:=by rw[←hclk];exact hs.clock
 have c4:=h.c4;rw[hclk]at c4;have hnd:qme s R=be clk 8++(be ti 4++(qhp R).2):=by unfold qme;rw[hclk,hti]
 have hlo:=qs0 s R hr.good ha;have bl:=qrz R ha;rw[hnd]at hlo ⊢;obtain⟨bd,hbd⟩:=xeq ((qhp R).2);rw[hbd]at hlo bl CB ⊢;obtain⟨nl,hnl⟩:=xeq t.leaves.length;have e5:=hcell 5 (.slice Al' t.leaves.length cl') rfl;rw[hnl,show 0*75+5=5 from rfl]at e5;rw[hnl]at hl0;obtain⟨H,A5,A7,HK,HC,HS,HR,TT⟩:=zh8 h q0 b0 hk hc hs hr hT;obtain⟨RL,K1,C4,AI,HT,AJ,AK,A2⟩:=zh8 rlen k1 c4 CB ht hto hcs hnl;obtain⟨E5,AL,AM,AN,AO,A3,AP⟩:=zh7 e5 hlo bl hst hq0 (show w.heap.size<W0.heap.size by rw[hW0];simp) (zI 34 rlen);clear h q0 b0 hk hc hs hr hT rlen rtok k1 c4 CB ht hto hcs hcell hnl e5 hlo bl hst hq0 hQ hti hclk hnd hbd ha hl;go_enter Tryz.func57,Tryz.ntmps57
 go_wp2_with fail
 rw[←hW0];refine(qee W0).mono ?_;rintro e w1 ⟨rfl,h1,b1⟩;obtain⟨hww1,Zw1,Bw1⟩:=zh3 h1 (A5.out.below b1 A5.out.lt) (A7.out.trans (b1.mono A7.out.size));clear h1 b1 hW0;have c4:=qai C4.out Bw1.out;go_wp2_with fail
 refine(qed _ _ (clk) 8 _ w1 hww1.out (by omega) (by simp only[tA6,qaw,List.length_nil,qnj,qnk,qnl];omega)).mono ?_;rintro e w2 ⟨rfl,hw2,bw2,-⟩;simp only[qnj,qnk,qnl]at hw2;obtain⟨hww2,Zw2,Bw2⟩:=zh3 hw2 (Zw1.out.below bw2 (by first|exact A3.out|omega)) (Bw1.out.trans (bw2.mono (by first|exact Nat.le_of_lt A3.out|omega)));clear hw2 bw2;clear c4;have k1:=(Zw2.out.cell 1).trans K1.out;have u1:IntKind.u64.wrap (ti:Int)=(ti:Int):=IntWalk.u64_in _ (by omega);go_wp2_with fail
 refine(qed _ _ (ti) 4 _ w2 hww2.out (by omega) (by simp only[tA6,qaw,List.length_nil,qnj,qnk,qnl];omega)).mono ?_;rintro e w3 ⟨rfl,hw3,bw3,-⟩;simp only[qnj,qnk,qnl]at hw3;obtain⟨hww3,Zw3,Bw3⟩:=zh3 hw3 (Zw2.out.below bw3 (by first|exact A3.out|omega)) (Bw2.out.trans (bw3.mono (by first|exact Nat.le_of_lt A3.out|omega)));clear hw3 bw3;clear k1 u1;have AQ:=zh1 (qap Zw3.out 0 Q (fun j u h=>by simpa using h));go_wp2_with (refine qaq rfl 34 (.tmp 3) rfl w.heap.size 0 rfl Q _ AQ.out Tryz.underlying34 rfl AP.out ?_)
 refine(AI.out w3 Bw3.out).mono ?_;rintro e w4 ⟨vb,rfl,ob,b4⟩;obtain⟨Ab,nb,cb,rfl,-,-,rb⟩:=OwnB.sl ob;obtain⟨hww4,Bw4,RB⟩:=zh3 (hww3.out.kept_call b4) (Bw3.out.trans (b4.mono Bw3.out.size)) rb;clear b4 rb ob;have c8:=qai H.out.c8 Bw4.out;go_upto_region 6 with(fail)
 clear c8;have AR:=zh1 (qai E5.out Bw4.out);obtain⟨S,A0⟩:∃S:World→Prop,Hid (∀w',S w'=(w'.cell? ⟨L.rg,5,none⟩=some (.slice Al' nl cl'))):=⟨_,fun _=>rfl⟩;refine zrs S 14 [(0,false),(1,false),(2,false),(3,false),(4,false),(5,false),(7,false),(6,true),(8,true),(9,true),(10,true),(11,true),(12,false),(13,false),(14,true)] ((A0.out _).mpr (AR.out)) ?_;have F0:=zh1 (fun(w':World)(h:S w')=>(A0.out w').mp h);iterate 7 (refine zrd rfl rfl (fun w1 hS=>by have g0:=F0.out w1 hS;clear hS;go_simp;try rfl) ?_;simp only[Act.put,tA0,tA1,tA2])
 obtain⟨Wd,hWd⟩:=eqx w4.drew;have BD:=zh1 (show Below w4.heap.size w4 Wd by rw[hWd];exact(tA5 _ _).drew);rw[←hWd];clear hWd;have Bwd:=zh1 (Bw4.out.trans (BD.out.mono Bw4.out.size));refine qbj rfl rfl ?_;go_simp;refine(qeg _ _ _ Wd (hww4.out.kept_call BD.out) (by simp only[tA6,qaw,List.length_nil];omega)).mono ?_;rintro e w6 ⟨v6,rfl,o6,b6⟩;replace o6:OwnB w6 Wd.heap.size v6 (be clk 8++be ti 4):=OwnB.cast (OwnB.of o6) (by simp only[List.nil_append]);obtain⟨A6,n6,c6,rfl,-,-,r6⟩:=o6.sl;have l6:=qb5 r6;obtain⟨Bw6,R6,L6,AA⟩:=zh4 (Bwd.out.trans (b6.mono Bwd.out.size)) r6 l6 ((RB.out.call BD.out).call b6);clear o6 b6 r6 l6;refine⟨(A0.out _).mpr (qai E5.out Bw6.out),?_⟩;try simp only[Act.put,tA0,tA1,tA2]
 refine qbj rfl rfl ?_;go_simp;obtain⟨w7,hw7⟩:=eqx (w6.alloc (.cells #[.slice A6 n6 c6,.slice Ab nb cb] 23));rw[←hw7];have b67:Below w6.heap.size w6 w7:=by rw[hw7];exact qah (tA5 _ _) _
 have x0:w7.cell? ⟨w6.heap.size,0,none⟩=some (.slice A6 n6 c6):=by rw[hw7];exact(qak w6 _ _ 0).trans rfl
 have x1:w7.cell? ⟨w6.heap.size,1,none⟩=some (.slice Ab nb cb):=by rw[hw7];exact(qak w6 _ _ 1).trans rfl
 have lb:=qb5 AA.out;have J:=qj9 w6.heap.size n6 c6 nb cb _ _ (be clk 8++be ti 4) bd w7 x0 x1 (R6.out.call b67) (AA.out.call b67) (by have h1:=L6.out;have h2:=AM.out;simp only[tA6,qaw]at h1;omega);obtain⟨HJ,Bw7⟩:=zh2 J (Bw6.out.trans (b67.mono Bw6.out.size));clear J x0 x1 b67 hw7 lb;refine⟨(A0.out _).mpr (qai E5.out Bw7.out),?_⟩;try simp only[Act.put,tA0,tA1,tA2]
 refine qbj rfl rfl ?_;go_simp;refine HJ.out.mono ?_;rintro e w8 ⟨v8,rfl,o8,b8⟩;replace o8:OwnB w8 w7.heap.size v8 (be clk 8++(be ti 4++bd)):=OwnB.cast o8 (by simp only[List.append_assoc]);have Bw8:=zh1 (Bw7.out.trans (b8.mono Bw7.out.size));have M8:=H.out.call Bw8.out;obtain⟨A8,n8,c8,rfl,-,-,-⟩:=o8.sl;obtain⟨col1,hc1,tx1,fin1⟩:=qqd (w:=w7) (col:=col) o8 (tA4 _) b8.size (H.out.fin.mono Bw7.out.size);have T1:Turns (fun _=>false) w7 col w8 col1:=(Turns.of_below _ b8).recolour hc1;obtain⟨AS,AT,AU⟩:=zh3 tx1 fin1 ((Turns.of_below (fun _=>false) Bw7.out).trans T1);clear tx1 fin1 T1 o8 hc1 M8 b8;refine⟨(A0.out _).mpr (qai E5.out Bw8.out),?_⟩;try simp only[Act.put,tA0,tA1,tA2]
 refine qbj rfl rfl ?_;go_simp;obtain⟨wB,hwB⟩:=eqx (w8.alloc (.cells #[.slice A8 n8 c8] 23));rw[←hwB];have bB:Below w8.heap.size w8 wB:=by rw[hwB];exact qah (tA5 _ _) _
 have blB:Blk wB w8.heap.size 23 #[.slice A8 n8 c8]:=by rw[hwB];exact Blk.new w8 _ _
 have TB:=AU.out.trans (Turns.of_below (fun _=>false) bB);obtain⟨BB,AB,A4,BwB⟩:=zh4 bB blB TB (Bw8.out.trans (bB.mono Bw8.out.size));clear hwB bB blB TB;refine⟨(A0.out _).mpr (qai E5.out BwB.out),?_⟩;try simp only[Act.put,tA0,tA1,tA2]
 have MB:=H.out.keep A4.out rfl rfl (by have:=HK.out;rcases this with rfl|rfl<;>rfl) (by have:=HK.out;rcases this with rfl|rfl<;>rfl) (by have:=HK.out;rcases this with rfl|rfl<;>rfl) (fun _ _=>rfl) (AT.out.mono BB.out.size);have A1:css[0]? =some (trev t (.slice Ad t.draws.length cd) (.slice Al' nl cl') (.slice Aq t.queue.length cq)):=by rw[AK.out,A2.out]
 obtain⟨vs,hrow,htx⟩:=(MB.rows HT.out A1).2.1;rw[A2.out]at hrow;have hvl:vs.length=t.leaves.length:=by have:=hrow.1;have:=A2.out;omega
 obtain⟨i0,hi0,hz0,hz1,hz2⟩:=info_parts Tryz.madd_info;have hr1:Reads wB wB.heap.size 1 (some ⟨w8.heap.size,0,none⟩) 1 [.slice A8 n8 c8]:=⟨rfl,fun _=>⟨_,rfl,AB.out.lt,fun j u hu=>by rw[Addr.add_mid,AB.out.cell (0+j)];simpa using hu⟩⟩;have AC:=AS.out.keep ((Turns.of_below (col:=col1) (fun _=>false) BB.out).keeps rfl);have colR1:col1 L.rg=k+1:=(A4.out.same L.rg H.out.st.tres.lt).trans H.out.st.tres.1;refine qbj rfl rfl ?_;refine qmp wB (.tmp 37) (.tmp 43) _ _ rfl col1 (11+3*0) 23 i0 _ 1 24 Tryz.underlying72 hi0 hz0 hz1 hz2 rfl (.slice Al' nl cl') nl vs rfl hrow (.slice (some ⟨w8.heap.size,0,none⟩) 1 1) 1 [.slice A8 n8 c8] rfl (Src.reads wB Tryz.underlying72 hr1 (by simp[Value.oneCell']) (by decide)) (by simp only[maxLen];omega) (by omega) ?_;intro v' wC col2 ap;obtain⟨A9,c9,rfl,-,-,-,-⟩:=ap.row.sl;have ap2:AppendedC wB col1 wC col2 (11+3*0) (.slice Al' nl cl') (.slice A9 (nl+1) c9) 23 1 t.leaves.length 1 vs [.slice A8 n8 c8]:=by rw[A2.out];exact ap
 obtain⟨N1,N2,N3⟩:=MB.leafAdd HK.out HS.out (t:=t) (bs:=be clk 8++(be ti 4++bd)) HT.out A1 hvl htx AC ap2;rw[show 0*75+5=5 from rfl]at N1 N2 N3;have eC:=qne (qai E5.out BwB.out) ap.turns (by rw[colR1];have:=HK.out;rcases this with rfl|rfl<;>rfl);have fC:=(MB.st.tres.keep (ap.turns.keeps (k:=k+1) (by have:=HK.out;rcases this with rfl|rfl<;>rfl))).frozen 5;have T9:=(A4.out.mono (q:=inP k) (fun i h=>by cases h)).trans N3;have AD:=TT.out.turns T9 (qq7 HK.out) H.out.base;obtain⟨AE,AF,AG,AH⟩:=zh4 N1 N2 T9 AD;clear N1 N2 N3 T9 AD MB hrow htx hvl hi0 hz0 hz1 hz2 hr1 AC colR1 ap ap2 A1;refine⟨fun _=>(A0.out _).mpr eC,?_⟩;try simp only[Act.put,tA0,tA1,tA2]
 iterate 2 (refine zrd rfl rfl (fun w1 hS=>by go_simp;(try go_bits);try rfl) ?_;simp only[Act.put,tA0,tA1,tA2])
 refine qbj rfl rfl ?_;go_simp;refine qbg ?_;clear A0 F0 eC fC;obtain⟨W9,hW9⟩:=eqx (wC.setCell ⟨L.rg,5,none⟩ (.slice A9 (nl+1) c9));rw[←hW9]at AE AF AG AH ⊢;clear hW9;have sok:(s.setT 0 fun t=>{t with leaves:=t.leaves++[be clk 8++(be ti 4++bd)]}).Ok:=HS.out.setT (fun y hy o=>by
  rw[HT.out]at hy;injection hy with hy;subst hy;have h1:=A2.out;have h2:=o.leaves;have h3:=AO.out;exact {o with
   leaves:=by simp[h3];omega
   leafb:=fun b hb=>by
    rcases List.mem_append.1 hb with h|h
    · exact o.leafb b h
    obtain rfl:=List.mem_singleton.1 h;exact AL.out
   hds:=by have:=o.hds;simp;omega}) (fun _ y _ h1 h2=>⟨h1,h2⟩)
 have ht2:(s.setT 0 fun t=>{t with leaves:=t.leaves++[be clk 8++(be ti 4++bd)]}).tres[0]? =some {t with leaves:=t.leaves++[be clk 8++(be ti 4++bd)]}:=qnc _ HT.out;have CP:=zh1 (qol c _ L col2 k g _ 0 _ W9 HK.out HC.out sok AE.out ht2 (AJ.out.live (by rw[AN.out];decide)).2 AH.out);clear sok ht2;go_wp2_with fail
 refine CP.out.mono ?_;rintro e W5 ⟨rfl,⟨css5,M5⟩,T5⟩;have D5:Did w col W5 col2 k g c css s ((s.setT 0 fun t=>{t with leaves:=t.leaves++[be clk 8++(be ti 4++bd)]}).pub c 0):=
  ⟨⟨L,css5,M5⟩,AF.out.keep fun i hi=>T5.keeps (by have:=HK.out;rcases this with rfl|rfl<;>simp<;>omega),AG.out.trans (T5.mono fun i hi=>(show i=k+1 by simpa using hi)▸(by unfold inP;simp))⟩
 have HD:=zh1 D5;clear D5 M5 T5;go_wp2_with fail
 go_end0
 exact⟨col2,rfl,HD.out⟩
end
def byR (c:Cfg)(id:Nat)(r:Req):Req:={r with tid:=id,cavs:=[],tag:=qjs (qlr c.seed) id}
theorem qtp (root:List Nat)(id:Nat):qk6 root (id,[],qjs root id)=true:=by
 unfold qk6;simp[qk3,qk5]
theorem qtq {R R':Req}(h1:∀f,qhn R f=qhn R' f)(h2:∀f,fldB R f=fldB R' f):∀(l:List Fld) (acc:List Nat),qho R l acc=qho R' l acc
 |[],acc=>rfl
 |f::l,acc=>by
  rw[qho,qho,h1,h2,qtq h1 h2 l]
theorem qtr (c:Cfg)(id:Nat)(r:Req):qhp (byR c id r)=qhp r:=by
 unfold qhp;show (match fieldsOf r.op with|none=>_|some l=>_)=_;cases fieldsOf r.op with
 |none=>rfl
 |some l=>
  show qho (byR c id r) l (be r.op.toNat 1)=qho r l (be r.op.toNat 1);exact qtq (R:=byR c id r) (R':=r) (fun f=>rfl) (fun f=>rfl) l _
theorem qts {c:Cfg}{s:Sta}{id:Nat}{r:Req}{g:Gra}{x:Ten}(hb:(qhp r).1=0)(hg:s.gras[id]? =some g)(hv:g.revoked=false)(he:s.clock<g.expires)(hx:s.tenant g.tenant=some x)(hk:qlx r.op r.leaf.length≤x.tok):
 qly c s (byR c id r)=if qlv g.role r.op g.tenant (qlw s r g.tenant) then 0 else 21:=by
 have h1:(qir (byR c id r)).1=0:=by
  unfold qir;rw[if_pos (by rw[qtr];exact hb),if_pos (by rfl)]
 have h2:(byR c id r).tid=id:=rfl;unfold qly;rw[if_neg (by rw[h1];decide),h2,hg];show (if (!qk6 (qlr c.seed) (id,[],qjs (qlr c.seed) id))=true then _ else _)=_;rw[qtp,if_neg (by decide)];rw[if_neg (by rw[hv];simp[qkf,byR];exact he)];show (if (!qlv g.role r.op g.tenant (qlw s r g.tenant))=true then _ else _)=_;cases hd:qlv g.role r.op g.tenant (qlw s r g.tenant) with
 |true=>
  rw[if_neg (by decide),hx];show (if x.tok<qlx r.op r.leaf.length then 22 else 0)=_;rw[if_neg (by omega)];rfl
 |false=>rfl
def qtt (c:Cfg)(s:Sta)(r:Req):Sta:=
 let s2:=(qmd c s r).1.setX (((s.gras[r.tid]?).getD ⟨0,0,0,false⟩).tenant).toNat fun x=>{x with tok:=x.tok - qlx r.op r.leaf.length}
 (s2.setT 0 fun t=>{t with leaves:=t.leaves++[qme s2 r]}).pub c 0
def qtu (c:Cfg)(s:Sta)(r:Req):Sta:=
 (qmd c s r).1.setX (((s.gras[r.tid]?).getD ⟨0,0,0,false⟩).tenant).toNat fun x=>{x with tok:=x.tok - qlx r.op r.leaf.length}
theorem qtv {c:Cfg}{s:Sta}{r:Req}(hm:qly c s r=0)(hw:(qmd c s r).2.why=0)(ha:qku r.op=true)(hl:(s.tres[0]?.getD Tre.zero).leaves.length<1024)(hst:stored s+64≤c.store)(h9:r.op≠9):doS c s r=(qtt c s r,(qmd c s r).2):=by
 unfold doS;rw[if_neg (by rw[hm];decide)];obtain⟨s1,a,h⟩:∃s1 a,qmd c s r=(s1,a):=⟨_,_,rfl⟩;unfold qtt;rw[h]at hw ⊢;dsimp only at hw ⊢;rw[if_neg (by rw[hw];decide),if_neg (by simp;intro _;omega),if_neg (by simp;intro _;omega),if_pos ha,if_neg h9]
theorem qtw {c:Cfg}{s:Sta}{r:Req}(hm:qly c s r=0)(hw:(qmd c s r).2.why=0)(ha:qku r.op=false):doS c s r=(qtu c s r,(qmd c s r).2):=by
 unfold doS;rw[if_neg (by rw[hm];decide)];obtain⟨s1,a,h⟩:∃s1 a,qmd c s r=(s1,a):=⟨_,_,rfl⟩;unfold qtu;rw[h]at hw ⊢;dsimp only at hw ⊢;rw[if_neg (by rw[hw];decide),ha,if_neg (by simp),if_neg (by simp),if_neg (by decide)]
theorem qtx {c:Cfg}{s:Sta}{r:Req}{y:Nat}(hm:qly c s r=y)(h0:y≠0):doS c s r=(s,rWhy y):=by
 unfold doS;rw[if_pos (by rw[hm];exact h0),hm]
theorem qty {c:Cfg}{s:Sta}{r:Req}{y:Nat}(hm:qly c s r=0)(hw:(qmd c s r).2.why=(y:Int))(h0:y≠0):doS c s r=(s,rWhy y):=by
 unfold doS;rw[if_neg (by rw[hm];decide)];obtain⟨s1,a,h⟩:∃s1 a,qmd c s r=(s1,a):=⟨_,_,rfl⟩;rw[h]at hw ⊢;dsimp only at hw ⊢;rw[if_pos (by rw[hw];omega),hw,Int.toNat_natCast]
def KC:Cfg:=⟨32,1,32768,[115]⟩
def qtz:Req:={qi3 with op:=12,tenant:=1,rate:=9,burst:=9,store:=999}
def qu0:Req:={qi3 with op:=6,tree:=1,tenant:=1,weight:=1}
def qu1:Req:={qi3 with op:=10,tenant:=1,role:=2,expires:=99}
def kAdd:Req:={qi3 with op:=1,tree:=1,leaf:=[97]}
def qu2:Req:={qi3 with op:=2,tree:=1}
def qu3:Req:={qi3 with op:=6,tree:=3,tenant:=1,weight:=1}
theorem KC_ok:KC.Ok:=⟨by decide,by decide,by decide,by decide,by decide,by decide,by decide⟩
def K1:Sta:=qtt KC (newS KC) (byR KC 0 qtz)
def K2:Sta:=qtt KC K1 (byR KC 0 qu0)
def K3:Sta:=qtt KC K2 (byR KC 0 qu1)
def K4:Sta:=qtu KC K3 (byR KC 1 kAdd)
def K5:Sta:=seqS KC K4
def K6:Sta:=qtu KC K5 (byR KC 1 qu2)
theorem qu4:doS KC (newS KC) (byR KC 0 qtz)=(K1,qlz 1):=
 qtv ((qts (g:=⟨0,4,18446744073709551615,false⟩) (by decide) rfl rfl (by decide) rfl (by decide)).trans (by rfl)) rfl rfl (by decide+kernel) (by decide+kernel) (by decide)
theorem qu5:doS KC K1 (byR KC 0 qu0)=(K2,qlz 1):=
 qtv ((qts (g:=⟨0,4,18446744073709551615,false⟩) (by decide) rfl rfl (by decide) rfl (by decide)).trans (by rfl)) rfl rfl (by decide+kernel) (by decide+kernel) (by decide)
theorem qu6:doS KC K2 (byR KC 0 qu1)=(K3,{qlz 1 with tok:=(1,[],qjs (qlr KC.seed) 1)}):=
 qtv ((qts (g:=⟨0,4,18446744073709551615,false⟩) (by decide) rfl rfl (by decide) rfl (by decide)).trans (by rfl)) rfl rfl (by decide+kernel) (by decide+kernel) (by decide)
theorem qu7:doS KC K3 (byR KC 1 kAdd)=(K4,qlz 0):=
 qtw ((qts (g:=⟨1,2,99,false⟩) (by decide) rfl rfl (by decide) rfl (by decide)).trans (by rfl)) rfl rfl
theorem qu8:(doS KC K5 (byR KC 1 qu2)).1=K6∧(doS KC K5 (byR KC 1 qu2)).2.hd.size=1:=by
 rw[qtw ((qts (g:=⟨1,2,99,false⟩) (by decide) rfl rfl (by decide) rfl (by decide)).trans (by rfl)) rfl rfl];exact⟨rfl,rfl⟩
theorem qu9:doS KC K6 (byR KC 1 qu3)=(K6,rWhy 21):=
 qtx ((qts (g:=⟨1,2,99,false⟩) (by decide) rfl rfl (by decide) rfl (by decide)).trans (by rfl)) (by decide)
theorem qua:∃t,K6.tres[0]? =some t∧t.leaves.length=3:=⟨_,rfl,rfl⟩
theorem qub (c:Cfg)(s:Sta)(r:Req):0≤(qmd c s r).2.why:=by
 have add:∀t,0≤(qm4 c s r t).2.why:=fun t=>by
  unfold qm4;repeat' split
  all_goals first|exact Int.natCast_nonneg _|exact Int.le_refl _
 have look:∀t,0≤(qm5 c s r t).why:=fun t=>by
  unfold qm5;repeat' split
  all_goals first|exact Int.natCast_nonneg _|exact Int.le_refl _
 have create:0≤(qm6 c s r).2.why:=by
  unfold qm6;repeat' split
  all_goals first|exact Int.natCast_nonneg _|exact Int.le_refl _
 have change:∀t,0≤(qm7 c s r t).2.why:=fun t=>by
  unfold qm7;split
  · exact Int.natCast_nonneg _
  exact Int.le_refl _
 have weigh:0≤(qm8 s r).2.why:=by
  unfold qm8;repeat' split
  all_goals first|exact Int.natCast_nonneg _|exact Int.le_refl _
 have rotate:∀t,0≤(qm9 c s r t).2.why:=fun t=>by
  unfold qm9;split
  · exact Int.natCast_nonneg _
  exact Int.le_refl _
 have grant:0≤(qma c s r).2.why:=by
  unfold qma;repeat' split
  all_goals first|exact Int.natCast_nonneg _|exact Int.le_refl _
 have revoke:0≤(qmb s r).2.why:=by
  unfold qmb;repeat' split
  all_goals first|exact Int.natCast_nonneg _|exact Int.le_refl _
 have limit:0≤(qmc s r).2.why:=by
  unfold qmc;repeat' split
  all_goals first|exact Int.natCast_nonneg _|exact Int.le_refl _
 unfold qmd;split
 · exact create
 split
 · exact grant
 split
 · exact revoke
 split
 · exact limit
 split
 · exact Int.natCast_nonneg _
 split
 · exact add _
 split
 · exact change _
 split
 · exact weigh
 split
 · exact rotate _
 exact look _
end Go.Proofs.YthomgopipiomhaaGreatDoor

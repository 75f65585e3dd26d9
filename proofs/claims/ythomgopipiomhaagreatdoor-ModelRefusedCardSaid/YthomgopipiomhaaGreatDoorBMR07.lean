/- Lemmas. -/
import Derived.Test.YthomgopipiomhaaGreatDoorBMR06
namespace Go.Proofs.YthomgopipiomhaaGreatDoor
open Go.RowKit
set_option linter.unusedVariables false
set_option linter.unusedSimpArgs false
set_option maxRecDepth 100000
set_option maxHeartbeats 32000000
variable {s s' s1 s2:Sta}{css css1:List (List Value)}{c:Cfg}{col col' col'' col5:Col}{G k g n g' c' d clk cl cc base base' B b size k':Nat}{w W1 w' W W' W0 W5:World}{cs new xs:List Value}{t:Tre}{L L1:Loc}{P:Program}{Q:Exit→Act→World→Prop}{K:Act→World→Prop}{a:Act}{o:Oper}{v' vd vl vq v v5 vt vr vg:Value}{R r:Req}{tr tn wg q:Int}{bs:List Nat}{Al Ac A:Option Addr}{e tt rt gt:TypeId}
theorem qss{args:Array Value}{fn:FuncId}{K:Ending→World→Prop}{a:Rsp}{f:Rsp}(hdo:Hid (f=a))(hk:Hid (Kind k))(hG:col' G=0)
 (hc:Zc fn args W1 fun e w'=>e=.returned (.agg (qr1 a).toArray)∧Zb W1 w')(Z:Blk W1 G 57 Tryz.zeroCells57)(D:Did w col W1 col' k g c css s s')(hb:w.heap.size≤G:=by omega)
 (ha:a.hd=Hd.zero∧a.tok=qgu∧a.bytes=[]∧a.hashes=[]:=by exact⟨rfl,rfl,rfl,rfl⟩)
 (h:∀X w9,Hid (Blk w9 G 57 Tryz.zeroCells57)→RspK X→Hid (RspV (w9.setRow G X.toArray) col' w.heap.size (.agg X.toArray) f∧Did w col (w9.setRow G X.toArray) col' k g c css s s')→K (.returned (.agg X.toArray)) w9:=by
  (intro X w9 Z9 pk RD
   go_wp2_with (refine qrb _ _ _ X Z9.o pk ?_)
   exact qrc (Z9.setRow X.toArray) pk ⟨_,_,rfl,RD.o⟩)):Zc fn args W1 K:=
 qry (f:=(s',f)) (hdo:=show Hid ((s',f)=(s',a)) from zh1 (by rw[hdo.o])) hk hG hc Z D hb ha h
theorem qst(n:Int)(A:Option Addr)(m c:Nat):Tryz.prog.built 57 [(1,.int .u64 n),(2,.slice A m c)]=some (Value.int .i64 0::.int .u64 n::.slice A m c::.slice none 0 0::(hdv Hd.zero++tokv qgu.1 (.slice none 0 0) qgu.2.2)).toArray:=by kernel_rfl
theorem qsu(n:Int)(A:Option Addr)(m c:Nat):Tryz.prog.built 57 [(1,.int .u64 n),(3,.slice A m c)]=some (Value.int .i64 0::.int .u64 n::.slice none 0 0::.slice A m c::(hdv Hd.zero++tokv qgu.1 (.slice none 0 0) qgu.2.2)).toArray:=by kernel_rfl
theorem qsv(c:Cfg)(s:Sta)(L:Loc)(col:Col)(k g:Nat)(css:List (List Value))(n:Nat)(t:Tre)(R:Req)(Ac:Option Addr)(cc:Nat)(Al:Option Addr)(cl:Nat)(w:World)(hk:Kind k)(hs:s.Ok)(h:Mdl w col k g c s L css)
 (hr:Asked w col R Ac cc Al cl)(ht:s.tres[n]? =some t)(hT:Tabs w)(hop:R.op=3∨R.op=4∨R.op=5):
 Zc 136 #[.pointer (some ⟨g,0,none⟩),.pointer (some ⟨L.rg,n*75,none⟩),.agg (reqv R (.slice Ac R.cavs.length cc) (.slice Al R.leaf.length cl)).toArray] w fun e w'=>∃v col',e=.returned v∧RspV w' col' w.heap.size v (qn9 c s R t)∧Did w col w' col' k g c css s s:=by
 obtain⟨hn16,Ad,cd,Al',cl',Aq,cq,hcs,hcell,hrd,hrl,hrq⟩:=h.st.tree hs ht;have hto:=hs.tre ht;obtain⟨A1,k1,e1,a1,a2,a3⟩:=hrl.reads;injection e1 with e11 e12 e13;subst e11 e13;obtain⟨Q,hQ,rlen,rest,W0,hW0,q0,z0,b0⟩:=qrx R Ac cc Al cl w hr.good.tag;rw[hQ];have hG0:=h.fin.none (b:=w.heap.size+1) zo;have D0:=Did.same (css:=css) h b0;obtain⟨H,AO,Q0,Z0,B0,A5,A6,HK⟩:=zh8 h hW0 q0 z0 b0 hG0 D0 hk;obtain⟨HS,HR,RL,AB,HQ⟩:=zh5 hs hr rlen rest hQ;clear h hW0 q0 z0 b0 hG0 D0 hk hs hr rlen rest hQ;obtain⟨AJ,AQ,AK,A8,AG,HT⟩:=zh6 hto a3 (show t.leaves.length≤cl'∧cl'≤maxLen from⟨a1,a2⟩) (a3.call B0.o) (hT.below B0.o hT.size) ht;obtain⟨nl,hnl⟩:=xeq t.leaves.length;have c5:=qai (hcell 5 (.slice Al' t.leaves.length cl') rfl) B0.o;rw[hnl]at c5 A8 AK;have nb:nl≤1024:=by have:=hto.leaves;omega
 have cb:nl≤cl':=AK.o.1;have cm:cl'≤maxLen:=AK.o.2;obtain⟨lo,hlo⟩:=xeq R.lo;obtain⟨hi,hhi⟩:=xeq R.hi;have lob:lo<18446744073709551616:=by rw[←hlo];exact HR.good.lo
 have hib:hi<18446744073709551616:=by rw[←hhi];exact HR.good.hi
 obtain⟨op,hop'⟩:=xeq R.op;rw[hop']at hop;have k0:=(Q0.cell 0).trans (show Q.toArray[0]? =some (.int .i64 op) by rw[tA3,←hop',←HQ.o];rfl);have k41:=(Q0.cell 41).trans (show Q.toArray[41]? =some (.int .u64 (lo:Int)) by rw[tA3,←hlo];exact AB.o 6);have k42:=(Q0.cell 42).trans (show Q.toArray[42]? =some (.int .u64 (hi:Int)) by rw[tA3,←hhi];exact AB.o 7);obtain⟨K0,AH,AC,C5,AD,A9,AI,AA⟩:=zh8 k0 k41 k42 c5 hnl hlo hhi hop';have C0:=zh1 (qai H.c0 B0.o);have u1:IntKind.u64.wrap (nl:Int)=(nl:Int):=tBa _ zo;clear hrd hrl hrq a1 a2 a3 hcs hcell hto hT ht hnl hlo hhi hop' k0 k41 k42 c5;have c5:=C5.o;rw[AO.o]at c5;go_enter Tryz.func136,Tryz.ntmps136
 go_upto_region 2 with(fail)
 rw[←AO.o];clear c5 u1;have k0:=K0.o;have k41:=AH.o;have k42:=AC.o;obtain⟨AR,AS,AT⟩:=zh3 nb cb cm;rcases hop with rfl|rfl|rfl
 ·
  by_cases hge:nl≤lo
  ·
   have p1:(nl:Int)≤lo:=zo;have hdo:qn9 c s R t=rWhy 25:=by
    unfold qn9;rw[AA.o,if_neg zdc,if_pos rfl,A9.o,List.getElem?_eq_none (by rw[AD.o];exact hge)]
   have A0:=zh1 hdo;clear hdo hge;go_wp2_with fail
   exact qss A0 HK (A5.o) (qr6 25 W0) (Z0.o) (A6.o)
  have p1:¬(nl:Int)≤lo:=zo;obtain⟨g0,o0,bs,A2,n2,c2,rfl,g0lt,hbs,hcb,nc2,cm2,rd2⟩:=A8.at_ (k:=lo) zo;have en:bs.length=n2:=by have:=rd2.1;simp[byv]at this;omega
  have hdo:qn9 c s R t={qj2 with n:=lo,bytes:=bs}:=by
   unfold qn9;rw[AA.o,if_neg zdc,if_pos rfl,A9.o,hbs]
  obtain⟨A0,EN,AL,AP,AU⟩:=zh5 hdo en hcb rd2 nc2;have q0:(0:Int)≤lo:=zo;have q1:(lo:Int)<nl:=zo;have q2:lo<nl:=zo;clear hdo en hcb rd2 hge nc2;go_upto_region 5 with(fail)
  obtain⟨S,HS9⟩:=zS fun w'=>Zb W0 w'
  refine zrs S 12 (zq 0 10 [(10,true),(11,false),(12,true)]) ((HS9.o _).mpr ((tA5 _ _).drew)) ?_;obtain⟨F0,F1,F2⟩:=zh3 (zF HS9 AH.o) (zF HS9 C5.o) (zF HS9 AL.o);clear k0 k41 k42;iterate 10 (refine zr3 ?_)
  obtain⟨Wd,hWd,BD⟩:=zdr W0;rw[←hWd];clear hWd;have CL:=zh1 (qs5 A2 n2 c2 (byv bs) Wd (AP.call BD.o) (by have:=EN.o;have:=(AJ.leafb bs (tB2 hbs)).1;omega) (qau _));refine zw ?_;go_simp;refine CL.o.mono ?_;rintro e w1 ⟨v1,rfl,o1,b1⟩;have o1':OwnB w1 Wd.heap.size v1 bs:=by unfold OwnB;rw[EN.o];exact o1
  obtain⟨A3,n3,c3,rfl,-,-,-⟩:=o1'.sl;have B1:=zh1 (BD.trans (b1.mono BD.size));obtain⟨Z9,AE,O1,S9⟩:=zh4 (Z0.below B1.o Z0.lt) (A6.call B1.o) o1' (show w.heap.size+1<Wd.heap.size by have:=BD.size;have:=Z0.lt;omega);clear o1 o1' b1;refine⟨(HS9.o _).mpr B1.o,zput ?_⟩;obtain⟨X,hX⟩:=eqx (rspv (({qj2 with n:=lo,bytes:=bs}:Rsp)) (.slice A3 n3 c3) (.slice none 0 0) (.slice none 0 0));have lX:X.length=106:=by rw[hX];exact qqj _ _ _ _ (qo2 Hd.zero_Ok) (by simp[qj2,qgu])
  have oX:∀u∈X,u.oneCell'=true:=by rw[hX];exact qqk _ _ _ _ rfl rfl rfl
  have bT:Tryz.prog.built 57 [(1,.int .u64 (lo:Int)),(2,.slice A3 n3 c3)]=some X.toArray:=by rw[hX];exact qst (lo:Int) A3 n3 c3
  obtain⟨LX,OX,HX,BT,A7,A4⟩:=zh6 lX oX hX bT (zI 57 lX) qr4;clear lX oX hX bT;refine qbh rfl rfl ⟨.agg X.toArray,fun w1 hS=>qgr 57 _ rfl _ _ BT.o (by simp[Act.eval]),?_⟩;refine zP ?_;refine zw ?_;refine wp_store_row 57 (.tmp 6) (.tmp 37) rfl (w.heap.size+1) X.toArray rfl rfl 57 _ Z9.o (by simpa using A7.o) (by simp[LX.o,A4.o]) (by simpa using OX.o) ?_;refine⟨fun h=>absurd h zdc,zput ?_⟩;refine qbg ?_;clear HS9 F0 F1 F2;go_wp2_with fail
  have z9:=Z9.setRow X.toArray;have AF:=qap z9 0 X zjq;refine zrt AF zu57 A7.o ?_;have dd9:=AE.row0 HK.o X.toArray A5.o zo;first
   |exact⟨_,rfl,col,(by rw[A0.o,HX.o];exact⟨_,_,_,rfl,(O1.grown (qam _ _ _) S9.o).mono (by have:=S9.o;omega),OwnD.nil _ _,OwnC.nil _ _,(fun g e=>by by_cases h0:col g=0;exact h0;exact absurd ((World.ownsRow.lt O1.o g e).1) (by have:=H.fin g h0;have:=S9.o;omega)),(fun g e=>by cases e),(fun g e=>by cases e)⟩),dd9⟩
   |exact⟨_,col,rfl,(by rw[A0.o,HX.o];exact⟨_,_,_,rfl,(O1.grown (qam _ _ _) S9.o).mono (by have:=S9.o;omega),OwnD.nil _ _,OwnC.nil _ _,(fun g e=>by by_cases h0:col g=0;exact h0;exact absurd ((World.ownsRow.lt O1.o g e).1) (by have:=H.fin g h0;have:=S9.o;omega)),(fun g e=>by cases e),(fun g e=>by cases e)⟩),dd9⟩
 ·
  by_cases hbad:hi≤lo∨nl<hi
  ·
   have hdo:qn9 c s R t=rWhy 25:=by
    unfold qn9;rw[AA.o,if_neg zdc,if_neg zdc,if_pos rfl,A9.o,AI.o,AD.o,if_pos hbad]
   have A0:=zh1 hdo;clear hdo;by_cases h1:hi≤lo
   · have p1:(hi:Int)≤lo:=zo
     clear hbad h1;go_wp2_with fail
     exact qss A0 HK (A5.o) (qr6 25 W0) (Z0.o) (A6.o)
   have p1:¬(hi:Int)≤lo:=zo;have p2:(nl:Int)<hi:=zo;clear hbad h1;go_wp2_with fail
   exact qss A0 HK (A5.o) (qr6 25 W0) (Z0.o) (A6.o)
  have p1:¬(hi:Int)≤lo:=zo;have p2:¬(nl:Int)<hi:=zo;have plo:lo<hi:=zo;have pn:hi≤nl:=zo;have hdo:qn9 c s R t={qj2 with n:=hi,hashes:=qfx (cutW c.width) (t.leaves.take hi) lo}:=by
   unfold qn9;rw[AA.o,if_neg zdc,if_neg zdc,if_pos rfl,A9.o,AI.o,AD.o,if_neg hbad]
  have A0:=zh1 hdo;clear hdo hbad;obtain⟨g0,o0,bs,A2,n2,c2,rfl,-,-,-,-,-,-⟩:=A8.at_ (k:=0) zo;have AM:=zh1 (A8.take (k:=hi) zo);have q1:(0:Int)≤hi:=zo;have q2:(hi:Int)≤nl:=zo;have q3:(hi:Int)≤cl':=zo;have q4:hi≤cl':=zo;have hok:∀b∈t.leaves.take hi,BsOk b:=fun b hb=>(AJ.leafb b (tB7 hb)).bs
  obtain⟨AN,HW⟩:=zh2 hok (show c.width=c.width from rfl);clear hok;go_upto_region 8 with(fail)
  obtain⟨S,HS9⟩:=zS fun w'=>Zb W0 w'
  refine zrs S 20 (zq 0 14 ((14,true)::zq 15 5 [])) ((HS9.o _).mpr ((tA5 _ _).drew)) ?_;obtain⟨F0,F1,F2,F3⟩:=zh4 (zF HS9 AH.o) (zF HS9 C5.o) (zF HS9 AC.o) (zF HS9 C0.o);clear k0 k41 k42;iterate 14 (refine zr4 ?_)
  obtain⟨Wd,hWd,BD⟩:=zdr W0;rw[←hWd];clear hWd;have CL:=zh1 (qsq c.width (t.leaves.take hi) (some ⟨g0,o0,none⟩) lo hi cl' Wd plo (AM.call BD.o) q4 zo zo AN.o (AG.below BD.o AG.size));refine zw ?_;go_simp;refine CL.o.mono ?_;rintro e w1 ⟨v1,rfl,o1,b1⟩;obtain⟨A3,n3,c3,rfl,-,-,-,-⟩:=o1.sl;have B1:=zh1 (BD.trans (b1.mono BD.size));obtain⟨Z9,AE,O1,S9⟩:=zh4 (Z0.below B1.o Z0.lt) (A6.call B1.o) o1 (show w.heap.size+1<Wd.heap.size by have:=BD.size;have:=Z0.lt;omega);clear o1 b1;refine⟨(HS9.o _).mpr B1.o,zput ?_⟩;iterate 5 (refine zrb ?_)
  refine qbg ?_;clear HS9 F0 F1 F2 F3;have k42:=qai AC.o B1.o;obtain⟨X,hX⟩:=eqx (rspv (({qj2 with n:=hi,hashes:=qfx (cutW c.width) (t.leaves.take hi) lo}:Rsp)) (.slice none 0 0) (.slice A3 n3 c3) (.slice none 0 0));have lX:X.length=106:=by rw[hX];exact qqj _ _ _ _ (qo2 Hd.zero_Ok) (by simp[qj2,qgu])
  have oX:∀u∈X,u.oneCell'=true:=by rw[hX];exact qqk _ _ _ _ rfl rfl rfl
  have bT:Tryz.prog.built 57 [(1,.int .u64 (hi:Int)),(3,.slice A3 n3 c3)]=some X.toArray:=by rw[hX];exact qsu (hi:Int) A3 n3 c3
  obtain⟨LX,OX,HX,BT,A7,A4⟩:=zh6 lX oX hX bT (zI 57 lX) qr4;clear lX oX hX bT;go_wp2_with (first
   |(refine qbk rfl ⟨.agg X.toArray,qgr 57 _ rfl _ _ BT.o (by simp[Act.eval]),?_⟩)
   |(refine zst Z9.o A7.o (by simp[LX.o,A4.o]) OX.o ?_))
  have z9:=Z9.setRow X.toArray;have AF:=qap z9 0 X zjq;refine zrt AF zu57 A7.o ?_;have dd9:=AE.row0 HK.o X.toArray A5.o zo;first
   |exact⟨_,rfl,col,(by rw[A0.o,HX.o];exact⟨_,_,_,rfl,OwnB.nil _ _,(fun h=>⟨h.1,qdf h.2 (by have:=S9.o;omega)⟩:OwnD _ Wd.heap.size _ _→OwnD _ _ _ _) (O1.grown (qam _ _ _) Z9.o zdc),OwnC.nil _ _,(fun g e=>by cases e),(fun g e=>by by_cases h0:col g=0;exact h0;exact absurd ((World.ownsRow.lt O1.o.2 g e).1) (by have:=H.fin g h0;have:=S9.o;omega)),(fun g e=>by cases e)⟩),dd9⟩
   |exact⟨_,col,rfl,(by rw[A0.o,HX.o];exact⟨_,_,_,rfl,OwnB.nil _ _,(fun h=>⟨h.1,qdf h.2 (by have:=S9.o;omega)⟩:OwnD _ Wd.heap.size _ _→OwnD _ _ _ _) (O1.grown (qam _ _ _) Z9.o zdc),OwnC.nil _ _,(fun g e=>by cases e),(fun g e=>by by_cases h0:col g=0;exact h0;exact absurd ((World.ownsRow.lt O1.o.2 g e).1) (by have:=H.fin g h0;have:=S9.o;omega)),(fun g e=>by cases e)⟩),dd9⟩
 by_cases hbad:lo=0∨hi<lo∨nl<hi
 ·
  have hdo:qn9 c s R t=rWhy 25:=by
   unfold qn9;rw[AA.o,if_neg zdc,if_neg zdc,if_neg zdc,A9.o,AI.o,AD.o,if_pos hbad]
  have A0:=zh1 hdo;clear hdo;by_cases h0:lo=0
  · subst h0
    clear hbad;go_wp2_with fail
    exact qss A0 HK (A5.o) (qr6 25 W0) (Z0.o) (A6.o)
  have p0:((lo:Int)==0)=false:=by simp;omega
  by_cases h1:hi<lo
  · have p1:(hi:Int)<lo:=zo
    clear hbad h1;go_wp2_with fail
    exact qss A0 HK (A5.o) (qr6 25 W0) (Z0.o) (A6.o)
  have p1:¬(hi:Int)<lo:=zo;have p2:(nl:Int)<hi:=zo;clear hbad h1;go_wp2_with fail
  exact qss A0 HK (A5.o) (qr6 25 W0) (Z0.o) (A6.o)
 have p0:((lo:Int)==0)=false:=by simp;omega
 have p1:¬(hi:Int)<lo:=zo;have p2:¬(nl:Int)<hi:=zo;have plo:1≤lo:=zo;have plh:lo≤hi:=zo;have pn:hi≤nl:=zo;have hdo:qn9 c s R t={qj2 with n:=hi,hashes:=subH (cutW c.width) (t.leaves.take hi) lo true}:=by
  unfold qn9;rw[AA.o,if_neg zdc,if_neg zdc,if_neg zdc,A9.o,AI.o,AD.o,if_neg hbad]
 have A0:=zh1 hdo;clear hdo hbad;obtain⟨g0,o0,bs,A2,n2,c2,rfl,-,-,-,-,-,-⟩:=A8.at_ (k:=0) zo;have AM:=zh1 (A8.take (k:=hi) zo);have q1:(0:Int)≤hi:=zo;have q2:(hi:Int)≤nl:=zo;have q3:(hi:Int)≤cl':=zo;have q4:hi≤cl':=zo;have hok:∀b∈t.leaves.take hi,BsOk b:=fun b hb=>(AJ.leafb b (tB7 hb)).bs
 obtain⟨AN,HW⟩:=zh2 hok (show c.width=c.width from rfl);clear hok;go_upto_region 12 with(fail)
 obtain⟨S,HS9⟩:=zS fun w'=>Zb W0 w'
 refine zrs S 20 (zq 0 14 ((14,true)::zq 15 5 [])) ((HS9.o _).mpr ((tA5 _ _).drew)) ?_;obtain⟨F0,F1,F2,F3⟩:=zh4 (zF HS9 AH.o) (zF HS9 C5.o) (zF HS9 AC.o) (zF HS9 C0.o);clear k0 k41 k42;iterate 14 (refine zr4 ?_)
 obtain⟨Wd,hWd,BD⟩:=zdr W0;rw[←hWd];clear hWd;have CL:=zh1 (qsr c.width (t.leaves.take hi) (some ⟨g0,o0,none⟩) lo hi cl' Wd plo plh (AM.call BD.o) q4 zo zo AN.o (AG.below BD.o AG.size));refine zw ?_;go_simp;refine CL.o.mono ?_;rintro e w1 ⟨v1,rfl,o1,b1⟩;obtain⟨A3,n3,c3,rfl,-,-,-,-⟩:=o1.sl;have B1:=zh1 (BD.trans (b1.mono BD.size));obtain⟨Z9,AE,O1,S9⟩:=zh4 (Z0.below B1.o Z0.lt) (A6.call B1.o) o1 (show w.heap.size+1<Wd.heap.size by have:=BD.size;have:=Z0.lt;omega);clear o1 b1;refine⟨(HS9.o _).mpr B1.o,zput ?_⟩;iterate 5 (refine zrb ?_)
 refine qbg ?_;clear HS9 F0 F1 F2 F3;have k42:=qai AC.o B1.o;obtain⟨X,hX⟩:=eqx (rspv (({qj2 with n:=hi,hashes:=subH (cutW c.width) (t.leaves.take hi) lo true}:Rsp)) (.slice none 0 0) (.slice A3 n3 c3) (.slice none 0 0));have lX:X.length=106:=by rw[hX];exact qqj _ _ _ _ (qo2 Hd.zero_Ok) (by simp[qj2,qgu])
 have oX:∀u∈X,u.oneCell'=true:=by rw[hX];exact qqk _ _ _ _ rfl rfl rfl
 have bT:Tryz.prog.built 57 [(1,.int .u64 (hi:Int)),(3,.slice A3 n3 c3)]=some X.toArray:=by rw[hX];exact qsu (hi:Int) A3 n3 c3
 obtain⟨LX,OX,HX,BT,A7,A4⟩:=zh6 lX oX hX bT (zI 57 lX) qr4;clear lX oX hX bT;go_wp2_with (first
  |(refine qbk rfl ⟨.agg X.toArray,qgr 57 _ rfl _ _ BT.o (by simp[Act.eval]),?_⟩)
  |(refine zst Z9.o A7.o (by simp[LX.o,A4.o]) OX.o ?_))
 have z9:=Z9.setRow X.toArray;have AF:=qap z9 0 X zjq;refine zrt AF zu57 A7.o ?_;have dd9:=AE.row0 HK.o X.toArray A5.o zo;first
  |exact⟨_,rfl,col,(by rw[A0.o,HX.o];exact⟨_,_,_,rfl,OwnB.nil _ _,(fun h=>⟨h.1,qdf h.2 (by have:=S9.o;omega)⟩:OwnD _ Wd.heap.size _ _→OwnD _ _ _ _) (O1.grown (qam _ _ _) Z9.o zdc),OwnC.nil _ _,(fun g e=>by cases e),(fun g e=>by by_cases h0:col g=0;exact h0;exact absurd ((World.ownsRow.lt O1.o.2 g e).1) (by have:=H.fin g h0;have:=S9.o;omega)),(fun g e=>by cases e)⟩),dd9⟩
  |exact⟨_,col,rfl,(by rw[A0.o,HX.o];exact⟨_,_,_,rfl,OwnB.nil _ _,(fun h=>⟨h.1,qdf h.2 (by have:=S9.o;omega)⟩:OwnD _ Wd.heap.size _ _→OwnD _ _ _ _) (O1.grown (qam _ _ _) Z9.o zdc),OwnC.nil _ _,(fun g e=>by cases e),(fun g e=>by by_cases h0:col g=0;exact h0;exact absurd ((World.ownsRow.lt O1.o.2 g e).1) (by have:=H.fin g h0;have:=S9.o;omega)),(fun g e=>by cases e)⟩),dd9⟩
theorem qsw(h:cs.length=new.length):over cs 0 new=new:=by
 unfold over;simp[h]
theorem Mdl.treSet(h:Mdl w col k g c s L css)(hk:Kind k)(hs:s.Ok)(ht:s.tres[n]? =some t)
 (hT:Turns (fun _=>false) w col w' col')(hf:Fin_ col' w')(f:Tre→Tre)(new:List Value)(hl:new.length=75)(hnew:TreAt w' col' n new (f t)):
 Mdl (w'.setCells L.rg (n*75) new) col' k g c (s.setT n f) L (css.modify n fun _=>new)∧TrsAt (w'.setCells L.rg (n*75) new) col' css s.tres∧Turns (inP k) w col (w'.setCells L.rg (n*75) new) col':=by
 have hn:n<s.tres.length:=by obtain⟨h,_⟩:=tA8 ht;exact h
 have hn16:n<16:=by rw[←hs.tresn];exact hn
 have hlen:=h.st.trs.lens (fun t ht=>(hs.tres t ht).hd);have hcl:css.length=16:=by rw[h.st.trs.1,hs.tresn]
 have hfl:css.flatten.length=1200:=by rw[qnx hlen,hcl]
 have mA:Mdl w' col' k g c s L css:=h.keep hT rfl rfl rfl rfl rfl (fun _ _=>rfl) hf;obtain⟨cs,hcs,-⟩:=mA.st.trs.2 n t ht;have hT2:Turns (· ==k+1) w' col' (w'.setCells L.rg (n*75) new) col':=Turns.setCells new (by simp[mA.st.tres.1]);have keepB:∀i,i≠k+1→KeepsCol i w' col' (w'.setCells L.rg (n*75) new) col':=fun i hi=>hT2.keeps (by simpa using hi)
 have hbig:∀i,i=5∨10≤i→i≠k+1:=fun i hi=>by rcases hk with rfl|rfl<;>omega
 have hne:g≠L.rg:=by
  intro e;have a:=mA.own;rw[e,mA.st.tres.1]at a;rcases hk with rfl|rfl<;>cases a
 refine⟨⟨?_,mA.own,⟨tB1 mA.base.1 hT2.size,mA.base.2⟩,mA.fin.mono hT2.size,mA.seed.keep (keepB 5 (hbig 5 (.inl rfl))),?_⟩,mA.st.trs.keep fun i hi=>keepB i (hbig i hi),?_⟩
 · exact mA.blk.grown (qnp L.rg new _ w') (by intro e;injection e with e;exact hne e)
 ·
  refine⟨mA.st.tens.keep (keepB k zo),?_,mA.st.gras.keep (keepB (k+2) zo),?_⟩
  · have h1:=mA.st.tres.over (o:=n*75) (cs:=new) (by rw[hfl];omega)
    have h2:=qny new hlen (n:=n) (j:=0) (by rw[hcl];exact hn16) zo;rw[Nat.add_zero]at h2;rw[h2]at h1;have e:(css.modify n fun x=>over x 0 new)=css.modify n fun _=>new:=qrz fun x hx=>qsw (by rw[hlen x (tB2 hx),hl])
    rwa[e]at h1
  refine⟨by rw[List.length_modify,h.st.trs.1];simp[Sta.setT],fun i t' ht'=>?_⟩;by_cases e:n=i
  · subst e
    rw[show (s.setT n f).tres=s.tres.modify n f from rfl,qop f ht]at ht';injection ht' with ht';subst ht';exact⟨new,qop _ hcs,hnew.keep fun i hi=>keepB i (hbig i hi)⟩
  rw[show (s.setT n f).tres=s.tres.modify n f from rfl,qoq _ f e]at ht';obtain⟨c0,h1,h2⟩:=mA.st.trs.2 i t' ht';exact⟨c0,by rw[qoq _ _ e];exact h1,h2.keep fun i hi=>keepB i (hbig i hi)⟩
 refine(hT.mono (q:=inP k) fun i hi=>by cases hi).trans (hT2.mono (q:=inP k) fun i hi=>?_);obtain rfl:i=k+1:=by simpa using hi
 unfold inP;simp
theorem qsx(tn wg:Int)(A:Option Addr)(n c:Nat):Tryz.prog.built 74 [(0,.int .i64 1),(1,.int .i64 tn),(2,.int .i64 wg),(4,.slice A n c)]=some (trev {Tre.zero with state:=1,tenant:=tn,weight:=wg} (.slice A n c) (.slice none 0 0) (.slice none 0 0)).toArray:=by kernel_rfl
theorem qsy(c:Cfg)(s:Sta)(L:Loc)(col:Col)(k g:Nat)(css:List (List Value))(R:Req)(Ac:Option Addr)(cc:Nat)(Al:Option Addr)(cl:Nat)(w:World)(hk:Kind k)(hc:c.Ok)(hs:s.Ok)(h:Mdl w col k g c s L css)
 (hr:Asked w col R Ac cc Al cl)(hT:Tabs w)(hpos:0≤R.tree):
 Zc 132 #[.pointer (some ⟨g,0,none⟩),.agg (reqv R (.slice Ac R.cavs.length cc) (.slice Al R.leaf.length cl)).toArray] w fun e w'=>∃v col',e=.returned v∧RspV w' col' w.heap.size v (qna c s R).2∧Did w col w' col' k g c css s (qna c s R).1:=by
 obtain⟨Q,hQ,rlen,rest,W0,hW0,q0,z0,b0⟩:=qrx R Ac cc Al cl w hr.good.tag;rw[hQ];have hG0:=h.fin.none (b:=w.heap.size+1) zo;have D0:=Did.same (css:=css) h b0;obtain⟨H,AC,Q0,Z0,B0,A2,A7,HK⟩:=zh8 h hW0 q0 z0 b0 hG0 D0 hk;obtain⟨HS,HR,RL,A4,HQ⟩:=zh5 hs hr rlen rest hQ;clear h hW0 q0 z0 b0 hG0 D0 hk hs hr rlen rest hQ;obtain⟨HC,TT⟩:=zh2 hc hT;clear hc hT;obtain⟨n,hn⟩:∃i:Nat,R.tree=i:=⟨R.tree.toNat,by omega⟩;obtain⟨tn,htn⟩:=xeq R.tenant;obtain⟨wg,hwg⟩:=xeq R.weight;have k35:=(Q0.cell 35).trans (show Q.toArray[35]? =some (.int .i64 (n:Int)) by rw[tA3,←hn];exact A4.o 0);have k36:=(Q0.cell 36).trans (show Q.toArray[36]? =some (.int .i64 tn) by rw[tA3,←htn];exact A4.o 1);have k39:=(Q0.cell 39).trans (show Q.toArray[39]? =some (.int .i64 wg) by rw[tA3,←hwg];exact A4.o 4);obtain⟨A8,AJ,AD,C8,AK,HN,A5,A6⟩:=zh8 k35 k36 k39 (qai H.c8 B0.o) (qr7 tn c s L col k g css W0 (H.call B0.o)) hn htn hwg;rw[AC.o]at k36;clear hn htn hwg k35 k39 hpos;go_enter Tryz.func132,Tryz.ntmps132
 go_wp2_with fail
 rw[←AC.o];refine AK.o.mono ?_;rintro e w' ⟨rfl,rfl⟩;clear k36;obtain⟨pv,hpv⟩:∃p:Value × Bool,p=if 0≤tn∧tn<16 then(.pointer (some ⟨L.tg,tn.toNat*6,none⟩),true) else(.pointer none,false):=⟨_,rfl⟩
 obtain⟨pt,pb⟩:=pv;rw[show (if 0≤tn∧tn<16 then Value.tuple #[.pointer (some ⟨L.tg,tn.toNat*6,none⟩),.bool true] else .tuple #[.pointer none,.bool false])=.tuple #[pt,.bool pb] by
  by_cases h:0≤tn∧tn<16
  · rw[if_pos h]at hpv ⊢;injection hpv with a b;subst a b;rfl
  rw[if_neg h]at hpv ⊢;injection hpv with a b;subst a b;rfl]
 have AE:=zh1 hpv;clear hpv;go_upto_region 2 with(fail)
 obtain⟨S,HS9⟩:=zS fun w'=>Zb W0 w'
 refine zrs S 25 (zq 0 25 []) ((HS9.o _).mpr ((tA5 _ _).drew)) ?_;obtain⟨F0,F1,F2⟩:=zh3 (zF HS9 A8.o) (zF HS9 AD.o) (zF HS9 C8.o);by_cases h0:n=0
 ·
  subst h0;iterate 25 (first|refine zsk ?_|refine zr3 ?_)
  refine qbg ?_;clear HS9 F0 F1 F2;obtain⟨W1,hW1,B1⟩:=zdr W0;rw[←hW1];clear hW1;obtain⟨Z1,A3⟩:=zh2 (Z0.below B1.o Z0.lt) (A7.call B1.o);have hdo:qna c s R=(s,rWhy 25):=by
   unfold qna;rw[if_pos (by rw[HN.o,A6.o,HS.tresn];omega)]
  have A0:=zh1 hdo;clear hdo;go_wp2_with fail
  exact qry A0 HK (A2.o) (qr6 25 W1) (Z1.o) (A3.o)
 have q0:((n:Int)==0)=false:=by simp;omega
 by_cases h16:16≤n
 ·
  have q1:(16:Int)≤n:=zo;iterate 25 (first|refine zsk ?_|refine zr3 ?_)
  refine qbg ?_;clear HS9 F0 F1 F2;obtain⟨W1,hW1,B1⟩:=zdr W0;rw[←hW1];clear hW1;obtain⟨Z1,A3⟩:=zh2 (Z0.below B1.o Z0.lt) (A7.call B1.o);have hdo:qna c s R=(s,rWhy 25):=by
   unfold qna;rw[if_pos (by rw[HN.o,A6.o,HS.tresn];omega)]
  have A0:=zh1 hdo;clear hdo;go_wp2_with fail
  exact qry A0 HK (A2.o) (qr6 25 W1) (Z1.o) (A3.o)
 have q1:¬(16:Int)≤n:=zo;by_cases hw1:wg<1
 ·
  iterate 25 (first|refine zsk ?_|refine zr3 ?_)
  refine qbg ?_;clear HS9 F0 F1 F2;obtain⟨W1,hW1,B1⟩:=zdr W0;rw[←hW1];clear hW1;obtain⟨Z1,A3⟩:=zh2 (Z0.below B1.o Z0.lt) (A7.call B1.o);have hdo:qna c s R=(s,rWhy 25):=by
   unfold qna;rw[if_pos (by rw[HN.o,A6.o,HS.tresn];omega)]
  have A0:=zh1 hdo;clear hdo;go_wp2_with fail
  exact qry A0 HK (A2.o) (qr6 25 W1) (Z1.o) (A3.o)
 by_cases hw4:4<wg
 ·
  iterate 25 (refine zr3 ?_)
  refine qbg ?_;clear HS9 F0 F1 F2;obtain⟨W1,hW1,B1⟩:=zdr W0;rw[←hW1];clear hW1;obtain⟨Z1,A3⟩:=zh2 (Z0.below B1.o Z0.lt) (A7.call B1.o);have hdo:qna c s R=(s,rWhy 25):=by
   unfold qna;rw[if_pos (by rw[HN.o,A6.o,HS.tresn];omega)]
  have A0:=zh1 hdo;clear hdo;go_wp2_with fail
  exact qry A0 HK (A2.o) (qr6 25 W1) (Z1.o) (A3.o)
 iterate 25 (refine zr3 ?_)
 refine qbg ?_;clear HS9 F0 F1 F2;obtain⟨W1,hW1,B1⟩:=zdr W0;rw[←hW1];clear hW1;obtain⟨Z1,A3⟩:=zh2 (Z0.below B1.o Z0.lt) (A7.call B1.o);have h16':n<16:=zo;obtain⟨t,ht⟩:∃t,s.tres[n]? =some t:=⟨_,tA7 (by rw[HS.tresn];exact h16')⟩;obtain⟨-,Ad,cd,Al',cl',Aq,cq,hcs,hcell,-,-,-⟩:=H.st.tree HS.o ht;have C0:=zh1 (qai (hcell 0 (.int .i64 t.state) rfl) B0.o);simp only[Nat.add_zero]at C0;obtain⟨HT,AN⟩:=zh2 ht (HS.tre ht);have n1:1≤n:=zo;have HB:=zh1 (⟨n1,h16',hw1,hw4⟩:1≤n∧n<16∧¬wg<1∧¬4<wg);have hd1:qna c s R=(if t.state≠0 then(s,rWhy 27)
  else match s.tenant R.tenant with
   |none=>(s,rWhy 23)
   |some x=>if !x.on then(s,rWhy 23) else((s.setT R.tree.toNat fun _=>{Tre.zero with state:=1,tenant:=R.tenant,weight:=R.weight,draws:=[s.draw]}).pub c R.tree.toNat,qn6 R.tree.toNat)):=by
  unfold qna;rw[if_neg (by rw[HN.o,A6.o,HS.tresn];omega),HN.o,tBe,ht];rfl
 have A9:=zh1 hd1;clear ht hcs hcell hd1 hw1 hw4 h0 h16;have q2:(0:Int)≤n:=zo;have q3:(n:Int)<16:=zo;go_upto_region 4 with(fail)
 obtain⟨S,HS9⟩:=zS fun w'=>Zb W1 w'
 refine zrs S 12 (zq 0 12 []) ((HS9.o _).mpr ((tA5 _ _).drew)) ?_;obtain⟨F0,F1,F2⟩:=zh3 (zF HS9 (qai A8.o B1.o)) (zF HS9 (qai C0.o B1.o)) (zF HS9 (qai C8.o B1.o));obtain⟨ts,hts⟩:=xeq t.state;rw[hts]at C0 F1 A9;iterate 12 (refine zr3 ?_)
 refine qbg ?_;clear HS9 F0 F1 F2;obtain⟨W2,hW2,B2⟩:=zdr W1;rw[←hW2];clear hW2;obtain⟨Z2,AA,A1⟩:=zh3 (Z1.below B2.o Z1.lt) (A3.call B2.o) (B1.trans (B2.mono B1.size));by_cases hs0:ts=0
 ·
  subst hs0;have hd2:=A9.o;rw[if_neg zm]at hd2;have AB:=zh1 hd2;clear hd2;by_cases hok:0≤tn∧tn<16
  ·
   have hpv:=AE.o;rw[if_pos hok]at hpv;injection hpv with hp1 hp2;subst hp1 hp2;obtain⟨m,rfl⟩:∃m:Nat,tn=m:=⟨tn.toNat,by omega⟩;rw[tBe];obtain⟨x,hx⟩:∃x,s.tens[m]? =some x:=⟨_,tA7 (by rw[HS.tensn];omega)⟩;have hten:s.tenant R.tenant=some x:=by unfold Sta.tenant;rw[A5.o,if_pos zo,tBe];exact hx
   have con:w.cell? ⟨L.tg,m*6,none⟩=some (.bool x.on):=H.st.tens.cell ((qo4 hx (by omega:(0:Nat)<6)).trans rfl);have con2:=qai (qai con B0.o) A1.o;obtain⟨on,hon⟩:=xeq x.on;rw[hon]at con2;cases on with
   |false=>
    have hdo:qna c s R=(s,rWhy 23):=by
     rw[AB.o,hten];simp[hon]
    have A0:=zh1 hdo;clear hdo hx hten con;go_wp2_with fail
    clear con2;exact qry A0 HK (A2.o) (qr6 23 W2) (Z2.o) (AA.o)
   |true=>
    have hdo:qna c s R=((s.setT n fun _=>{Tre.zero with state:=1,tenant:=(m:Int),weight:=wg,draws:=[s.draw]}).pub c n,qn6 n):=by
     rw[AB.o,hten];simp only[hon];rw[HN.o,A5.o,A6.o,tBe];rfl
    have A0:=zh1 hdo;clear hdo hx hten con;go_upto_region 8 with(fail)
    clear con2;have C5:=zh1 (qai (qai H.c5 B0.o) A1.o);have cW:col w.heap.size=0:=by
     by_cases e:col w.heap.size=0
     · exact e
     have:=H.fin _ e;omega
    have CW:=zh1 cW;obtain⟨dr,hdr⟩:=xeq s.draw;have hdb:dr<4294967296:=by rw[←hdr];exact HS.draw
    rw[hdr]at C5 A0;have AO:=zh1 hdr;clear cW hdr;obtain⟨S,HS9⟩:=zS fun w'=>Zb W2 w'
    refine zrs S 19 (zq 0 16 [(16,true),(17,false),(18,false),(19,true)]) ((HS9.o _).mpr ((tA5 _ _).drew)) ?_;obtain⟨F0,F1,F2,F3,F4⟩:=zh5 (zF HS9 (qai A8.o A1.o)) (zF HS9 (qai AD.o A1.o)) (zF HS9 (qai C8.o A1.o)) (zF HS9 (qai AJ.o A1.o)) (zF HS9 C5.o);iterate 16 (refine zr5 ?_)
    obtain⟨Wd,hWd,BD⟩:=zdr W2;rw[←hWd];clear hWd;refine zw ?_;go_simp;obtain⟨wB,hwB⟩:=eqx (Wd.alloc (.cells #[.int .u32 (dr:Int)] 22));rw[←hwB];have bB:=zMa hwB;have blB:=zNa hwB;have BB:=zh1 (BD.trans (bB.mono BD.size));obtain⟨AF,SW,AG⟩:=zh3 (B0.trans ((A1.trans (BB.mono A1.size)).mono B0.size)) (show w.heap.size+1<Wd.heap.size by have:=BD.size;have:=A1.size;have:=Z0.lt;omega) blB;clear hwB bB blB;refine⟨(HS9.o _).mpr BB.o,zput ?_⟩;obtain⟨X,hX⟩:=eqx (trev {Tre.zero with state:=1,tenant:=(m:Int),weight:=wg,draws:=[dr]} (.slice (some ⟨Wd.heap.size,0,none⟩) 1 1) (.slice none 0 0) (.slice none 0 0));have bT:Tryz.prog.built 74 [(0,.int .i64 1),(1,.int .i64 (m:Int)),(2,.int .i64 wg),(4,.slice (some ⟨Wd.heap.size,0,none⟩) 1 1)]=some X.toArray:=by rw[hX];exact qsx (m:Int) wg _ 1 1
    obtain⟨BT,HX,LX,OX⟩:=zh4 bT hX (show X.length=75 by rw[hX];exact qo3 _ _ _ Hd.zero_Ok) (show ∀u∈X,u.oneCell'=true by rw[hX];exact qrd _ _ _ _ rfl rfl rfl);clear bT hX;refine qbh rfl rfl ⟨.agg X.toArray,fun w1 hS=>qgr 74 _ rfl _ _ BT.o (by simp[Act.eval]),?_⟩;refine zP ?_;iterate 1 (refine zrb ?_)
    obtain⟨col1,hcol⟩:∃f:Col,f=fun b=>if b=Wd.heap.size then 10+3*n else col b:=⟨_,rfl⟩
    have cd1:col1 Wd.heap.size=10+3*n:=by rw[hcol];simp
    have cl1:∀b,b<Wd.heap.size→col1 b=col b:=fun b hb=>by rw[hcol];simp;omega
    have fin1:Fin_ col1 wB:=by
     intro b hb;rw[hcol]at hb;by_cases e:b=Wd.heap.size
     · rw[e];exact AG.lt
     simp[e]at hb;have:=H.fin b hb;have:=AF.size;omega
    have TB:Turns (fun _=>false) w col wB col1:=(Turns.of_below _ AF.o).recolour fun b hb=>cl1 b (by have:=SW.o;omega)
    have hnew:TreAt wB col1 n X ({Tre.zero with state:=1,tenant:=(m:Int),weight:=wg,draws:=[dr]}:Tre):=
     ⟨_,_,_,HX.o,⟨rfl,.inr ⟨Wd.heap.size,0,1,[.int .u32 (dr:Int)],rfl,cd1,AG.o,tA4 _,by simp[maxLen],by simp,rfl⟩⟩,TextsC.nil _ _ _,TextsC.nil _ _ _⟩
    obtain⟨N1,N2,N3⟩:=H.treSet HK.o HS.o HT.o TB fin1 (fun _=>{Tre.zero with state:=1,tenant:=(m:Int),weight:=wg,draws:=[dr]}) X LX.o hnew;have MB:=H.keep TB rfl rfl rfl rfl rfl (fun _ _=>rfl) fin1;have hth:=MB.st.tres.there (o:=n*75) (m:=75) (by rw[qnx (MB.st.trs.lens (fun t ht=>(HS.tres t ht).hd)),MB.st.trs.1,HS.tresn];have:=HB.o;omega);have hfok:({Tre.zero with state:=1,tenant:=(m:Int),weight:=wg,draws:=[dr]}:Tre).Ok:=by
     have hz:=Tre.zero_ok;have hb:=HB.o;exact⟨⟨by simp,by simp⟩,⟨by simp,by simp;omega⟩,⟨by simp;omega,by simp;omega⟩,rfl,fun _=>⟨by simp;omega,by simp⟩,by simp,by simp;exact hdb,hz.leaves,hz.leafb,hz.queue,hz.queueb,hz.hd,hz.hdt,hz.hde,hz.hds⟩
    have sok:(s.setT n fun _=>{Tre.zero with state:=1,tenant:=(m:Int),weight:=wg,draws:=[dr]}).Ok:=HS.setT (fun _ _ _=>hfok) (fun e=>absurd e (by have:=HB.o;omega));have ht2:(s.setT n fun _=>{Tre.zero with state:=1,tenant:=(m:Int),weight:=wg,draws:=[dr]}).tres[n]? =some {Tre.zero with state:=1,tenant:=(m:Int),weight:=wg,draws:=[dr]}:=qop _ HT.o;have AH:=TT.turns N3 (qru HK.o) H.base;have AI:=zh1 (qq3 c _ L col1 k g _ n _ _ HK.o HC.o sok N1 ht2 zm AH);have z4:Blk (wB.setCells L.rg (n*75) X) (w.heap.size+1) 57 Tryz.zeroCells57:=
     ((Z2.below BB.o Z2.lt)).grown (qnp L.rg X _ wB) (by
      intro e;injection e with e;have:=A2.o;rw[e,H.st.tres.1]at this;omega)
    have k35:(wB.setCells L.rg (n*75) X).cell? ⟨w.heap.size,35,none⟩=some (.int .i64 (n:Int)):=
     qor (p:=(· ==k+1)) (col:=col) (qai (qai A8.o A1.o) BB.o) (Turns.setCells X (by simp[H.st.tres.1])) (by rw[CW.o];simp)
    have g1:col1 (w.heap.size+1)=0:=(cl1 _ SW.o).trans A2.o;refine zw ?_;refine wp_store_mid 74 (.tmp 82) (.tmp 81) rfl L.rg (n*75) X.toArray rfl rfl (by rw[tB6,LX.o];exact hth) (by rw[tB6,LX.o];kernel_rfl) (by simpa using OX.o) ?_;refine⟨fun h=>absurd h zdc,zput ?_⟩;refine qbg ?_;obtain⟨W4,hW4⟩:=eqx (wB.setCells L.rg (n*75) X);obtain⟨K4,Z4,N2',N3',G1,G2⟩:=zh6 k35 z4 N2 N3 g1 ((cl1 w.heap.size (by have:=SW.o;omega)).trans CW.o);have e9:(wB.setCells L.rg (n*75) X.toArray.toList)=W4:=by rw[hW4]
    rw[e9];rw[←hW4]at K4 Z4 N2' N3' AI;clear HS9 F0 F1 F2 F3 F4 hcol cd1 cl1 fin1 TB hnew N1 N2 N3 MB hth hfok sok ht2 AH z4 k35 g1 hW4 e9;have k35:=K4.o;go_wp2_with fail
    refine AI.o.mono ?_;rintro e W5 ⟨rfl,⟨css5,M5⟩,T5⟩;have D5:Did w col W5 col1 k g c css s ((s.setT n fun _=>{Tre.zero with state:=1,tenant:=(m:Int),weight:=wg,draws:=[dr]}).pub c n):=
     ⟨⟨L,css5,M5⟩,N2'.keep fun i hi=>T5.keeps (by have:=HK.o;rcases this with rfl|rfl<;>simp<;>omega),N3'.trans (T5.mono fun i hi=>(show i=k+1 by simpa using hi)▸(by unfold inP;simp))⟩
    have z5:Blk W5 (w.heap.size+1) 57 Tryz.zeroCells57:=(T5.block _ Z4.lt (by rw[G1.o];simp)).trans Z4.o;have k35:=qor K4.o T5 (by rw[G2.o];simp);obtain⟨AL,AM⟩:=zh2 D5 z5;clear D5 z5 M5 T5;have hnb:n<16:=HB.o.2.1;go_wp2_with fail
    exact qry A0 HK (G1.o) (qr5 n W5 zo) (AM.o) (AL.o)
  have hpv:=AE.o;rw[if_neg hok]at hpv;injection hpv with hp1 hp2;subst hp1 hp2;have hdo:qna c s R=(s,rWhy 23):=by
   rw[AB.o];unfold Sta.tenant;rw[A5.o];by_cases h0:0≤tn
   · rw[if_pos h0,List.getElem?_eq_none (by rw[HS.tensn];omega)]
   rw[if_neg h0]
  have A0:=zh1 hdo;clear hdo hok;go_wp2_with fail
  exact qry A0 HK (A2.o) (qr6 23 W2) (Z2.o) (AA.o)
 have qs:(ts==0)=false:=by simp;exact hs0
 have hdo:qna c s R=(s,rWhy 27):=by rw[A9.o,if_pos hs0]
 have A0:=zh1 hdo;clear hdo;go_wp2_with fail
 exact qry A0 HK (A2.o) (qr6 27 W2) (Z2.o) (AA.o)
theorem qsz(w:World)(col:Col)(k:Nat)(t tx ty e:TypeId)(i:TypeInfo)(z:Value)(size bytes:Nat)(ht:P.underlying t=some (.slice e))(hi:P.info? e=some i)(hz:i.zero=some z)
 (hsize:i.size=size)(hby:i.bytes=bytes)(hzs:z.cells.size=size)
 (g c n:Nat)(xs:List Value)(h:TopAt w col k e g c size n xs)(x:Value)(m:Nat)(news:List Value)(hsrc:Src P size tx x m news w)
 (h63:n+m≤maxLen)(hbytes:(n+m)*bytes≤140737488355328):
 ∃g' c' w' col',(Builtin.append_ #[t,tx] ty #[.slice (some ⟨g,0,none⟩) n c,x]).run P w=.ok (.slice (some ⟨g',0,none⟩) (n+m) c') w'∧TopAt w' col' k e g' c' size (n+m) (xs++news)∧Turns (· ==k) w col w' col'∧(Fin_ col w→Fin_ col' w'):=by
 obtain⟨hk,sp,hb,hxl,hn,hm,hsp⟩:=h;have hnl:=hsrc.newsLen;have hr:Row w (.slice (some ⟨g,0,none⟩) n c) e size n xs:=⟨hxl,.inr ⟨g,0,c,xs++sp,rfl,hb,hn,hm,by rw[tA6];omega,by rw[List.drop_zero,←hxl,List.take_left]⟩⟩;rcases qns (P:=P) w t tx ty e i z size bytes ht hi hz hsize hby hzs _ n xs hr x m news hsrc h63 hbytes with⟨-,hv,-⟩|⟨g1,o,c1,cur,hv,hc,hb1,hf,hrun,hrw⟩|⟨c',cs,hc,hm',hl,htk,hrun,hrw⟩
 · cases hv
 ·
  injection hv with e1 e2 e3;injection e1 with e1;injection e1 with e4 e5;subst e3 e4 e5;have hcn:(n+m)*size≤c*size:=Nat.mul_le_mul_right _ hc;rw[Nat.add_mul]at hcn;refine⟨g,c,_,col,hrun,⟨hk,sp.drop news.length,?_,by rw[tA6,hxl,hnl,Nat.add_mul],hc,hm,?_⟩,Turns.setCells news (by simp[hk]),fun hf=>hf.mono (Turns.setCells (p:=(· ==k)) (col:=col) news (by simp[hk])).size⟩
  · have h2:=qno news (0+n*size) w _ hb (by rw[tA6];omega)
    have e9:over (xs++sp) (0+n*size) news=xs++news++sp.drop news.length:=by
     unfold over;rw[Nat.zero_add,←hxl,List.take_left,List.append_assoc,List.drop_append,List.drop_eq_nil_of_le zo];simp
    rwa[e9]at h2
  rw[tA6,tBk];omega
 refine⟨w.heap.size,c',_,col.put w.heap.size k,hrun,⟨Col.put_at ..,cs.drop ((n+m)*size),?_,by rw[tA6,hxl,hnl,Nat.add_mul],hc,hm',?_⟩,?_,fun hf=>hf.put zm zm⟩
 · rw[←htk,List.take_append_drop]
   exact Blk.new w.drew e _
 · have:(xs++news).length=(n+m)*size:=by rw[tA6,hxl,hnl,Nat.add_mul]
   rw[this,tBk,hl];have:=Nat.mul_le_mul_right size hc;omega
 exact⟨rfl,rfl,rfl,by simp,fun b hb _=>Below.heap_alloc w.drew _ b hb,fun b hb=>Col.put_old _ _ hb⟩
theorem qt3(w:World)(s x:Operand)(t tx:TypeId)
 (ho:o.op=.call {callee:=.builtin .append,args:=#[s,x],argTypes:=#[t,tx]})
 (col:Col)(k:Nat)(e:TypeId)(i:TypeInfo)(z:Value)(size bytes:Nat)(ht:P.underlying t=some (.slice e))(hi:P.info? e=some i)(hz:i.zero=some z)
 (hsize:i.size=size)(hby:i.bytes=bytes)(hzs:z.cells.size=size)
 (g c n:Nat)(xs:List Value)(hs:a.eval s=.slice (some ⟨g,0,none⟩) n c)(hrow:TopAt w col k e g c size n xs)(xv:Value)(m:Nat)(news:List Value)(hx:a.eval x=xv)(hsrc:Src P size tx xv m news w)
 (h63:n+m≤maxLen)(hbytes:(n+m)*bytes≤140737488355328)
 (h:∀g' c' w' col',TopAt w' col' k e g' c' size (n+m) (xs++news)→Turns (· ==k) w col w' col'→(Fin_ col w→Fin_ col' w')→K (a.put o.dst (.slice (some ⟨g',0,none⟩) (n+m) c')) w'):o.wp P a w K Q:=by
 obtain⟨g',c',w',col',hrun,h2,h3,h4⟩:=qsz (P:=P) w col k t tx o.type e i z size bytes ht hi hz hsize hby hzs g c n xs hrow xv m news hsrc h63 hbytes;unfold Oper.wp execOp;simp only[ho,resolve,invoke,builtin,Sem.run_bind,Sem.run_pure,Result.andThen_ok,List.map_toArray,List.map_cons,List.map_nil,hs,hx,hrun];exact h g' c' w' col' h2 h3 h4
theorem qt4(l:List Gra)(x:Gra):(l++[x]).flatMap grav=l.flatMap grav++grav x:=by simp
theorem Mdl.graAdd(h:Mdl w col k g c s L css)(hk:Kind k){x:Gra}
 (ha:TopAt w' col' (k+2) 66 g' c' 4 (s.gras.length+1) (s.gras.flatMap grav++grav x))(hT:Turns (· ==k+2) w col w' col')(hf:Fin_ col' w'):
 Mdl (w'.setCell ⟨g,9,none⟩ (.slice (some ⟨g',0,none⟩) (s.gras.length+1) c')) col' k g c {s with gras:=s.gras++[x]} {L with gg:=g',gc:=c'} css:=by
 have keepA:∀i,i≠k+2→KeepsCol i w col w' col':=fun i hi=>hT.keeps (by simpa using hi)
 have own':col' g=1:=(hT.same g h.blk.lt).trans h.own;have blk':Blk w' g 117 (mdlv c s L):=(hT.block g h.blk.lt (by rw[h.own];rcases hk with rfl|rfl<;>rfl)).trans h.blk;have hT2:Turns (· ==1) w' col' (w'.setCell ⟨g,9,none⟩ (.slice (some ⟨g',0,none⟩) (s.gras.length+1) c')) col':=Turns.setCell _ (by simp[own']);have keepB:∀i,i≠1→KeepsCol i w' col' (w'.setCell ⟨g,9,none⟩ (.slice (some ⟨g',0,none⟩) (s.gras.length+1) c')) col':=fun i hi=>hT2.keeps (by simpa using hi)
 have k1:k≠1∧k+1≠1∧k+2≠1:=by rcases hk with rfl|rfl<;>omega
 refine⟨?_,own',⟨tB1 (tB1 h.base.1 hT.size) hT2.size,fun b hb=>(hT.same b (tB0 hb h.base.1)).trans (h.base.2 b hb)⟩,hf.mono hT2.size,(h.seed.keep (keepA 5 (by rcases hk with rfl|rfl<;>omega))).keep (keepB 5 zo),?_⟩
 · have h2:=blk'.set_ 9 (.slice (some ⟨g',0,none⟩) (s.gras.length+1) c')
   have e:(mdlv c s L).setIfInBounds 9 (.slice (some ⟨g',0,none⟩) (s.gras.length+1) c')=mdlv c {s with gras:=s.gras++[x]} {L with gg:=g',gc:=c'}:=by
    unfold mdlv;simp
   rwa[e]at h2
 refine⟨(h.st.tens.keep (keepA k zo)).keep (keepB k k1.1),(h.st.tres.keep (keepA (k+1) zo)).keep (keepB (k+1) k1.2.1),?_,?_⟩
 · have h2:=ha.keep (keepB (k+2) k1.2.2)
   rw[←qt4]at h2;simpa using h2
 exact(h.st.trs.keep fun i hi=>keepA i (by rcases hk with rfl|rfl<;>omega)).keep fun i hi=>keepB i zo
theorem qt5(n:Int)(id:Nat)(a0 a1 a2 a3 a4 a5 a6 a7 a8 a9 a10 a11 a12 a13 a14 a15 a16 a17 a18 a19 a20 a21 a22 a23 a24 a25 a26 a27 a28 a29 a30 a31:Nat):Tryz.prog.built 57 [(1,.int .u64 n),(5,.agg (tokv id (.slice none 0 0) [a0,a1,a2,a3,a4,a5,a6,a7,a8,a9,a10,a11,a12,a13,a14,a15,a16,a17,a18,a19,a20,a21,a22,a23,a24,a25,a26,a27,a28,a29,a30,a31]).toArray)]=some (Value.int .i64 0::.int .u64 n::.slice none 0 0::.slice none 0 0::(hdv Hd.zero++tokv id (.slice none 0 0) [a0,a1,a2,a3,a4,a5,a6,a7,a8,a9,a10,a11,a12,a13,a14,a15,a16,a17,a18,a19,a20,a21,a22,a23,a24,a25,a26,a27,a28,a29,a30,a31])).toArray:=by kernel_rfl
theorem qt6(n:Int)(id:Nat):∀(tag:List Nat),tag.length=32→Tryz.prog.built 57 [(1,.int .u64 n),(5,.agg (tokv id (.slice none 0 0) tag).toArray)]=some (Value.int .i64 0::.int .u64 n::.slice none 0 0::.slice none 0 0::(hdv Hd.zero++tokv id (.slice none 0 0) tag)).toArray
 |[a0,a1,a2,a3,a4,a5,a6,a7,a8,a9,a10,a11,a12,a13,a14,a15,a16,a17,a18,a19,a20,a21,a22,a23,a24,a25,a26,a27,a28,a29,a30,a31],_=>qt5 n id a0 a1 a2 a3 a4 a5 a6 a7 a8 a9 a10 a11 a12 a13 a14 a15 a16 a17 a18 a19 a20 a21 a22 a23 a24 a25 a26 a27 a28 a29 a30 a31
theorem qt7(tn ro:Int)(ex:Nat):Tryz.prog.built 66 [(0,.int .i64 tn),(1,.int .i64 ro),(2,.int .u64 (ex:Int))]=some (grav ⟨tn,ro,ex,false⟩).toArray:=by kernel_rfl
theorem Tryz.gra_info:(Tryz.prog.info? 66).map (fun i=>(i.zero,i.size,i.bytes))=some (some (.agg #[.int .i64 0,.int .i64 0,.int .u64 0,.bool false]),4,32):=by kernel_rfl
theorem qt8(c:Cfg)(s:Sta)(L:Loc)(col:Col)(k g:Nat)(css:List (List Value))(R:Req)(Ac:Option Addr)(cc:Nat)(Al:Option Addr)(cl:Nat)(w:World)(hk:Kind k)(hc:c.Ok)(hs:s.Ok)(h:Mdl w col k g c s L css)
 (hr:Asked w col R Ac cc Al cl)(hT:Tabs w):
 Zc 138 #[.pointer (some ⟨g,0,none⟩),.agg (reqv R (.slice Ac R.cavs.length cc) (.slice Al R.leaf.length cl)).toArray] w fun e w'=>∃v col',e=.returned v∧RspV w' col' w.heap.size v (qne c s R).2∧Did w col w' col' k g c css s (qne c s R).1:=by
 obtain⟨Q,hQ,rlen,rest,W0,hW0,q0,z0,b0⟩:=qrx R Ac cc Al cl w hr.good.tag;rw[hQ];have hG0:=h.fin.none (b:=w.heap.size+1) zo;have D0:=Did.same (css:=css) h b0;obtain⟨H,AE,Q0,Z0,B0,A1,A7,HK⟩:=zh8 h hW0 q0 z0 b0 hG0 D0 hk;obtain⟨HS,HR,RL,A2,HQ⟩:=zh5 hs hr rlen rest hQ;clear h hW0 q0 z0 b0 hG0 D0 hk hs hr rlen rest hQ;obtain⟨HC,TT⟩:=zh2 hc hT;clear hc hT;obtain⟨tn,htn⟩:=xeq R.tenant;obtain⟨ro,hro⟩:=xeq R.role;obtain⟨ex,hex⟩:=xeq R.expires;obtain⟨ng,hng⟩:=xeq s.gras.length;have k36:=(Q0.cell 36).trans (show Q.toArray[36]? =some (.int .i64 tn) by rw[tA3,←htn];exact A2.o 1);have k37:=(Q0.cell 37).trans (show Q.toArray[37]? =some (.int .i64 ro) by rw[tA3,←hro];exact A2.o 2);have k46:=(Q0.cell 46).trans (show Q.toArray[46]? =some (.int .u64 (ex:Int)) by rw[tA3,←hex];exact A2.o 11);have c9:=H.c9;rw[hng]at c9;obtain⟨A9,A8,AA,C9,AG⟩:=zh5 k36 k37 k46 (qai c9 B0.o) (qr7 tn c s L col k g css W0 (H.call B0.o));have gb:ng≤64:=by rw[←hng];exact HS.grasn
 obtain⟨A3,A5,AH,A6⟩:=zh4 htn hro hex hng;rw[AE.o]at k36;clear htn hro hex hng k37 k46 c9;go_enter Tryz.func138,Tryz.ntmps138
 go_wp2_with fail
 rw[←AE.o];refine AG.o.mono ?_;rintro e w' ⟨rfl,rfl⟩;clear k36;have k37:=A8.o;by_cases hrole:ro<1∨4<ro
 ·
  have hdo:qne c s R=(s,rWhy 25):=by unfold qne;rw[if_pos (by rw[A5.o];exact hrole)]
  have A0:=zh1 hdo;clear hdo;by_cases h16:0≤tn∧tn<16
  all_goals
   first|rw[if_pos h16]|rw[if_neg h16]
   clear h16;by_cases h1:ro<1
   · clear hrole
     go_wp2_with fail
     exact qry A0 HK (A1.o) (qr6 25 W0) (Z0.o) (A7.o)
   have h4:4<ro:=zo;clear hrole;go_wp2_with fail
   exact qry A0 HK (A1.o) (qr6 25 W0) (Z0.o) (A7.o)
 have h1:¬ro<1:=zo;have h4:¬4<ro:=zo;have A4:=zh1 hrole;by_cases h16:0≤tn∧tn<16
 ·
  rw[if_pos h16];obtain⟨m,rfl⟩:∃m:Nat,tn=m:=⟨tn.toNat,by omega⟩;rw[tBe];have hm16:m<16:=zo;obtain⟨x,hx⟩:∃x,s.tens[m]? =some x:=⟨_,tA7 (by rw[HS.tensn];omega)⟩;have hten:s.tenant R.tenant=some x:=by unfold Sta.tenant;rw[A3.o,if_pos zo,tBe];exact hx
  have con:w.cell? ⟨L.tg,m*6,none⟩=some (.bool x.on):=H.st.tens.cell ((qo4 hx (by omega:(0:Nat)<6)).trans rfl);have con2:=qai con B0.o;obtain⟨on,hon⟩:=xeq x.on;rw[hon]at con2;clear hrole con;cases on with
  |false=>
   have hdo:qne c s R=(s,rWhy 23):=by
    unfold qne;rw[if_neg (by rw[A5.o];exact A4.o),hten];simp[hon]
   have A0:=zh1 hdo;clear hdo hx hten;go_wp2_with fail
   exact qry A0 HK (A1.o) (qr6 23 W0) (Z0.o) (A7.o)
  |true=>
   have c9:=C9.o;by_cases h64:64≤ng
   ·
    have p1:(64:Int)≤ng:=zo;have hdo:qne c s R=(s,rWhy 4):=by
     unfold qne;rw[if_neg (by rw[A5.o];exact A4.o),hten];simp only[hon];rw[if_neg zm,if_pos (by rw[A6.o];exact h64)]
    have A0:=zh1 hdo;clear hdo hx hten;go_wp2_with fail
    exact qry A0 HK (A1.o) (qr6 4 W0) (Z0.o) (A7.o)
   have p1:¬(64:Int)≤ng:=zo;have hdo:qne c s R=({s with gras:=s.gras++[⟨(m:Int),ro,ex,false⟩]},{qn6 ng with tok:=(ng,[],qke (qmw c.seed) ng)}):=by
    unfold qne;rw[if_neg (by rw[A5.o];exact A4.o),hten];simp only[hon];rw[if_neg zm,if_neg (by rw[A6.o];exact h64),A3.o,A5.o,AH.o,A6.o]
   have A0:=zh1 hdo;clear hdo hx hten;go_upto_region 9 with(fail)
   clear con2 c9 k37;have cW:col w.heap.size=0:=by
    by_cases e:col w.heap.size=0
    · exact e
    have:=H.fin _ e;omega
   obtain⟨CW,BG⟩:=zh2 cW (qt7 (m:Int) ro ex);obtain⟨i0,hi0,hz0,hz1,hz2⟩:=info_parts Tryz.gra_info;clear cW;obtain⟨S,HS9⟩:=zS fun w'=>w'.cell? ⟨g,9,none⟩=some (.slice (some ⟨L.gg,0,none⟩) ng L.gc)∧w'.cell? ⟨w.heap.size,36,none⟩=some (.int .i64 (m:Int))∧w'.cell? ⟨w.heap.size,37,none⟩=some (.int .i64 ro)∧w'.cell? ⟨w.heap.size,46,none⟩=some (.int .u64 (ex:Int))
   refine zrs S 18 (zq 0 13 ((13,true)::(14,true)::zq 15 3 [(18,true)])) ((HS9.o _).mpr (⟨C9.o,A9.o,A8.o,AA.o⟩)) ?_;obtain⟨F0,F1,F2,F3⟩:=zh4 (fun(w':World)(h:S w')=>((HS9.o w').mp h).1) (fun(w':World)(h:S w')=>((HS9.o w').mp h).2.1) (fun(w':World)(h:S w')=>((HS9.o w').mp h).2.2.1) (fun(w':World)(h:S w')=>((HS9.o w').mp h).2.2.2);iterate 12 (refine zr4 ?_)
   refine qbh rfl rfl ⟨.agg (grav ⟨(m:Int),ro,ex,false⟩).toArray,fun w1 hS=>qgr 66 _ rfl _ _ BG.o (by simp[Act.eval]),?_⟩;refine zP ?_;obtain⟨Wd,hWd,BD⟩:=zdr W0;rw[←hWd];clear hWd;refine zw ?_;refine qsh 47 66 (.tmp 63) rfl (grav ⟨(m:Int),ro,ex,false⟩) rfl i0 _ 4 Tryz.underlying47 hi0 hz0 hz1 rfl rfl zdc zdc ?_;obtain⟨wB,hwB⟩:=eqx (Wd.alloc (.cells (grav ⟨(m:Int),ro,ex,false⟩).toArray 66));rw[←hwB];have bB:=zMa hwB;have blB:=zNa hwB;have BB:=zh1 (BD.trans (bB.mono BD.size));have AB:=zh1 (B0.trans (BB.mono B0.size));have hr1:Reads wB wB.heap.size 4 (some ⟨Wd.heap.size,0,none⟩) 1 (grav ⟨(m:Int),ro,ex,false⟩):=⟨rfl,fun _=>⟨_,rfl,blB.lt,fun j u hu=>by rw[Addr.add_mid,blB.cell (0+j)];simpa using hu⟩⟩;clear hwB bB blB;refine⟨fun _=>(HS9.o _).mpr ⟨qai C9.o BB.o,qai A9.o BB.o,qai A8.o BB.o,qai AA.o BB.o⟩,zput ?_⟩;have HB:=H.call AB.o;have htop:=HB.st.gras;rw[A6.o]at htop;refine zw ?_;refine qt3 wB (.tmp 56) (.tmp 64) _ _ rfl col (k+2) 66 i0 _ 4 32 Tryz.underlying47 hi0 hz0 hz1 hz2 rfl L.gg L.gc ng _ rfl htop (.slice (some ⟨Wd.heap.size,0,none⟩) 1 1) 1 (grav ⟨(m:Int),ro,ex,false⟩) rfl (Src.reads wB Tryz.underlying47 hr1 (by simp[grav,Value.oneCell']) zdc) (by simp only[maxLen];omega) zo ?_;intro g9 c9 wC col2 ha hTC hfC;rw[←A6.o]at ha;have N1:=HB.graAdd HK.o (x:=⟨(m:Int),ro,ex,false⟩) ha hTC (hfC HB.fin);have own2:col2 g=1:=(hTC.same g HB.blk.lt).trans H.own;have blkC:Blk wC g 117 (mdlv c s L):=(hTC.block g HB.blk.lt (by rw[H.own];have:=HK.o;rcases this with rfl|rfl<;>rfl)).trans HB.blk;rw[A6.o]at N1;have f9:=blkC.frozen 9;have cg:w.heap.size<wB.heap.size:=by have:=AB.size;have:=Z0.lt;have:=BB.size;omega
   have x9:=qor (qai C9.o BB.o) hTC (by rw[H.own];have:=HK.o;rcases this with rfl|rfl<;>rfl);have x36:=qor (qai A9.o BB.o) hTC (by rw[CW.o];simp);have x37:=qor (qai A8.o BB.o) hTC (by rw[CW.o];simp);have x46:=qor (qai AA.o BB.o) hTC (by rw[CW.o];simp);have T1:Turns (· ==1) wC col2 (wC.setCell ⟨g,9,none⟩ (.slice (some ⟨g9,0,none⟩) (ng+1) c9)) col2:=Turns.setCell _ (by simp[own2]);have AC:Turns (inP k) w col (wC.setCell ⟨g,9,none⟩ (.slice (some ⟨g9,0,none⟩) (ng+1) c9)) col2:=
    ((Turns.of_below (inP k) AB.o).trans (hTC.mono fun i hi=>(show i=k+2 by simpa using hi)▸(by unfold inP;simp))).trans (T1.mono fun i hi=>(show i=1 by simpa using hi)▸rfl)
   have old1:TrsAt (wC.setCell ⟨g,9,none⟩ (.slice (some ⟨g9,0,none⟩) (ng+1) c9)) col2 css s.tres:=
    (HB.st.trs.keep fun i hi=>hTC.keeps (by have:=HK.o;rcases this with rfl|rfl<;>simp<;>omega)).keep fun i hi=>T1.keeps (by simp;omega)
   have D1:Did w col (wC.setCell ⟨g,9,none⟩ (.slice (some ⟨g9,0,none⟩) (ng+1) c9)) col2 k g c css s {s with gras:=s.gras++[⟨(m:Int),ro,ex,false⟩]}:=⟨⟨_,_,N1⟩,old1,AC⟩;have z1:Blk (wC.setCell ⟨g,9,none⟩ (.slice (some ⟨g9,0,none⟩) (ng+1) c9)) (w.heap.size+1) 57 Tryz.zeroCells57:=by
    have z2:=Z0.below BB.o Z0.lt;have z3:=(hTC.block _ z2.lt (by rw[A1.o];simp)).trans z2;exact(T1.block _ (show w.heap.size+1<wC.heap.size from tB0 z2.lt hTC.size) (by rw[(hTC.same _ z2.lt).trans A1.o];rfl)).trans z3
   have g1:col2 (w.heap.size+1)=0:=(hTC.same _ (Z0.below BB.o Z0.lt).lt).trans A1.o;have ttt:=TT.turns AC (qru HK.o) H.base;refine⟨fun _=>(HS9.o _).mpr ⟨x9,x36,x37,x46⟩,zput ?_⟩;iterate 3 (refine zr1 ?_)
   clear x36 x37 x46;refine zw ?_;go_simp;refine qbg ?_;clear HS9 F0 F1 F2 F3 hi0 hz0 hz1 hz2;obtain⟨W4,hW4⟩:=eqx (wC.setCell ⟨g,9,none⟩ (.slice (some ⟨g9,0,none⟩) (ng+1) c9));rw[←hW4]at N1 D1 z1 ttt ⊢;obtain⟨CR,SR,Z4,D4,G4,T4⟩:=zh6 N1.cfgRange N1.seedR z1 D1 g1 ttt;clear hW4 N1 own2 blkC f9 cg x9 T1 AC old1 D1 z1 g1 ttt ha hTC hfC hr1 HB htop;have u1:IntKind.u64.wrap (ng:Int)=(ng:Int):=tBa _ zo;have u2:IntKind.u32.wrap (ng:Int)=(ng:Int):=tBf _ zo;have IC:=zh1 (show (Tryz.prog.info? 25).map (·.size)=some 4 by kernel_rfl);go_wp2_with (refine qaq rfl 25 (.tmp 73) rfl g 0 rfl [.int .i64 c.width,.int .i64 c.quantum,.int .u32 (c.store:Int),.slice L.sa L.sn L.sc] _ CR.o Tryz.underlying25 rfl IC.o ?_)
   refine(qp6 c (.slice L.sa L.sn L.sc) L.sa L.sn L.sc W4 SR.o HC.seedb (by have:=HC.seed;have:=SR.o.1;simp[byv]at this;omega) T4.o).mono ?_;rintro e W5 ⟨rfl,b5⟩;obtain⟨Z5,D5,T5,S5⟩:=zh4 (Z4.below b5 Z4.lt) (D4.call b5) (T4.below b5 T4.size) b5.size;clear b5;go_wp2_with fail
   refine zcb (qkj (qmw c.seed) ng W5 (qkf _ _) (qkg _ _) zo T5.o) fun W6 b6=>?_
   obtain⟨Z6,D6⟩:=zh2 (Z5.below b6 Z5.lt) (D5.call b6);clear b6;have ltg:(qke (qmw c.seed) ng).length=32:=qkf _ _;obtain⟨tg,htg⟩:=xeq (qke (qmw c.seed) ng);rw[htg]at ltg A0 ⊢;obtain⟨X,hX⟩:=eqx (qr1 ({qn6 ng with tok:=(ng,[],tg)}:Rsp));have lX:X.length=106:=by rw[hX];exact qr2 _ Hd.zero_Ok ltg
   have oX:∀u∈X,u.oneCell'=true:=by rw[hX];exact qr3 _
   have bT:Tryz.prog.built 57 [(1,.int .u64 (ng:Int)),(5,.agg (tokv ng (.slice none 0 0) tg).toArray)]=some X.toArray:=by rw[hX];exact qt6 (ng:Int) ng tg ltg
   obtain⟨LX,OX,HX,BT,AF,AD⟩:=zh6 lX oX hX bT (zI 57 lX) qr4;clear lX oX hX bT htg ltg;go_wp2_with (first
    |(refine qbk rfl ⟨.agg X.toArray,qgr 57 _ rfl _ _ BT.o (by simp[Act.eval]),?_⟩)
    |(refine zst Z6.o AF.o (by simp[LX.o,AD.o]) OX.o ?_))
   have z9:=Z6.setRow X.toArray;have AI:=qap z9 0 X zjq;refine zrt AI zu57 AF.o ?_;have dd9:=D6.row0 HK.o X.toArray G4.o zo;have rr9:RspV (W6.setRow (w.heap.size+1) X.toArray) col2 w.heap.size (.agg X.toArray) (qne c s R).2:=by rw[A0.o,HX.o];exact RspV.plain _ _ _ _ rfl rfl rfl
   have dd8:Did w col (W6.setRow (w.heap.size+1) X.toArray) col2 k g c css s (qne c s R).1:=by rw[A0.o];exact dd9
   first
    |exact⟨_,rfl,col2,rr9,dd8⟩
    |exact⟨_,col2,rfl,rr9,dd8⟩
 rw[if_neg h16];have hdo:qne c s R=(s,rWhy 25):=by
  unfold qne;rw[if_neg (by rw[A5.o];exact hrole)];unfold Sta.tenant;rw[A3.o];by_cases h0:0≤tn
  · rw[if_pos h0,List.getElem?_eq_none (by rw[HS.tensn];omega)]
  rw[if_neg h0]
 have A0:=zh1 hdo;clear hdo h16 hrole;go_wp2_with fail
 exact qry A0 HK (A1.o) (qr6 25 W0) (Z0.o) (A7.o)
theorem qt9(c:Cfg)(s:Sta)(L:Loc)(col:Col)(k g:Nat)(css:List (List Value))(n:Nat)(t:Tre)(R:Req)(Ac:Option Addr)(cc:Nat)(Al:Option Addr)(cl:Nat)(w:World)(hk:Kind k)(hs:s.Ok)(h:Mdl w col k g c s L css)
 (hr:Asked w col R Ac cc Al cl)(ht:s.tres[n]? =some t)(hrt:R.tree=(n:Int))(hn0:n≠0)(hop:R.op=8):
 Zc 137 #[.pointer (some ⟨g,0,none⟩),.pointer (some ⟨L.rg,n*75,none⟩),.agg (reqv R (.slice Ac R.cavs.length cc) (.slice Al R.leaf.length cl)).toArray] w fun e w'=>∃v col',e=.returned v∧RspV w' col' w.heap.size v (qnc s R).2∧Did w col w' col' k g c css s (qnc s R).1:=by
 obtain⟨hn16,Ad,cd,Al',cl',Aq,cq,hcs,hcell,hrd,hrl,hrq⟩:=h.st.tree hs ht;obtain⟨Q,hQ,rlen,rest,W0,hW0,q0,z0,b0⟩:=qrx R Ac cc Al cl w hr.good.tag;rw[hQ];have hG0:=h.fin.none (b:=w.heap.size+1) zo;have D0:=Did.same (css:=css) h b0;obtain⟨H,A5,Q0,Z0,B0,A0,A6,HK⟩:=zh8 h hW0 q0 z0 b0 hG0 D0 hk;obtain⟨HS,HR,RL,A2,HQ⟩:=zh5 hs hr rlen rest hQ;clear h hW0 q0 z0 b0 hG0 D0 hk hs hr rlen rest hQ;obtain⟨wg,hwg⟩:=xeq R.weight;have k0:=(Q0.cell 0).trans (show Q.toArray[0]? =some (.int .i64 8) by rw[tA3,←hop,←HQ.o];rfl);have k39:=(Q0.cell 39).trans (show Q.toArray[39]? =some (.int .i64 wg) by rw[tA3,←hwg];exact A2.o 4);obtain⟨K0,A7,HT,A3,A8,A4,E2,E3⟩:=zh8 k0 k39 ht hrt hn0 hwg (qai (hcell 2 (.int .i64 t.weight) rfl) B0.o) (qai (hcell 3 (.int .i64 t.deficit) rfl) B0.o);have k0:=K0.o;rw[A5.o]at k0;clear hrt hn0 hop hwg ht hcs hcell hrd hrl hrq k39;go_enter Tryz.func137,Tryz.ntmps137
 go_upto_region 19 with(fail)
 rw[←A5.o];clear k0;have k39:=A7.o;by_cases hbad:wg<1∨4<wg
 ·
  have hdo:qnc s R=(s,rWhy 25):=by
   unfold qnc;rw[if_neg (by rw[A3.o];have:=A8.o;omega),if_pos (by rw[A4.o];exact hbad)]
  have A1:=zh1 hdo;clear hdo;by_cases h1:wg<1
  · clear hbad
    go_wp2_with fail
    exact qry A1 HK (A0.o) (qr6 25 W0) (Z0.o) (A6.o)
  have h4:4<wg:=zo;clear hbad;go_wp2_with fail
  exact qry A1 HK (A0.o) (qr6 25 W0) (Z0.o) (A6.o)
 have h1:¬wg<1:=zo;have h4:¬4<wg:=zo;obtain⟨m,rfl⟩:∃m:Nat,wg=m:=⟨wg.toNat,by omega⟩;have hm4:m≤4:=zo;have hdo:qnc s R=(s.setT n fun t=>{t with weight:=(m:Int),deficit:=0},qn6 m):=by
  unfold qnc;rw[if_neg (by rw[A3.o];have:=A8.o;omega),if_neg (by rw[A4.o];exact hbad),A4.o,A3.o,tBe,tBe]
 have A1:=zh1 hdo;clear hdo hbad;have H0:=H.call B0.o;have e2:=E2.o;have f2:=H0.st.tres.frozen (n*75+2);have M1:=H0.treOver HK.o HS.o HT.o (j:=2) (cs:=[.int .i64 (m:Int),.int .i64 0]) (f:=fun t=>{t with weight:=(m:Int),deficit:=0}) zm (fun vd vl vq=>by simp[over,trev]) rfl rfl rfl;have T1:Turns (· ==k+1) W0 col (W0.setCells L.rg (n*75+2) [.int .i64 (m:Int),.int .i64 0]) col:=Turns.setCells _ (by simp[H0.st.tres.1]);rw[show W0.setCells L.rg (n*75+2) [.int .i64 (m:Int),.int .i64 0]=(W0.setCell ⟨L.rg,n*75+2,none⟩ (.int .i64 (m:Int))).setCell ⟨L.rg,n*75+3,none⟩ (.int .i64 0) from rfl]at M1 T1;have f3:=(H0.st.tres.set1 (o:=n*75+2) (.int .i64 (m:Int)) (by rw[qnx (H0.st.trs.lens (fun t ht=>(HS.tres t ht).hd)),H0.st.trs.1,HS.tresn];omega)).frozen (n*75+3);have e3:=(World.cell?_setCell_other W0 ⟨L.rg,n*75+2,none⟩ ⟨L.rg,n*75+3,none⟩ (.int .i64 (m:Int)) (by intro e;injection e with e1 e2;omega)).trans E3.o;have cW:col w.heap.size=0:=by
  by_cases e:col w.heap.size=0
  · exact e
  have:=H.fin _ e;omega
 have x39:=qor A7.o T1 (by rw[cW];simp);have z1:Blk ((W0.setCell ⟨L.rg,n*75+2,none⟩ (.int .i64 (m:Int))).setCell ⟨L.rg,n*75+3,none⟩ (.int .i64 0)) (w.heap.size+1) 57 Tryz.zeroCells57:=(T1.block _ Z0.lt (by rw[A0.o];simp)).trans Z0.o;have D1:=Did.turned H.o B0.o T1 (by unfold inP;simp) (by have:=HK.o;rcases this with rfl|rfl<;>omega) M1;obtain⟨A9,AA,AB⟩:=zh3 x39 D1 z1;clear M1 T1 H0 x39 z1 D1 cW;go_upto_region 22 with(fail)
 clear f3 e3 f2 e2 k39;obtain⟨W9,hW9⟩:=eqx ((W0.setCell ⟨L.rg,n*75+2,none⟩ (.int .i64 (m:Int))).setCell ⟨L.rg,n*75+3,none⟩ (.int .i64 0));rw[←hW9]at AA AB A9 ⊢;clear hW9;have k39:=A9.o;go_wp2_with fail
 exact qry A1 HK (A0.o) (qr5 m W9 zo) (AB.o) (AA.o)
theorem Mdl.drawAdd(h:Mdl w col k g c s L css)(hk:Kind k)(hs:s.Ok)(ht:s.tres[n]? =some t)(hcs:css[n]? =some (trev t vd vl vq))
 (ha:AppendedC w col w' col' (10+3*n) vd v' 22 1 t.draws.length 1 (drwv t.draws) [.int .u32 (d:Int)]):
 Mdl (w'.setCell ⟨L.rg,n*75+4,none⟩ v') col' k g c (s.setT n fun t=>{t with draws:=t.draws++[d]}) L (css.modify n fun x=>x.set 4 v')∧TrsAt (w'.setCell ⟨L.rg,n*75+4,none⟩ v') col' css s.tres∧Turns (inP k) w col (w'.setCell ⟨L.rg,n*75+4,none⟩ v') col':=by
 obtain⟨r1,r2,r3⟩:=h.rows ht hcs;have kp:∀i,i≠10+3*n→KeepsCol i w col w' col':=fun i hi=>ha.turns.keeps (by simpa using hi)
 have hrow:=ha.row;rw[show drwv t.draws++[Value.int .u32 (d:Int)]=drwv (t.draws++[d]) by simp[drwv],show t.draws.length+1=(t.draws++[d]).length by simp]at hrow;exact h.treRow hk hs ht hcs (.inl rfl) ha.turns (ha.fin h.fin) _ v' zo
  ⟨vd,vl,vq,rfl,ha.old,r2.keep (kp _ zo) (kp 5 zo),r3.keep (kp _ zo) (kp 5 zo)⟩
  ⟨v',vl,vq,rfl,hrow,r2.keep (kp _ zo) (kp 5 zo),r3.keep (kp _ zo) (kp 5 zo)⟩
theorem Tryz.mrot_info:(Tryz.prog.info? 22).map (fun i=>(i.zero,i.size,i.bytes))=some (some (.int .u32 0),1,4):=by kernel_rfl
theorem qta(c:Cfg)(s:Sta)(L:Loc)(col:Col)(k g:Nat)(css:List (List Value))(n:Nat)(t:Tre)(R:Req)(Ac:Option Addr)(cc:Nat)(Al:Option Addr)(cl:Nat)(w:World)(hk:Kind k)(hc:c.Ok)(hs:s.Ok)(h:Mdl w col k g c s L css)
 (hr:Asked w col R Ac cc Al cl)(hT:Tabs w)(ht:s.tres[n]? =some t)(hrt:R.tree=(n:Int))(hop:R.op=9):
 Zc 137 #[.pointer (some ⟨g,0,none⟩),.pointer (some ⟨L.rg,n*75,none⟩),.agg (reqv R (.slice Ac R.cavs.length cc) (.slice Al R.leaf.length cl)).toArray] w fun e w'=>∃v col',e=.returned v∧RspV w' col' w.heap.size v (qnd c s R t).2∧Did w col w' col' k g c css s (qnd c s R t).1:=by
 obtain⟨hn16,Ad,cd,Al',cl',Aq,cq,hcs,hcell,hrd,hrl,hrq⟩:=h.st.tree hs ht;obtain⟨Q,hQ,rlen,rest,W0,hW0,q0,z0,b0⟩:=qrx R Ac cc Al cl w hr.good.tag;rw[hQ];have hG0:=h.fin.none (b:=w.heap.size+1) zo;have D0:=Did.same (css:=css) h b0;obtain⟨H,A6,Q0,Z0,B0,A1,AH,HK⟩:=zh8 h hW0 q0 z0 b0 hG0 D0 hk;obtain⟨HS,HR,RL,A2,HQ⟩:=zh5 hs hr rlen rest hQ;clear h hW0 q0 z0 b0 hG0 D0 hk hs hr rlen rest hQ;obtain⟨HC,TT,AI⟩:=zh3 hc hT (HS.tre ht);clear hc hT;obtain⟨nd,hnd⟩:=xeq t.draws.length;obtain⟨dr,hdr⟩:=xeq s.draw;have k0:=(Q0.cell 0).trans (show Q.toArray[0]? =some (.int .i64 9) by rw[tA3,←hop,←HQ.o];rfl);have k35:=(Q0.cell 35).trans (show Q.toArray[35]? =some (.int .i64 (n:Int)) by rw[tA3,←hrt];exact A2.o 0);obtain⟨K0,A3,HT,AJ,A0,A7,A8⟩:=zh7 k0 k35 ht hrt hnd hdr hcs;have e4:=qai (hcell 4 (.slice Ad t.draws.length cd) rfl) B0.o;rw[hnd]at e4;have c5:=qai H.c5 B0.o;rw[hdr]at c5;obtain⟨E4,C5⟩:=zh2 e4 c5;have k0:=K0.o;rw[A6.o]at k0;clear hrt hop ht hcs hcell hrd hrl hrq k35 hnd hdr e4 c5;go_enter Tryz.func137,Tryz.ntmps137
 go_upto_region 23 with(fail)
 rw[←A6.o];clear k0;have e4:=E4.o;by_cases hbad:32≤nd
 ·
  have p1:(32:Int)≤nd:=zo;have hdo:qnd c s R t=(s,rWhy 4):=by
   unfold qnd;rw[if_pos (by rw[A0.o];exact hbad)]
  have A4:=zh1 hdo;clear hdo;go_wp2_with fail
  clear e4;exact qry A4 HK (A1.o) (qr6 4 W0) (Z0.o) (AH.o)
 have p1:¬(32:Int)≤nd:=zo;have hdo:qnd c s R t=((s.setT n fun t=>{t with draws:=t.draws++[dr]}).pub c n,qn6 nd):=by
  unfold qnd;rw[if_neg (by rw[A0.o];exact hbad),AJ.o,tBe,A7.o,A0.o]
 have A4:=zh1 hdo;clear hdo;go_upto_region 25 with(fail)
 clear e4;obtain⟨S,HS9⟩:=zS fun w'=>w'.cell? ⟨L.rg,n*75+4,none⟩=some (.slice Ad nd cd)∧w'.cell? ⟨g,5,none⟩=some (.int .u32 (dr:Int))∧w'.cell? ⟨w.heap.size,35,none⟩=some (.int .i64 (n:Int))
 refine zrs S 14 (zq 0 10 [(10,true),(11,true),(12,false),(13,false),(14,true)]) ((HS9.o _).mpr (⟨E4.o,C5.o,A3.o⟩)) ?_;obtain⟨F0,F1⟩:=zh2 (fun(w':World)(h:S w')=>((HS9.o w').mp h).1) (fun(w':World)(h:S w')=>((HS9.o w').mp h).2.1);iterate 10 (refine zr2 ?_)
 obtain⟨Wd,hWd,BD⟩:=zdr W0;rw[←hWd];clear hWd;refine zw ?_;go_simp;obtain⟨wB,hwB⟩:=eqx (Wd.alloc (.cells #[.int .u32 (dr:Int)] 22));rw[←hwB];have bB:=zMa hwB;have blB:=zNa hwB;have BB:=zh1 (BD.trans (bB.mono BD.size));have AA:=zh1 (B0.trans (BB.mono B0.size));have hr1:Reads wB wB.heap.size 1 (some ⟨Wd.heap.size,0,none⟩) 1 [.int .u32 (dr:Int)]:=⟨rfl,fun _=>⟨_,rfl,blB.lt,fun j u hu=>by rw[Addr.add_mid,blB.cell (0+j)];simpa using hu⟩⟩;clear hwB bB blB;refine⟨(HS9.o _).mpr ⟨qai E4.o BB.o,qai C5.o BB.o,qai A3.o BB.o⟩,zput ?_⟩;have HB:=H.call AA.o;have hrow:=(HB.rows HT.o A8.o).1;rw[A0.o]at hrow;obtain⟨i0,hi0,hz0,hz1,hz2⟩:=info_parts Tryz.mrot_info;refine zw ?_;refine qnv wB (.tmp 117) (.tmp 123) _ _ rfl col (10+3*n) 22 i0 _ 1 4 Tryz.underlying71 hi0 hz0 hz1 hz2 rfl (.slice Ad nd cd) nd _ rfl hrow (.slice (some ⟨Wd.heap.size,0,none⟩) 1 1) 1 [.int .u32 (dr:Int)] rfl (Src.reads wB Tryz.underlying71 hr1 (by simp[Value.oneCell']) zdc) (by simp only[maxLen];omega) zo ?_;intro v' wC col2 ap;obtain⟨A9,c9,rfl,-,-,-,-⟩:=ap.row.sl;have ap2:AppendedC wB col wC col2 (10+3*n) (.slice Ad t.draws.length cd) (.slice A9 (nd+1) c9) 22 1 t.draws.length 1 (drwv t.draws) [.int .u32 (dr:Int)]:=by rw[A0.o];exact ap
 obtain⟨N1,N2,N3⟩:=HB.drawAdd HK.o HS.o HT.o A8.o ap2;have colR:col L.rg=k+1:=H.st.tres.1;have cW:col w.heap.size=0:=by
  by_cases e:col w.heap.size=0
  · exact e
  have:=H.fin _ e;omega
 have hkk:=HK.o;have x4:=qor (qai E4.o BB.o) ap.turns (by rw[colR];rcases hkk with rfl|rfl<;>simp<;>omega);have x5:=qor (qai C5.o BB.o) ap.turns (by rw[H.own];simp;omega);have x35:=qor (qai A3.o BB.o) ap.turns (by rw[cW];simp;omega);have f4:=(HB.st.tres.keep (ap.turns.keeps (k:=k+1) (by rcases hkk with rfl|rfl<;>simp<;>omega))).frozen (n*75+4);have zB:=Z0.below BB.o Z0.lt;have g2:col2 (w.heap.size+1)=0:=(ap.turns.same _ zB.lt).trans A1.o;have zC:Blk wC (w.heap.size+1) 57 Tryz.zeroCells57:=(ap.turns.block _ zB.lt (by rw[A1.o];simp;omega)).trans zB;have z9:Blk (wC.setCell ⟨L.rg,n*75+4,none⟩ (.slice A9 (nd+1) c9)) (w.heap.size+1) 57 Tryz.zeroCells57:=zC.far (by intro e;have e':w.heap.size+1=L.rg:=e;rw[←e']at colR;have:=A1.o;omega) _;have cW2:col2 w.heap.size=0:=(ap.turns.same _ (by have:=zB.lt;omega)).trans cW;have cR2:col2 L.rg=k+1:=(ap.turns.same _ (HB.st.tres.lt)).trans colR;have k9:(wC.setCell ⟨L.rg,n*75+4,none⟩ (.slice A9 (nd+1) c9)).cell? ⟨w.heap.size,35,none⟩=some (.int .i64 (n:Int)):=qor (p:=(· ==k+1)) (col:=col2) x35 (Turns.setCell _ (by simp[cR2])) (by rw[cW2];simp);have hto:=AI.o;have sok:(s.setT n fun t=>{t with draws:=t.draws++[dr]}).Ok:=HS.setT (fun y hy o=>by
  rw[HT.o]at hy;injection hy with hy;subst hy;exact⟨o.state,o.tenant,o.weight,o.deficit,fun h=>⟨(o.live h).1,by simp⟩,by simp;have:=A0.o;omega,by
   intro x hx;rcases List.mem_append.1 hx with h|h
   · exact o.drawb x h
   have:=HS.draw;have:=A7.o;simp at h;omega,o.leaves,o.leafb,o.queue,o.queueb,o.hd,o.hdt,o.hde,o.hds⟩) (fun _ y _ h1 h2=>⟨h1,h2⟩)
 have ht2:(s.setT n fun t=>{t with draws:=t.draws++[dr]}).tres[n]? =some {t with draws:=t.draws++[dr]}:=qop _ HT.o;have T9:=(Turns.of_below (inP k) AA.o).trans N3;have AB:=TT.turns T9 (qru HK.o) H.base;obtain⟨AC,AD,AE,A5,AF,AG,AO,AK⟩:=zh8 (qq3 c _ L col2 k g _ n _ _ HK.o HC.o sok N1 ht2 zm AB) N2 T9 z9 k9 g2 cW2 sok;have AL:=zh1 ht2;clear N1 N2 N3 T9 AB z9 k9 g2 cW2 cR2 sok ht2 zC zB cW colR ap ap2 hi0 hz0 hz1 hz2 hr1 hrow HB hkk hto;refine⟨fun _=>(HS9.o _).mpr ⟨x4,x5,x35⟩,zput ?_⟩;iterate 2 (refine zr1 ?_)
 clear x5 x35;refine zw ?_;go_simp;refine qbg ?_;clear HS9 F0 F1 x4 f4;obtain⟨W9,hW9⟩:=eqx (wC.setCell ⟨L.rg,n*75+4,none⟩ (.slice A9 (nd+1) c9));rw[←hW9]at AC AD AE A5 AF ⊢;clear hW9;have k35:=AF.o;go_wp2_with fail
 refine AC.o.mono ?_;rintro e W5 ⟨rfl,⟨css5,M5⟩,T5⟩;have sok2:=AK.pub c (n:=n) hn16;have ht5:((s.setT n fun t=>{t with draws:=t.draws++[dr]}).pub c n).tres[n]? =some _:=qop _ AL.o;obtain⟨-,Ad5,cd5,Al5,cl5,Aq5,cq5,-,hcell5,-,-,-⟩:=M5.st.tree sok2 ht5;have e5:=hcell5 4 (.slice Ad5 (t.draws++[dr]).length cd5) rfl;rw[show (t.draws++[dr]).length=nd+1 by simp[A0.o]]at e5;have D5:Did w col W5 col2 k g c css s ((s.setT n fun t=>{t with draws:=t.draws++[dr]}).pub c n):=
  ⟨⟨L,css5,M5⟩,AD.keep fun i hi=>T5.keeps (by have:=HK.o;rcases this with rfl|rfl<;>simp<;>omega),AE.trans (T5.mono fun i hi=>(show i=k+1 by simpa using hi)▸(by unfold inP;simp))⟩
 have z5:Blk W5 (w.heap.size+1) 57 Tryz.zeroCells57:=(T5.block _ A5.lt (by rw[AG.o];simp)).trans A5.o;obtain⟨AM,AN⟩:=zh2 D5 z5;clear D5 z5 M5 T5 hcell5 ht5 sok2 k35;have v1:wrap64 (((nd+1:Nat):Int) - 1)=(nd:Int):=by rw[IntWalk.wrap64_in _ zo];omega
 have v2:IntKind.i64.wrap (((nd+1:Nat):Int) - 1)=(nd:Int):=by rw[tBb _ zo];omega
 have v3:((nd:Int)+1) - 1=(nd:Int):=zo;go_wp2_with fail
 clear e5;exact qry A4 HK (AG.o) (qr5 nd W5 zo) (AN.o) (AM.o)
theorem qtb {α:Type}{f:α→α}(h:∀x,f x=x):∀(l:List α) (n:Nat),l.modify n f=l
 |[],n=>by simp
 |x::l,0=>by simp[h]
 |x::l,n+1=>by simp[qtb h l n]
theorem Did.step(h:Did w col W col' k g c css s s1)(hT:Turns (inP k) W col' W' col'')(ho:∀i,i=5∨10≤i→KeepsCol i W col' W' col'')(hm:∃L' css',Mdl W' col'' k g c s2 L' css'):Did w col W' col'' k g c css s s2:=
 ⟨hm,h.old.keep ho,h.turns.trans hT⟩
theorem Mdl.state1(h:Mdl w col k g c s L css)(hk:Kind k)(hs:s.Ok)(ht:s.tres[n]? =some t)(x:Int):
 Mdl (w.setCell ⟨L.rg,n*75,none⟩ (.int .i64 x)) col k g c (s.setT n fun t=>{t with state:=x}) L (css.modify n fun cs=>over cs 0 [.int .i64 x]):=
 h.treOver hk hs ht (j:=0) (cs:=[.int .i64 x]) (fun t=>{t with state:=x}) zm (fun vd vl vq=>by simp[over,trev]) rfl rfl rfl
theorem Mdl.deficit1(h:Mdl w col k g c s L css)(hk:Kind k)(hs:s.Ok)(ht:s.tres[n]? =some t)(x:Int):
 Mdl (w.setCell ⟨L.rg,n*75+3,none⟩ (.int .i64 x)) col k g c (s.setT n fun t=>{t with deficit:=x}) L (css.modify n fun cs=>over cs 3 [.int .i64 x]):=
 h.treOver hk hs ht (j:=3) (cs:=[.int .i64 x]) (fun t=>{t with deficit:=x}) zm (fun vd vl vq=>by simp[over,trev]) rfl rfl rfl
theorem Mdl.queueNil(h:Mdl w col k g c s L css)(hk:Kind k)(hs:s.Ok)(ht:s.tres[n]? =some t):
 ∃css',Mdl (w.setCell ⟨L.rg,n*75+6,none⟩ (.slice none 0 0)) col k g c (s.setT n fun t=>{t with queue:=[]}) L css'∧TrsAt (w.setCell ⟨L.rg,n*75+6,none⟩ (.slice none 0 0)) col css s.tres∧Turns (inP k) w col (w.setCell ⟨L.rg,n*75+6,none⟩ (.slice none 0 0)) col:=by
 obtain⟨hn16,Ad,cd,Al,cl,Aq,cq,hcs,-,r1,r2,r3⟩:=h.st.tree hs ht;exact⟨_,h.treRow hk hs ht hcs (.inr (.inr rfl)) (Turns.refl _ w col) h.fin (fun t=>{t with queue:=[]}) (.slice none 0 0) zo ⟨_,_,_,rfl,r1,r2,r3⟩ ⟨_,_,_,rfl,r1,r2,TextsC.nil _ _ _⟩⟩
theorem qtc(c:Cfg)(s:Sta)(L:Loc)(col:Col)(k g:Nat)(css:List (List Value))(n:Nat)(t:Tre)(R:Req)(Ac:Option Addr)(cc:Nat)(Al:Option Addr)(cl:Nat)(w:World)(hk:Kind k)(hs:s.Ok)(h:Mdl w col k g c s L css)
 (hr:Asked w col R Ac cc Al cl)(ht:s.tres[n]? =some t)(hrt:R.tree=(n:Int))(hn0:n≠0)(hop:R.op=7):
 Zc 137 #[.pointer (some ⟨g,0,none⟩),.pointer (some ⟨L.rg,n*75,none⟩),.agg (reqv R (.slice Ac R.cavs.length cc) (.slice Al R.leaf.length cl)).toArray] w fun e w'=>∃v col',e=.returned v∧RspV w' col' w.heap.size v (qnb c s R t).2∧Did w col w' col' k g c css s (qnb c s R t).1:=by
 obtain⟨hn16,Ad,cd,Al',cl',Aq,cq,hcs,hcell,hrd,hrl,hrq⟩:=h.st.tree hs ht;obtain⟨Q,hQ,rlen,rest,W0,hW0,q0,z0,b0⟩:=qrx R Ac cc Al cl w hr.good.tag;rw[hQ];have hG0:=h.fin.none (b:=w.heap.size+1) zo;have D0:=Did.same (css:=css) h b0;obtain⟨H,AQ,Q0,Z0,B0,A3,AV,HK⟩:=zh8 h hW0 q0 z0 b0 hG0 D0 hk;obtain⟨HS,HR,RL,AL,HQ⟩:=zh5 hs hr rlen rest hQ;clear h hW0 q0 z0 b0 hG0 D0 hk hs hr rlen rest hQ;obtain⟨st,hst⟩:=xeq R.state;obtain⟨t0,ht0⟩:=xeq t.state;obtain⟨nq,hnq⟩:=xeq t.queue.length;have k0:=(Q0.cell 0).trans (show Q.toArray[0]? =some (.int .i64 7) by rw[tA3,←hop,←HQ.o];rfl);have k38:=(Q0.cell 38).trans (show Q.toArray[38]? =some (.int .i64 st) by rw[tA3,←hst];exact AL.o 3);obtain⟨K0,AR,HT,AA,AC,A8,AD,A7⟩:=zh8 k0 k38 ht hrt hn0 hst ht0 hnq;have e0:=hcell 0 (.int .i64 t.state) rfl;have e6:=hcell 6 (.slice Aq t.queue.length cq) rfl;rw[ht0,Nat.add_zero]at e0;rw[hnq]at e6;obtain⟨E0,E6,B7⟩:=zh3 (qai e0 B0.o) (qai e6 B0.o) hrq;have k0:=K0.o;rw[AQ.o]at k0;clear hrt hn0 hop hst ht0 hnq ht hcs hcell hrd hrl hrq k38 e0 e6;go_enter Tryz.func137,Tryz.ntmps137
 go_upto_region 3 with(fail)
 rw[←AQ.o];clear k0;obtain⟨S,HS9⟩:=zS fun w'=>Zb W0 w'
 refine zrs S 13 (zq 0 11 [(11,true),(12,false)]) ((HS9.o _).mpr ((tA5 _ _).drew)) ?_;obtain⟨F0,F1,F2⟩:=zh3 (zF HS9 E0.o) (zF HS9 E6.o) (zF HS9 AR.o);iterate 11 (refine zr3 ?_)
 obtain⟨Wd,hWd,BD⟩:=zdr W0;rw[←hWd];clear hWd;refine zw ?_;go_simp;refine(ql8 t0 st (nq:Int) Wd).mono ?_;rintro e w1 ⟨rfl,rfl⟩;refine⟨(HS9.o _).mpr BD.o,zput ?_⟩;iterate 1 (refine zrb ?_)
 refine qbg ?_;clear HS9 F0 F1 F2;obtain⟨Z1,AW⟩:=zh2 (Z0.below BD.o Z0.lt) (AV.call BD.o);obtain⟨mb,hmb⟩:=xeq (mayB t0 st (nq:Int));rw[hmb];cases mb with
 |false=>
  have hdo:qnb c s R t=(s,rWhy 24):=by
   unfold qnb;rw[if_pos (.inr (by rw[AD.o,A8.o,A7.o,hmb];rfl))]
  have A4:=zh1 hdo;clear hdo hmb;go_wp2_with fail
  exact qry A4 HK (A3.o) (qr6 24 Wd) (Z1.o) (AW.o)
 |true=>
  have hst:st=1∨st=2∨st=3∨st=4:=by
   unfold mayB at hmb;split at hmb
   · simp at hmb;omega
   split at hmb
   · simp at hmb;omega
   split at hmb
   · simp at hmb;omega
   cases hmb
  have H1:=H.call (B0.trans (BD.mono B0.size));have e0:=qai E0.o BD.o;have f0:=H1.st.tres.frozen (n*75);have k38:=qai AR.o BD.o;have M2:=H1.state1 HK.o HS.o HT.o st;have T2:Turns (· ==k+1) Wd col (Wd.setCell ⟨L.rg,n*75,none⟩ (.int .i64 st)) col:=Turns.setCell _ (by simp[H1.st.tres.1]);obtain⟨A5,AG,AH⟩:=zh3 M2 T2 hmb;clear hmb M2 T2 H1;go_upto_region 6 with(fail)
  obtain⟨W2,hW2⟩:=eqx (Wd.setCell ⟨L.rg,n*75,none⟩ (.int .i64 st));rw[←hW2]at A5 AG ⊢;clear hW2 e0 f0;have cW:col w.heap.size=0:=by
   by_cases e:col w.heap.size=0
   · exact e
   have:=H.fin _ e;omega
  have sok2:(s.setT n fun t=>{t with state:=st}).Ok:=HS.setT (fun y hy o=>by
   rw[HT.o]at hy;injection hy with hy;subst hy;exact {o with state:=by show 0≤st∧st≤4;omega,live:=fun _=>o.live (by intro e;rw[AD.o]at e;subst e;have h:=AH.o;unfold mayB at h;simp at h)}) (fun e=>absurd e AC.o)
  have ht2:(s.setT n fun t=>{t with state:=st}).tres[n]? =some {t with state:=st}:=qop _ HT.o;have x38:W2.cell? ⟨w.heap.size,38,none⟩=some (.int .i64 st):=qor k38 AG.o (by rw[cW];simp);have z2:Blk W2 (w.heap.size+1) 57 Tryz.zeroCells57:=(AG.block _ Z1.lt (by rw[A3.o];simp)).trans Z1.o;have dd2:Did w col W2 col k g c css s (s.setT n fun t=>{t with state:=st}):=Did.turned H.o (B0.trans (BD.mono B0.size)) AG.o (by unfold inP;simp) (by have:=HK.o;rcases this with rfl|rfl<;>omega) A5.o;have hto:=HS.tre HT.o;obtain⟨A6,A2,AM,Z2,AI,AJ,AK⟩:=zh7 sok2 ht2 x38 z2 dd2 hto cW;clear sok2 ht2 x38 z2 dd2 hto cW k38;have k38:=AM.o;have plain:∀m:Nat,st=m→m≠4→m≠2→qnb c s R t=(s.setT n (fun t=>{t with state:=st}),qn6 m):=by
   intro m hm h4 h2;unfold qnb;rw[if_neg (by rw[AD.o,A8.o,A7.o,AH.o,AA.o];simp;exact AC.o),A8.o,AA.o,tBe];simp only[show ¬st=4 by omega,show ¬st=2 by omega,if_false,or_self];rw[show st.toNat=m by omega]
  rcases hst with rfl|rfl|rfl|rfl
  · have A4:=zh1 (plain 1 rfl zdc zdc)
    clear plain;go_wp2_with fail
    exact qry A4 HK (A3.o) (qr5 1 W2 zo) (Z2.o) (AI.o)
  ·
   clear plain;have hdo:qnb c s R t=((s.setT n (fun t=>{t with state:=2})).setT n (fun t=>{t with deficit:=0}),qn6 2):=by
    unfold qnb;rw[if_neg (by rw[AD.o,A8.o,A7.o,AH.o,AA.o];simp;exact AC.o),A8.o,AA.o,tBe];simp only[show ¬(2:Int)=4 by decide,if_false,false_or,if_true];unfold Sta.setT;rw[qse];rfl
   have A4:=zh1 hdo;clear hdo;obtain⟨-,Ad2,cd2,Al2,cl2,Aq2,cq2,hcs2,hcell2,-,-,-⟩:=A5.st.tree A6.o A2.o;have e3:=hcell2 3 (.int .i64 t.deficit) rfl;have f3:=A5.st.tres.frozen (n*75+3);have M3:=A5.deficit1 HK.o A6.o A2.o 0;have T3:Turns (· ==k+1) W2 col (W2.setCell ⟨L.rg,n*75+3,none⟩ (.int .i64 0)) col:=Turns.setCell _ (by simp[A5.st.tres.1]);have z3:Blk (W2.setCell ⟨L.rg,n*75+3,none⟩ (.int .i64 0)) (w.heap.size+1) 57 Tryz.zeroCells57:=(T3.block _ Z2.lt (by rw[A3.o];simp)).trans Z2.o;have x3:=qor AM.o T3 (by rw[AK.o];simp);have D3:=AI.step (T3.mono (q:=inP k) fun i hi=>(show i=k+1 by simpa using hi)▸(by unfold inP;simp)) (fun i hi=>T3.keeps (by have:=HK.o;rcases this with rfl|rfl<;>simp<;>omega)) ⟨_,_,M3⟩;obtain⟨Z3,X3,AS⟩:=zh3 z3 x3 D3;clear M3 T3 z3 x3 D3 hcell2 hcs2;go_upto_region 17 with(fail)
   clear e3 f3 k38;obtain⟨W9,hW9⟩:=eqx (W2.setCell ⟨L.rg,n*75+3,none⟩ (.int .i64 0));rw[←hW9]at Z3 X3 AS ⊢;clear hW9;have k38:=X3.o;go_wp2_with fail
   exact qry A4 HK (A3.o) (qr5 2 W9 zo) (Z3.o) (AS.o)
  · have A4:=zh1 (plain 3 rfl zdc zdc)
    clear plain;go_wp2_with fail
    exact qry A4 HK (A3.o) (qr5 3 W2 zo) (Z2.o) (AI.o)
  clear plain;obtain⟨tn,htn⟩:∃m:Nat,t.tenant=m:=⟨t.tenant.toNat,by have:=AJ.tenant;omega⟩;have tn16:tn<16:=by have:=AJ.tenant;omega
  obtain⟨x,hx⟩:∃x,s.tens[tn]? =some x:=⟨_,tA7 (by rw[HS.tensn];exact tn16)⟩;have hxo:=HS.ten hx;have hdo:qnb c s R t=(((((s.setT n (fun t=>{t with state:=4})).setX tn fun x=>{x with used:=x.used - qmy t.queue}).setT n fun t=>{t with queue:=[]}).setT n fun t=>{t with deficit:=0}),qn6 4):=by
   unfold qnb;rw[if_neg (by rw[AD.o,A8.o,A7.o,AH.o,AA.o];simp;exact AC.o),A8.o,AA.o,htn,tBe,tBe];simp only[if_true,true_or];unfold Sta.setT Sta.setX;simp only;rw[qse,qse];rfl
  obtain⟨A4,HX,AX,B8⟩:=zh4 hdo hx hxo htn;clear hdo hx hxo;obtain⟨-,Ad2,cd2,Al2,cl2,Aq2,cq2,hcs2,hcell2,-,-,-⟩:=A5.st.tree A6.o A2.o;have e1:=hcell2 1 (.int .i64 t.tenant) rfl;have e6:=hcell2 6 (.slice Aq2 t.queue.length cq2) rfl;rw[htn]at e1;rw[A7.o]at e6;have c7:=A5.c7;obtain⟨AE,E1,E6,C7⟩:=zh4 hcs2 e1 e6 c7;clear hcs2 hcell2 e1 e6 c7 htn;obtain⟨css2,hc2⟩:=xeq (css.modify n fun cs=>over cs 0 [.int .i64 4]);rw[hc2]at A5 AE;clear hc2;have qt0:(0:Int)≤tn:=zo;have qt1:(tn:Int)<16:=zo;go_upto_region 9 with(fail)
  obtain⟨S,HS9⟩:=zS fun w'=>Zb W2 w'
  refine zrs S 11 (zq 0 11 []) ((HS9.o _).mpr ((tA5 _ _).drew)) ?_;obtain⟨F0,F1⟩:=zh2 (zF HS9 C7.o) (zF HS9 E1.o);iterate 11 (refine zr2 ?_)
  refine qbg ?_;clear HS9 F0 F1;obtain⟨W3,hW3,AN⟩:=zdr W2;rw[←hW3];clear hW3;have e6:=qai E6.o AN.o;have AO:=zh1 (show nq≤64 by have:=AJ.queue;rw[A7.o]at this;exact this);clear k38;go_wp2_with fail
  clear e6;go_loopw [54] (fun i wr=>∃j:Nat,j≤nq∧i=.int .i64 j∧Hid (Mdl wr col k g c ((s.setT n fun t=>{t with state:=4}).setX tn fun x=>{x with used:=x.used - qmy (t.queue.take j)}) L css2∧Turns (· ==k) W3 col wr col)) (fun i _=>nq - (intOf i).toNat)
  case atStart=>
   refine⟨0,by omega,rfl,?_⟩;have e0:((s.setT n fun t=>{t with state:=4}).setX tn fun x=>{x with used:=x.used - qmy (t.queue.take 0)})=s.setT n fun t=>{t with state:=4}:=by
    unfold Sta.setX;rw[qtb (fun x=>by simp[qmy])]
   show Mdl _ _ _ _ _ _ _ _∧_;rw[e0];exact⟨A5.call AN.o,Turns.refl _ _ _⟩
  case round=>
   obtain⟨j,hj,rfl,hl⟩:=hrel;have hx':((s.setT n fun t=>{t with state:=4}).setX tn fun x=>{x with used:=x.used - qmy (t.queue.take j)}).tens[tn]? =some {x with used:=x.used - qmy (t.queue.take j)}:=qop _ HX.o;have sokj:((s.setT n fun t=>{t with state:=4}).setX tn fun x=>{x with used:=x.used - qmy (t.queue.take j)}).Ok:=A6.setX fun y _ o=>{o with used:=by have:=o.used;show y.used - _<_;omega}
   obtain⟨-,-,r3⟩:=hl.o.1.rows (t:={t with state:=4}) A2.o AE.o;obtain⟨A1,k1,e1,a1,a2,a3⟩:=r3.reads;injection e1 with e11 e12 e13;subst e11 e13;dsimp only at a1 a3;rw[A7.o]at a1 a3;obtain⟨AP,A0,AY⟩:=zh3 hx' sokj a3;have qj0:(0:Int)≤j:=zo;clear hx' sokj a3 r3 e12;by_cases hjn:j<nq
   ·
    have qj:(j:Int)<nq:=zo;obtain⟨g0,o0,bs,A',n',c',rfl,-,hi,hc,-,-,h5⟩:=AY.at_ hjn;have hst:=qrf hi;have hbl:=(AJ.queueb bs (tB2 hi)).1;rw[qb5 h5]at hst hbl;have hub:=AX.used;obtain⟨u,hu⟩:=xeq (x.used - qmy (t.queue.take j));have hu1:x.used - qmy (t.queue.take (j+1))=u - (n'+16):=zo;have ub:u<4294967296:=zo;have c5:wr.cell? ⟨L.tg,tn*6+5,none⟩=some (.int .u32 (u:Int)):=hl.o.1.st.tens.cell ((qo4 AP.o zo).trans (by rw[hu];rfl));obtain⟨C5,AZ,HU⟩:=zh3 c5 hu1 hu;have p1:IntKind.u32.wrap (n':Int)=(n':Int):=tBf _ zo;have p2:IntKind.u32.wrap ((n':Int)+16)=(n':Int)+16:=tBf _ zo;clear hst h5 hub hu1 c5 hi hu;have B9:=zh1 hc;go_upto_region 13 with(fail)
    clear hc;obtain⟨S,HS9⟩:=zS fun w'=>Zb wr w'
    refine zrs S 16 (zq 0 16 [(16,true)]) ((HS9.o _).mpr ((tA5 _ _).drew)) ?_;have F0:=zh1 (zF HS9 C5.o);obtain⟨v,hv,hvu⟩:∃v:Nat,v=u - (n'+16)∧v≤u:=⟨_,rfl,by omega⟩;have M4:=fun(w':World)(hb:Zb wr w')=>(hl.o.1.call hb).tenOver HK.o A0.o AP.o (j:=5) (cs:=[.int .u32 (v:Int)]) (fun x=>{x with used:=v}) zm (by simp[over,tenv])
    have e4:(((s.setT n fun t=>{t with state:=4}).setX tn fun x=>{x with used:=x.used - qmy (t.queue.take j)}).setX tn fun x=>{x with used:=v})=(s.setT n fun t=>{t with state:=4}).setX tn fun x=>{x with used:=x.used - qmy (t.queue.take (j+1))}:=by
     unfold Sta.setX;dsimp only;rw[qse];rw[qrz (f:=fun y:Ten=>{y with used:=v}) (g:=fun x=>{x with used:=x.used - qmy (t.queue.take (j+1))}) fun y hy=>by
      have h0:s.tens[tn]? =some y:=hy;rw[HX.o]at h0;injection h0 with h0;subst h0;rw[AZ.o,hv]]
    rw[e4]at M4;obtain⟨A9,FZ,TG,B1⟩:=zh4 M4 (fun(w':World)(hb:Zb wr w')=>(hl.o.1.call hb).st.tens.frozen (tn*6+5)) (show col L.tg=k from hl.o.1.st.tens.1) hl.o.2;clear M4 e4 hl;have wv:(u:Int) - min (u:Int) ((n':Int)+16)=(v:Int):=zo;have wv2:IntKind.u32.wrap ((u:Int) - min (u:Int) ((n':Int)+16))=(v:Int):=by rw[tBf _ zo];omega
    have HV:=zh1 hv;clear hv hvu;iterate 16 (refine zr1 ?_)
    obtain⟨W4,hW4,B4⟩:=zdr wr;rw[←hW4];clear hW4;have c5:=qai C5.o B4.o;have f5:=FZ.o W4 B4.o;have M5:=A9.o W4 B4.o;rw[show W4.setCells L.tg (tn*6+5) [.int .u32 (v:Int)]=W4.setCell ⟨L.tg,tn*6+5,none⟩ (.int .u32 (v:Int)) from rfl]at M5;have T5:Turns (· ==k) W3 col (W4.setCell ⟨L.tg,tn*6+5,none⟩ (.int .u32 (v:Int))) col:=(B1.trans (Turns.of_below _ B4.o)).trans (Turns.setCell _ (by simp[TG.o]));obtain⟨B2,B3⟩:=zh2 M5 T5;clear M5 T5;refine zw ?_;go_simp;refine qbg ?_;clear HS9 F0 c5 f5;have hnb:=AO.o;go_wp2
    go_roundw
    case rel=>exact⟨j+1,by omega,by go_num,zh1 ⟨B2.o,B3.o⟩⟩
    case measure=>simp[intOf];omega
   have qj:¬(j:Int)<nq:=zo;obtain rfl:j=nq:=zo;have htk:t.queue.take j=t.queue:=tB5 (by have:=A7.o;omega);rw[htk]at hl A0 AP;obtain⟨AB,B5⟩:=zh2 hl.o.1 hl.o.2;clear htk hl;obtain⟨s3,hs3⟩:=xeq ((s.setT n fun t=>{t with state:=4}).setX tn fun x=>{x with used:=x.used - qmy t.queue});rw[hs3]at AB A0 A4;have ht3:s3.tres[n]? =some {t with state:=4}:=by rw[←hs3];exact A2.o
   have AF:Turns (· ==k) W2 col wr col:=(Turns.of_below _ AN.o).trans B5.o;have D3:=AI.step (AF.mono (q:=inP k) fun i hi=>(show i=k by simpa using hi)▸(by unfold inP;simp)) (fun i hi=>AF.keeps (by have:=HK.o;rcases this with rfl|rfl<;>simp<;>omega)) ⟨_,_,AB.o⟩;have z3:Blk wr (w.heap.size+1) 57 Tryz.zeroCells57:=(AF.block _ Z2.lt (by rw[A3.o];have:=HK.o;rcases this with rfl|rfl<;>rfl)).trans Z2.o;have x3:=qor AM.o AF (by rw[AK.o];have:=HK.o;rcases this with rfl|rfl<;>rfl);obtain⟨-,Ad3,cd3,Al3,cl3,Aq3,cq3,-,hcell3,-,-,-⟩:=AB.st.tree A0.o ht3;have e6:=hcell3 6 (.slice Aq3 t.queue.length cq3) rfl;have f6:=AB.st.tres.frozen (n*75+6);obtain⟨css4,M4,-,-⟩:=AB.queueNil HK.o A0.o ht3;have T4:Turns (· ==k+1) wr col (wr.setCell ⟨L.rg,n*75+6,none⟩ (.slice none 0 0)) col:=Turns.setCell _ (by simp[AB.st.tres.1]);have D4:=D3.step (T4.mono (q:=inP k) fun i hi=>(show i=k+1 by simpa using hi)▸(by unfold inP;simp)) (fun i hi=>T4.keeps (by have:=HK.o;rcases this with rfl|rfl<;>simp<;>omega)) ⟨_,_,M4⟩;have z4:Blk (wr.setCell ⟨L.rg,n*75+6,none⟩ (.slice none 0 0)) (w.heap.size+1) 57 Tryz.zeroCells57:=(T4.block _ z3.lt (by rw[A3.o];simp)).trans z3;have x4:=qor x3 T4 (by rw[AK.o];simp);obtain⟨A9,AT,Z4,X4,B6,BA⟩:=zh6 M4 D4 z4 x4 ht3 hs3;clear M4 D4 z4 x4 D3 z3 x3 AF T4 hcell3 ht3 hs3;go_upto_region 16 with(fail)
   obtain⟨W6,hW6⟩:=eqx (wr.setCell ⟨L.rg,n*75+6,none⟩ (.slice none 0 0));rw[←hW6]at A9 AT Z4 X4 ⊢;clear hW6 e6 f6;have sok4:(s3.setT n fun t=>{t with queue:=[]}).Ok:=A0.setT (fun y hy o=>{o with leaves:=by have:=o.leaves;dsimp only;simp;omega,queue:=by simp,queueb:=fun b hb=>(nomatch hb)}) (fun e=>absurd e AC.o);have ht4:(s3.setT n fun t=>{t with queue:=[]}).tres[n]? =some {({t with state:=4}:Tre) with queue:=[]}:=qop _ B6.o;obtain⟨-,Ad4,cd4,Al4,cl4,Aq4,cq4,-,hcell4,-,-,-⟩:=A9.st.tree sok4 ht4;have e3:=hcell4 3 (.int .i64 t.deficit) rfl;have f3:=A9.st.tres.frozen (n*75+3);have M5:=A9.deficit1 HK.o sok4 ht4 0;have T5:Turns (· ==k+1) W6 col (W6.setCell ⟨L.rg,n*75+3,none⟩ (.int .i64 0)) col:=Turns.setCell _ (by simp[A9.st.tres.1]);have D5:=AT.step (T5.mono (q:=inP k) fun i hi=>(show i=k+1 by simpa using hi)▸(by unfold inP;simp)) (fun i hi=>T5.keeps (by have:=HK.o;rcases this with rfl|rfl<;>simp<;>omega)) ⟨_,_,M5⟩;have z5:Blk (W6.setCell ⟨L.rg,n*75+3,none⟩ (.int .i64 0)) (w.heap.size+1) 57 Tryz.zeroCells57:=(T5.block _ Z4.lt (by rw[A3.o];simp)).trans Z4.o;have x5:=qor X4.o T5 (by rw[AK.o];simp);obtain⟨AU,Z5,X5⟩:=zh3 D5 z5 x5;clear M5 D5 z5 x5 T5 sok4 ht4 hcell4;go_upto_region 17 with(fail)
   clear e3 f3;obtain⟨W9,hW9⟩:=eqx (W6.setCell ⟨L.rg,n*75+3,none⟩ (.int .i64 0));rw[←hW9]at AU Z5 X5 ⊢;clear hW9;have k38:=X5.o;go_wp2_with fail
   exact qry A4 HK (A3.o) (qr5 4 W9 zo) (Z5.o) (AU.o)
def qtd (c:Cfg)(s:Sta)(R:Req):Bool:=
 match s.gras[R.tid]? with
 |none=>false
 |some g=>qkr (qmw c.seed) (R.tid,R.cavs,R.tag)&&(!g.revoked&&(decide (s.clock<g.expires)&&qkz R.op (if qdm R.op then R.tree else 0) s.clock R.cavs))
theorem qte:Tryz.prog.built 66 []=some (grav ⟨0,0,0,false⟩).toArray:=by kernel_rfl
theorem qtf{y:Gra}(hy:s.gras[R.tid]? =some y)(h:y.revoked=true):qtd c s R=false:=by
 unfold qtd;rw[hy];simp[h]
theorem qtg{y:Gra}(hy:s.gras[R.tid]? =some y)(h:¬s.clock<y.expires):qtd c s R=false:=by
 unfold qtd;rw[hy];simp[h]
theorem qth{y:Gra}(hc:s.clock=clk)(hy:s.gras[R.tid]? =some y)(hg:qkr (qmw c.seed) (R.tid,R.cavs,R.tag)=true)(h:y.revoked=false)(he:s.clock<y.expires)(ht:(if qdm R.op then R.tree else 0)=tr):qtd c s R=qkz R.op tr clk R.cavs:=by
 subst hc;unfold qtd;rw[hy,ht];simp[h,hg,he]
theorem qti(hg:qkr (qmw c.seed) (R.tid,R.cavs,R.tag)=false):qtd c s R=false:=by
 unfold qtd;cases s.gras[R.tid]? with
 |none=>rfl
 |some y=>simp[hg]
theorem qtj(c:Cfg)(s:Sta)(L:Loc)(col:Col)(k g:Nat)(css:List (List Value))(R:Req)(Ac:Option Addr)(cc:Nat)(Al:Option Addr)(cl:Nat)(w:World)(hk:Kind k)(hc:c.Ok)(hs:s.Ok)(h:Mdl w col k g c s L css)
 (hr:Asked w col R Ac cc Al cl)(hT:Tabs w)(h4:R.cavs.length≤4):
 Zc 125 #[.pointer (some ⟨g,0,none⟩),.agg (reqv R (.slice Ac R.cavs.length cc) (.slice Al R.leaf.length cl)).toArray] w fun e w'=>∃y:Gra,e=.returned (.tuple #[.agg #[.int .i64 y.tenant,.int .i64 y.role,.int .u64 (y.expires:Int),.bool y.revoked],.bool (qtd c s R)])∧(qtd c s R=true→s.gras[R.tid]? =some y)∧Below w.heap.size w w':=by
 have rlen:=qjd R (.slice Ac R.cavs.length cc) (.slice Al R.leaf.length cl) hr.good.tag;have rest:=qdl R (.slice Ac R.cavs.length cc) (.slice Al R.leaf.length cl) hr.good.tag;have rtok:=qje R (.slice Ac R.cavs.length cc) (.slice Al R.leaf.length cl);obtain⟨Q,hQ⟩:=xeq (reqv R (.slice Ac R.cavs.length cc) (.slice Al R.leaf.length cl));rw[hQ]at rlen rest rtok ⊢;obtain⟨W0,hW0⟩:=eqx ((w.alloc (.cells Q.toArray 34)).alloc (.cells #[.int .i64 0,.int .i64 0,.int .u64 0,.bool false] 66));have q0:=zNb hW0;have z0:=zNc hW0;have b0:=zMb hW0;obtain⟨ti,hti⟩:=xeq R.tid;have tb:ti<4294967296:=by rw[←hti];exact hr.good.tid
 obtain⟨ng,hng⟩:=xeq s.gras.length;have gb:ng≤64:=by rw[←hng];exact hs.grasn
 have c9:=h.c9;rw[hng]at c9;have k1:W0.cell? ⟨w.heap.size,1,none⟩=some (.int .u32 (ti:Int)):=(q0.cell 1).trans (by rw[tA3,←hti];exact rtok 0 _ rfl);have k35:W0.cell? ⟨w.heap.size,35,none⟩=some (.int .i64 R.tree):=(q0.cell 35).trans (by rw[tA3];exact rest 0);have kop:Q.toArray[0]? =some (.int .i64 R.op):=by rw[tA3,←hQ];rfl
 have htk:Tok.Ok (R.tid,R.cavs,R.tag):=⟨hr.good.tid,hr.good.cavn,hr.good.tag,hr.good.tagb⟩;obtain⟨H,AO,Q0,Z0,B0,HK,HC,HS⟩:=zh8 h hW0 q0 z0 b0 hk hc hs;obtain⟨HR,RL,HQ,TT,AB,K1,AP,AC⟩:=zh8 hr rlen hQ hT h4 k1 k35 kop;obtain⟨C9,AD,AE,AF,AG,CI⟩:=zh6 (qai c9 b0) hti hng htk (show (Tryz.prog.info? 31).map (·.size)=some (tokv R.tid (.slice Ac R.cavs.length cc) R.tag).length by rw[qdg _ _ _ hr.good.tag];kernel_rfl) (show (Tryz.prog.info? 25).map (·.size)=some 4 by kernel_rfl);clear h hW0 q0 z0 b0 hk hc hs hr rlen rest rtok hQ hT h4 k1 k35 kop hti hng htk c9;have u1:IntKind.u64.wrap (ti:Int)=(ti:Int):=tBa _ zo;have u2:IntKind.u64.wrap (ng:Int)=(ng:Int):=tBa _ zo;go_enter Tryz.func125,Tryz.ntmps125
 go_upto_region 1 with(fail)
 rw[←AO.o];obtain⟨gn,hgn⟩:=xeq (qkr (qmw c.seed) (R.tid,R.cavs,R.tag));have A9:=zh1 hgn;clear hgn;go_cut [30] (fun s30 wx=>∃b:Bool,s30=.bool b∧Hid (Below W0.heap.size W0 wx)∧Hid (b=true→qtd c s R=false)∧Hid (b=false→gn=true∧ti<ng))
 case first=>
  obtain⟨S,HS9⟩:=zS fun w'=>Below W0.heap.size W0 w'
  refine zrs S 23 (zq 0 17 [(18,false),(19,false),(17,true),(20,true),(21,false),(22,false)]) ((HS9.o _).mpr ((tA5 _ _).drew)) ?_;obtain⟨F0,F1,FC,FT⟩:=zh4 (zF HS9 K1.o) (zF HS9 C9.o) (fun(w':World)(h:S w')=>((H.call B0.o).call ((HS9.o w').mp h)).cfgRange) (fun(w':World)(h:S w')=>qap (l:=Q) (Q0.below ((HS9.o w').mp h) Q0.lt) 1 (tokv R.tid (.slice Ac R.cavs.length cc) R.tag) (fun j u hu=>by rw[←HQ.o];exact qje R _ _ j u hu));by_cases hge:ng≤ti
  ·
   have p1:(ng:Int)≤ti:=zo;have hno:qtd c s R=false:=by
    unfold qtd;rw[AD.o,List.getElem?_eq_none (by rw[AE.o];exact hge)]
   have A6:=zh1 hno;clear hno hge;iterate 19 (first|refine zsk ?_|refine zr2 ?_)
   refine qrt rfl rfl ⟨(HS9.o _).mpr (tA5 _ _).drew,?_⟩;refine zP ?_;refine qrt rfl rfl ⟨(HS9.o _).mpr (tA5 _ _).drew,?_⟩;refine zP ?_;iterate 2 (first|refine zsk ?_|refine zrb ?_)
   refine qbg ?_;clear HS9 F0 F1 FC FT u1 u2;refine Met.intro ?_;go_step
   go_meet
   case rel=>exact⟨true,rfl,(tA5 _ _).drew,fun _=>A6.o,fun h=>by cases h⟩
  have p1:¬(ng:Int)≤ti:=zo;have plt:ti<ng:=zo;have plt2:(ti:Int)<ng:=zo;have q0:(0:Int)≤ti:=zo;clear hge;iterate 16 (refine zr2 ?_)
  refine qos rfl rfl 25 (.tmp 23) rfl g 0 rfl _ _ FC.o Tryz.underlying25 rfl CI.o ?_;refine zP ?_;iterate 1 (refine zrb ?_)
  refine qos rfl rfl 31 (.tmp 26) rfl w.heap.size 1 rfl (tokv R.tid (.slice Ac R.cavs.length cc) R.tag) _ FT.o Tryz.underlying31 rfl AG.o ?_;refine zP ?_;obtain⟨Wd,hWd,BD⟩:=zdr W0;rw[←hWd];clear hWd;have AH:=zh1 (B0.trans (BD.mono B0.size));refine zw ?_;go_simp;refine(qp6 c (.slice L.sa L.sn L.sc) L.sa L.sn L.sc Wd (H.call AH.o).seedR HC.seedb (by have:=HC.seed;have:=(H.seedR).1;simp[byv]at this;omega) (TT.below AH.o TT.size)).mono ?_;rintro e w1 ⟨rfl,b1⟩;have B1:=zh1 (BD.trans (b1.mono BD.size));clear b1;have AI:=zh1 (B0.trans (B1.mono B0.size));refine⟨(HS9.o _).mpr B1.o,zput ?_⟩;refine zw ?_;go_simp;refine(qkx (qmw c.seed) (R.tid,R.cavs,R.tag) Ac R.cavs.length cc w1 (qkf _ _) (qkg _ _) (HR.cavs.call AI.o) HR.cavc (by have:=AB.o;omega) AF.o (TT.below AI.o TT.size)).mono ?_;rintro e w2 ⟨rfl,b2⟩;rw[A9.o];have B2:=zh1 (B1.trans (b2.mono B1.size));clear b2;refine⟨(HS9.o _).mpr B2.o,zput ?_⟩;iterate 2 (refine zrb ?_)
  refine qbg ?_;clear HS9 F0 F1 FC FT u1 u2;refine Met.intro ?_;go_step
  go_meet
  case rel=>exact⟨!gn,rfl,B2,fun h=>qti (A9.trans (by simpa using h)),fun h=>⟨by simpa using h,plt⟩⟩
 case rest=>
  obtain⟨b,rfl,BW,AQ,AR⟩:=hcut;obtain⟨W1,rfl⟩:=eqx wc;clear u1 u2;cases b with
  |true=>
   have A6:=zh1 (AQ.o rfl);have B1:=BW;obtain⟨X,hX⟩:=xeq (grav ⟨0,0,0,false⟩);have lX:X.length=4:=by rw[←hX];rfl
   have oX:∀u∈X,u.oneCell'=true:=by
    rw[←hX];intro u hu;unfold grav at hu;simp only[List.mem_cons,List.not_mem_nil,or_false]at hu;rcases hu with rfl|rfl|rfl|rfl<;>rfl
   obtain⟨BT,A3,LX,OX⟩:=zh4 (show Tryz.prog.built 66 []=some X.toArray by rw[←hX];exact qte) hX lX oX;obtain⟨A1,Z1,BB⟩:=zh3 (zI 66 LX.o) (Z0.below B1.o Z0.lt) (below_setRow (B0.trans (B1.mono B0.size)) (by omega:w.heap.size≤w.heap.size+1) X.toArray);clear hX lX oX;go_wp2_with (first
    |(refine qbk rfl ⟨.agg X.toArray,qgr 66 _ rfl _ _ BT.o (by simp[Act.eval]),?_⟩)
    |(refine zst Z1.o A1.o (by simp[LX.o]) OX.o ?_))
   have A2:=qap (Z1.setRow X.toArray) 0 X zjq;refine bodyPost_ret (qgv rfl rfl (run_loadVar_mid _ _ 0 _ X _ A2 Tryz.underlying66 rfl A1.o)) rfl ⟨⟨0,0,0,false⟩,?_,fun h=>(by rw[A6.o]at h;cases h),BB.o⟩;rw[A6.o,←A3.o];rfl
  |false=>
   obtain⟨rfl,plt⟩:=AR.o rfl;have p1:¬(ng:Int)≤ti:=zo;have plt2:(ti:Int)<ng:=zo;have q0:(0:Int)≤ti:=zo;obtain⟨y,hy⟩:∃y,s.gras[ti]? =some y:=⟨_,tA7 (by rw[AE.o];exact plt)⟩;obtain⟨HY,AJ⟩:=zh2 (show s.gras[R.tid]? =some y by rw[AD.o];exact hy) (B0.trans (BW.mono B0.size));obtain⟨rv,hrv⟩:=xeq y.revoked;obtain⟨ex,hex⟩:=xeq y.expires;obtain⟨clk,hclk⟩:=xeq s.clock;have exb:ex<18446744073709551616:=by rw[←hex];exact(HS.gra hy).expires
   have clb:clk<18446744073709551616:=by rw[←hclk];exact HS.clock
   obtain⟨X,hX⟩:=xeq (grav y);have lX:X.length=4:=by rw[←hX];rfl
   have oX:∀u∈X,u.oneCell'=true:=by
    rw[←hX];intro u hu;unfold grav at hu;simp only[List.mem_cons,List.not_mem_nil,or_false]at hu;rcases hu with rfl|rfl|rfl|rfl<;>rfl
   obtain⟨X2,X3,A3,LX,OX,AK,AL,A0⟩:=zh8 (show X.toArray[2]? =some (.int .u64 (ex:Int)) by rw[←hX,←hex];rfl) (show X.toArray[3]? =some (.bool rv) by rw[←hX,←hrv];rfl) hX lX oX hrv hex hclk;have AS:=A9;have AT:=zh1 (fun(w':World)(hb:Below w.heap.size w w')=>(show w'.rangeAt L.gg (ti*4) X from fun j u hu=>by
    obtain⟨hj,_⟩:=tA8 hu;refine(H.call hb).st.gras.cell ?_;rw[qo5 hy zo,A3.o];exact hu))
   have A4:=zh1 (zI 66 LX.o);clear hX lX oX hrv hex hclk;go_upto_region 3 with(fail)
   obtain⟨S,HS9⟩:=zS fun w'=>Below W1.heap.size W1 w'
   refine zrs S 11 (zq 0 10 [(10,true),(11,true)]) ((HS9.o _).mpr ((tA5 _ _).drew)) ?_;obtain⟨F0,F1,FG⟩:=zh3 (zF HS9 (qai K1.o BW.o)) (zF HS9 (qai C9.o BW.o)) (fun(w':World)(h:S w')=>AT.o w' (AJ.trans (((HS9.o w').mp h).mono AJ.size)));iterate 9 (refine zr2 ?_)
   refine qos rfl rfl 66 (.tmp 40) rfl L.gg (ti*4) rfl X _ FG.o Tryz.underlying66 rfl A4.o ?_;refine zP ?_;obtain⟨We,hWe,BE⟩:=zdr W1;rw[←hWe];clear hWe;refine zw ?_;go_simp;obtain⟨W2,hW2⟩:=eqx (We.alloc (.cells #[.int .i64 0,.int .i64 0,.int .u64 0,.bool false] 66));rw[←hW2];obtain⟨G,hG⟩:=eqx We.heap.size;have g2:Blk W2 G 66 #[.int .i64 0,.int .i64 0,.int .u64 0,.bool false]:=by rw[hW2,hG];exact Blk.new _ _ _
   have b2':Below W1.heap.size W1 W2:=by rw[hW2];exact BE.alloc BE.size _
   have gs:W1.heap.size≤G:=by rw[hG];exact BE.size
   rw[←hG];obtain⟨G2,AM,GS⟩:=zh3 g2 b2' gs;clear hW2 hG g2 b2' gs;refine⟨(HS9.o _).mpr AM.o,zput ?_⟩;refine zw ?_;refine wp_store_row 66 (.tmp 6) (.tmp 41) rfl G X.toArray rfl rfl 66 _ G2.o (by simpa using A4.o) (by simp[LX.o]) (by simpa using OX.o) ?_;obtain⟨W3,hW3⟩:=eqx (W2.setRow G X.toArray);rw[←hW3];have g3:Blk W3 G 66 X.toArray:=by rw[hW3];exact G2.setRow _
   have b3:Below W1.heap.size W1 W3:=by rw[hW3];exact below_setRow AM.o GS.o _
   obtain⟨G3,AU⟩:=zh2 g3 b3;clear hW3 g3 b3;refine⟨fun h=>absurd h zdc,zput ?_⟩;refine qbg ?_;clear HS9 F0 F1 FG;obtain⟨AA,A7⟩:=zh2 (show G≠w.heap.size+1 by have:=GS.o;have:=BW.size;have:=Z0.lt;omega) (BW.trans (AU.mono BW.size));obtain⟨B3,Q3,Z3⟩:=zh3 (B0.trans (A7.mono B0.size)) (Q0.below A7.o Q0.lt) (Z0.below A7.o Z0.lt);have kop:=(Q3.cell 0).trans AC.o;have k35:=qai AP.o A7.o;clear p1 plt plt2 q0 hy;go_wp2_with fail
   refine zca (qdo R.op W3) ?_;obtain⟨tr,htr⟩:∃x:Int,(if qdm R.op then R.tree else 0)=x:=⟨_,rfl⟩;have A5:=zh1 htr;clear htr;go_upto_if 44 with(fail)
   go_cut [7] (fun s7 wx=>s7=.int .i64 tr∧wx=W3)
   case first=>
    have e:=A5.o;cases htb:qdm R.op with
    |true=>
     rw[htb]at e;subst e;go_wp2
     go_meet
     case rel=>exact⟨rfl,rfl⟩
    |false=>
     rw[htb]at e;subst e;go_wp2
     go_meet
     case rel=>exact⟨rfl,rfl⟩
   case rest=>
    obtain⟨rfl,rfl⟩:=hcut;obtain⟨W3,rfl⟩:=eqx wc;clear kop k35;go_upto_region 7 with(fail)
    obtain⟨S,HS9⟩:=zS fun w'=>Below w.heap.size w w'∧Blk w' w.heap.size 34 Q.toArray∧Blk w' G 66 X.toArray
    refine zrs S 29 (zq 0 25 [(25,true),(26,false),(27,true),(28,false)]) ((HS9.o _).mpr ⟨B3.drew,Q3.o,G3.o⟩) ?_;obtain⟨FX,AV,F0,F1,F2,F3,A1⟩:=zh7 (fun(w':World)(h:S w')=>qap ((HS9.o w').mp h).2.2 0 X zjq) (fun(w':World)(h:S w')=>qap (l:=Q) ((HS9.o w').mp h).2.1 1 (tokv R.tid (.slice Ac R.cavs.length cc) R.tag) (fun j u hu=>by rw[←HQ.o];exact qje R _ _ j u hu)) (fun(w':World)(h:S w')=>(((HS9.o w').mp h).2.2.cell 3).trans X3.o) (fun(w':World)(h:S w')=>(((HS9.o w').mp h).2.2.cell 2).trans X2.o) (fun(w':World)(h:S w')=>(H.call ((HS9.o w').mp h).1).c4) (fun(w':World)(h:S w')=>(((HS9.o w').mp h).2.1.cell 0).trans AC.o) (zI 66 LX.o);refine qos rfl rfl 66 (.tmp 6) rfl G 0 rfl X _ FX.o Tryz.underlying66 rfl A1.o ?_;refine zP ?_;obtain⟨W4,hW4,B4⟩:=zdr W3;rw[←hW4];clear hW4;obtain⟨A8,Q4,G4,Z4⟩:=zh4 (B3.trans (B4.mono B3.size)) (Q3.below B4.o Q3.lt) (G3.below B4.o G3.lt) (Z3.below B4.o Z3.lt);cases rv with
    |true=>
     iterate 12 (first|refine zsk ?_|refine zr1 ?_)
     iterate 12 (first|refine zsk ?_|refine zrb ?_)
     refine qrt rfl rfl ⟨(HS9.o _).mpr ⟨A8.o,Q4.o,G4.o⟩,?_⟩;refine zP ?_;iterate 1 (refine zrb ?_)
     refine zw ?_;refine wp_store_row 66 (.tmp 4) (.tmp 47) rfl (w.heap.size+1) X.toArray rfl rfl 66 _ (Z4.o) (by simpa using A1.o) (by simp[LX.o]) (by simpa using OX.o) ?_;have zz:=(Z4.o).setRow X.toArray;obtain⟨ZZ,BB⟩:=zh2 zz (below_setRow (A8.o) (by omega:w.heap.size≤w.heap.size+1) X.toArray);have gx:=(G4.o).grown (qam _ (w.heap.size+1) X.toArray) (by intro e;injection e with e;exact AA.o e);have qx:=(Q4.o).grown (qam _ (w.heap.size+1) X.toArray) (by intro e;injection e with e;omega);refine⟨fun _=>(HS9.o _).mpr ⟨BB.o,qx,gx⟩,?_⟩;clear zz gx qx;refine zP ?_;iterate 1 (refine zrb ?_)
     refine qbg ?_;go_wp2_with fail
     have A2:=qap ZZ.o 0 X zjq;refine bodyPost_ret (qgv rfl rfl (run_loadVar_mid _ _ 0 _ X _ A2 Tryz.underlying66 rfl A1.o)) rfl ⟨y,?_,fun _=>HY.o,BB.o⟩;rw[qtf HY.o AK.o,←A3.o];rfl
    |false=>
     by_cases hex:clk<ex
     ·
      have qx:(clk:Int)<ex:=zo;iterate 15 (refine zre rfl rfl (fun w1 hS=>by have g0:=F0.o w1 hS;have g1:=F1.o w1 hS;have g2:=F2.o w1 hS;rw[A0.o]at g2;clear hS;go_simp;try rfl) ?_)
      refine qos rfl rfl 31 (.tmp 62) rfl w.heap.size 1 rfl (tokv R.tid (.slice Ac R.cavs.length cc) R.tag) _ AV.o Tryz.underlying31 rfl AG.o ?_;refine zP ?_;iterate 8 (refine zre rfl rfl (fun w1 hS=>by have g2:=F2.o w1 hS;rw[A0.o]at g2;have g3:=F3.o w1 hS;clear hS;go_simp;try rfl) ?_)
      refine zw ?_;go_simp;refine(ql2 R.op tr clk (R.tid,R.cavs,R.tag) Ac R.cavs.length cc W4 ((HR.cavs.call (B3.o)).call B4.o) HR.cavc (by have:=AB.o;omega) AF.o).mono ?_;rintro e w5 ⟨rfl,b5⟩;have B5:=zh1 (B4.trans (b5.mono B4.size));clear b5;obtain⟨AN,Q5,G5,Z5⟩:=zh4 (B3.trans (B5.mono B3.size)) (Q3.below B5.o Q3.lt) (G3.below B5.o G3.lt) (Z3.below B5.o Z3.lt);refine⟨(HS9.o _).mpr ⟨AN.o,Q5.o,G5.o⟩,zput ?_⟩;iterate 1 (refine zrb ?_)
      refine zw ?_;refine wp_store_row 66 (.tmp 4) (.tmp 47) rfl (w.heap.size+1) X.toArray rfl rfl 66 _ (Z5.o) (by simpa using A1.o) (by simp[LX.o]) (by simpa using OX.o) ?_;have zz:=(Z5.o).setRow X.toArray;obtain⟨ZZ,BB⟩:=zh2 zz (below_setRow (AN.o) (by omega:w.heap.size≤w.heap.size+1) X.toArray);have gx:=(G5.o).grown (qam _ (w.heap.size+1) X.toArray) (by intro e;injection e with e;exact AA.o e);have qx:=(Q5.o).grown (qam _ (w.heap.size+1) X.toArray) (by intro e;injection e with e;omega);refine⟨fun _=>(HS9.o _).mpr ⟨BB.o,qx,gx⟩,?_⟩;clear zz gx qx;refine zP ?_;iterate 1 (refine zrb ?_)
      refine qbg ?_;go_wp2_with fail
      have A2:=qap ZZ.o 0 X zjq;refine bodyPost_ret (qgv rfl rfl (run_loadVar_mid _ _ 0 _ X _ A2 Tryz.underlying66 rfl A1.o)) rfl ⟨y,?_,fun _=>HY.o,BB.o⟩;rw[(qth A0.o HY.o AS.o AK.o (by rw[A0.o,AL.o];exact hex) A5.o),←A3.o];rfl
     have qx:¬(clk:Int)<ex:=zo;iterate 14 (refine zre rfl rfl (fun w1 hS=>by have g0:=F0.o w1 hS;have g1:=F1.o w1 hS;have g2:=F2.o w1 hS;rw[A0.o]at g2;clear hS;go_simp;try rfl) ?_)
     iterate 10 (refine zsk ?_)
     refine qrt rfl rfl ⟨(HS9.o _).mpr ⟨A8.o,Q4.o,G4.o⟩,?_⟩;refine zP ?_;iterate 1 (refine zrb ?_)
     refine zw ?_;refine wp_store_row 66 (.tmp 4) (.tmp 47) rfl (w.heap.size+1) X.toArray rfl rfl 66 _ (Z4.o) (by simpa using A1.o) (by simp[LX.o]) (by simpa using OX.o) ?_;have zz:=(Z4.o).setRow X.toArray;obtain⟨ZZ,BB⟩:=zh2 zz (below_setRow (A8.o) (by omega:w.heap.size≤w.heap.size+1) X.toArray);have gx:=(G4.o).grown (qam _ (w.heap.size+1) X.toArray) (by intro e;injection e with e;exact AA.o e);have qx:=(Q4.o).grown (qam _ (w.heap.size+1) X.toArray) (by intro e;injection e with e;omega);refine⟨fun _=>(HS9.o _).mpr ⟨BB.o,qx,gx⟩,?_⟩;clear zz gx qx;refine zP ?_;iterate 1 (refine zrb ?_)
     refine qbg ?_;go_wp2_with fail
     have A2:=qap ZZ.o 0 X zjq;refine bodyPost_ret (qgv rfl rfl (run_loadVar_mid _ _ 0 _ X _ A2 Tryz.underlying66 rfl A1.o)) rfl ⟨y,?_,fun _=>HY.o,BB.o⟩;rw[(qtg HY.o (by rw[A0.o,AL.o];exact hex)),←A3.o];rfl
theorem qtk(c:Cfg)(s:Sta)(L:Loc)(col:Col)(k g:Nat)(css:List (List Value))(R:Req)(cav leafv:Value)(own ro ex rv:Value)(tn:Int)(w:World)(hk:Kind k)(hs:s.Ok)(h:Mdl w col k g c s L css)
 (ht:R.tag.length=32)(hid:R.id<4294967296):
 Zc 128 #[.pointer (some ⟨g,0,none⟩),.agg (reqv R cav leafv).toArray,.agg #[.int .i64 tn,ro,ex,rv]] w fun e w'=>e=.returned (.int .i64 (qn3 s R tn))∧Zb w w':=by
 have rest:=qdl R cav leafv ht;have r0:(reqv R cav leafv)[0]? =some (.int .i64 R.op):=rfl;obtain⟨Q,hQ⟩:=xeq (reqv R cav leafv);rw[hQ]at rest r0 ⊢;obtain⟨W0,hW0⟩:=eqx ((w.alloc (.cells Q.toArray 34)).alloc (.cells #[.int .i64 tn,ro,ex,rv] 66));have q0:=zNb hW0;have z0:W0.cell? ⟨w.heap.size+1,0,none⟩=some (.int .i64 tn):=by
  have h:=Blk.new (w.alloc (.cells Q.toArray 34)) 66 #[.int .i64 tn,ro,ex,rv];rw[qar]at h;rw[hW0];exact(h.cell 0).trans rfl
 have b0:=zMb hW0;obtain⟨op,hop⟩:=xeq R.op;obtain⟨i,hi⟩:=xeq R.id;obtain⟨ng,hng⟩:=xeq s.gras.length;have gb:ng≤64:=by rw[←hng];exact hs.grasn
 have ib:i<4294967296:=by rw[←hi];exact hid
 have c9:=h.c9;rw[hng]at c9;have k0:W0.cell? ⟨w.heap.size,0,none⟩=some (.int .i64 op):=(q0.cell 0).trans (by rw[tA3,←hop];exact r0);have k35:W0.cell? ⟨w.heap.size,35,none⟩=some (.int .i64 R.tree):=(q0.cell 35).trans (by rw[tA3];exact rest 0);have k36:W0.cell? ⟨w.heap.size,36,none⟩=some (.int .i64 R.tenant):=(q0.cell 36).trans (by rw[tA3];exact rest 1);have k40:W0.cell? ⟨w.heap.size,40,none⟩=some (.int .u32 (i:Int)):=(q0.cell 40).trans (by rw[tA3,←hi];exact rest 5);obtain⟨H,A3,Z0,B0,HS,K0,A8,A9⟩:=zh8 h hW0 z0 b0 hs k0 k35 k36;obtain⟨A5,C9,A6,HI,A4,H0⟩:=zh6 k40 (qai c9 b0) hop hi hng (h.call b0);obtain⟨av,hav⟩:=xeq (qn3 s R tn);rw[hav];have A2:=zh1 hav;clear hav;rw[hW0]at k0;clear h hW0 q0 z0 b0 hs hop hi hng k35 k36 k40 c9 rest r0 ht hid hQ;have u1:IntKind.u64.wrap (i:Int)=(i:Int):=tBa _ zo;have u2:IntKind.u64.wrap (ng:Int)=(ng:Int):=tBa _ zo;go_enter Tryz.func128,Tryz.ntmps128
 by_cases hm:op=6∨op=10∨op=12
 ·
  have ha:qn3 s R tn=R.tenant:=by
   unfold qn3;rw[A6.o,if_pos hm]
  have HA:=zh1 ha;have k36:=A9.o;rw[A3.o]at k36;rcases hm with rfl|rfl|rfl
  · go_wp2
    go_ret
    exact⟨by rw[←A2.o,HA.o];rfl,by rw[←A3.o];exact B0.o⟩
  · go_wp2
    go_ret
    exact⟨by rw[←A2.o,HA.o];rfl,by rw[←A3.o];exact B0.o⟩
  go_wp2
  go_ret
  exact⟨by rw[←A2.o,HA.o];rfl,by rw[←A3.o];exact B0.o⟩
 have e6:(op==6)=false:=by simp;omega
 have e10:(op==10)=false:=by simp;omega
 have e12:(op==12)=false:=by simp;omega
 have HM:=zh1 hm;clear hm;go_upto_region 3 with(fail)
 rw[←A3.o];clear k0;obtain⟨S,HS9⟩:=zS fun w'=>Zb W0 w'
 refine zrs S 17 (zq 0 17 []) ((HS9.o _).mpr ((tA5 _ _).drew)) ?_;obtain⟨F0,F1,F2⟩:=zh3 (zF HS9 K0.o) (zF HS9 A5.o) (zF HS9 C9.o);have rest:qn3 s R tn=(if op=11∧i<ng then((s.gras[i]?).getD ⟨0,0,0,false⟩).tenant else if qdm op then(match s.tree R.tree with|some t=>t.tenant|none=>tn) else tn):=by
  unfold qn3;rw[A6.o,if_neg HM.o,HI.o];by_cases h11:op=11
  · rw[if_pos h11]
    by_cases hl:i<ng
    · rw[if_pos ⟨h11,hl⟩,tA7 (by rw[A4.o];exact hl)]
      rfl
    rw[if_neg zo,List.getElem?_eq_none (by rw[A4.o];omega),if_neg (by rw[h11];decide)]
  rw[if_neg h11,if_neg (c:=op=11∧i<ng) zo];rfl
 have A0:=zh1 rest;clear rest;by_cases h11:op=11
 ·
  subst h11;iterate 15 (refine zr3 ?_)
  by_cases hl:i<ng
  ·
   have q1:(i:Int)<ng:=zo;have q0:(0:Int)≤i:=zo;iterate 2 (refine zrb ?_)
   refine qbg ?_;clear HS9 F0 F1 F2 u1 u2 e6 e10 e12;obtain⟨x,hx⟩:∃x,s.gras[i]? =some x:=⟨_,tA7 (by rw[A4.o];exact hl)⟩;have ha:qn3 s R tn=x.tenant:=by rw[A0.o,if_pos ⟨rfl,hl⟩,hx];rfl
   have HA:=zh1 ha;obtain⟨W1,hW1⟩:=eqx W0.drew;have B1:=zh1 (show Zb W0 W1 by rw[hW1];exact(tA5 _ _).drew);rw[←hW1];clear hW1 ha;obtain⟨A1,XC⟩:=zh2 (B0.trans (B1.mono B0.size)) (fun(w':World)(hb:Zb w w')=>(show w'.cell? ⟨L.gg,i*4,none⟩=some (.int .i64 x.tenant) from(H.call hb).st.gras.cell ((qo5 (j:=0) hx zo).trans rfl)));clear hx hl;go_upto_region 4 with(fail)
   obtain⟨S,HS9⟩:=zS fun w'=>Zb W1 w'
   refine zrs S 11 (zq 0 11 []) ((HS9.o _).mpr ((tA5 _ _).drew)) ?_;obtain⟨F1,F2,F3⟩:=zh3 (zF HS9 (qai A5.o B1.o)) (zF HS9 (qai C9.o B1.o)) (fun(w':World)(h:S w')=>XC.o w' (A1.trans (((HS9.o w').mp h).mono A1.size)));iterate 11 (refine zre rfl rfl (fun w1 hS=>by have g1:=F1.o w1 hS;have g2:=F2.o w1 hS;have g3:=F3.o w1 hS;clear hS;go_simp;try rfl) ?_)
   refine qbg ?_;clear HS9 F1 F2 F3;go_wp2
   go_ret
   exact⟨by rw[←A2.o,HA.o];rfl,A1.drew⟩
  have q1:¬(i:Int)<ng:=zo;iterate 2 (refine zrb ?_)
  refine qbg ?_;clear HS9 F0 F1 F2 u1 u2 e6 e10 e12;have ha:qn3 s R tn=tn:=by
   rw[A0.o,if_neg zo];rfl
  have HA:=zh1 ha;obtain⟨W1,hW1⟩:=eqx W0.drew;have B1:=zh1 (show Zb W0 W1 by rw[hW1];exact(tA5 _ _).drew);rw[←hW1];clear hW1 ha;have A1:=zh1 (B0.trans (B1.mono B0.size));have k0:=qai K0.o B1.o;have z0:=qai Z0.o B1.o;go_wp2_with fail
  refine zca (qdo 11 W1) ?_;rw[show qdm 11=false from rfl];go_wp2
  go_ret
  exact⟨by rw[←A2.o,HA.o];rfl,A1.o⟩
 have e11:(op==11)=false:=by simp;omega
 iterate 15 (first|refine zsk ?_|refine zr1 ?_)
 iterate 2 (refine zrb ?_)
 refine qbg ?_;clear HS9 F0 F1 F2 u1 u2 e6 e10 e12 e11;obtain⟨W1,hW1,B1⟩:=zdr W0;rw[←hW1];clear hW1;have A1:=zh1 (B0.trans (B1.mono B0.size));have k0:=qai K0.o B1.o;have z0:=qai Z0.o B1.o;have k35:=qai A8.o B1.o;obtain⟨HN,H1⟩:=zh2 h11 (H0.call B1.o);clear h11;go_wp2_with fail
 refine zca (qdo op W1) ?_;cases htb:qdm op with
 |false=>
  have ha:qn3 s R tn=tn:=by
   rw[A0.o,if_neg (by have:=HN.o;omega),htb];rfl
  have HA:=zh1 ha;clear ha htb;go_wp2
  go_ret
  exact⟨by rw[←A2.o,HA.o];rfl,A1.o⟩
 |true=>
  have A7:=zh1 htb;clear htb;cases htr:s.tree R.tree with
  |none=>
   have ha:qn3 s R tn=tn:=by
    rw[A0.o,if_neg (by have:=HN.o;omega),A7.o,htr];rfl
   have HA:=zh1 ha;clear ha;have CT:=zh1 (qr8 R.tree c s L col k g css W1 HS.o H1.o htr);clear htr;go_wp2_with fail
   refine CT.o.mono ?_;rintro e w' ⟨rfl,rfl⟩;go_wp2
   go_ret
   exact⟨by rw[←A2.o,HA.o];rfl,A1.o⟩
  |some t=>
   have ha:qn3 s R tn=t.tenant:=by
    rw[A0.o,if_neg (by have:=HN.o;omega),A7.o,htr];rfl
   have HA:=zh1 ha;clear ha;obtain⟨n,hn,ht,h0,h4⟩:∃n:Nat,R.tree=n∧s.tres[n]? =some t∧t.state≠0∧t.state≠4:=by
    unfold Sta.tree at htr;split at htr
    ·
     rename_i h0
     split at htr
     · cases htr
     rename_i x hx
     split at htr
     · cases htr
     rename_i hne
     injection htr with htr;subst htr;exact⟨R.tree.toNat,by omega,hx,fun e=>hne (.inl e),fun e=>hne (.inr e)⟩
    cases htr
   have CT:=zh1 (qr9 n t c s L col k g css W1 HS.o H1.o ht h0 h4);obtain⟨-,Ad,cd,Al,cl,Aq,cq,-,hcell,-,-,-⟩:=H1.st.tree HS.o ht;have e1:=hcell 1 (.int .i64 t.tenant) rfl;rw[hn]at k35;clear htr hn ht h0 h4 hcell;go_wp2_with fail
   refine CT.o.mono ?_;rintro e w' ⟨rfl,rfl⟩;go_wp2
   go_ret
   exact⟨by rw[←A2.o,HA.o];rfl,A1.o⟩
theorem qtl(role op:Int)(w:World):
 Zc 185 #[.int .i64 role,.int .i64 op] w fun e w'=>e=.returned (.bool (qmz role op))∧w=w':=by
 by_cases h4:role=4
 ·
  subst h4;go_enter Tryz.func185,Tryz.ntmps185
  go_wp2
  all_goals
   go_ret
   exact⟨qdc (by simp_all [qmz]),rfl⟩
 by_cases h3:role=3
 ·
  subst h3;go_enter Tryz.func185,Tryz.ntmps185
  go_wp2
  all_goals
   go_ret
   exact⟨qdc (by simp_all [qmz]),rfl⟩
 by_cases h2:role=2
 ·
  subst h2;go_enter Tryz.func185,Tryz.ntmps185
  go_wp2
  all_goals
   go_ret
   exact⟨qdc (by simp_all [qmz]),rfl⟩
 by_cases h1:role=1
 ·
  subst h1;go_enter Tryz.func185,Tryz.ntmps185
  go_wp2
  all_goals
   go_ret
   exact⟨qdc (by simp_all [qmz]),rfl⟩
 have e:qmz role op=false:=by
  unfold qmz;rw[decide_eq_false h4,decide_eq_false (by omega:¬(3≤role∧role≤4)),decide_eq_false (by omega:¬(2≤role∧role≤4)),decide_eq_false (by omega:¬(1≤role∧role≤4))];rfl
 rw[e];go_enter Tryz.func185,Tryz.ntmps185
 go_wp2
 all_goals
  go_ret
  exact⟨rfl,rfl⟩
theorem qtm(role op own asked:Int)(w:World):
 Zc 127 #[.int .i64 role,.int .i64 op,.int .i64 own,.int .i64 asked] w fun e w'=>∃v,e=.returned v∧Zb w w'∧(qn1 role op own asked=true→v=.nilIface)∧
  (qn1 role op own asked=false→∃g,v=.iface 218 (.pointer (some ⟨g,0,none⟩))∧Blk w' g 224 #[.int .i64 op,.int .i64 role,.int .i64 21]∧w.heap.size≤g):=by
 obtain⟨b,hb⟩:=xeq (qmz role op);have hd:qn1 role op own asked=(b&&(own==asked||role==4)):=by rw[←hb];rfl
 rw[hd];have HB:=zh1 hb;clear hb hd;go_enter Tryz.func127,Tryz.ntmps127
 go_wp2_with fail
 refine(qtl role op w).mono ?_;rintro e w1 ⟨rfl,rfl⟩;rw[HB.o];cases b with
 |false=>
  go_wp2
  go_ret
  exact⟨_,rfl,qah (tA5 _ _) _,fun h=>(by cases h),fun _=>⟨_,rfl,Blk.new _ _ _,tA4 _⟩⟩
 |true=>
  by_cases h1:own=asked
  · have e1:(own==asked)=true:=by simpa using h1
    go_wp2
    go_ret
    exact⟨_,rfl,tA5 _ _,fun _=>rfl,fun h=>(by rw[e1]at h;cases h)⟩
  have e1:(own==asked)=false:=by simpa using h1
  by_cases h4:role=4
  · have e4:(role==4)=true:=by simpa using h4
    go_wp2
    go_ret
    exact⟨_,rfl,tA5 _ _,fun _=>rfl,fun h=>(by rw[e1,e4]at h;cases h)⟩
  have e4:(role==4)=false:=by simpa using h4
  go_wp2
  go_ret
  exact⟨_,rfl,qah (tA5 _ _) _,fun h=>(by rw[e1,e4]at h;cases h),fun _=>⟨_,rfl,Blk.new _ _ _,tA4 _⟩⟩
theorem Sta.tree_some{n:Int}(h:s.tree n=some t):0≤n∧s.tres[n.toNat]? =some t∧t.state≠0∧t.state≠4:=by
 unfold Sta.tree at h;split at h
 ·
  rename_i h0
  split at h
  · cases h
  rename_i x hx
  split at h
  · cases h
  rename_i hne
  injection h with h;subst h;exact⟨h0,hx,fun e=>hne (.inl e),fun e=>hne (.inr e)⟩
 cases h
theorem Sta.tenant_some{n:Int}{x:Ten}(h:s.tenant n=some x):0≤n∧s.tens[n.toNat]? =some x:=by
 unfold Sta.tenant at h;split at h
 · exact⟨by assumption,h⟩
 cases h
theorem Sta.Ok.tenant_lt(hs:s.Ok){n:Int}{x:Ten}(h:s.tenant n=some x):0≤n∧n<16:=by
 obtain⟨h0,h1⟩:=Sta.tenant_some h;obtain⟨h2,_⟩:=tA8 h1;rw[hs.tensn]at h2;omega
theorem qtp (R:Req)(h:∀x∈R.leaf,x<256):∀(l:List Fld) (acc:List Nat),(∀x∈acc,x<256)→∀x∈(qi8 R l acc).2,x<256
 |[],acc,ha=>by simpa [qi8] using ha
 |f::l,acc,ha=>by
  rw[qi8];split
  ·
   refine qtp R h l _ (fun x hx=>?_);rcases List.mem_append.1 hx with h1|h1
   · exact ha x h1
   unfold fldB at h1;split at h1
   · exact qaz _ _ x h1
   unfold txt at h1;rcases List.mem_append.1 h1 with h2|h2
   · exact qaz _ _ x h2
   exact h x (tB7 h2)
  intro x hx;cases hx
theorem qtq(R:Req)(h:∀x∈R.leaf,x<256):∀x∈(qi9 R).2,x<256:=by
 unfold qi9;split
 · intro x hx;cases hx
 exact qtp R h _ _ (qaz _ _)
theorem qtr (R:Req):∀(l:List Fld) (acc:List Nat),(∀f∈l,(f.2.1=1∨f.2.1=2∨f.2.1=3)∧f.1≤8)→(qi8 R l acc).2.length≤acc.length+8*l.length
 |[],acc,_=>by simp[qi8]
 |f::l,acc,hf=>by
  obtain⟨h1,h2⟩:=hf f zm;rw[qi8];split
  · have h3:=qtr R l (acc++fldB R f) (fun g hg=>hf g (by simp[hg]))
    have e:(fldB R f).length=f.1:=by unfold fldB;rw[if_pos h1,qaw]
    rw[tA6,e]at h3;rw[tBi];omega
  simp
theorem qts(R:Req)(h:qlm R.op=true):(qi9 R).2.length≤33:=by
 have h:=of_decide_eq_true h;have h1:∃l:List Fld,fieldsOf R.op=some l∧l.length≤4∧∀f∈l,(f.2.1=1∨f.2.1=2∨f.2.1=3)∧f.1≤8:=by
  have h2:R.op=6∨R.op=7∨R.op=8∨R.op=9∨R.op=10∨R.op=11∨R.op=12:=zo;rcases h2 with e|e|e|e|e|e|e<;>rw[e]<;>exact⟨_,rfl,by decide,by decide⟩
 obtain⟨l,hl,h4,hf⟩:=h1;unfold qi9;rw[hl];have h3:=qtr R l (be R.op.toNat 1) hf;rw[qaw]at h3;simp only;omega
theorem qtt(s:Sta)(r:Req)(hr:r.Good)(ha:qlm r.op=true):LeafOk (qni s r):=by
 unfold qni;constructor
 · have:=qts r ha
   simp only[tA6,qaw];omega
 intro x hx;rcases List.mem_append.1 hx with h|h
 · exact qaz _ _ x h
 rcases List.mem_append.1 h with h|h
 · exact qaz _ _ x h
 exact qtq r hr.leafb x h
theorem qtu (R:Req):∀(l:List Fld) (acc:List Nat),(qi8 R l acc).1=0→∀f∈l,qi7 R f=0
 |[],_,_=>by simp
 |g::l,acc,h=>by
  rw[qi8]at h;split at h
  · rename_i hg
    intro f hf;rcases List.mem_cons.1 hf with rfl|hf
    · exact hg
    exact qtu R l _ h f hf
  rename_i hg
  exact absurd h hg
theorem qtv(h:(qjc R).1=0):(qi9 R).1=0:=by
 unfold qjc at h;split at h
 · assumption
 rename_i hne
 exact absurd h hne
theorem qtw(h:(qjc R).1=0):∃l,fieldsOf R.op=some l∧∀f∈l,qi7 R f=0:=by
 have hb:=qtv h;unfold qi9 at hb;split at hb
 · cases hb
 rename_i l hl
 exact⟨l,hl,qtu R l _ hb⟩
theorem qtx(h:(qjc R).1=0):1≤R.op∧R.op≤12:=by
 obtain⟨l,hl,_⟩:=qtw h;have:=qif R.op l hl;omega
theorem qty(h:(qjc R).1=0)(e:R.op=1):R.leaf.length≤256:=by
 obtain⟨l,hl,hf⟩:=qtw h;rw[e,show fieldsOf 1=some [(1,1,35),(0,0,0)] from rfl]at hl;injection hl with hl;subst hl;have h0:=hf (0,0,0) zm;unfold qi7 at h0;simp at h0;omega
theorem qtz(h:(qjc R).1=0){l:List Fld}(hl:fieldsOf R.op=some l){o:Nat}(ho:(1,1,o)∈l):0≤R.num o∧R.num o≤255:=by
 obtain⟨l',hl',hf⟩:=qtw h;rw[hl]at hl';injection hl' with hl';subst hl';have h0:=hf _ ho;unfold qi7 at h0;simp at h0;omega
theorem qu0{f t w:Int}(h:mayB f t w=true):t=1∨t=2∨t=3∨t=4:=by
 unfold mayB at h;split at h
 · simp at h;omega
 split at h
 · simp at h;omega
 split at h
 · simp at h;omega
 cases h
theorem qu1(hs:s.Ok)(hr:r.Good)(hl:r.leaf.length≤256)(ht:s.tree r.tree=some t):(qn8 c s r t).1.Ok:=by
 obtain⟨h0,h1,h2,h3⟩:=Sta.tree_some ht;unfold qn8;split
 · exact hs
 rename_i hne
 split
 · exact hs
 split
 · exact hs
 split
 · exact hs
 rename_i hq
 split
 · exact hs
 rename_i x hx
 split
 · exact hs
 refine(hs.setX (n:=t.tenant.toNat) (f:=fun x=>{x with used:=(x.used+(r.leaf.length+16)) % 4294967296}) (fun y hy o=>{o with used:=Nat.mod_lt _ zdc})).setT (fun y hy o=>?_) (fun e=>absurd e zo);have e:y=t:=by
  have h4:s.tres[r.tree.toNat]? =some y:=hy;rw[h1]at h4;injection h4 with h4;exact h4.symm
 subst e;have q1:(y.queue++[r.leaf]).length≤64:=by
  rw[tA6,List.length_singleton];omega
 have q2:y.leaves.length+(y.queue++[r.leaf]).length≤1024:=by
  rw[tA6,List.length_singleton];omega
 have q3:∀b∈y.queue++[r.leaf],LeafOk b:=by
  intro b hb;rcases List.mem_append.1 hb with h|h
  · exact o.queueb b h
  obtain rfl:=List.mem_singleton.1 h;exact⟨by omega,hr.leafb⟩
 exact {o with queue:=q1,leaves:=q2,queueb:=q3}
theorem qu2(hs:s.Ok)(ht:s.tree r.tree=some t):(qnb c s r t).1.Ok:=by
 obtain⟨h0,h1,h2,h3⟩:=Sta.tree_some ht;unfold qnb;split
 · exact hs
 rename_i hne
 have hn:r.tree≠0:=fun e=>hne (.inl e)
 have hm:mayB t.state r.state t.queue.length=true:=by
  cases h:mayB t.state r.state t.queue.length with
  |true=>rfl
  |false=>exact absurd (.inr (by rw[h];rfl)) hne
 have hst:=qu0 hm;have hs1:(if r.state=4 then s.setX t.tenant.toNat (fun x=>{x with used:=x.used - qmy t.queue}) else s).Ok:=by
  split
  · exact hs.setX fun x _ o=>{o with used:=by have:=o.used;show x.used - _<_;omega}
  exact hs
 have e1:(if r.state=4 then s.setX t.tenant.toNat (fun x=>{x with used:=x.used - qmy t.queue}) else s).tres=s.tres:=by split<;>rfl
 refine hs1.setT (fun y hy o=>?_) (fun e=>absurd e zo);rw[e1,h1]at hy;injection hy with hy;subst hy;have hq:=o.queue;have hl:=o.leaves;exact {o with
  state:=by show 0≤r.state∧r.state≤4;omega
  live:=fun _=>o.live h2
  deficit:=by
   dsimp only;split
   · rfl
   exact o.deficit
  queue:=by
   dsimp only;split
   · simp
   exact hq
  leaves:=by
   dsimp only;split
   · simp;omega
   exact hl
  queueb:=by
   dsimp only;split
   · simp
   exact o.queueb}
theorem qu3(hs:s.Ok)(ht:s.tree r.tree=some t):(qnc s r).1.Ok:=by
 obtain⟨h0,h1,h2,h3⟩:=Sta.tree_some ht;unfold qnc;split
 · exact hs
 rename_i hn
 split
 · exact hs
 rename_i hw
 refine hs.setT (fun y hy o=>?_) (fun e=>absurd e zo);exact {o with weight:=by show 0≤r.weight∧r.weight≤4;omega,live:=fun h=>⟨by show 1≤r.weight;omega,(o.live h).2⟩,deficit:=rfl}
theorem qu4(hs:s.Ok)(ht:s.tres[n]? =some t)(hd:t.draws.length<32):(s.setT n fun t=>{t with draws:=t.draws++[s.draw]}).Ok:=by
 refine hs.setT (fun y hy o=>?_) (fun _ y _ h1 h2=>⟨h1,h2⟩);rw[ht]at hy;injection hy with hy;subst hy;exact {o with
  live:=fun h=>⟨(o.live h).1,by simp⟩
  draws:=by simp;omega
  drawb:=fun x hx=>by
   rcases List.mem_append.1 hx with h|h
   · exact o.drawb x h
   obtain rfl:=List.mem_singleton.1 h;exact hs.draw}
theorem qu5(hs:s.Ok)(ht:s.tree r.tree=some t):(qnd c s r t).1.Ok:=by
 obtain⟨h0,h1,h2,h3⟩:=Sta.tree_some ht;obtain⟨h4,_⟩:=tA8 h1;rw[hs.tresn]at h4;unfold qnd;split
 · exact hs
 rename_i hd
 exact(qu4 hs h1 zo).pub c h4
theorem qu6(hs:s.Ok)(h1:0≤tn∧tn<16)(h2:1≤wg∧wg≤4):({Tre.zero with state:=1,tenant:=tn,weight:=wg,draws:=[s.draw]}:Tre).Ok:=
 {Tre.zero_ok with
  state:=by show (0:Int)≤1∧(1:Int)≤4;decide
  tenant:=h1
  weight:=by show 0≤wg∧wg≤4;omega
  live:=fun _=>⟨h2.1,by simp⟩
  draws:=by simp
  drawb:=fun x hx=>by
   obtain rfl:=List.mem_singleton.1 hx;exact hs.draw}
theorem qu7(hs:s.Ok):(qna c s r).1.Ok:=by
 unfold qna;split
 · exact hs
 rename_i hn
 have hn16:=hs.tresn;split
 · exact hs
 split
 · exact hs
 split
 · exact hs
 rename_i x hx
 split
 · exact hs
 refine Sta.Ok.pub (hs.setT (fun y hy o=>?_) (fun e=>absurd e zo)) c zo;exact qu6 hs (hs.tenant_lt hx) zo
theorem qu8(hs:s.Ok)(hr:r.Good):(qne c s r).1.Ok:=by
 unfold qne;split
 · exact hs
 rename_i hn
 split
 · exact hs
 rename_i x hx
 split
 · exact hs
 split
 · exact hs
 rename_i hg
 refine {hs with grasn:=by simp;omega,gras:=fun g h=>?_,owner:=?_}
 · rcases List.mem_append.1 h with h|h
   · exact hs.gras g h
   obtain rfl:=List.mem_singleton.1 h;exact⟨hs.tenant_lt hx,by show 1≤r.role∧r.role≤4;omega,hr.expires⟩
 have h0:=hs.owner;obtain⟨h1,_⟩:=tA8 h0;show (s.gras++_)[0]? =_;rw[tBm h1];exact h0
theorem qu9(hs:s.Ok):(qnf s r).1.Ok:=by
 unfold qnf;split
 · exact hs
 split
 · exact hs
 rename_i hn
 refine {hs with grasn:=by simpa using hs.grasn,gras:=qok hs.gras fun x _ o=>{o with},owner:=?_};show (s.gras.modify r.id _)[0]? =_;rw[qoq _ _ zo];exact hs.owner
theorem qua(hs:s.Ok)(hr:r.Good):(qng s r).1.Ok:=by
 unfold qng;split
 · exact hs
 split
 · exact hs
 rename_i hn
 split
 · exact hs
 exact hs.setX fun y hy o=>{o with rate:=by show r.rate≤_;omega,burst:=by show r.burst≤_;omega,tok:=tA4 _,store:=hr.store}
theorem qub(hs:s.Ok)(hr:r.Good)(hl:r.op=1→r.leaf.length≤256):(qnh c s r).1.Ok:=by
 unfold qnh;split
 · exact qu7 hs
 split
 · exact qu8 hs hr
 split
 · exact qu9 hs
 split
 · exact qua hs hr
 split
 · exact hs
 rename_i t ht
 split
 · rename_i h1
   exact qu1 hs hr (hl h1) ht
 split
 · exact qu2 hs ht
 split
 · exact qu3 hs ht
 split
 · exact qu5 hs ht
 exact hs
theorem quc{α β:Type}(g:α→β)(f:α→α)(l:List α)(n j:Nat)(hf:n=j→∀x,l[j]? =some x→g (f x)=g x):((l.modify n f)[j]?).map g=(l[j]?).map g:=by
 by_cases e:n=j
 · subst e
   cases h:l[n]? with
   |none=>rw[List.getElem?_modify,h];rfl
   |some x=>rw[qop f h];simp[hf rfl x h]
 rw[qoq l f e]
theorem Sta.setT_leaves(s:Sta)(n:Nat)(f:Tre→Tre)(hf:n=0→∀t,(f t).leaves=t.leaves):(s.setT n f).tres[0]?.map (·.leaves)=s.tres[0]?.map (·.leaves):=
 quc _ _ _ _ _ fun e x _=>hf e x
theorem Sta.pub_leaves(c:Cfg)(s:Sta)(n:Nat):(s.pub c n).tres[0]?.map (·.leaves)=s.tres[0]?.map (·.leaves):=
 quc _ _ _ _ _ fun e x _=>rfl
theorem qud(ha:qlm r.op=true):(qnh c s r).1.tres[0]?.map (·.leaves)=s.tres[0]?.map (·.leaves):=by
 have h6:=of_decide_eq_true ha;unfold qnh;split
 ·
  unfold qna;split
  · rfl
  split
  · rfl
  split
  · rfl
  split
  · rfl
  split
  · rfl
  rw[Sta.pub_leaves];exact Sta.setT_leaves _ _ _ fun e=>absurd e zo
 split
 ·
  unfold qne;split
  · rfl
  split
  · rfl
  split
  · rfl
  split<;>rfl
 split
 · unfold qnf
   split
   · rfl
   split<;>rfl
 split
 ·
  unfold qng;split
  · rfl
  split
  · rfl
  split<;>rfl
 split
 · rfl
 rename_i t ht
 split
 · omega
 split
 ·
  unfold qnb;split
  · rfl
  simp only;refine Eq.trans (Sta.setT_leaves _ _ _ ?_) ?_
  · intro _ _
    rfl
  split<;>rfl
 split
 ·
  unfold qnc;split
  · rfl
  split
  · rfl
  refine Sta.setT_leaves _ _ _ ?_;intro _ _;rfl
 split
 ·
  unfold qnd;split
  · rfl
  simp only;rw[Sta.pub_leaves];refine Sta.setT_leaves _ _ _ ?_;intro _ _;rfl
 rfl
theorem que(h:qn5 c s r=0):(qjc r).1=0:=by
 unfold qn5 at h;split at h
 · cases h
 rename_i h0
 omega
theorem quf(hs:s.Ok)(hr:r.Good)(ha:qlm r.op=true)(h:∀t,s.tres[0]? =some t→t.leaves.length<1024)(ls:Sta):(s.setT 0 fun t=>{t with leaves:=t.leaves++[qni ls r]}).Ok:=by
 obtain⟨t,h1,h2,h3⟩:=hs.first;refine hs.setT (fun y hy o=>?_) (fun _ y _ h4 h5=>⟨h4,h5⟩);have e:y=t:=by
  rw[h1]at hy;injection hy with hy;exact hy.symm
 subst e;have h6:=h y h1;exact {o with
  leaves:=by simp[h3];omega
  leafb:=fun b hb=>by
   rcases List.mem_append.1 hb with h|h
   · exact o.leafb b h
   obtain rfl:=List.mem_singleton.1 h;exact qtt _ r hr ha
  hds:=by have:=o.hds;simp;omega}
theorem qug(he:s'.tres[0]?.map (·.leaves)=s.tres[0]?.map (·.leaves))(h:(s.tres[0]?.getD Tre.zero).leaves.length<1024):∀t,s'.tres[0]? =some t→t.leaves.length<1024:=by
 intro t ht;rw[ht]at he;cases h0:s.tres[0]? with
 |none=>rw[h0]at he;cases he
 |some x=>
  rw[h0]at he h;simp at he h;rw[he];exact h
theorem quh(hs:s.Ok)(hr:r.Good):(doS c s r).1.Ok:=by
 unfold doS;split
 · exact hs
 rename_i hm
 have hm0:qn5 c s r=0:=zo;have henc:=que hm0;have h1:=qub (c:=c) hs hr (qty henc);have h0:qlm r.op=true→_:=fun ha=>qud (c:=c) (s:=s) ha
 obtain⟨s1,a,h⟩:∃s1 a,qnh c s r=(s1,a):=⟨_,_,rfl⟩;rw[h]at h1 h0 ⊢;simp only at h1 h0 ⊢;split
 · exact hs
 split
 · exact hs
 rename_i hl
 split
 · exact hs
 have h2:=h1.setX (n:=(((s.gras[r.tid]?).getD ⟨0,0,0,false⟩).tenant).toNat) (f:=fun x=>{x with tok:=x.tok - qn4 r.op r.leaf.length}) (fun x _ o=>{o with tok:=by have:=o.tok;show x.tok - _≤x.burst;omega});split
 · rename_i ha
   refine(quf h2 hr ha (qug (s:=s) (h0 ha) ?_) _).pub c zdc;rw[ha]at hl;simp at hl;exact hl
 exact h2
theorem qui{y:Nat × Nat}(h:(qio bs).1=some y):askS c s bs=(s,(qj3 (rWhy 12)).2):=by
 unfold askS;rw[h]
theorem quj(h:(qio bs).1=none):askS c s bs=((doS c s (qio bs).2).1,(qj3 (doS c s (qio bs).2).2).2):=by
 unfold askS;rw[h]
theorem quk(hs:s.Ok)(hr:(qio bs).2.Good):(askS c s bs).1.Ok:=by
 cases h:(qio bs).1 with
 |some y=>
  rw[qui h];exact hs
 |none=>
  rw[quj h];dsimp only;exact quh hs hr
theorem qul(hs:s.Ok)(hn:n<4294967296):(qnk s n).Ok:={hs with draw:=hn}
theorem qum(hs:s.Ok):(qnj s).Ok:=by
 refine {hs with clock:=?_,tensn:=by simpa [qnj] using hs.tensn,tens:=fun x hx=>?_}
 · have:=hs.clock
   unfold qnj;dsimp only;split<;>omega
 obtain⟨y,hy,rfl⟩:=List.mem_map.1 hx;have o:=hs.tens y hy;split
 · exact {o with tok:=by have:=o.tok;dsimp only;split<;>omega}
 exact o
theorem qun{ws:List Int}{a:Nat}(h:qnl ws a=some n):n<ws.length∧1≤ws.getD n 0:=by
 unfold qnl at h;have h1:=List.find?_some h;simp at h1;refine⟨?_,by simpa [tB4] using h1⟩;rcases Nat.lt_or_ge n ws.length with h2|h2
 · exact h2
 rw[List.getElem?_eq_none h2]at h1;simp at h1
theorem quo{a:Nat}(h:qnl (s.tres.mapIdx fun i t=>qnm i t) a=some n):n≠0∧∃t,s.tres[n]? =some t∧ql4 t.state=true∧1≤t.weight:=by
 obtain⟨h1,h2⟩:=qun h;rw[List.length_mapIdx]at h1;rw[tB4,List.getElem?_mapIdx,tA7 h1]at h2;simp only[Option.map_some,Option.getD_some]at h2;unfold qnm at h2;split at h2
 · omega
 rename_i h3
 refine⟨fun e=>h3 (.inl e),_,tA7 h1,?_,h2⟩;cases h4:ql4 (s.tres[n]).state with
 |true=>rfl
 |false=>exact absurd (.inr (by rw[h4];rfl)) h3
theorem qup(o:t.Ok)(take:Nat)(d:Int)(hd:d=t.deficit+min t.weight 4*min (max q 1) 2)(ht:take=(max (min d t.queue.length) 0).toNat):
 ({t with deficit:=if t.queue.drop take=[] then 0 else d - take,leaves:=t.leaves++t.queue.take take,queue:=t.queue.drop take}:Tre).Ok:=by
 have hl:=o.leaves;have hq:=o.queue;have hw:=o.weight;have h0:0≤d:=by
  rw[hd,o.deficit,Int.zero_add];exact Int.mul_nonneg zo zo
 exact {o with
  deficit:=by
   dsimp only;split
   · rfl
   rename_i h
   have:take<t.queue.length:=by
    rcases Nat.lt_or_ge take t.queue.length with h1|h1
    · exact h1
    exact absurd (List.drop_of_length_le h1) h
   omega
  leaves:=by
   show (t.leaves++t.queue.take take).length+(t.queue.drop take).length≤1024;simp only[tA6,tBd,tBk];omega
  leafb:=fun b hb=>by
   rcases List.mem_append.1 hb with h|h
   · exact o.leafb b h
   exact o.queueb b (tB7 h)
  queue:=by
   show (t.queue.drop take).length≤64;simp only[tBk];omega
  queueb:=fun b hb=>o.queueb b (List.mem_of_mem_drop hb)
  hds:=by
   have:=o.hds;show t.hd.size≤(t.leaves++t.queue.take take).length;rw[tA6];omega}
def takeN (c:Cfg)(t:Tre):Nat:=(max (min (t.deficit+min t.weight 4*min (max c.quantum 1) 2) t.queue.length) 0).toNat
def seqT (c:Cfg)(t:Tre):Tre:=
 {t with deficit:=if t.queue.drop (takeN c t)=[] then 0 else t.deficit+min t.weight 4*min (max c.quantum 1) 2 - takeN c t,leaves:=t.leaves++t.queue.take (takeN c t),queue:=t.queue.drop (takeN c t)}
theorem quq(hs:s.Ok):(if 0≤s.lane∧s.lane<s.tres.length then s.lane.toNat else 0)=s.lane.toNat:=by
 have hl:=hs.lane;exact if_pos ⟨hl.1,by rw[hs.tresn];omega⟩
theorem qur(hs:s.Ok)(h:qnl (s.tres.mapIdx fun i t=>qnm i t) s.lane.toNat=none):seqS c s=s:=by
 unfold seqS;dsimp only;rw[quq hs,h];have hl:=hs.lane;dsimp only;rw[Int.toNat_of_nonneg hl.1]
theorem qus(e:s1.tres=s.tres)(ht:s.tres[k]? =some t)(f:Tre→Tre):s1.setT k f=s1.setT k fun _=>f t:=by
 unfold Sta.setT;rw[qrz (f:=f) (g:=fun _=>f t) (fun x hx=>by
  rw[e,ht]at hx;injection hx with hx;rw[hx])]
theorem qut(hs:s.Ok)(h:qnl (s.tres.mapIdx fun i t=>qnm i t) s.lane.toNat=some k)(ht:s.tres[k]? =some t):
 seqS c s=if takeN c t=0 then({s with lane:=(((k+1) % 16:Nat):Int)}:Sta).setT k (fun _=>seqT c t) else(({s with lane:=(((k+1) % 16:Nat):Int)}:Sta).setT k (fun _=>seqT c t)).pub c k:=by
 unfold seqS;dsimp only;rw[quq hs,h];dsimp only;rw[ht,hs.tresn];simp only[Option.getD_some];rw[qus (s:=s) (s1:={s with lane:=(((k+1) % 16:Nat):Int)}) rfl ht];rfl
theorem quu(hs:s.Ok):(seqS c s).Ok:=by
 rcases h:qnl (s.tres.mapIdx fun i t=>qnm i t) s.lane.toNat with _|n
 · rw[qur hs h]
   exact hs
 obtain⟨h0,t,ht,hr,hw⟩:=quo h;obtain⟨h1,_⟩:=tA8 ht;have h16:=hs.tresn;have hl1:(0:Int)≤(((n+1) % 16:Nat):Int)∧(((n+1) % 16:Nat):Int)<16:=zo;have hs1:({s with lane:=(((n+1) % 16:Nat):Int)}:Sta).Ok:={hs with lane:=hl1};have hs2:=hs1.setT (n:=n) (f:=fun _=>seqT c t) (fun y hy o=>qup (hs.tre ht) (q:=c.quantum) _ _ rfl rfl) (fun e=>absurd e h0);rw[qut hs h ht];split
 · exact hs2
 exact hs2.pub c zo
theorem quv:(newS c).Ok:=by
 refine Sta.Ok.pub (n:=0) ?_ c zdc;exact {
  clock:=by decide
  draw:=by decide
  lane:=by decide
  tensn:=rfl
  tresn:=rfl
  grasn:=by decide
  tens:=fun x hx=>by
   rcases List.mem_cons.1 hx with rfl|h
   · exact⟨by decide,by decide,by decide,by decide,by decide⟩
   rw[List.eq_of_mem_replicate h];exact Ten.zero_ok
  tres:=fun x hx=>by
   rcases List.mem_cons.1 hx with rfl|h
   · exact {Tre.zero_ok with state:=by show (0:Int)≤1∧(1:Int)≤4;decide,weight:=by show (0:Int)≤1∧(1:Int)≤4;decide,live:=fun _=>⟨by show (1:Int)≤1;decide,by simp⟩,draws:=by simp,drawb:=fun x hx=>by obtain rfl:=List.mem_singleton.1 hx;decide}
   rw[List.eq_of_mem_replicate h];exact Tre.zero_ok
  gras:=fun x hx=>by
   obtain rfl:=List.mem_singleton.1 hx;exact⟨by decide,by decide,by decide⟩
  owner:=rfl
  first:=⟨_,rfl,rfl,rfl⟩}
theorem quw(op:Int)(n:Nat):qqx op (n:Int)=((qn4 op n:Nat):Int):=by
 unfold qqx qn4;split
 · split
   · omega
   split<;>omega
 rfl
theorem qux(op:Int)(n:Nat):qn4 op n≤16385:=by
 unfold qn4;split<;>omega
theorem quy(h:(qjc R).1≠0):qn5 c s R=12:=by
 unfold qn5;rw[if_pos h]
theorem quz(h:(qjc R).1=0)(hg:qtd c s R=false):qn5 c s R=20:=by
 unfold qn5;rw[if_neg zo];unfold qtd at hg;cases hy:s.gras[R.tid]? with
 |none=>rfl
 |some y=>
  rw[hy]at hg;dsimp only at hg ⊢;cases h1:qkr (qmw c.seed) (R.tid,R.cavs,R.tag) with
  |false=>rfl
  |true=>
   rw[h1]at hg;rw[if_neg zdc,if_pos];cases h2:y.revoked with
   |true=>rfl
   |false=>
    rw[h2]at hg;by_cases h3:s.clock<y.expires
    · rw[decide_eq_true h3]at hg
      simp at hg;simp[hg]
    simp[show y.expires≤s.clock by omega]
theorem qv0{y:Gra}(h:(qjc R).1=0)(hg:qtd c s R=true)(hy:s.gras[R.tid]? =some y):
 qn5 c s R=if !qn1 y.role R.op y.tenant (qn3 s R y.tenant) then 21 else match s.tenant y.tenant with|none=>22|some x=>if x.tok<qn4 R.op R.leaf.length then 22 else 0:=by
 unfold qtd at hg;rw[hy]at hg;simp only[Bool.and_eq_true]at hg;obtain⟨h1,h2,h3,h4⟩:=hg;have h5:=of_decide_eq_true h3;have h6:¬(y.revoked||decide (y.expires≤s.clock)||!qkz R.op (if qdm R.op then R.tree else 0) s.clock R.cavs)=true:=by
  rw[h4];simp at h2;simp[h2];omega
 unfold qn5;rw[if_neg zo,hy];dsimp only;rw[if_neg (by rw[h1];decide),if_neg h6];rfl
theorem qv1(h:(qjc R).1=0):R.cavs.length≤4:=by
 have hb:=qtv h;unfold qjc at h;rw[if_pos hb]at h;split at h
 · rename_i h1
   unfold qdb at h1;split at h1
   · cases h1
   omega
 rename_i h1
 exact absurd h h1
theorem Req.Good.fit(h:R.Good):R.Fit:=by
 have bd:∀{x:Int},(Lit.int .i64 x).wf=true→x<18446744073709551616:=fun {x} hx=>by
  have:=(Go.Lit.wf_int_iff _ _).1 hx;rw[IntKind.min_i64,IntKind.max_i64]at this;omega
 refine⟨h.tag,fun o=>?_⟩;have a1:=bd h.tree;have a2:=bd h.tenant;have a3:=bd h.role;have a4:=bd h.state;have a5:=bd h.weight;have a6:=h.id;have a7:=h.lo;have a8:=h.hi;have a9:=h.rate;have b1:=h.burst;have b2:=h.store;have b3:=h.expires;unfold Req.num;split<;>omega
theorem Asked.call(h:Asked w col R Ac cc Al cl)(hb:Zb w w'):Asked w' col R Ac cc Al cl:=
 ⟨h.good,h.leaf.call hb,h.leafc,h.leafm,h.cavs.call hb,h.cavc,h.cavm,h.leaf0,h.cavs0⟩
theorem qv2(c:Cfg)(s:Sta)(L:Loc)(col:Col)(k g:Nat)(css:List (List Value))(R:Req)(Ac:Option Addr)(cc:Nat)(Al:Option Addr)(cl:Nat)(w:World)(hk:Kind k)(hc:c.Ok)(hs:s.Ok)(h:Mdl w col k g c s L css)
 (hr:Asked w col R Ac cc Al cl)(hT:Tabs w)(hE:w.cell? ⟨0,0,none⟩=some (.iface 327 (.agg #[.pointer (some ⟨3,81,none⟩)]))):
 Zc 50 #[.pointer (some ⟨g,0,none⟩),.agg (reqv R (.slice Ac R.cavs.length cc) (.slice Al R.leaf.length cl)).toArray] w fun e w'=>∃(y:Gra) (cost:Nat),e=.returned (.tuple #[.agg #[.int .i64 y.tenant,.int .i64 y.role,.int .u64 (y.expires:Int),.bool y.revoked],.int .u32 (cost:Int),.int .i64 ((qn5 c s R:Nat):Int)])∧
  (qn5 c s R=0→s.gras[R.tid]? =some y∧cost=qn4 R.op R.leaf.length)∧Below w.heap.size w w':=by
 have rlen:=qjd R (.slice Ac R.cavs.length cc) (.slice Al R.leaf.length cl) hr.good.tag;have rest:=qdl R (.slice Ac R.cavs.length cc) (.slice Al R.leaf.length cl) hr.good.tag;obtain⟨Q,hQ⟩:=xeq (reqv R (.slice Ac R.cavs.length cc) (.slice Al R.leaf.length cl));have CE:=fun(w':World)(hb:Below w.heap.size w w')=>qjh R Ac cc Al cl w' hr.good.fit (hr.leaf.call hb) hr.leafc hr.leafm (hr.cavs.call hb) hr.cavc hr.cavm hr.good.tid hr.good.cavn
 have CG:=fun(w':World)(hb:Below w.heap.size w w')(h4:R.cavs.length≤4)=>qtj c s L col k g css R Ac cc Al cl w' hk hc hs (h.call hb) (hr.call hb) (hT.below hb hT.size) h4
 have CA:=fun(w':World)(hb:Below w.heap.size w w')(own ro ex rv:Value)(tn:Int)=>qtk c s L col k g css R (.slice Ac R.cavs.length cc) (.slice Al R.leaf.length cl) own ro ex rv tn w' hk hs (h.call hb) hr.good.tag hr.good.id
 rw[hQ]at rlen rest CE CG CA ⊢;obtain⟨W0,hW0⟩:=eqx ((w.alloc (.cells Q.toArray 34)).alloc (.cells #[.int .i64 0,.int .i64 0,.int .u64 0,.bool false] 66));have q0:=zNb hW0;have z0:=zNc hW0;have b0:=zMb hW0;have rng:W0.rangeAt w.heap.size 0 Q:=qap q0 0 Q zjq;have kop:Q.toArray[0]? =some (.int .i64 R.op):=by rw[tA3,←hQ];rfl
 have k47:Q.toArray[47]? =some (.slice Al R.leaf.length cl):=by rw[tA3];exact rest 12
 obtain⟨H,BB,Q0,Z0,B0,HK,HC,HS⟩:=zh8 h hW0 q0 z0 b0 hk hc hs;obtain⟨HR,RL,HQ,TT,HE,AE,AN,AO⟩:=zh8 hr rlen hQ hT hE kop k47 rng;obtain⟨AP,AQ,AR,AC⟩:=zh4 CE CG CA (zI 34 rlen);clear h q0 z0 b0 hk hc hs hr rlen rest hQ hT hE kop k47 rng CE CG CA;obtain⟨en,hen⟩:=xeq ((qjc R).1);have A9:=zh1 hen;clear hen;go_enter Tryz.func50,Tryz.ntmps50
 go_upto_region 1 with(fail)
 rw[←hW0];clear hW0;go_wp2_with (refine zld AO.o zu34 AC.o ?_)
 refine(AP.o W0 B0.o).mono ?_;rintro e w1 ⟨v1,rfl,o1,b1⟩;rw[A9.o];obtain⟨B1,AA,Z1,Q1⟩:=zh4 b1 (B0.trans (b1.mono B0.size)) (Z0.below b1 Z0.lt) (Q0.below b1 Q0.lt);clear o1 b1;by_cases h0:en=0
 ·
  subst h0;have h4:=qv1 A9.o;have AS:=zh1 h4;clear h4;have AD:=zh1 (qap Q1.o 0 Q zjq);go_upto_region 4 with(fail)
  go_wp2_with (refine zld AD.o zu34 AC.o ?_)
  refine(AQ.o w1 AA.o AS.o).mono ?_;rintro e w2 ⟨y,rfl,hy,b2⟩;obtain⟨gb,hgb⟩:=xeq (qtd c s R);rw[hgb]at hy ⊢;obtain⟨tn,htn⟩:=xeq y.tenant;obtain⟨ro,hro⟩:=xeq y.role;obtain⟨X,hX⟩:=xeq (grav y);rw[show (#[.int .i64 y.tenant,.int .i64 y.role,.int .u64 (y.expires:Int),.bool y.revoked]:Array Value)=X.toArray by rw[←hX];rfl];have lX:X.length=4:=by rw[←hX];rfl
  have oX:∀u∈X,u.oneCell'=true:=by
   rw[←hX];intro u hu;unfold grav at hu;simp only[List.mem_cons,List.not_mem_nil,or_false]at hu;rcases hu with rfl|rfl|rfl|rfl<;>rfl
  obtain⟨X0,X1,XA,A7,LX,OX,HY,AF⟩:=zh8 (show X.toArray[0]? =some (.int .i64 tn) by rw[←hX,←htn];rfl) (show X.toArray[1]? =some (.int .i64 ro) by rw[←hX,←hro];rfl) (show X.toArray=#[.int .i64 tn,.int .i64 y.role,.int .u64 (y.expires:Int),.bool y.revoked] by rw[←hX,←htn];rfl) hX lX oX hy hgb;obtain⟨A8,AG,A0,B2,GN⟩:=zh5 htn hro (zI 66 lX) b2 (Blk.new w2 66 #[.int .i64 0,.int .i64 0,.int .u64 0,.bool false]);clear hX lX oX hy hgb htn hro b2;go_upto_region 5 with(refine zst GN.o A0.o (by simp[LX.o]) OX.o ?_)
  obtain⟨W3,hW3⟩:=eqx ((w2.alloc (.cells #[.int .i64 0,.int .i64 0,.int .u64 0,.bool false] 66)).setRow w2.heap.size X.toArray);rw[←hW3];obtain⟨G,hG⟩:=eqx w2.heap.size;rw[←hG];have GS:=zh1 (show w1.heap.size≤G by rw[hG];exact B2.size);have g3:Blk W3 G 66 X.toArray:=by rw[hW3,hG];exact(Blk.new _ _ _).setRow _
  have b3:Below w1.heap.size w1 W3:=by rw[hW3];exact below_setRow (B2.alloc B2.size _) B2.size _
  obtain⟨G3,B3,AB,Z3,Q3⟩:=zh5 g3 b3 (AA.trans (b3.mono AA.size)) (Z1.below b3 Z1.lt) (Q1.below b3 Q1.lt);clear hW3 hG g3 b3;have AT:=zh1 (qap G3.o 0 X zjq);cases gb with
  |false=>
   have A1:=zh1 (quz (c:=c) (s:=s) A9.o AF.o);go_wp2_with (first
    |(refine zld (AT.o) zu66 A0.o ?_)
    |(refine zst (Z3.o) A0.o (by simp[LX.o]) OX.o ?_))
   have A2:=qap ((Z3.o).setRow X.toArray) 0 X zjq;refine bodyPost_ret (qhn rfl rfl (run_loadVar_mid _ _ 0 _ X _ A2 Tryz.underlying66 rfl A0.o)) rfl ⟨y,0,?_,fun h=>?_,below_setRow (AB.o) zo _⟩
   · rw[A1.o,←A7.o]
     rfl
   rw[A1.o]at h;cases h
  |true=>
   have hyy:=HY.o rfl;have hyo:=HS.gra hyy;obtain⟨AU,A1⟩:=zh2 hyy (qv0 A9.o AF.o hyy);obtain⟨m,rfl⟩:∃m:Nat,tn=m:=⟨tn.toNat,by have:=hyo.tenant;rw[A8.o]at this;omega⟩;have hm16:m<16:=by have:=hyo.tenant;rw[A8.o]at this;omega
   obtain⟨x,hx⟩:∃x,s.tens[m]? =some x:=⟨_,tA7 (by rw[HS.tensn];omega)⟩;have HX:=zh1 hx;have hxt:s.tenant y.tenant=some x:=by
    unfold Sta.tenant;rw[A8.o,if_pos zo,tBe];exact hx
   obtain⟨AV,HM⟩:=zh2 hxt hm16;clear hyy hyo hx hxt hm16;go_upto_region 8 with(fail)
   obtain⟨W4,hW4⟩:=eqx (W3.alloc (.cells #[.pointer none] 218));rw[←hW4];obtain⟨p,hp⟩:=eqx W3.heap.size;rw[←hp];have p4:Blk W4 p 218 #[.pointer none]:=by rw[hW4,hp];exact Blk.new _ _ _
   have b4:=zMa hW4;obtain⟨PS,P4,BC,A5,Z4,Q4,G4⟩:=zh7 (show W3.heap.size≤p by omega) p4 b4 (AB.trans (b4.mono AB.size)) (Z3.below b4 Z3.lt) (Q3.below b4 Q3.lt) (G3.below b4 G3.lt);clear hW4 hp p4 b4;obtain⟨S,HS9⟩:=zS fun w'=>Below W4.heap.size W4 w'
   refine zrs S 12 (zq 0 9 [(11,false),(9,true),(10,true),(12,true)]) ((HS9.o _).mpr ((tA5 _ _).drew)) ?_;obtain⟨F0,F1,F2,FQ,FG⟩:=zh5 (fun(w':World)(h:S w')=>((G4.below ((HS9.o w').mp h) G4.lt).cell 0).trans X0.o) (fun(w':World)(h:S w')=>((G4.below ((HS9.o w').mp h) G4.lt).cell 1).trans X1.o) (fun(w':World)(h:S w')=>((Q4.below ((HS9.o w').mp h) Q4.lt).cell 0).trans AE.o) (fun(w':World)(h:S w')=>qap (Q4.below ((HS9.o w').mp h) Q4.lt) 0 Q zjq) (fun(w':World)(h:S w')=>qap (G4.below ((HS9.o w').mp h) G4.lt) 0 X zjq);iterate 7 (refine zr3 ?_)
   refine qos rfl rfl 34 (.tmp 3) rfl w.heap.size 0 rfl Q _ FQ.o Tryz.underlying34 rfl AC.o ?_;refine zP ?_;refine qos rfl rfl 66 (.tmp 9) rfl G 0 rfl X _ FG.o Tryz.underlying66 rfl A0.o ?_;refine zP ?_;iterate 1 (refine zrb ?_)
   obtain⟨Wd,hWd,BD⟩:=zdr W4;rw[←hWd];clear hWd;have AW:=zh1 (A5.trans (BD.mono A5.size));refine zw ?_;go_simp;rw[XA.o];refine zcb (AR.o Wd AW.o (.bool false) (.int .i64 y.role) (.int .u64 (y.expires:Int)) (.bool y.revoked) (m:Int)) fun w5 b5=>?_
   have B5:=zh1 (BD.trans (b5.mono BD.size));clear b5;refine⟨(HS9.o _).mpr B5.o,zput ?_⟩;refine zw ?_;go_simp;refine(qtm ro R.op (m:Int) (qn3 s R (m:Int)) w5).mono ?_;rintro e w6 ⟨v6,rfl,b6,hd1,hd2⟩;obtain⟨B6,S5⟩:=zh2 (B5.trans (b6.mono B5.size)) (show W4.heap.size≤w5.heap.size from B5.size);clear b6;refine⟨(HS9.o _).mpr B6.o,zput ?_⟩;refine zw ?_;go_simp;cases hdec:qn1 ro R.op (m:Int) (qn3 s R (m:Int)) with
   |false=>
    obtain⟨eg,rfl,e6,es⟩:=hd2 hdec;have why21:qn5 c s R=21:=by
     rw[A1.o,AG.o,A8.o,hdec];rfl
    obtain⟨A4,E6,ES⟩:=zh3 why21 e6 es;clear hd1 hd2 hdec e6 es why21;obtain⟨P6,A6,G6,Z6⟩:=zh4 (P4.below B6.o P4.lt) (A5.trans (B6.mono A5.size)) (G4.below B6.o G4.lt) (Z4.below B6.o Z4.lt);refine zcb (qto ⟨eg,0,none⟩ ⟨p,0,none⟩ (.pointer none) w6 (qai HE.o A6.o) ((P6.cell 0).trans rfl) (P6.frozen 0)) fun w7 hw7=>?_
    obtain⟨W6,hW6⟩:=eqx ((((w6.alloc (.cells #[.pointer (some ⟨p,0,none⟩)] 222)).alloc (.cells #[.pointer (some ⟨3,222,none⟩),.pointer (some ⟨w6.heap.size,0,none⟩),.int .u64 150] 284)).alloc (.cells #[.pointer (some ⟨3,222,none⟩),.pointer (some ⟨w6.heap.size,0,none⟩),.int .u64 150] 284)).alloc (.cells #[.pointer (some ⟨eg,0,none⟩)] 218));rw[←hW6]at hw7;have b66:Below w6.heap.size w6 W6:=by rw[hW6];exact qah (qah (qah (qah (tA5 _ _) _) _) _) _
    have AH:=P6.below b66 P6.lt;have AI:=E6.below b66 E6.lt;have AJ:=G6.below b66 G6.lt;have AK:=Z6.below b66 Z6.lt;have AL:=A6.trans (b66.mono A6.size);have pw:w.heap.size≤p:=by have:=PS.o;have:=AB.size;omega
    have ne1:eg≠p:=by have:=ES.o;have:=P4.lt;have:=S5.o;omega
    have ne2:G≠p:=by have:=G3.lt;have:=PS.o;omega
    have ne3:w.heap.size+1≠p:=by have:=Z3.lt;have:=PS.o;omega
    have p7:Blk w7 p 218 #[.pointer (some ⟨eg,0,none⟩)]:=by rw[hw7];exact AH.set_ 0 _
    have e7:Blk w7 eg 224 #[.int .i64 R.op,.int .i64 ro,.int .i64 21]:=by rw[hw7];exact AI.far (p:=⟨p,0,none⟩) ne1 _
    have g7:Blk w7 G 66 X.toArray:=by rw[hw7];exact AJ.far (p:=⟨p,0,none⟩) ne2 _
    have z7:Blk w7 (w.heap.size+1) 66 #[.int .i64 0,.int .i64 0,.int .u64 0,.bool false]:=by rw[hw7];exact AK.far (p:=⟨p,0,none⟩) ne3 _
    have b7:Below w.heap.size w w7:=by rw[hw7];exact AL.setCell (p:=⟨p,0,none⟩) pw _
    obtain⟨AX,AY,AZ,P7,E7,G7,Z7,B7⟩:=zh8 ne3 (show eg≠w.heap.size+1 by have:=ES.o;have:=A5.size;have:=S5.o;have:=Z4.lt;omega) (show G≠w.heap.size+1 by have:=GS.o;have:=Z1.lt;omega) p7 e7 g7 z7 b7;clear hw7 hW6 b66 AH AI AJ AK AL p7 e7 g7 z7 b7 ne1 ne2 ne3 pw HS9 F0 F1 F2 FQ FG;refine zP ?_;refine qbg ?_;go_upto_region 9 with(fail)
    obtain⟨S,HS9⟩:=zS fun w'=>Below w.heap.size w w'∧Blk w' p 218 #[.pointer (some ⟨eg,0,none⟩)]∧Blk w' eg 224 #[.int .i64 R.op,.int .i64 ro,.int .i64 21]∧Blk w' G 66 X.toArray
    refine zrs S 8 (zq 0 5 [(5,true),(6,false),(7,false)]) ((HS9.o _).mpr ⟨B7.drew,P7.o,E7.o,G7.o⟩) ?_;obtain⟨F0,F1,FG⟩:=zh3 (fun(w':World)(h:S w')=>(((HS9.o w').mp h).2.1.cell 0).trans (show (#[.pointer (some ⟨eg,0,none⟩)]:Array Value)[0]? =some (.pointer (some ⟨eg,0,none⟩)) from rfl)) (fun(w':World)(h:S w')=>(((HS9.o w').mp h).2.2.1.cell 2).trans (show (#[.int .i64 R.op,.int .i64 ro,.int .i64 21]:Array Value)[2]? =some (.int .i64 21) from rfl)) (fun(w':World)(h:S w')=>qap ((HS9.o w').mp h).2.2.2 0 X zjq);refine qos rfl rfl 66 (.tmp 9) rfl G 0 rfl X _ FG.o Tryz.underlying66 rfl A0.o ?_;refine zP ?_;iterate 4 (refine zr2 ?_)
    obtain⟨W8,hW8⟩:=eqx w7.drew;have b8:Below w7.heap.size w7 W8:=by rw[hW8];exact(tA5 _ _).drew
    rw[←hW8];obtain⟨Z8,B8,P8,E8,G8⟩:=zh5 (Z7.below b8 Z7.lt) (B7.trans (b8.mono B7.size)) (P7.below b8 P7.lt) (E7.below b8 E7.lt) (G7.below b8 G7.lt);clear hW8 b8;refine zw ?_;refine wp_store_row 66 (.tmp 4) (.tmp 45) rfl (w.heap.size+1) X.toArray rfl rfl 66 _ Z8.o (by simpa using A0.o) (by simp[LX.o]) (by simpa using OX.o) ?_;have gp:=P8.grown (qam _ (w.heap.size+1) X.toArray) (by intro e;injection e with e;exact AX.o e.symm);have ge:=E8.grown (qam _ (w.heap.size+1) X.toArray) (by intro e;injection e with e;exact AY.o e);have gx:=G8.grown (qam _ (w.heap.size+1) X.toArray) (by intro e;injection e with e;exact AZ.o e);have A2:=qap (Z8.setRow X.toArray) 0 X zjq;have B4:=zh1 A2;refine⟨fun _=>(HS9.o _).mpr ⟨below_setRow B8.o zo _,gp,ge,gx⟩,?_⟩;clear gp ge gx A2;refine zP ?_;iterate 2 (refine zrb ?_)
    refine qbg ?_;go_wp2_with fail
    refine bodyPost_ret (qhn rfl rfl (run_loadVar_mid _ _ 0 _ X _ B4.o Tryz.underlying66 rfl A0.o)) rfl ⟨y,0,?_,fun h=>?_,below_setRow B8.o zo _⟩
    · rw[A4.o,←A7.o]
      rfl
    rw[A4.o]at h;cases h
   |true=>
    obtain rfl:=hd1 hdec;have why:qn5 c s R=if x.tok<qn4 R.op R.leaf.length then 22 else 0:=by
     rw[A1.o,AG.o,A8.o,hdec,←A8.o,AV.o];rfl
    have A4:=zh1 why;clear hd1 hd2 hdec why;obtain⟨A6,Q6,G6,Z6⟩:=zh4 (A5.trans (B6.mono A5.size)) (Q4.below B6.o Q4.lt) (G4.below B6.o G4.lt) (Z4.below B6.o Z4.lt);have H6:=zh1 (H.call A6.o);have CT:=zh1 (qr7 (m:Int) c s L col k g css w6 H6.o);have c3:w6.cell? ⟨L.tg,m*6+3,none⟩=some (.int .u32 (x.tok:Int)):=H6.st.tens.cell ((qo4 HX.o zo).trans rfl);have C3:=zh1 c3;clear c3;refine(qtn _ w6).mono ?_;rintro e w7 ⟨rfl,rfl⟩;clear HS9 F0 F1 F2 FQ FG;refine zP ?_;refine qbg ?_;obtain⟨ln,hln⟩:=xeq R.leaf.length;have kop:=(Q6.cell 0).trans AE.o;have k47:=(Q6.cell 47).trans AN.o;rw[hln]at k47 A4;have B9:=zh1 hln;clear hln;go_wp2_with fail
    refine(qqy R.op (ln:Int) _).mono ?_;rintro e w8 ⟨rfl,rfl⟩;rw[quw];obtain⟨K,hK⟩:=xeq (qn4 R.op ln);rw[hK]at A4 ⊢;have BA:=zh1 hK;clear hK kop k47;have x0:=(G6.cell 0).trans X0.o;go_wp2_with fail
    refine CT.o.mono ?_;rintro e w9 ⟨rfl,rfl⟩;rw[if_pos ⟨by omega,by have:=HM.o;omega⟩,tBe];clear x0;have c3:=C3.o;have AM:=zh1 (qap G6.o 0 X zjq);obtain⟨tk,htk⟩:=xeq x.tok;rw[htk]at c3 A4;clear htk;by_cases hlt:tk<K
    ·
     have ql:(tk:Int)<K:=zo;have A3:=zh1 (show qn5 c s R=22 by rw[A4.o,if_pos hlt]);clear hlt;go_wp2_with (first
      |(refine zld (AM.o) zu66 A0.o ?_)
      |(refine zst (Z6.o) A0.o (by simp[LX.o]) OX.o ?_))
     have A2:=qap ((Z6.o).setRow X.toArray) 0 X zjq;refine bodyPost_ret (qhn rfl rfl (run_loadVar_mid _ _ 0 _ X _ A2 Tryz.underlying66 rfl A0.o)) rfl ⟨y,0,?_,fun h=>?_,below_setRow (A6.o) zo _⟩
     · rw[A3.o,←A7.o]
       rfl
     rw[A3.o]at h;cases h
    have ql:¬(tk:Int)<K:=zo;have A3:=zh1 (show qn5 c s R=0 by rw[A4.o,if_neg hlt]);clear hlt;go_wp2_with (first
     |(refine zld (AM.o) zu66 A0.o ?_)
     |(refine zst (Z6.o) A0.o (by simp[LX.o]) OX.o ?_))
    have A2:=qap (Z6.setRow X.toArray) 0 X zjq;refine bodyPost_ret (qhn rfl rfl (run_loadVar_mid _ _ 0 _ X _ A2 Tryz.underlying66 rfl A0.o)) rfl ⟨y,K,?_,fun h=>⟨AU.o,by rw[←BA.o,B9.o]⟩,below_setRow A6.o zo _⟩;rw[A3.o,←A7.o];rfl
 have A1:=zh1 (quy (c:=c) (s:=s) (R:=R) (by rw[A9.o];exact h0));have qn:((en:Int)==0)=false:=by simp;omega
 obtain⟨y,hyz⟩:∃y:Gra,y=⟨0,0,0,false⟩:=⟨_,rfl⟩;obtain⟨X,hX⟩:=xeq (grav y);have lX:X.length=4:=by rw[←hX];rfl
 have oX:∀u∈X,u.oneCell'=true:=by
  rw[←hX];intro u hu;unfold grav at hu;simp only[List.mem_cons,List.not_mem_nil,or_false]at hu;rcases hu with rfl|rfl|rfl|rfl<;>rfl
 obtain⟨BT,A7,LX,OX⟩:=zh4 (show Tryz.prog.built 66 []=some X.toArray by rw[←hX,hyz];exact qte) hX lX oX;have A0:=zh1 (zI 66 LX.o);clear hX lX oX h0 hyz;go_wp2_with (first
  |(refine qbk rfl ⟨.agg X.toArray,qgr 66 _ rfl _ _ BT.o (by simp[Act.eval]),?_⟩)
  |(refine zst Z1.o A0.o (by simp[LX.o]) OX.o ?_))
 have A2:=qap ((Z1.o).setRow X.toArray) 0 X zjq;refine bodyPost_ret (qhn rfl rfl (run_loadVar_mid _ _ 0 _ X _ A2 Tryz.underlying66 rfl A0.o)) rfl ⟨y,0,?_,fun h=>?_,below_setRow (AA.o) zo _⟩
 · rw[A1.o,←A7.o]
   rfl
 rw[A1.o]at h;cases h
def Rsp.Shape (A:Rsp):Prop:=A.hd.Ok∧A.tok.2.2.length=32
theorem qv3(n:Nat):(rWhy n).Shape:=⟨Hd.zero_Ok,by simp[rWhy,qj2,qgu]⟩
theorem qv4(n:Nat):(qn6 n).Shape:=⟨Hd.zero_Ok,by simp[qn6,qj2,qgu]⟩
theorem qv5(n:Nat)(bs:List Nat)(hs:List (List Nat)):({qj2 with n:=n,bytes:=bs,hashes:=hs}:Rsp).Shape:=⟨Hd.zero_Ok,by simp[qj2,qgu]⟩
theorem qv6(ho:t.hd.Ok):(qn9 c s R t).Shape:=by
 unfold qn9;split
 · exact⟨ho,by simp[qj2,qgu]⟩
 split
 · split
   · exact qv3 _
   exact qv5 _ _ []
 split
 · split
   · exact qv3 _
   exact qv5 _ [] _
 split
 · exact qv3 _
 exact qv5 _ [] _
theorem qv7(hs:s.Ok):(qnh c s R).2.Shape:=by
 unfold qnh;split
 · unfold qna
   repeat' split
   all_goals first|exact qv3 _|exact qv4 _
 split
 · unfold qne
   repeat' split
   all_goals first|exact qv3 _|exact qv4 _|exact⟨Hd.zero_Ok,qkf _ _⟩
 split
 · unfold qnf
   repeat' split
   all_goals first|exact qv3 _|exact qv4 _
 split
 · unfold qng
   repeat' split
   all_goals first|exact qv3 _|exact qv4 _
 split
 · exact qv3 _
 rename_i t ht
 split
 · unfold qn8
   repeat' split
   all_goals first|exact qv3 _|exact qv4 _
 split
 · unfold qnb
   split
   · exact qv3 _
   exact qv4 _
 split
 · unfold qnc
   repeat' split
   all_goals first|exact qv3 _|exact qv4 _
 split
 · unfold qnd
   split
   · exact qv3 _
   exact qv4 _
 exact qv6 (s:=s) (hs.tre (Sta.tree_some ht).2.1).hd
theorem RspV.row{A:Rsp}{cs X:Array Value}(h:RspV W col base v A)(hz:Blk W G 57 cs)(hb:base'≤base):RspV (W.setRow G X) col base' v A:=by
 obtain⟨bv,hv,cav,e,h1,h2,h3,h4,h5,h6⟩:=h;exact⟨bv,hv,cav,e,qdf (tB3 h1 (qam _ G X) (.inr (qa3 h1 hz zdc))) hb,
  ⟨h2.1,qdf (tB3 h2.2 (qam _ G X) (.inr (qa3 h2.2 hz zdc))) hb⟩,
  qdf (tB3 h3 (qam _ G X) (.inr (qa3 h3 hz zdc))) hb,h4,h5,h6⟩
theorem Did.pre(hb:Zb w W)(h:Did W col w' col' k g c css s s'):Did w col w' col' k g c css s s':=
 ⟨h.mdl,h.old,(Turns.of_below _ hb).trans h.turns⟩
theorem RspV.cells{A:Rsp}(h:RspV W col base v A)(hs:A.Shape):∃X:List Value,v=.agg X.toArray∧X.length=106∧∀u∈X,u.oneCell'=true:=by
 obtain⟨bv,hv,cav,e,h1,h2,h3,-⟩:=h;obtain⟨A1,n1,c1,rfl,-⟩:=h1.sl;obtain⟨A2,n2,c2,rfl,-⟩:=h2.sl;obtain⟨A3,n3,c3,rfl,-⟩:=h3.sl;exact⟨_,e,qqj _ _ _ _ (qo2 hs.1) hs.2,qqk _ _ _ _ rfl rfl rfl⟩
theorem qv8(a b c d:Value)(R M:List Value)(hR:R.length=32)(hM:M.length=32):Tryz.prog.built 57 [(4,.agg (a::b::c::d::(R++M)).toArray)]=some (Value.int .i64 0::.int .u64 0::.slice none 0 0::.slice none 0 0::((a::b::c::d::(R++M))++tokv qgu.1 (.slice none 0 0) qgu.2.2)).toArray:=by
 obtain⟨a0,a1,a2,a3,a4,a5,a6,a7,a8,a9,a10,a11,a12,a13,a14,a15,a16,a17,a18,a19,a20,a21,a22,a23,a24,a25,a26,a27,a28,a29,a30,a31,rfl⟩:=qgq R hR;obtain⟨b0,b1,b2,b3,b4,b5,b6,b7,b8,b9,b10,b11,b12,b13,b14,b15,b16,b17,b18,b19,b20,b21,b22,b23,b24,b25,b26,b27,b28,b29,b30,b31,rfl⟩:=qgq M hM;kernel_rfl
theorem qv9{h:Hd}(ho:h.Ok):Tryz.prog.built 57 [(4,.agg (hdv h).toArray)]=some (qr1 {qj2 with hd:=h}).toArray:=
 qv8 _ _ _ _ (byv h.root) (byv h.tag) (by rw[qat,ho.rootl]) (by rw[qat,ho.tagl])
theorem qva(t:Tre)(a b d:Value)(j:Nat):(trev t a b d)[7+j]? =(hdv t.hd)[j]? :=by
 unfold trev;rw[show 7+j=j+1+1+1+1+1+1+1 by omega];simp only[tBc]
theorem qvb{a:Rsp}(d5:Did W0 col W5 col5 k g c css s s')(r5:RspV W5 col5 W0.heap.size v5 a)(hs:a.Shape)(z0:Blk W0 (w.heap.size+1) 57 Tryz.zeroCells57)(g0:col (w.heap.size+1)=0)(hk:Kind k)(b0:Zb w W0):
 ∃X:List Value,v5=.agg X.toArray∧RspK X∧Hid (Blk W5 (w.heap.size+1) 57 Tryz.zeroCells57)∧Hid (RspV (W5.setRow (w.heap.size+1) X.toArray) col5 w.heap.size v5 a)∧Hid (Did w col (W5.setRow (w.heap.size+1) X.toArray) col5 k g c css s s'):=by
 obtain⟨X,rfl,lX,oX⟩:=r5.cells hs;have z5:Blk W5 (w.heap.size+1) 57 Tryz.zeroCells57:=(d5.turns.block _ z0.lt (by rw[g0];exact qru hk)).trans z0;have g5:col5 (w.heap.size+1)=0:=(d5.turns.same _ z0.lt).trans g0;exact⟨X,rfl,⟨lX,oX⟩,z5,r5.row (X:=X.toArray) z5 b0.size,(d5.pre b0).row0 hk X.toArray g5 zo⟩
theorem qvc{f:FuncId}{args:Array Value}{K:Ending→World→Prop}{A r:Rsp}(HA:Hid (A=r))(HB:Hid (s'=s1))(HSH:Hid A.Shape)(HZ:Hid (Blk W0 (w.heap.size+1) 57 Tryz.zeroCells57))(HG:Hid (col (w.heap.size+1)=0))(HK:Hid (Kind k))(B0:Hid (Zb w W0))
 (hc:Zc f args W0 fun e w'=>∃v col',e=.returned v∧RspV w' col' W0.heap.size v r∧Did W0 col w' col' k g c css s s1)
 (h:∀X W5 col5,Hid (Blk W5 (w.heap.size+1) 57 Tryz.zeroCells57)→RspK X→Hid (RspV (W5.setRow (w.heap.size+1) X.toArray) col5 w.heap.size (.agg X.toArray) A∧Did w col (W5.setRow (w.heap.size+1) X.toArray) col5 k g c css s s')→K (.returned (.agg X.toArray)) W5:=by
  (intro X W5 col5 Z5 pk RD
   go_wp2_with (refine qrb _ _ _ X Z5.o pk ?_)
   exact qrc (Z5.setRow X.toArray) pk ⟨_,col5,rfl,RD.o⟩)):Zc f args W0 K:=by
 refine hc.mono ?_;rintro e W5 ⟨v5,col5,rfl,r5,d5⟩;rw[←HA.o]at r5;rw[←HB.o]at d5;obtain⟨X,rfl,pk,Z5,R9,D9⟩:=qvb d5 r5 HSH.o HZ.o HG.o HK.o B0.o;exact h X W5 col5 Z5 pk ⟨R9.o,D9.o⟩
theorem qvd(c:Cfg)(s:Sta)(L:Loc)(col:Col)(k g:Nat)(css:List (List Value))(R:Req)(Ac:Option Addr)(cc:Nat)(Al:Option Addr)(cl:Nat)(w:World)(hk:Kind k)(hc:c.Ok)(hs:s.Ok)(h:Mdl w col k g c s L css)
 (hr:Asked w col R Ac cc Al cl)(hT:Tabs w)(he:(qjc R).1=0):
 Zc 54 #[.pointer (some ⟨g,0,none⟩),.agg (reqv R (.slice Ac R.cavs.length cc) (.slice Al R.leaf.length cl)).toArray] w fun e w'=>∃v col',e=.returned v∧RspV w' col' w.heap.size v (qnh c s R).2∧Did w col w' col' k g c css s (qnh c s R).1:=by
 obtain⟨Q,hQ,rlen,rest,W0,hW0,q0,z0,b0⟩:=qrx R Ac cc Al cl w hr.good.tag;rw[hQ];have hG0:=h.fin.none (b:=w.heap.size+1) zo;have D0:=Did.same (css:=css) h b0;obtain⟨H,A8,Q0,Z0,B0,A1,A9,HK⟩:=zh8 h hW0 q0 z0 b0 hG0 D0 hk;obtain⟨HS,HR,RL,AA,HQ⟩:=zh5 hs hr rlen rest hQ;clear h hW0 q0 z0 b0 hG0 D0 hk hs hr rlen rest hQ;obtain⟨HC,A5,AB,A2⟩:=zh4 hc (hT.below B0.o hT.size) he (qv7 (c:=c) (R:=R) HS.o);have hop:=qtx he;obtain⟨A3,A4⟩:=zh2 (qap Q0.o 0 Q zjq) (zI 34 RL.o);obtain⟨op,hop'⟩:=xeq R.op;rw[hop']at hop;have k0:=(Q0.cell 0).trans (show Q.toArray[0]? =some (.int .i64 op) by rw[tA3,←hop',←HQ.o];rfl);have k35:=(Q0.cell 35).trans (show Q.toArray[35]? =some (.int .i64 R.tree) by rw[tA3];exact AA.o 0);obtain⟨A6,A0,HW,AW⟩:=zh4 k35 hop' (H.call B0.o) (HR.call B0.o);clear hc hT he hop' k35;cases htr:s.tree R.tree with
 |none=>
  obtain⟨CT,AC⟩:=zh2 (qr8 R.tree c s L col k g css W0 HS.o HW.o htr) htr;clear htr;have k0':=k0;rw[A8.o]at k0';go_enter Tryz.func54,Tryz.ntmps54
  go_upto_region 1 with(fail)
  rw[←A8.o];clear k0';have k35:=A6.o;go_wp2_with fail
  refine CT.o.mono ?_;rintro e w' ⟨rfl,rfl⟩;clear k35;have no:op≠6→op≠10→op≠11→op≠12→qnh c s R=(s,rWhy 23):=by
   intro h6 h10 h11 h12;unfold qnh;rw[A0.o,if_neg h6,if_neg h10,if_neg h11,if_neg h12,AC.o]
  have hcases:op=6∨op=10∨op=11∨op=12∨op=1∨op=2∨op=3∨op=4∨op=5∨op=7∨op=8∨op=9:=zo;clear hop;rcases hcases with rfl|rfl|rfl|rfl|hrest
  ·
   clear no;have hd:qnh c s R=qna c s R:=by unfold qnh;rw[if_pos A0.o]
   obtain⟨HA,HB⟩:=zh2 (show (qnh c s R).2=(qna c s R).2 by rw[hd]) (show (qnh c s R).1=(qna c s R).1 by rw[hd]);have C1:=qsy c s L col k g css R Ac cc Al cl W0 HK.o HC.o HS.o HW.o AW.o A5.o (qtz (o:=35) (l:=[(1,1,35),(1,1,36),(1,1,39)]) AB.o (by rw[A0.o];rfl) zm).1;rw[HQ.o]at C1;have CL:=zh1 C1;clear hd C1;go_wp2_with (refine zld A3.o zu34 A4.o ?_)
   exact qvc HA HB A2 Z0 A1 HK B0 (CL.o)
  ·
   clear no;have hd:qnh c s R=qne c s R:=by unfold qnh;rw[if_neg (by rw[A0.o];decide),if_pos A0.o]
   obtain⟨HA,HB⟩:=zh2 (show (qnh c s R).2=(qne c s R).2 by rw[hd]) (show (qnh c s R).1=(qne c s R).1 by rw[hd]);have C1:=qt8 c s L col k g css R Ac cc Al cl W0 HK.o HC.o HS.o HW.o AW.o A5.o;rw[HQ.o]at C1;have CL:=zh1 C1;clear hd C1;go_wp2_with fail
   refine zca (qdo 10 W0) ?_;rw[show qdm 10=false from rfl];go_wp2_with (refine zld A3.o zu34 A4.o ?_)
   exact qvc HA HB A2 Z0 A1 HK B0 (CL.o)
  ·
   clear no;have hd:qnh c s R=qnf s R:=by unfold qnh;rw[if_neg (by rw[A0.o];decide),if_neg (by rw[A0.o];decide),if_pos A0.o]
   obtain⟨HA,HB⟩:=zh2 (show (qnh c s R).2=(qnf s R).2 by rw[hd]) (show (qnh c s R).1=(qnf s R).1 by rw[hd]);have C1:=qsd c s L col k g css R Ac cc Al cl W0 HK.o HS.o HW.o AW.o;rw[HQ.o]at C1;have CL:=zh1 C1;clear hd C1;go_wp2_with fail
   refine zca (qdo 11 W0) ?_;rw[show qdm 11=false from rfl];go_wp2_with (refine zld A3.o zu34 A4.o ?_)
   exact qvc HA HB A2 Z0 A1 HK B0 (CL.o)
  ·
   clear no;have hd:qnh c s R=qng s R:=by unfold qnh;rw[if_neg (by rw[A0.o];decide),if_neg (by rw[A0.o];decide),if_neg (by rw[A0.o];decide),if_pos A0.o]
   obtain⟨HA,HB⟩:=zh2 (show (qnh c s R).2=(qng s R).2 by rw[hd]) (show (qnh c s R).1=(qng s R).1 by rw[hd]);have C1:=qsf c s L col k g css R Ac cc Al cl W0 HK.o HS.o HW.o AW.o;rw[HQ.o]at C1;have CL:=zh1 C1;clear hd C1;go_wp2_with fail
   refine zca (qdo 12 W0) ?_;rw[show qdm 12=false from rfl];go_wp2_with (refine zld A3.o zu34 A4.o ?_)
   exact qvc HA HB A2 Z0 A1 HK B0 (CL.o)
  have A7:=zh1 (no zo zo zo zo);have e6:(op==6)=false:=by simp;omega
  have ht:qdm op=true:=by unfold qdm;exact decide_eq_true zo
  have AG:=zh1 ht;clear no hrest ht;go_wp2_with fail
  refine zca (qdo op W0) ?_;rw[AG.o];go_wp2_with fail
  exact qry A7 HK (A1.o) (qr6 23 W0) (Z0.o) (A9.o)
 |some t=>
  obtain⟨hp,ht,h0,h4⟩:=Sta.tree_some htr;obtain⟨n,hn⟩:∃n:Nat,R.tree=n:=⟨R.tree.toNat,by omega⟩;rw[hn,tBe]at ht;obtain⟨CT,AC,HN,HT⟩:=zh4 (qr9 n t c s L col k g css W0 HS.o HW.o ht h0 h4) htr hn ht;clear hp h0 h4;have k35:=A6.o;rw[hn]at k35;have A6:=zh1 k35;have k0':=k0;rw[A8.o]at k0';have hto:=HS.tre ht;obtain⟨-,Ad,cd,Al',cl',Aq,cq,-,hcell,-,-,-⟩:=HW.st.tree HS.o ht;obtain⟨HV,hHV⟩:=xeq (hdv t.hd);have AH:=zh1 (show W0.rangeAt L.rg (n*75+7) HV from fun j u hu=>by
   have h7:=hcell (7+j) u ((qva _ _ _ _ j).trans (by rw[hHV];exact hu));rw[←Nat.add_assoc]at h7;exact h7)
  have lHV:HV.length=68:=by rw[←hHV];exact qo2 hto.hd
  obtain⟨AI,AJ,AE⟩:=zh3 (zI 55 lHV) hHV hto;clear htr hn ht k35 hto hcell hHV lHV;go_enter Tryz.func54,Tryz.ntmps54
  go_upto_region 1 with(fail)
  rw[←A8.o];clear k0';have k35:=A6.o;go_wp2_with fail
  refine CT.o.mono ?_;rintro e w' ⟨rfl,rfl⟩;clear k35;have yes:op≠6→op≠10→op≠11→op≠12→qnh c s R=(if op=1 then qn8 c s R t else if op=7 then qnb c s R t else if op=8 then qnc s R else if op=9 then qnd c s R t else(s,qn9 c s R t)):=by
   intro h6 h10 h11 h12;unfold qnh;rw[A0.o,if_neg h6,if_neg h10,if_neg h11,if_neg h12,AC.o]
  have hcases:op=6∨op=10∨op=11∨op=12∨op=1∨op=2∨op=3∨op=4∨op=5∨op=7∨op=8∨op=9:=zo;clear hop;rcases hcases with rfl|rfl|rfl|rfl|rfl|rfl|rfl|rfl|rfl|rfl|rfl|rfl
  ·
   clear yes;have hd:qnh c s R=qna c s R:=by unfold qnh;rw[if_pos A0.o]
   obtain⟨HA,HB⟩:=zh2 (show (qnh c s R).2=(qna c s R).2 by rw[hd]) (show (qnh c s R).1=(qna c s R).1 by rw[hd]);have C1:=qsy c s L col k g css R Ac cc Al cl W0 HK.o HC.o HS.o HW.o AW.o A5.o (qtz (o:=35) (l:=[(1,1,35),(1,1,36),(1,1,39)]) AB.o (by rw[A0.o];rfl) zm).1;rw[HQ.o]at C1;have CL:=zh1 C1;clear hd C1;go_wp2_with (refine zld A3.o zu34 A4.o ?_)
   exact qvc HA HB A2 Z0 A1 HK B0 (CL.o)
  ·
   clear yes;have hd:qnh c s R=qne c s R:=by unfold qnh;rw[if_neg (by rw[A0.o];decide),if_pos A0.o]
   obtain⟨HA,HB⟩:=zh2 (show (qnh c s R).2=(qne c s R).2 by rw[hd]) (show (qnh c s R).1=(qne c s R).1 by rw[hd]);have C1:=qt8 c s L col k g css R Ac cc Al cl W0 HK.o HC.o HS.o HW.o AW.o A5.o;rw[HQ.o]at C1;have CL:=zh1 C1;clear hd C1;go_wp2_with fail
   refine zca (qdo 10 W0) ?_;rw[show qdm 10=false from rfl];go_wp2_with (refine zld A3.o zu34 A4.o ?_)
   exact qvc HA HB A2 Z0 A1 HK B0 (CL.o)
  ·
   clear yes;have hd:qnh c s R=qnf s R:=by unfold qnh;rw[if_neg (by rw[A0.o];decide),if_neg (by rw[A0.o];decide),if_pos A0.o]
   obtain⟨HA,HB⟩:=zh2 (show (qnh c s R).2=(qnf s R).2 by rw[hd]) (show (qnh c s R).1=(qnf s R).1 by rw[hd]);have C1:=qsd c s L col k g css R Ac cc Al cl W0 HK.o HS.o HW.o AW.o;rw[HQ.o]at C1;have CL:=zh1 C1;clear hd C1;go_wp2_with fail
   refine zca (qdo 11 W0) ?_;rw[show qdm 11=false from rfl];go_wp2_with (refine zld A3.o zu34 A4.o ?_)
   exact qvc HA HB A2 Z0 A1 HK B0 (CL.o)
  ·
   clear yes;have hd:qnh c s R=qng s R:=by unfold qnh;rw[if_neg (by rw[A0.o];decide),if_neg (by rw[A0.o];decide),if_neg (by rw[A0.o];decide),if_pos A0.o]
   obtain⟨HA,HB⟩:=zh2 (show (qnh c s R).2=(qng s R).2 by rw[hd]) (show (qnh c s R).1=(qng s R).1 by rw[hd]);have C1:=qsf c s L col k g css R Ac cc Al cl W0 HK.o HS.o HW.o AW.o;rw[HQ.o]at C1;have CL:=zh1 C1;clear hd C1;go_wp2_with fail
   refine zca (qdo 12 W0) ?_;rw[show qdm 12=false from rfl];go_wp2_with (refine zld A3.o zu34 A4.o ?_)
   exact qvc HA HB A2 Z0 A1 HK B0 (CL.o)
  ·
   have hd:qnh c s R=qn8 c s R t:=by rw[yes zdc zdc zdc zdc];rfl
   obtain⟨HA,HB⟩:=zh2 (show (qnh c s R).2=(qn8 c s R t).2 by rw[hd]) (show (qnh c s R).1=(qn8 c s R t).1 by rw[hd]);have C1:=qsc c s L col k g css n t R Ac cc Al cl W0 HK.o HC.o HS.o HW.o AW.o HN.o HT.o (qty AB.o A0.o);rw[HQ.o]at C1;have CL:=zh1 C1;clear hd C1 yes;go_wp2_with fail
   refine zca (qdo 1 W0) ?_;rw[show qdm 1=true from rfl];go_wp2_with (refine zld A3.o zu34 A4.o ?_)
   exact qvc HA HB A2 Z0 A1 HK B0 (CL.o)
  ·
   have hd:qnh c s R=(s,{qj2 with hd:=t.hd}):=by
    rw[yes zdc zdc zdc zdc];show (s,qn9 c s R t)=_;unfold qn9;rw[if_pos A0.o]
   have A7:=zh1 hd;clear hd yes;go_wp2_with fail
   refine zca (qdo 2 W0) ?_;rw[show qdm 2=true from rfl];obtain⟨X,hX⟩:=xeq (qr1 {qj2 with hd:=t.hd});have lX:X.length=106:=by rw[←hX];exact qr2 _ AE.hd (by simp[qj2,qgu])
   have oX:∀u∈X,u.oneCell'=true:=by rw[←hX];exact qr3 _
   have bT:Tryz.prog.built 57 [(4,.agg HV.toArray)]=some X.toArray:=by rw[←hX,←AJ.o];exact qv9 AE.hd
   obtain⟨HX,LX,OX,BT,AF,AD⟩:=zh6 hX lX oX bT (zI 57 lX) qr4;clear hX lX oX bT;go_wp2_with (first
    |(refine zld AH.o zu55 AI.o ?_)
    |(refine qbk rfl ⟨.agg X.toArray,qgr 57 _ rfl _ _ BT.o (by simp[Act.eval,Act.put]),?_⟩)
    |(refine zst Z0.o AF.o (by simp[LX.o,AD.o]) OX.o ?_))
   have AK:=qap (Z0.setRow X.toArray) 0 X zjq;exact zrt AK zu57 AF.o ⟨_,col,rfl,(by rw[A7.o,←HX.o];exact RspV.plain _ _ _ _ rfl rfl rfl),(by rw[A7.o];exact A9.row0 HK.o X.toArray A1.o zo)⟩
  ·
   have hd:qnh c s R=(s,qn9 c s R t):=by rw[yes zdc zdc zdc zdc];rfl
   obtain⟨HA,HB⟩:=zh2 (show (qnh c s R).2=((s,qn9 c s R t)).2 by rw[hd]) (show (qnh c s R).1=((s,qn9 c s R t)).1 by rw[hd]);have C1:=qsv c s L col k g css n t R Ac cc Al cl W0 HK.o HS.o HW.o AW.o HT.o A5.o (.inl A0.o);rw[HQ.o]at C1;have CL:=zh1 C1;clear hd C1 yes;go_wp2_with fail
   refine zca (qdo 3 W0) ?_;rw[show qdm 3=true from rfl];go_wp2_with (refine zld A3.o zu34 A4.o ?_)
   exact qvc HA HB A2 Z0 A1 HK B0 (CL.o)
  ·
   have hd:qnh c s R=(s,qn9 c s R t):=by rw[yes zdc zdc zdc zdc];rfl
   obtain⟨HA,HB⟩:=zh2 (show (qnh c s R).2=((s,qn9 c s R t)).2 by rw[hd]) (show (qnh c s R).1=((s,qn9 c s R t)).1 by rw[hd]);have C1:=qsv c s L col k g css n t R Ac cc Al cl W0 HK.o HS.o HW.o AW.o HT.o A5.o (.inr (.inl A0.o));rw[HQ.o]at C1;have CL:=zh1 C1;clear hd C1 yes;go_wp2_with fail
   refine zca (qdo 4 W0) ?_;rw[show qdm 4=true from rfl];go_wp2_with (refine zld A3.o zu34 A4.o ?_)
   exact qvc HA HB A2 Z0 A1 HK B0 (CL.o)
  ·
   have hd:qnh c s R=(s,qn9 c s R t):=by rw[yes zdc zdc zdc zdc];rfl
   obtain⟨HA,HB⟩:=zh2 (show (qnh c s R).2=((s,qn9 c s R t)).2 by rw[hd]) (show (qnh c s R).1=((s,qn9 c s R t)).1 by rw[hd]);have C1:=qsv c s L col k g css n t R Ac cc Al cl W0 HK.o HS.o HW.o AW.o HT.o A5.o (.inr (.inr A0.o));rw[HQ.o]at C1;have CL:=zh1 C1;clear hd C1 yes;go_wp2_with fail
   refine zca (qdo 5 W0) ?_;rw[show qdm 5=true from rfl];go_wp2_with (refine zld A3.o zu34 A4.o ?_)
   exact qvc HA HB A2 Z0 A1 HK B0 (CL.o)
  ·
   by_cases hn0:n=0
   ·
    subst hn0;have hd:qnh c s R=(s,rWhy 24):=by
     rw[yes zdc zdc zdc zdc];show qnb c s R t=_;unfold qnb;rw[if_pos (.inl HN.o)]
    have A7:=zh1 hd;clear hd yes;go_wp2_with fail
    refine zca (qdo 7 W0) ?_;rw[show qdm 7=true from rfl];have k35:=A6.o;go_wp2_with fail
    exact qry A7 HK (A1.o) (qr6 24 W0) (Z0.o) (A9.o)
   have qn:((n:Int)==0)=false:=by simp;omega
   have hd:qnh c s R=qnb c s R t:=by rw[yes zdc zdc zdc zdc];rfl
   obtain⟨HA,HB⟩:=zh2 (show (qnh c s R).2=(qnb c s R t).2 by rw[hd]) (show (qnh c s R).1=(qnb c s R t).1 by rw[hd]);have C1:=qtc c s L col k g css n t R Ac cc Al cl W0 HK.o HS.o HW.o AW.o HT.o HN.o hn0 A0.o;rw[HQ.o]at C1;have CL:=zh1 C1;clear hd C1 yes hn0;go_wp2_with fail
   refine zca (qdo 7 W0) ?_;rw[show qdm 7=true from rfl];have k35:=A6.o;go_wp2_with (refine zld A3.o zu34 A4.o ?_)
   exact qvc HA HB A2 Z0 A1 HK B0 (CL.o)
  ·
   by_cases hn0:n=0
   ·
    subst hn0;have hd:qnh c s R=(s,rWhy 24):=by
     rw[yes zdc zdc zdc zdc];show qnc s R=_;unfold qnc;rw[if_pos (c:=R.tree=0) HN.o]
    have A7:=zh1 hd;clear hd yes;go_wp2_with fail
    refine zca (qdo 8 W0) ?_;rw[show qdm 8=true from rfl];have k35:=A6.o;go_wp2_with fail
    exact qry A7 HK (A1.o) (qr6 24 W0) (Z0.o) (A9.o)
   have qn:((n:Int)==0)=false:=by simp;omega
   have hd:qnh c s R=qnc s R:=by rw[yes zdc zdc zdc zdc];rfl
   obtain⟨HA,HB⟩:=zh2 (show (qnh c s R).2=(qnc s R).2 by rw[hd]) (show (qnh c s R).1=(qnc s R).1 by rw[hd]);have C1:=qt9 c s L col k g css n t R Ac cc Al cl W0 HK.o HS.o HW.o AW.o HT.o HN.o hn0 A0.o;rw[HQ.o]at C1;have CL:=zh1 C1;clear hd C1 yes hn0;go_wp2_with fail
   refine zca (qdo 8 W0) ?_;rw[show qdm 8=true from rfl];have k35:=A6.o;go_wp2_with (refine zld A3.o zu34 A4.o ?_)
   exact qvc HA HB A2 Z0 A1 HK B0 (CL.o)
  have hd:qnh c s R=qnd c s R t:=by rw[yes zdc zdc zdc zdc];rfl
  obtain⟨HA,HB⟩:=zh2 (show (qnh c s R).2=(qnd c s R t).2 by rw[hd]) (show (qnh c s R).1=(qnd c s R t).1 by rw[hd]);have C1:=qta c s L col k g css n t R Ac cc Al cl W0 HK.o HC.o HS.o HW.o AW.o A5.o HT.o HN.o A0.o;rw[HQ.o]at C1;have CL:=zh1 C1;clear hd C1 yes;go_wp2_with fail
  refine zca (qdo 9 W0) ?_;rw[show qdm 9=true from rfl];go_wp2_with (refine zld A3.o zu34 A4.o ?_)
  exact qvc HA HB A2 Z0 A1 HK B0 (CL.o)
structure Rest (w:World)(col:Col)(w':World)(col':Col):Prop where
 os:w'.os=w.os
 tape:w'.tape=w.tape
 output:w'.output=w.output
 size:w.heap.size≤w'.heap.size
 block:∀b,b<w.heap.size→col b=0→w'.heap[b]? =w.heap[b]? ∧col' b=0
section
variable {w w' w'' : World} {col col' col'' : Col} {p : Nat → Bool}
theorem Rest.trans(h:Rest w col w' col')(h':Rest w' col' w'' col''):Rest w col w'' col'':=
 ⟨h'.os.trans h.os,h'.tape.trans h.tape,h'.output.trans h.output,tB1 h.size h'.size,fun b hb hc=>by
  obtain⟨h1,h2⟩:=h.block b hb hc;obtain⟨h3,h4⟩:=h'.block b (tB0 hb h.size) h2;exact⟨h3.trans h1,h4⟩⟩
theorem Rest.of_turns(h:Turns p w col w' col')(h0:p 0=false):Rest w col w' col':=
 ⟨h.os,h.tape,h.output,h.size,fun b hb hc=>⟨h.block b hb (by rw[hc];exact h0),(h.same b hb).trans hc⟩⟩
theorem Rest.of_below(hb:Zb w w'):Rest w col w' col:=⟨hb.os,hb.tape,hb.output,hb.size,fun b h hc=>⟨hb.block b h,hc⟩⟩
theorem Rest.below(h:Rest w col w' col')(hc:∀b,b<B→col b=0)(hB:B≤w.heap.size):Below B w w'∧∀b,b<B→col' b=0:=
 ⟨⟨h.os,h.tape,h.output,h.size,fun b hb=>(h.block b (tB0 hb hB) (hc b hb)).1⟩,fun b hb=>(h.block b (tB0 hb hB) (hc b hb)).2⟩
theorem Rest.blk{t:TypeId}{cs:Array Value}(h:Rest w col w' col')(hb:Blk w b t cs)(hc:col b=0):Blk w' b t cs:=(h.block b hb.lt hc).1.trans hb
theorem Rest.reads(h:Rest w col w' col')(hr:Reads w w.heap.size size A n xs)(h0:0<n→∀ad,A=some ad→col ad.block=0):Reads w' w'.heap.size size A n xs:=by
 refine⟨hr.1,fun hn=>?_⟩;obtain⟨ad,e,hb,hc⟩:=hr.2 hn;refine⟨ad,e,tB0 hb h.size,fun j u hu=>?_⟩;refine(World.cell?_of_block ?_).trans (hc j u hu);rw[qa1];exact(h.block _ hb (h0 hn ad e)).1
theorem qve(h:w.ownsRow base e size v n xs)(hn:0<n):
 ∃g c,v=.slice (some ⟨g,0,none⟩) n c∧base≤g∧g<w.heap.size∧(∃cs,Blk w g e cs)∧∀(col:Col) (k:Nat),col g=k→TopAt w col k e g c size n xs:=by
 obtain⟨h1,h2⟩:=h;rcases h2 with⟨rfl,rfl⟩|⟨g,cap,cur,rfl,hb,hg,hn',hc,hs,ht⟩
 · omega
 have hb':Blk w g e cur.toList.toArray:=by simpa [Blk] using hg
 refine⟨g,cap,rfl,hb,hb'.lt,⟨_,hb'⟩,fun col k hk=>⟨hk,cur.toList.drop (n*size),?_,h1,hn',hc,?_⟩⟩
 · have:xs++cur.toList.drop (n*size)=cur.toList:=by rw[←ht];exact List.take_append_drop _ _
   rw[this];exact hb'
 have hl:n*size≤cap*size:=Nat.mul_le_mul_right _ hn';rw[h1,tBk,Array.length_toList,hs];omega
theorem TopAt.recol{c:Nat}(h:TopAt w col k e g c size n xs)(hk:∀b,col b=k→col' b=k'):TopAt w col' k' e g c size n xs:=⟨hk g h.1,h.2⟩
theorem RowC.recol(h:RowC w col k v e size n xs)(hk:∀b,col b=k→col' b=k'):RowC w col' k' v e size n xs:=by
 refine⟨h.1,?_⟩;rcases h.2 with h0|⟨g,o,c,cur,e1,hc,rest⟩
 · exact .inl h0
 exact .inr ⟨g,o,c,cur,e1,hk g hc,rest⟩
theorem TextC.recol(h:TextC w col v bs)(hk:∀b,col b=5→col' b=5):TextC w col' v bs:=by
 obtain⟨A,n,c,e,h1,h2,h3,h4⟩:=h;exact⟨A,n,c,e,h1,h2,h3,fun h0=>by obtain⟨ad,h5,h6⟩:=h4 h0;exact⟨ad,h5,hk _ h6⟩⟩
theorem TextsC.recol{ls:List (List Nat)}(h:TextsC w col k v ls)(hk:∀b,col b=k→col' b=k')(h5:∀b,col b=5→col' b=5):TextsC w col' k' v ls:=by
 obtain⟨vs,h1,h2⟩:=h;exact⟨vs,h1.recol hk,fun i bs hi=>by obtain⟨u,h3,h4⟩:=h2 i bs hi;exact⟨u,h3,h4.recol h5⟩⟩
theorem TrsAt.recol{l:List Tre}(h:TrsAt w col css l)(hk:∀k,k=5∨10≤k→∀b,col b=k→col' b=k):TrsAt w col' css l:=
 ⟨h.1,fun i t ht=>by
  obtain⟨cs,h1,vd,vl,vq,e,r1,r2,r3⟩:=h.2 i t ht;exact⟨cs,h1,vd,vl,vq,e,r1.recol (hk _ (.inr zo)),r2.recol (hk _ (.inr zo)) (hk _ (.inl rfl)),r3.recol (hk _ (.inr zo)) (hk _ (.inl rfl))⟩⟩
theorem StAt.recol(h:StAt tt rt gt w col k L css s)(h0:∀b,col b=k→col' b=k')(h1:∀b,col b=k+1→col' b=k'+1)(h2:∀b,col b=k+2→col' b=k'+2)(hk:∀k,k=5∨10≤k→∀b,col b=k→col' b=k):StAt tt rt gt w col' k' L css s:=
 ⟨h.tens.recol h0,h.tres.recol h1,h.gras.recol h2,h.trs.recol hk⟩
def Col.back (col:Col):Col:=fun b=>if col b=6 then 2 else if col b=7 then 3 else if col b=8 then 4 else if col b=2∨col b=3∨col b=4 then 0 else col b
theorem Col.back_0(h:col b=0):col.back b=0:=by unfold Col.back;rw[h];simp
theorem Col.back_1(h:col b=1):col.back b=1:=by unfold Col.back;rw[h];simp
theorem Col.back_5(h:col b=5):col.back b=5:=by unfold Col.back;rw[h];simp
theorem Col.back_big(h:col b=k)(hk:10≤k):col.back b=k:=by
 unfold Col.back;rw[h,if_neg zo,if_neg zo,if_neg zo,if_neg zo]
theorem Col.back_ne(h:col.back b≠0):col b≠0:=fun e=>h (Col.back_0 e)
theorem Mdl.back(h:Mdl w col 6 g c s L css):Mdl w col.back 2 g c s L css:=
 ⟨h.blk,Col.back_1 h.own,⟨h.base.1,fun b hb=>Col.back_0 (h.base.2 b hb)⟩,fun b hb=>h.fin b (Col.back_ne hb),h.seed.recol (fun b hb=>Col.back_5 hb),
  h.st.recol (fun b hb=>by unfold Col.back;rw[hb];rfl) (fun b hb=>by unfold Col.back;rw[hb];rfl) (fun b hb=>by unfold Col.back;rw[hb];rfl) (fun k hk b hb=>by rcases hk with rfl|hk;exact Col.back_5 hb;exact Col.back_big hb hk)⟩
theorem Rest.back(h:Rest w col w' col'):Rest w col w' col'.back:=⟨h.os,h.tape,h.output,h.size,fun b hb hc=>⟨(h.block b hb hc).1,Col.back_0 (h.block b hb hc).2⟩⟩
theorem RspV.back{R:Rsp}(h:RspV w col base v R):RspV w col.back base v R:=by
 obtain⟨bv,hv,cav,e,h1,h2,h3,h4,h5,h6⟩:=h;exact⟨bv,hv,cav,e,h1,h2,h3,fun g hg=>Col.back_0 (h4 g hg),fun g hg=>Col.back_0 (h5 g hg),fun g hg=>Col.back_0 (h6 g hg)⟩
def Col.three (col:Col)(a b d:Nat):Col:=fun x=>if x=a then 6 else if x=b then 7 else if x=d then 8 else col x
theorem Mdl.fork(h:Mdl w col 2 g c s L css)(hs:s.Ok)(hb:Zb w w')
 (ht:w'.ownsRow w.heap.size 92 6 vt 16 (s.tens.flatMap tenv))(hr:w'.ownsRow w.heap.size 74 75 vr 16 css.flatten)(hg:w'.ownsRow w.heap.size 66 4 vg s.gras.length (s.gras.flatMap grav)):
 ∃(L6:Loc) (col':Col),vt=.slice (some ⟨L6.tg,0,none⟩) 16 L6.tc∧vr=.slice (some ⟨L6.rg,0,none⟩) 16 L6.rc∧vg=.slice (some ⟨L6.gg,0,none⟩) s.gras.length L6.gc∧
  Mdl (((w'.setCell ⟨g,7,none⟩ vt).setCell ⟨g,8,none⟩ vr).setCell ⟨g,9,none⟩ vg) col' 6 g c s L6 css∧
  StAt 92 74 66 (((w'.setCell ⟨g,7,none⟩ vt).setCell ⟨g,8,none⟩ vr).setCell ⟨g,9,none⟩ vg) col' 2 L css s∧
  Turns (· ==1) w col (((w'.setCell ⟨g,7,none⟩ vt).setCell ⟨g,8,none⟩ vr).setCell ⟨g,9,none⟩ vg) col':=by
 have hgn:0<s.gras.length:=by obtain⟨h,_⟩:=tA8 hs.owner;exact h
 obtain⟨tg,tc,rfl,t1,t2,⟨tcs,t3⟩,t4⟩:=qve ht zdc;obtain⟨rg,rc,rfl,r1,r2,⟨rcs,r3⟩,r4⟩:=qve hr zdc;obtain⟨gg,gc,rfl,g1,g2,⟨gcs,g3⟩,g4⟩:=qve hg hgn;have n1:tg≠rg:=fun e=>by
  subst e;have:=t3.symm.trans r3;injection this with this;injection this with _ this;cases this
 have n2:tg≠gg:=fun e=>by
  subst e;have:=t3.symm.trans g3;injection this with this;injection this with _ this;cases this
 have n3:rg≠gg:=fun e=>by
  subst e;have:=r3.symm.trans g3;injection this with this;injection this with _ this;cases this
 obtain⟨col',hcol⟩:∃col':Col,col'=col.three tg rg gg:=⟨_,rfl⟩;have same:∀b,b<w.heap.size→col' b=col b:=fun b hb'=>by
  rw[hcol];unfold Col.three;rw[if_neg zo,if_neg zo,if_neg zo]
 have c6:col' tg=6:=by rw[hcol];unfold Col.three;rw[if_pos rfl]
 have c7:col' rg=7:=by rw[hcol];unfold Col.three;rw[if_neg (Ne.symm n1),if_pos rfl]
 have c8:col' gg=8:=by rw[hcol];unfold Col.three;rw[if_neg (Ne.symm n2),if_neg (Ne.symm n3),if_pos rfl]
 have fin':Fin_ col' w':=fun b hb'=>by
  rw[hcol]at hb';unfold Col.three at hb';split at hb'
  · omega
  split at hb'
  · omega
  split at hb'
  · omega
  exact tB0 (h.fin b hb') hb.size
 have T0:Turns (fun _=>false) w col w' col':=(Turns.of_below (fun _=>false) hb).recolour same;have gl:g<w.heap.size:=h.blk.lt;have cg:col' g=1:=(same g gl).trans h.own;have gw':Blk w' g 117 (mdlv c s L):=(hb.block g gl).trans h.blk;obtain⟨W1,hW1⟩:=eqx (w'.setCell ⟨g,7,none⟩ (.slice (some ⟨tg,0,none⟩) 16 tc));obtain⟨W2,hW2⟩:=eqx (W1.setCell ⟨g,8,none⟩ (.slice (some ⟨rg,0,none⟩) 16 rc));obtain⟨W3,hW3⟩:=eqx (W2.setCell ⟨g,9,none⟩ (.slice (some ⟨gg,0,none⟩) s.gras.length gc));rw[←hW1,←hW2,←hW3];have T3:Turns (· ==1) w' col' W3 col':=by
  rw[hW3,hW2,hW1];exact((Turns.setCell (col:=col') _ (by simp[cg])).trans (Turns.setCell (col:=col') _ (by simp[cg]))).trans (Turns.setCell (col:=col') _ (by simp[cg]))
 have TT:Turns (· ==1) w col W3 col':=(T0.mono (fun k hk=>by cases hk)).trans T3;have kp:∀i,i≠1→KeepsCol i w' col' W3 col':=fun i hi=>T3.keeps (by simpa using hi)
 have kq:∀i,i≠1→KeepsCol i w col W3 col':=fun i hi=>TT.keeps (by simpa using hi)
 have B3:Blk W3 g 117 (mdlv c s {L with tg:=tg,tc:=tc,rg:=rg,rc:=rc,gg:=gg,gc:=gc}):=by
  rw[hW3,hW2,hW1];exact((gw'.set_ 7 _).set_ 8 _).set_ 9 _
 refine⟨{L with tg:=tg,tc:=tc,rg:=rg,rc:=rc,gg:=gg,gc:=gc},col',rfl,rfl,rfl,⟨B3,cg,⟨tB1 h.base.1 TT.size,fun b hb'=>(same b (tB0 hb' h.base.1)).trans (h.base.2 b hb')⟩,fin'.mono T3.size,h.seed.keep (kq 5 zdc),?_⟩,?_,TT⟩
 · exact⟨(t4 col' 6 c6).keep (kp 6 zdc),(r4 col' 7 c7).keep (kp 7 zdc),(g4 col' 8 c8).keep (kp 8 zdc),h.st.trs.keep fun i hi=>kq i zo⟩
 exact h.st.keep (kq 2 zdc) (kq 3 zdc) (kq 4 zdc) fun i hi=>kq i zo
theorem Mdl.unfork(h:Mdl w col 6 g c s1 L1 css1)(hst:StAt 92 74 66 w col 2 L css s):
 ∃L',Mdl (w.setCells g 4 (stav s L)) col 2 g c s L' css∧Turns (· ==1) w col (w.setCells g 4 (stav s L)) col:=by
 have T:Turns (· ==1) w col (w.setCells g 4 (stav s L)) col:=Turns.setCells _ (by simp[h.own]);have kp:∀i,i≠1→KeepsCol i w col (w.setCells g 4 (stav s L)) col:=fun i hi=>T.keeps (by simpa using hi)
 have hst':=hst.keep (kp 2 zdc) (kp 3 zdc) (kp 4 zdc) fun i hi=>kp i zo
 refine⟨{L with sa:=L1.sa,sn:=L1.sn,sc:=L1.sc},⟨?_,h.own,⟨tB1 h.base.1 T.size,h.base.2⟩,h.fin.mono T.size,h.seed.keep (kp 5 zdc),⟨hst'.tens,hst'.tres,hst'.gras,hst'.trs⟩⟩,T⟩;have hb:Blk w g 117 (mdlv c s1 L1).toList.toArray:=by simpa using h.blk
 have h2:=qno (stav s L) 4 w _ hb (by simp[mdlv,stav]);exact h2
end
end Go.Proofs.YthomgopipiomhaaGreatDoor

/-
  Lemmas for ModelNumbers, shortened by program.
-/
import Derived.Test.YthomgopipiomhaaGreatDoorBMN18
namespace Go.Proofs.YthomgopipiomhaaGreatDoor
set_option linter.unusedVariables false
set_option linter.unusedSimpArgs false
set_option maxRecDepth 100000
set_option maxHeartbeats 32000000
section
open Go.RowKit
theorem qrg {α:Type}{f:α→α}(h:∀x,f x=x):∀(l:List α) (n:Nat),l.modify n f=l
 |[],n=>by simp
 |x::l,0=>by simp[h]
 |x::l,n+1=>by simp[qrg h l n]
theorem Did.step {w W W':World}{col col' col'':Col}{k g:Nat}{c:Cfg}{css:List (List Value)}{s s1 s2:Sta}(h:Did w col W col' k g c css s s1)(hT:Turns (inP k) W col' W' col'')(ho:∀i,i=5∨10≤i→KeepsCol i W col' W' col'')(hm:∃L' css',Mdl W' col'' k g c s2 L' css'):Did w col W' col'' k g c css s s2:=
 ⟨hm,h.old.keep ho,h.turns.trans hT⟩
theorem Mdl.state1 {w:World}{col:Col}{k g:Nat}{c:Cfg}{s:Sta}{L:Loc}{css:List (List Value)}(h:Mdl w col k g c s L css)(hk:Kind k)(hs:s.Ok){n:Nat}{t:Tre}(ht:s.tres[n]? =some t)(x:Int):
 Mdl (w.setCell ⟨L.rg,n*75,none⟩ (.int .i64 x)) col k g c (s.setT n fun t=>{t with state:=x}) L (css.modify n fun cs=>over cs 0 [.int .i64 x]):=
 h.treOver hk hs ht (j:=0) (cs:=[.int .i64 x]) (fun t=>{t with state:=x}) (by simp) (fun vd vl vq=>by simp[over,trev]) rfl rfl rfl
theorem Mdl.deficit1 {w:World}{col:Col}{k g:Nat}{c:Cfg}{s:Sta}{L:Loc}{css:List (List Value)}(h:Mdl w col k g c s L css)(hk:Kind k)(hs:s.Ok){n:Nat}{t:Tre}(ht:s.tres[n]? =some t)(x:Int):
 Mdl (w.setCell ⟨L.rg,n*75+3,none⟩ (.int .i64 x)) col k g c (s.setT n fun t=>{t with deficit:=x}) L (css.modify n fun cs=>over cs 3 [.int .i64 x]):=
 h.treOver hk hs ht (j:=3) (cs:=[.int .i64 x]) (fun t=>{t with deficit:=x}) (by simp) (fun vd vl vq=>by simp[over,trev]) rfl rfl rfl
theorem Mdl.queueNil {w:World}{col:Col}{k g:Nat}{c:Cfg}{s:Sta}{L:Loc}{css:List (List Value)}(h:Mdl w col k g c s L css)(hk:Kind k)(hs:s.Ok){n:Nat}{t:Tre}(ht:s.tres[n]? =some t):
 ∃css',Mdl (w.setCell ⟨L.rg,n*75+6,none⟩ (.slice none 0 0)) col k g c (s.setT n fun t=>{t with queue:=[]}) L css'∧TrsAt (w.setCell ⟨L.rg,n*75+6,none⟩ (.slice none 0 0)) col css s.tres∧Turns (inP k) w col (w.setCell ⟨L.rg,n*75+6,none⟩ (.slice none 0 0)) col:=by
 obtain⟨hn16,Ad,cd,Al,cl,Aq,cq,hcs,-,r1,r2,r3⟩:=h.st.tree hs ht;exact⟨_,h.treRow hk hs ht hcs (.inr (.inr rfl)) (Turns.refl _ w col) h.fin (fun t=>{t with queue:=[]}) (.slice none 0 0) (by omega) ⟨_,_,_,rfl,r1,r2,r3⟩ ⟨_,_,_,rfl,r1,r2,TextsC.nil _ _ _⟩⟩
theorem qrh (c:Cfg)(s:Sta)(L:Loc)(col:Col)(k g:Nat)(css:List (List Value))(n:Nat)(t:Tre)(R:Req)(Ac:Option Addr)(cc:Nat)(Al:Option Addr)(cl:Nat)(w:World)(hk:Kind k)(hs:s.Ok)(h:Mdl w col k g c s L css)
 (hr:Asked w col R Ac cc Al cl)(ht:s.tres[n]? =some t)(hrt:R.tree=(n:Int))(hn0:n≠0)(hop:R.op=7):
 Calls Tryz.prog 137 #[.pointer (some ⟨g,0,none⟩),.pointer (some ⟨L.rg,n*75,none⟩),.agg (reqv R (.slice Ac R.cavs.length cc) (.slice Al R.leaf.length cl)).toArray] w fun e w'=>∃v col',e=.returned v∧RspV w' col' w.heap.size v (qm7 c s R t).2∧Did w col w' col' k g c css s (qm7 c s R t).1:=by
 obtain⟨hn16,Ad,cd,Al',cl',Aq,cq,hcs,hcell,hrd,hrl,hrq⟩:=h.st.tree hs ht;have rlen:=qis R (.slice Ac R.cavs.length cc) (.slice Al R.leaf.length cl) hr.good.tag;have rest:=qgu R (.slice Ac R.cavs.length cc) (.slice Al R.leaf.length cl) hr.good.tag;obtain⟨Q,hQ⟩:=xeq (reqv R (.slice Ac R.cavs.length cc) (.slice Al R.leaf.length cl));rw[hQ]at rlen rest ⊢;obtain⟨W0,hW0⟩:=eqx ((w.alloc (.cells Q.toArray 34)).alloc (.cells Tryz.zeroCells57 57));have q0:Blk W0 w.heap.size 34 Q.toArray:=by rw[hW0];exact(Blk.new w _ _).alloc _
 have z0:Blk W0 (w.heap.size+1) 57 Tryz.zeroCells57:=by
  have h:=Blk.new (w.alloc (.cells Q.toArray 34)) 57 Tryz.zeroCells57;rw[qar]at h;rw[hW0];exact h
 have b0:Below w.heap.size w W0:=by rw[hW0];exact qah (qah (tA5 _ _) _) _
 have hG0:col (w.heap.size+1)=0:=by
  by_cases e:col (w.heap.size+1)=0
  · exact e
  have:=h.fin _ e;omega
 have D0:=Did.same (css:=css) h b0;obtain⟨H,AR,Q0,Z0,B0,A0,AW,HK⟩:=zh8 h hW0 q0 z0 b0 hG0 D0 hk;obtain⟨HS,HR,RL,AM,HQ⟩:=zh5 hs hr rlen rest hQ;clear h hW0 q0 z0 b0 hG0 D0 hk hs hr rlen rest hQ;obtain⟨st,hst⟩:=xeq R.state;obtain⟨t0,ht0⟩:=xeq t.state;obtain⟨nq,hnq⟩:=xeq t.queue.length;have k0:=(Q0.out.cell 0).trans (show Q.toArray[0]? =some (.int .i64 7) by rw[tA3,←hop,←HQ.out];rfl);have k38:=(Q0.out.cell 38).trans (show Q.toArray[38]? =some (.int .i64 st) by rw[tA3,←hst];exact AM.out 3);obtain⟨K0,AS,HT,AB,AD,A9,AE,A8⟩:=zh8 k0 k38 ht hrt hn0 hst ht0 hnq;have e0:=hcell 0 (.int .i64 t.state) rfl;have e6:=hcell 6 (.slice Aq t.queue.length cq) rfl;rw[ht0,Nat.add_zero]at e0;rw[hnq]at e6;obtain⟨E0,E6,B8⟩:=zh3 (qai e0 B0.out) (qai e6 B0.out) hrq;have k0:=K0.out;rw[AR.out]at k0;clear hrt hn0 hop hst ht0 hnq ht hcs hcell hrd hrl hrq k38 e0 e6;go_enter Tryz.func137,Tryz.ntmps137
 go_upto_region 3 with(fail)
 rw[←AR.out];clear k0;obtain⟨S,A2⟩:∃S:World→Prop,Hid (∀w',S w'=(Below W0.heap.size W0 w')):=⟨_,fun _=>rfl⟩;refine zrs S 13 [(0,false),(1,false),(2,false),(3,false),(4,false),(5,false),(6,false),(7,false),(8,false),(9,false),(10,false),(11,true),(12,false)] ((A2.out _).mpr ((tA5 _ _).drew)) ?_;obtain⟨F0,F1,F2⟩:=zh3 (fun(w':World)(h:S w')=>qai E0.out ((A2.out w').mp h)) (fun(w':World)(h:S w')=>qai E6.out ((A2.out w').mp h)) (fun(w':World)(h:S w')=>qai AS.out ((A2.out w').mp h));iterate 11 (refine zrd rfl rfl (fun w1 hS=>by have g0:=F0.out w1 hS;have g1:=F1.out w1 hS;have g2:=F2.out w1 hS;clear hS;go_simp;try rfl) ?_;simp only[Act.put,tA0,tA1,tA2])
 obtain⟨Wd,hWd⟩:=eqx W0.drew;have BD:=zh1 (show Below W0.heap.size W0 Wd by rw[hWd];exact(tA5 _ _).drew);rw[←hWd];clear hWd;refine qbj rfl rfl ?_;go_simp;refine(qko t0 st (nq:Int) Wd).mono ?_;rintro e w1 ⟨rfl,rfl⟩;refine⟨(A2.out _).mpr BD.out,?_⟩;try simp only[Act.put,tA0,tA1,tA2]
 iterate 1 (refine zrd rfl rfl (fun w1 hS=>by go_simp;(try go_bits);try rfl) ?_;simp only[Act.put,tA0,tA1,tA2])
 refine qbg ?_;clear A2 F0 F1 F2;obtain⟨Z1,AX⟩:=zh2 (Z0.out.below BD.out Z0.out.lt) (AW.out.call BD.out);obtain⟨mb,hmb⟩:=xeq (mayB t0 st (nq:Int));rw[hmb];cases mb with
 |false=>
  have hdo:qm7 c s R t=(s,rWhy 24):=by
   unfold qm7;rw[if_pos (.inr (by rw[AE.out,A9.out,A8.out,hmb];rfl))]
  have A3:=zh1 hdo;clear hdo hmb;go_wp2_with fail
  refine(qpj 24 Wd).mono ?_;rintro e w9 ⟨rfl,b9⟩;obtain⟨X,hX,pk⟩:=qpn (rWhy 24) Hd.zero_Ok (by simp[qlz,rWhy,qih,qft]);rw[hX];obtain⟨Z9,HX,DD⟩:=zh3 ((Z1.out).below b9 (Z1.out).lt) hX ((AX.out).call b9);clear hX b9;go_wp2_with (refine qpo (.tmp 6) (.tmp 27) (w.heap.size+1) X Z9.out pk ?_)
  exact qpp (Z9.out.setRow X.toArray) pk ⟨_,col,rfl,(by rw[A3.out,←HX.out];exact RspV.plain _ _ _ _ rfl rfl rfl),(by (try rw[A3.out]);exact DD.out.row0 HK.out X.toArray (A0.out) (by omega))⟩
 |true=>
  have hst:st=1∨st=2∨st=3∨st=4:=by
   unfold mayB at hmb;split at hmb
   · simp at hmb;omega
   split at hmb
   · simp at hmb;omega
   split at hmb
   · simp at hmb;omega
   cases hmb
  have H1:=H.out.call (B0.out.trans (BD.out.mono B0.out.size));have e0:=qai E0.out BD.out;have f0:=H1.st.tres.frozen (n*75);have k38:=qai AS.out BD.out;have M2:=H1.state1 HK.out HS.out HT.out st;have T2:Turns (· ==k+1) Wd col (Wd.setCell ⟨L.rg,n*75,none⟩ (.int .i64 st)) col:=Turns.setCell _ (by simp[H1.st.tres.1]);obtain⟨A6,AH,AI⟩:=zh3 M2 T2 hmb;clear hmb M2 T2 H1;go_upto_region 6 with(fail)
  obtain⟨W2,hW2⟩:=eqx (Wd.setCell ⟨L.rg,n*75,none⟩ (.int .i64 st));rw[←hW2]at A6 AH ⊢;clear hW2 e0 f0;have cW:col w.heap.size=0:=by
   by_cases e:col w.heap.size=0
   · exact e
   have:=H.out.fin _ e;omega
  have sok2:(s.setT n fun t=>{t with state:=st}).Ok:=HS.out.setT (fun y hy o=>by
   rw[HT.out]at hy;injection hy with hy;subst hy;exact {o with state:=by show 0≤st∧st≤4;omega,live:=fun _=>o.live (by intro e;rw[AE.out]at e;subst e;have h:=AI.out;unfold mayB at h;simp at h)}) (fun e=>absurd e AD.out)
  have ht2:(s.setT n fun t=>{t with state:=st}).tres[n]? =some {t with state:=st}:=qnc _ HT.out;have x38:W2.cell? ⟨w.heap.size,38,none⟩=some (.int .i64 st):=qne k38 AH.out (by rw[cW];simp);have z2:Blk W2 (w.heap.size+1) 57 Tryz.zeroCells57:=(AH.out.block _ Z1.out.lt (by rw[A0.out];simp)).trans Z1.out;have dd2:Did w col W2 col k g c css s (s.setT n fun t=>{t with state:=st}):=Did.turned H.out (B0.out.trans (BD.out.mono B0.out.size)) AH.out (by unfold inP;simp) (by have:=HK.out;rcases this with rfl|rfl<;>omega) A6.out;have hto:=HS.out.tre HT.out;obtain⟨A7,A5,AN,Z2,AJ,AK,AL⟩:=zh7 sok2 ht2 x38 z2 dd2 hto cW;clear sok2 ht2 x38 z2 dd2 hto cW k38;have k38:=AN.out;have plain:∀m:Nat,st=m→m≠4→m≠2→qm7 c s R t=(s.setT n (fun t=>{t with state:=st}),qlz m):=by
   intro m hm h4 h2;unfold qm7;rw[if_neg (by rw[AE.out,A9.out,A8.out,AI.out,AB.out];simp;exact AD.out),A9.out,AB.out,Int.toNat_natCast];simp only[show ¬st=4 by omega,show ¬st=2 by omega,if_false,or_self];rw[show st.toNat=m by omega]
  rcases hst with rfl|rfl|rfl|rfl
  ·
   have A3:=zh1 (plain 1 rfl (by decide) (by decide));clear plain;go_wp2_with fail
   refine(qpi 1 W2 (by omega)).mono ?_;rintro e w9 ⟨rfl,b9⟩;obtain⟨X,hX,pk⟩:=qpn (qlz 1) Hd.zero_Ok (by simp[qlz,rWhy,qih,qft]);rw[hX];obtain⟨Z9,HX,DD⟩:=zh3 ((Z2.out).below b9 (Z2.out).lt) hX ((AJ.out).call b9);clear hX b9;go_wp2_with (refine qpo (.tmp 6) (.tmp 83) (w.heap.size+1) X Z9.out pk ?_)
   exact qpp (Z9.out.setRow X.toArray) pk ⟨_,col,rfl,(by rw[A3.out,←HX.out];exact RspV.plain _ _ _ _ rfl rfl rfl),(by (try rw[A3.out]);exact DD.out.row0 HK.out X.toArray (A0.out) (by omega))⟩
  ·
   clear plain;have hdo:qm7 c s R t=((s.setT n (fun t=>{t with state:=2})).setT n (fun t=>{t with deficit:=0}),qlz 2):=by
    unfold qm7;rw[if_neg (by rw[AE.out,A9.out,A8.out,AI.out,AB.out];simp;exact AD.out),A9.out,AB.out,Int.toNat_natCast];simp only[show ¬(2:Int)=4 by decide,if_false,false_or,if_true];unfold Sta.setT;rw[qqn];rfl
   have A3:=zh1 hdo;clear hdo;obtain⟨-,Ad2,cd2,Al2,cl2,Aq2,cq2,hcs2,hcell2,-,-,-⟩:=A6.out.st.tree A7.out A5.out;have e3:=hcell2 3 (.int .i64 t.deficit) rfl;have f3:=A6.out.st.tres.frozen (n*75+3);have M3:=A6.out.deficit1 HK.out A7.out A5.out 0;have T3:Turns (· ==k+1) W2 col (W2.setCell ⟨L.rg,n*75+3,none⟩ (.int .i64 0)) col:=Turns.setCell _ (by simp[A6.out.st.tres.1]);have z3:Blk (W2.setCell ⟨L.rg,n*75+3,none⟩ (.int .i64 0)) (w.heap.size+1) 57 Tryz.zeroCells57:=(T3.block _ Z2.out.lt (by rw[A0.out];simp)).trans Z2.out;have x3:=qne AN.out T3 (by rw[AL.out];simp);have D3:=AJ.out.step (T3.mono (q:=inP k) fun i hi=>(show i=k+1 by simpa using hi)▸(by unfold inP;simp)) (fun i hi=>T3.keeps (by have:=HK.out;rcases this with rfl|rfl<;>simp<;>omega)) ⟨_,_,M3⟩;obtain⟨Z3,X3,AT⟩:=zh3 z3 x3 D3;clear M3 T3 z3 x3 D3 hcell2 hcs2;go_upto_region 17 with(fail)
   clear e3 f3 k38;obtain⟨W9,hW9⟩:=eqx (W2.setCell ⟨L.rg,n*75+3,none⟩ (.int .i64 0));rw[←hW9]at Z3 X3 AT ⊢;clear hW9;have k38:=X3.out;go_wp2_with fail
   refine(qpi 2 W9 (by omega)).mono ?_;rintro e w9 ⟨rfl,b9⟩;obtain⟨X,hX,pk⟩:=qpn (qlz 2) Hd.zero_Ok (by simp[qlz,rWhy,qih,qft]);rw[hX];obtain⟨Z9,HX,DD⟩:=zh3 ((Z3.out).below b9 (Z3.out).lt) hX ((AT.out).call b9);clear hX b9;go_wp2_with (refine qpo (.tmp 6) (.tmp 83) (w.heap.size+1) X Z9.out pk ?_)
   exact qpp (Z9.out.setRow X.toArray) pk ⟨_,col,rfl,(by rw[A3.out,←HX.out];exact RspV.plain _ _ _ _ rfl rfl rfl),(by (try rw[A3.out]);exact DD.out.row0 HK.out X.toArray (A0.out) (by omega))⟩
  ·
   have A3:=zh1 (plain 3 rfl (by decide) (by decide));clear plain;go_wp2_with fail
   refine(qpi 3 W2 (by omega)).mono ?_;rintro e w9 ⟨rfl,b9⟩;obtain⟨X,hX,pk⟩:=qpn (qlz 3) Hd.zero_Ok (by simp[qlz,rWhy,qih,qft]);rw[hX];obtain⟨Z9,HX,DD⟩:=zh3 ((Z2.out).below b9 (Z2.out).lt) hX ((AJ.out).call b9);clear hX b9;go_wp2_with (refine qpo (.tmp 6) (.tmp 83) (w.heap.size+1) X Z9.out pk ?_)
   exact qpp (Z9.out.setRow X.toArray) pk ⟨_,col,rfl,(by rw[A3.out,←HX.out];exact RspV.plain _ _ _ _ rfl rfl rfl),(by (try rw[A3.out]);exact DD.out.row0 HK.out X.toArray (A0.out) (by omega))⟩
  clear plain;obtain⟨tn,htn⟩:∃m:Nat,t.tenant=m:=⟨t.tenant.toNat,by have:=AK.out.tenant;omega⟩;have tn16:tn<16:=by have:=AK.out.tenant;omega
  obtain⟨x,hx⟩:∃x,s.tens[tn]? =some x:=⟨_,tA7 (by rw[HS.out.tensn];exact tn16)⟩;have hxo:=HS.out.ten hx;have hdo:qm7 c s R t=(((((s.setT n (fun t=>{t with state:=4})).setX tn fun x=>{x with used:=x.used - qlt t.queue}).setT n fun t=>{t with queue:=[]}).setT n fun t=>{t with deficit:=0}),qlz 4):=by
   unfold qm7;rw[if_neg (by rw[AE.out,A9.out,A8.out,AI.out,AB.out];simp;exact AD.out),A9.out,AB.out,htn,Int.toNat_natCast,Int.toNat_natCast];simp only[if_true,true_or];unfold Sta.setT Sta.setX;simp only;rw[qqn,qqn];rfl
  obtain⟨A3,HX,AY,B9⟩:=zh4 hdo hx hxo htn;clear hdo hx hxo;obtain⟨-,Ad2,cd2,Al2,cl2,Aq2,cq2,hcs2,hcell2,-,-,-⟩:=A6.out.st.tree A7.out A5.out;have e1:=hcell2 1 (.int .i64 t.tenant) rfl;have e6:=hcell2 6 (.slice Aq2 t.queue.length cq2) rfl;rw[htn]at e1;rw[A8.out]at e6;have c7:=A6.out.c7;obtain⟨AF,E1,E6,C7⟩:=zh4 hcs2 e1 e6 c7;clear hcs2 hcell2 e1 e6 c7 htn;obtain⟨css2,hc2⟩:=xeq (css.modify n fun cs=>over cs 0 [.int .i64 4]);rw[hc2]at A6 AF;clear hc2;have qt0:(0:Int)≤tn:=by omega
  have qt1:(tn:Int)<16:=by omega
  go_upto_region 9 with(fail)
  obtain⟨S,A2⟩:∃S:World→Prop,Hid (∀w',S w'=(Below W2.heap.size W2 w')):=⟨_,fun _=>rfl⟩;refine zrs S 11 [(0,false),(1,false),(2,false),(3,false),(4,false),(5,false),(6,false),(7,false),(8,false),(9,false),(10,false)] ((A2.out _).mpr ((tA5 _ _).drew)) ?_;obtain⟨F0,F1⟩:=zh2 (fun(w':World)(h:S w')=>qai C7.out ((A2.out w').mp h)) (fun(w':World)(h:S w')=>qai E1.out ((A2.out w').mp h));iterate 11 (refine zrd rfl rfl (fun w1 hS=>by have g0:=F0.out w1 hS;have g1:=F1.out w1 hS;clear hS;go_simp;try rfl) ?_;simp only[Act.put,tA0,tA1,tA2])
  refine qbg ?_;clear A2 F0 F1;obtain⟨W3,hW3⟩:=eqx W2.drew;have AO:=zh1 (show Below W2.heap.size W2 W3 by rw[hW3];exact(tA5 _ _).drew);rw[←hW3];clear hW3;have e6:=qai E6.out AO.out;have AP:=zh1 (show nq≤64 by have:=AK.out.queue;rw[A8.out]at this;exact this);clear k38;go_wp2_with fail
  clear e6;go_loopw [54] (fun i wr=>∃j:Nat,j≤nq∧i=.int .i64 j∧Hid (Mdl wr col k g c ((s.setT n fun t=>{t with state:=4}).setX tn fun x=>{x with used:=x.used - qlt (t.queue.take j)}) L css2∧Turns (· ==k) W3 col wr col)) (fun i _=>nq - (intOf i).toNat)
  case atStart=>
   refine⟨0,by omega,rfl,?_⟩;have e0:((s.setT n fun t=>{t with state:=4}).setX tn fun x=>{x with used:=x.used - qlt (t.queue.take 0)})=s.setT n fun t=>{t with state:=4}:=by
    unfold Sta.setX;rw[qrg (fun x=>by simp[qlt])]
   show Mdl _ _ _ _ _ _ _ _∧_;rw[e0];exact⟨A6.out.call AO.out,Turns.refl _ _ _⟩
  case round=>
   obtain⟨j,hj,rfl,hl⟩:=hrel;have hx':((s.setT n fun t=>{t with state:=4}).setX tn fun x=>{x with used:=x.used - qlt (t.queue.take j)}).tens[tn]? =some {x with used:=x.used - qlt (t.queue.take j)}:=qnc _ HX.out;have sokj:((s.setT n fun t=>{t with state:=4}).setX tn fun x=>{x with used:=x.used - qlt (t.queue.take j)}).Ok:=A7.out.setX fun y _ o=>{o with used:=by have:=o.used;show y.used - _<_;omega}
   obtain⟨-,-,r3⟩:=hl.out.1.rows (t:={t with state:=4}) A5.out AF.out;obtain⟨A1,k1,e1,a1,a2,a3⟩:=r3.reads;injection e1 with e11 e12 e13;subst e11 e13;dsimp only at a1 a3;rw[A8.out]at a1 a3;obtain⟨AQ,A4,AZ⟩:=zh3 hx' sokj a3;have qj0:(0:Int)≤j:=by omega
   clear hx' sokj a3 r3 e12;by_cases hjn:j<nq
   ·
    have qj:(j:Int)<nq:=by omega
    obtain⟨g0,o0,bs,A',n',c',rfl,-,hi,hc,-,-,h5⟩:=AZ.out.at_ hjn;have hst:=qps hi;have hbl:=(AK.out.queueb bs (List.mem_of_getElem? hi)).1;rw[qb5 h5]at hst hbl;have hub:=AY.out.used;obtain⟨u,hu⟩:=xeq (x.used - qlt (t.queue.take j));have hu1:x.used - qlt (t.queue.take (j+1))=u - (n'+16):=by omega
    have ub:u<4294967296:=by omega
    have c5:wr.cell? ⟨L.tg,tn*6+5,none⟩=some (.int .u32 (u:Int)):=hl.out.1.st.tens.cell ((qmy AQ.out (by omega)).trans (by rw[hu];rfl));obtain⟨C5,B1,HU⟩:=zh3 c5 hu1 hu;have p1:IntKind.u32.wrap (n':Int)=(n':Int):=IntWalk.u32_in _ (by omega);have p2:IntKind.u32.wrap ((n':Int)+16)=(n':Int)+16:=IntWalk.u32_in _ (by omega);clear hst h5 hub hu1 c5 hi hu;have BA:=zh1 hc;go_upto_region 13 with(fail)
    clear hc;obtain⟨S,A2⟩:∃S:World→Prop,Hid (∀w',S w'=(Below wr.heap.size wr w')):=⟨_,fun _=>rfl⟩;refine zrs S 16 [(0,false),(1,false),(2,false),(3,false),(4,false),(5,false),(6,false),(7,false),(8,false),(9,false),(10,false),(11,false),(12,false),(13,false),(14,false),(15,false),(16,true)] ((A2.out _).mpr ((tA5 _ _).drew)) ?_;have F0:=zh1 (fun(w':World)(h:S w')=>qai C5.out ((A2.out w').mp h));obtain⟨v,hv,hvu⟩:∃v:Nat,v=u - (n'+16)∧v≤u:=⟨_,rfl,by omega⟩;have M4:=fun(w':World)(hb:Below wr.heap.size wr w')=>(hl.out.1.call hb).tenOver HK.out A4.out AQ.out (j:=5) (cs:=[.int .u32 (v:Int)]) (fun x=>{x with used:=v}) (by simp) (by simp[over,tenv])
    have e4:(((s.setT n fun t=>{t with state:=4}).setX tn fun x=>{x with used:=x.used - qlt (t.queue.take j)}).setX tn fun x=>{x with used:=v})=(s.setT n fun t=>{t with state:=4}).setX tn fun x=>{x with used:=x.used - qlt (t.queue.take (j+1))}:=by
     unfold Sta.setX;dsimp only;rw[qqn];rw[qqa (f:=fun y:Ten=>{y with used:=v}) (g:=fun x=>{x with used:=x.used - qlt (t.queue.take (j+1))}) fun y hy=>by
      have h0:s.tens[tn]? =some y:=hy;rw[HX.out]at h0;injection h0 with h0;subst h0;rw[B1.out,hv]]
    rw[e4]at M4;obtain⟨AA,FZ,TG,B2⟩:=zh4 M4 (fun(w':World)(hb:Below wr.heap.size wr w')=>(hl.out.1.call hb).st.tens.frozen (tn*6+5)) (show col L.tg=k from hl.out.1.st.tens.1) hl.out.2;clear M4 e4 hl;have wv:(u:Int) - min (u:Int) ((n':Int)+16)=(v:Int):=by omega
    have wv2:IntKind.u32.wrap ((u:Int) - min (u:Int) ((n':Int)+16))=(v:Int):=by rw[IntWalk.u32_in _ (by omega)];omega
    have HV:=zh1 hv;clear hv hvu;iterate 16 (refine zrd rfl rfl (fun w1 hS=>by have g0:=F0.out w1 hS;clear hS;go_simp;try rfl) ?_;simp only[Act.put,tA0,tA1,tA2])
    obtain⟨W4,hW4⟩:=eqx wr.drew;have B4:=zh1 (show Below wr.heap.size wr W4 by rw[hW4];exact(tA5 _ _).drew);rw[←hW4];clear hW4;have c5:=qai C5.out B4.out;have f5:=FZ.out W4 B4.out;have M5:=AA.out W4 B4.out;rw[show W4.setCells L.tg (tn*6+5) [.int .u32 (v:Int)]=W4.setCell ⟨L.tg,tn*6+5,none⟩ (.int .u32 (v:Int)) from rfl]at M5;have T5:Turns (· ==k) W3 col (W4.setCell ⟨L.tg,tn*6+5,none⟩ (.int .u32 (v:Int))) col:=(B2.out.trans (Turns.of_below _ B4.out)).trans (Turns.setCell _ (by simp[TG.out]));obtain⟨B3,B5⟩:=zh2 M5 T5;clear M5 T5;refine qbj rfl rfl ?_;go_simp;refine qbg ?_;clear A2 F0 c5 f5;have hnb:=AP.out;go_wp2_with fail
    go_roundw
    case rel=>exact⟨j+1,by omega,by go_num,zh1 ⟨B3.out,B5.out⟩⟩
    case measure=>simp[intOf];omega
   have qj:¬(j:Int)<nq:=by omega
   obtain rfl:j=nq:=by omega
   have htk:t.queue.take j=t.queue:=List.take_of_length_le (by have:=A8.out;omega);rw[htk]at hl A4 AQ;obtain⟨AC,B6⟩:=zh2 hl.out.1 hl.out.2;clear htk hl;obtain⟨s3,hs3⟩:=xeq ((s.setT n fun t=>{t with state:=4}).setX tn fun x=>{x with used:=x.used - qlt t.queue});rw[hs3]at AC A4 A3;have ht3:s3.tres[n]? =some {t with state:=4}:=by rw[←hs3];exact A5.out
   have AG:Turns (· ==k) W2 col wr col:=(Turns.of_below _ AO.out).trans B6.out;have D3:=AJ.out.step (AG.mono (q:=inP k) fun i hi=>(show i=k by simpa using hi)▸(by unfold inP;simp)) (fun i hi=>AG.keeps (by have:=HK.out;rcases this with rfl|rfl<;>simp<;>omega)) ⟨_,_,AC.out⟩;have z3:Blk wr (w.heap.size+1) 57 Tryz.zeroCells57:=(AG.block _ Z2.out.lt (by rw[A0.out];have:=HK.out;rcases this with rfl|rfl<;>rfl)).trans Z2.out;have x3:=qne AN.out AG (by rw[AL.out];have:=HK.out;rcases this with rfl|rfl<;>rfl);obtain⟨-,Ad3,cd3,Al3,cl3,Aq3,cq3,-,hcell3,-,-,-⟩:=AC.out.st.tree A4.out ht3;have e6:=hcell3 6 (.slice Aq3 t.queue.length cq3) rfl;have f6:=AC.out.st.tres.frozen (n*75+6);obtain⟨css4,M4,-,-⟩:=AC.out.queueNil HK.out A4.out ht3;have T4:Turns (· ==k+1) wr col (wr.setCell ⟨L.rg,n*75+6,none⟩ (.slice none 0 0)) col:=Turns.setCell _ (by simp[AC.out.st.tres.1]);have D4:=D3.step (T4.mono (q:=inP k) fun i hi=>(show i=k+1 by simpa using hi)▸(by unfold inP;simp)) (fun i hi=>T4.keeps (by have:=HK.out;rcases this with rfl|rfl<;>simp<;>omega)) ⟨_,_,M4⟩;have z4:Blk (wr.setCell ⟨L.rg,n*75+6,none⟩ (.slice none 0 0)) (w.heap.size+1) 57 Tryz.zeroCells57:=(T4.block _ z3.lt (by rw[A0.out];simp)).trans z3;have x4:=qne x3 T4 (by rw[AL.out];simp);obtain⟨AA,AU,Z4,X4,B7,BB⟩:=zh6 M4 D4 z4 x4 ht3 hs3;clear M4 D4 z4 x4 D3 z3 x3 AG T4 hcell3 ht3 hs3;go_upto_region 16 with(fail)
   obtain⟨W6,hW6⟩:=eqx (wr.setCell ⟨L.rg,n*75+6,none⟩ (.slice none 0 0));rw[←hW6]at AA AU Z4 X4 ⊢;clear hW6 e6 f6;have sok4:(s3.setT n fun t=>{t with queue:=[]}).Ok:=A4.out.setT (fun y hy o=>{o with leaves:=by have:=o.leaves;dsimp only;simp;omega,queue:=by simp,queueb:=fun b hb=>(nomatch hb)}) (fun e=>absurd e AD.out);have ht4:(s3.setT n fun t=>{t with queue:=[]}).tres[n]? =some {({t with state:=4}:Tre) with queue:=[]}:=qnc _ B7.out;obtain⟨-,Ad4,cd4,Al4,cl4,Aq4,cq4,-,hcell4,-,-,-⟩:=AA.out.st.tree sok4 ht4;have e3:=hcell4 3 (.int .i64 t.deficit) rfl;have f3:=AA.out.st.tres.frozen (n*75+3);have M5:=AA.out.deficit1 HK.out sok4 ht4 0;have T5:Turns (· ==k+1) W6 col (W6.setCell ⟨L.rg,n*75+3,none⟩ (.int .i64 0)) col:=Turns.setCell _ (by simp[AA.out.st.tres.1]);have D5:=AU.out.step (T5.mono (q:=inP k) fun i hi=>(show i=k+1 by simpa using hi)▸(by unfold inP;simp)) (fun i hi=>T5.keeps (by have:=HK.out;rcases this with rfl|rfl<;>simp<;>omega)) ⟨_,_,M5⟩;have z5:Blk (W6.setCell ⟨L.rg,n*75+3,none⟩ (.int .i64 0)) (w.heap.size+1) 57 Tryz.zeroCells57:=(T5.block _ Z4.out.lt (by rw[A0.out];simp)).trans Z4.out;have x5:=qne X4.out T5 (by rw[AL.out];simp);obtain⟨AV,Z5,X5⟩:=zh3 D5 z5 x5;clear M5 D5 z5 x5 T5 sok4 ht4 hcell4;go_upto_region 17 with(fail)
   clear e3 f3;obtain⟨W9,hW9⟩:=eqx (W6.setCell ⟨L.rg,n*75+3,none⟩ (.int .i64 0));rw[←hW9]at AV Z5 X5 ⊢;clear hW9;have k38:=X5.out;go_wp2_with fail
   refine(qpi 4 W9 (by omega)).mono ?_;rintro e w9 ⟨rfl,b9⟩;obtain⟨X,hX,pk⟩:=qpn (qlz 4) Hd.zero_Ok (by simp[qlz,rWhy,qih,qft]);rw[hX];obtain⟨Z9,HX,DD⟩:=zh3 ((Z5.out).below b9 (Z5.out).lt) hX ((AV.out).call b9);clear hX b9;go_wp2_with (refine qpo (.tmp 6) (.tmp 83) (w.heap.size+1) X Z9.out pk ?_)
   exact qpp (Z9.out.setRow X.toArray) pk ⟨_,col,rfl,(by rw[A3.out,←HX.out];exact RspV.plain _ _ _ _ rfl rfl rfl),(by (try rw[A3.out]);exact DD.out.row0 HK.out X.toArray (A0.out) (by omega))⟩
end
section
open Go.RowKit
def qri (c:Cfg)(s:Sta)(R:Req):Bool:=
 match s.gras[R.tid]? with
 |none=>false
 |some g=>qk6 (qlr c.seed) (R.tid,R.cavs,R.tag)&&(!g.revoked&&(decide (s.clock<g.expires)&&qkf R.op (if qgv R.op then R.tree else 0) s.clock R.cavs))
theorem qrj:Tryz.prog.built 66 []=some (grav ⟨0,0,0,false⟩).toArray:=by kernel_rfl
theorem qrk {c:Cfg}{s:Sta}{R:Req}{y:Gra}(hy:s.gras[R.tid]? =some y)(h:y.revoked=true):qri c s R=false:=by
 unfold qri;rw[hy];simp[h]
theorem qrl {c:Cfg}{s:Sta}{R:Req}{y:Gra}(hy:s.gras[R.tid]? =some y)(h:¬s.clock<y.expires):qri c s R=false:=by
 unfold qri;rw[hy];simp[h]
theorem qrm {c:Cfg}{s:Sta}{R:Req}{y:Gra}{tr:Int}{clk:Nat}(hc:s.clock=clk)(hy:s.gras[R.tid]? =some y)(hg:qk6 (qlr c.seed) (R.tid,R.cavs,R.tag)=true)(h:y.revoked=false)(he:s.clock<y.expires)(ht:(if qgv R.op then R.tree else 0)=tr):qri c s R=qkf R.op tr clk R.cavs:=by
 subst hc;unfold qri;rw[hy,ht];simp[h,hg,he]
theorem qrn {c:Cfg}{s:Sta}{R:Req}(hg:qk6 (qlr c.seed) (R.tid,R.cavs,R.tag)=false):qri c s R=false:=by
 unfold qri;cases s.gras[R.tid]? with
 |none=>rfl
 |some y=>simp[hg]
theorem qro (c:Cfg)(s:Sta)(L:Loc)(col:Col)(k g:Nat)(css:List (List Value))(R:Req)(Ac:Option Addr)(cc:Nat)(Al:Option Addr)(cl:Nat)(w:World)(hk:Kind k)(hc:c.Ok)(hs:s.Ok)(h:Mdl w col k g c s L css)
 (hr:Asked w col R Ac cc Al cl)(hT:Tabs w)(h4:R.cavs.length≤4):
 Calls Tryz.prog 125 #[.pointer (some ⟨g,0,none⟩),.agg (reqv R (.slice Ac R.cavs.length cc) (.slice Al R.leaf.length cl)).toArray] w fun e w'=>∃y:Gra,e=.returned (.tuple #[.agg #[.int .i64 y.tenant,.int .i64 y.role,.int .u64 (y.expires:Int),.bool y.revoked],.bool (qri c s R)])∧(qri c s R=true→s.gras[R.tid]? =some y)∧Below w.heap.size w w':=by
 have rlen:=qis R (.slice Ac R.cavs.length cc) (.slice Al R.leaf.length cl) hr.good.tag;have rest:=qgu R (.slice Ac R.cavs.length cc) (.slice Al R.leaf.length cl) hr.good.tag;have rtok:=qit R (.slice Ac R.cavs.length cc) (.slice Al R.leaf.length cl);obtain⟨Q,hQ⟩:=xeq (reqv R (.slice Ac R.cavs.length cc) (.slice Al R.leaf.length cl));rw[hQ]at rlen rest rtok ⊢;obtain⟨W0,hW0⟩:=eqx ((w.alloc (.cells Q.toArray 34)).alloc (.cells #[.int .i64 0,.int .i64 0,.int .u64 0,.bool false] 66));have q0:Blk W0 w.heap.size 34 Q.toArray:=by rw[hW0];exact(Blk.new w _ _).alloc _
 have z0:Blk W0 (w.heap.size+1) 66 #[.int .i64 0,.int .i64 0,.int .u64 0,.bool false]:=by
  have h:=Blk.new (w.alloc (.cells Q.toArray 34)) 66 #[.int .i64 0,.int .i64 0,.int .u64 0,.bool false];rw[qar]at h;rw[hW0];exact h
 have b0:Below w.heap.size w W0:=by rw[hW0];exact qah (qah (tA5 _ _) _) _
 obtain⟨ti,hti⟩:=xeq R.tid;have tb:ti<4294967296:=by rw[←hti];exact hr.good.tid
 obtain⟨ng,hng⟩:=xeq s.gras.length;have gb:ng≤64:=by rw[←hng];exact hs.grasn
 have c9:=h.c9;rw[hng]at c9;have k1:W0.cell? ⟨w.heap.size,1,none⟩=some (.int .u32 (ti:Int)):=(q0.cell 1).trans (by rw[tA3,←hti];exact rtok 0 _ rfl);have k35:W0.cell? ⟨w.heap.size,35,none⟩=some (.int .i64 R.tree):=(q0.cell 35).trans (by rw[tA3];exact rest 0);have kop:Q.toArray[0]? =some (.int .i64 R.op):=by rw[tA3,←hQ];rfl
 have htk:Tok.Ok (R.tid,R.cavs,R.tag):=⟨hr.good.tid,hr.good.cavn,hr.good.tag,hr.good.tagb⟩;obtain⟨H,AR,Q0,Z0,B0,HK,HC,HS⟩:=zh8 h hW0 q0 z0 b0 hk hc hs;obtain⟨HR,RL,HQ,TT,AE,K1,AS,AF⟩:=zh8 hr rlen hQ hT h4 k1 k35 kop;obtain⟨C9,AK,AL,AG,AH,CI⟩:=zh6 (qai c9 b0) hti hng htk (show (Tryz.prog.info? 31).map (·.size)=some (tokv R.tid (.slice Ac R.cavs.length cc) R.tag).length by rw[qer _ _ _ hr.good.tag];kernel_rfl) (show (Tryz.prog.info? 25).map (·.size)=some 4 by kernel_rfl);clear h hW0 q0 z0 b0 hk hc hs hr rlen rest rtok hQ hT h4 k1 k35 kop hti hng htk c9;have u1:IntKind.u64.wrap (ti:Int)=(ti:Int):=IntWalk.u64_in _ (by omega);have u2:IntKind.u64.wrap (ng:Int)=(ng:Int):=IntWalk.u64_in _ (by omega);go_enter Tryz.func125,Tryz.ntmps125
 go_upto_region 1 with(fail)
 rw[←AR.out];obtain⟨gn,hgn⟩:=xeq (qk6 (qlr c.seed) (R.tid,R.cavs,R.tag));have AI:=zh1 hgn;clear hgn;obtain⟨S,A0⟩:∃S:World→Prop,Hid (∀w',S w'=(Below W0.heap.size W0 w')):=⟨_,fun _=>rfl⟩;refine zrs S 23 [(0,false),(1,false),(2,false),(3,false),(4,false),(5,false),(6,false),(7,false),(8,false),(9,false),(10,false),(11,false),(12,false),(13,false),(14,false),(15,false),(16,false),(18,false),(19,false),(17,true),(20,true),(21,false),(22,false)] ((A0.out _).mpr ((tA5 _ _).drew)) ?_;obtain⟨F0,F1,FC,FT⟩:=zh4 (fun(w':World)(h:S w')=>qai K1.out ((A0.out w').mp h)) (fun(w':World)(h:S w')=>qai C9.out ((A0.out w').mp h)) (fun(w':World)(h:S w')=>((H.out.call B0.out).call ((A0.out w').mp h)).cfgRange) (fun(w':World)(h:S w')=>qap (l:=Q) (Q0.out.below ((A0.out w').mp h) Q0.out.lt) 1 (tokv R.tid (.slice Ac R.cavs.length cc) R.tag) (fun j u hu=>by rw[←HQ.out];exact qit R _ _ j u hu));by_cases hge:ng≤ti
 ·
  have p1:(ng:Int)≤ti:=by omega
  have hno:qri c s R=false:=by
   unfold qri;rw[AK.out,List.getElem?_eq_none (by rw[AL.out];exact hge)]
  have A8:=zh1 hno;clear hno hge;iterate 13 (refine zrd rfl rfl (fun w1 hS=>by have g0:=F0.out w1 hS;have g1:=F1.out w1 hS;clear hS;go_simp;try rfl) ?_;simp only[Act.put,tA0,tA1,tA2])
  iterate 6 (refine qbi rfl rfl ?_;try simp only[Act.put,tA0,tA1,tA2])
  refine qq6 rfl rfl ⟨(A0.out _).mpr (tA5 _ _).drew,?_⟩;try simp only[Act.put,tA0,tA1,tA2]
  refine qq6 rfl rfl ⟨(A0.out _).mpr (tA5 _ _).drew,?_⟩;try simp only[Act.put,tA0,tA1,tA2]
  iterate 1 (refine qbi rfl rfl ?_;try simp only[Act.put,tA0,tA1,tA2])
  iterate 1 (refine zrd rfl rfl (fun w1 hS=>by go_simp;(try go_bits);try rfl) ?_;simp only[Act.put,tA0,tA1,tA2])
  refine qbg ?_;clear A0 F0 F1 FC FT u1 u2;obtain⟨W1,hW1⟩:=eqx W0.drew;have B1:=zh1 (show Below W0.heap.size W0 W1 by rw[hW1];exact(tA5 _ _).drew);rw[←hW1];clear hW1;obtain⟨X,hX⟩:=xeq (grav ⟨0,0,0,false⟩);have lX:X.length=4:=by rw[←hX];rfl
  have oX:∀u∈X,u.oneCell'=true:=by
   rw[←hX];intro u hu;unfold grav at hu;simp only[List.mem_cons,List.not_mem_nil,or_false]at hu;rcases hu with rfl|rfl|rfl|rfl<;>rfl
  obtain⟨BT,A4,LX,OX⟩:=zh4 (show Tryz.prog.built 66 []=some X.toArray by rw[←hX];exact qrj) hX lX oX;obtain⟨A2,Z1,BB⟩:=zh3 (zI 66 LX.out) (Z0.out.below B1.out Z0.out.lt) (below_setRow (B0.out.trans (B1.out.mono B0.out.size)) (by omega:w.heap.size≤w.heap.size+1) X.toArray);clear hX lX oX;go_wp2_with (first
   |(refine qbk rfl ⟨.agg X.toArray,qfq 66 _ rfl _ _ BT.out (by simp[Act.eval]),?_⟩)
   |(refine zst 66 (.tmp 4) (.tmp 31) (w.heap.size+1) X Z1.out A2.out (by simp[LX.out]) OX.out ?_))
  have A3:=qap (Z1.out.setRow X.toArray) 0 X (fun j u h=>by simpa using h);refine bodyPost_ret (qfu rfl rfl (run_loadVar_mid _ _ 0 _ X _ A3 Tryz.underlying66 rfl A2.out)) rfl ⟨⟨0,0,0,false⟩,?_,fun h=>(by rw[A8.out]at h;cases h),BB.out⟩;rw[A8.out,←A4.out];rfl
 have p1:¬(ng:Int)≤ti:=by omega
 have plt:ti<ng:=by omega
 have plt2:(ti:Int)<ng:=by omega
 have q0:(0:Int)≤ti:=by omega
 obtain⟨y,hy⟩:∃y,s.gras[ti]? =some y:=⟨_,tA7 (by rw[AL.out];exact plt)⟩;have HY:=zh1 (show s.gras[R.tid]? =some y by rw[AK.out];exact hy);clear hge;iterate 16 (refine zrd rfl rfl (fun w1 hS=>by have g0:=F0.out w1 hS;have g1:=F1.out w1 hS;clear hS;go_simp;try rfl) ?_;simp only[Act.put,tA0,tA1,tA2])
 refine qnf rfl rfl 25 (.tmp 23) rfl g 0 rfl _ _ FC.out Tryz.underlying25 rfl CI.out ?_;try simp only[Act.put,tA0,tA1,tA2]
 iterate 1 (refine zrd rfl rfl (fun w1 hS=>by go_simp;(try go_bits);try rfl) ?_;simp only[Act.put,tA0,tA1,tA2])
 refine qnf rfl rfl 31 (.tmp 26) rfl w.heap.size 1 rfl (tokv R.tid (.slice Ac R.cavs.length cc) R.tag) _ FT.out Tryz.underlying31 rfl AH.out ?_;try simp only[Act.put,tA0,tA1,tA2]
 obtain⟨Wd,hWd⟩:=eqx W0.drew;have BD:=zh1 (show Below W0.heap.size W0 Wd by rw[hWd];exact(tA5 _ _).drew);rw[←hWd];clear hWd;have AM:=zh1 (B0.out.trans (BD.out.mono B0.out.size));refine qbj rfl rfl ?_;go_simp;refine(qnt c (.slice L.sa L.sn L.sc) L.sa L.sn L.sc Wd (H.out.call AM.out).seedR HC.out.seedb (by have:=HC.out.seed;have:=(H.out.seedR).1;simp[byv]at this;omega) (TT.out.below AM.out TT.out.size)).mono ?_;rintro e w1 ⟨rfl,b1⟩;have B1:=zh1 (BD.out.trans (b1.mono BD.out.size));clear b1;have AN:=zh1 (B0.out.trans (B1.out.mono B0.out.size));refine⟨(A0.out _).mpr B1.out,?_⟩;try simp only[Act.put,tA0,tA1,tA2]
 refine qbj rfl rfl ?_;go_simp;refine(qkd (qlr c.seed) (R.tid,R.cavs,R.tag) Ac R.cavs.length cc w1 (qjt _ _) (qju _ _) (HR.out.cavs.call AN.out) HR.out.cavc (by have:=AE.out;omega) AG.out (TT.out.below AN.out TT.out.size)).mono ?_;rintro e w2 ⟨rfl,b2⟩;rw[AI.out];have B2:=zh1 (B1.out.trans (b2.mono B1.out.size));clear b2;refine⟨(A0.out _).mpr B2.out,?_⟩;try simp only[Act.put,tA0,tA1,tA2]
 iterate 2 (refine zrd rfl rfl (fun w1 hS=>by go_simp;(try go_bits);try rfl) ?_;simp only[Act.put,tA0,tA1,tA2])
 refine qbg ?_;clear A0 F0 F1 FC FT u1 u2;cases gn with
 |false=>
  have A8:=zh1 (qrn (c:=c) (s:=s) AI.out);obtain⟨W1,hW1⟩:=eqx w2;rw[←hW1];have B1:=zh1 (show Below W0.heap.size W0 W1 by rw[hW1];exact B2.out);clear hW1;obtain⟨X,hX⟩:=xeq (grav ⟨0,0,0,false⟩);have lX:X.length=4:=by rw[←hX];rfl
  have oX:∀u∈X,u.oneCell'=true:=by
   rw[←hX];intro u hu;unfold grav at hu;simp only[List.mem_cons,List.not_mem_nil,or_false]at hu;rcases hu with rfl|rfl|rfl|rfl<;>rfl
  obtain⟨BT,A4,LX,OX⟩:=zh4 (show Tryz.prog.built 66 []=some X.toArray by rw[←hX];exact qrj) hX lX oX;obtain⟨A2,Z1,BB⟩:=zh3 (zI 66 LX.out) (Z0.out.below B1.out Z0.out.lt) (below_setRow (B0.out.trans (B1.out.mono B0.out.size)) (by omega:w.heap.size≤w.heap.size+1) X.toArray);clear hX lX oX;go_wp2_with (first
   |(refine qbk rfl ⟨.agg X.toArray,qfq 66 _ rfl _ _ BT.out (by simp[Act.eval]),?_⟩)
   |(refine zst 66 (.tmp 4) (.tmp 31) (w.heap.size+1) X Z1.out A2.out (by simp[LX.out]) OX.out ?_))
  have A3:=qap (Z1.out.setRow X.toArray) 0 X (fun j u h=>by simpa using h);refine bodyPost_ret (qfu rfl rfl (run_loadVar_mid _ _ 0 _ X _ A3 Tryz.underlying66 rfl A2.out)) rfl ⟨⟨0,0,0,false⟩,?_,fun h=>(by rw[A8.out]at h;cases h),BB.out⟩;rw[A8.out,←A4.out];rfl
 |true=>
  obtain⟨W1,hW1⟩:=eqx w2;rw[←hW1];have BW:=zh1 (show Below W0.heap.size W0 W1 by rw[hW1];exact B2.out);clear hW1;have AO:=zh1 (B0.out.trans (BW.out.mono B0.out.size));obtain⟨rv,hrv⟩:=xeq y.revoked;obtain⟨ex,hex⟩:=xeq y.expires;obtain⟨clk,hclk⟩:=xeq s.clock;have exb:ex<18446744073709551616:=by rw[←hex];exact(HS.out.gra hy).expires
  have clb:clk<18446744073709551616:=by rw[←hclk];exact HS.out.clock
  obtain⟨X,hX⟩:=xeq (grav y);have lX:X.length=4:=by rw[←hX];rfl
  have oX:∀u∈X,u.oneCell'=true:=by
   rw[←hX];intro u hu;unfold grav at hu;simp only[List.mem_cons,List.not_mem_nil,or_false]at hu;rcases hu with rfl|rfl|rfl|rfl<;>rfl
  obtain⟨X2,X3,A4,LX,OX,AB,AC,A1⟩:=zh8 (show X.toArray[2]? =some (.int .u64 (ex:Int)) by rw[←hX,←hex];rfl) (show X.toArray[3]? =some (.bool rv) by rw[←hX,←hrv];rfl) hX lX oX hrv hex hclk;have AP:=AI;have AT:=zh1 (fun(w':World)(hb:Below w.heap.size w w')=>(show w'.rangeAt L.gg (ti*4) X from fun j u hu=>by
   obtain⟨hj,_⟩:=List.getElem?_eq_some_iff.1 hu;refine(H.out.call hb).st.gras.cell ?_;rw[qmz hy (by omega),A4.out];exact hu))
  have A9:=zh1 (zI 66 LX.out);clear hX lX oX hrv hex hclk;go_upto_region 3 with(fail)
  obtain⟨S,A0⟩:∃S:World→Prop,Hid (∀w',S w'=(Below W1.heap.size W1 w')):=⟨_,fun _=>rfl⟩;refine zrs S 11 [(0,false),(1,false),(2,false),(3,false),(4,false),(5,false),(6,false),(7,false),(8,false),(9,false),(10,true),(11,true)] ((A0.out _).mpr ((tA5 _ _).drew)) ?_;obtain⟨F0,F1,FG⟩:=zh3 (fun(w':World)(h:S w')=>qai (qai K1.out BW.out) ((A0.out w').mp h)) (fun(w':World)(h:S w')=>qai (qai C9.out BW.out) ((A0.out w').mp h)) (fun(w':World)(h:S w')=>AT.out w' (AO.out.trans (((A0.out w').mp h).mono AO.out.size)));iterate 9 (refine zrd rfl rfl (fun w1 hS=>by have g0:=F0.out w1 hS;have g1:=F1.out w1 hS;clear hS;go_simp;try rfl) ?_;simp only[Act.put,tA0,tA1,tA2])
  refine qnf rfl rfl 66 (.tmp 40) rfl L.gg (ti*4) rfl X _ FG.out Tryz.underlying66 rfl A9.out ?_;try simp only[Act.put,tA0,tA1,tA2]
  obtain⟨We,hWe⟩:=eqx W1.drew;have BE:=zh1 (show Below W1.heap.size W1 We by rw[hWe];exact(tA5 _ _).drew);rw[←hWe];clear hWe;refine qbj rfl rfl ?_;go_simp;obtain⟨W2,hW2⟩:=eqx (We.alloc (.cells #[.int .i64 0,.int .i64 0,.int .u64 0,.bool false] 66));rw[←hW2];obtain⟨G,hG⟩:=eqx We.heap.size;have g2:Blk W2 G 66 #[.int .i64 0,.int .i64 0,.int .u64 0,.bool false]:=by rw[hW2,hG];exact Blk.new _ _ _
  have b2':Below W1.heap.size W1 W2:=by rw[hW2];exact BE.out.alloc BE.out.size _
  have gs:W1.heap.size≤G:=by rw[hG];exact BE.out.size
  rw[←hG];obtain⟨G2,AQ,GS⟩:=zh3 g2 b2' gs;clear hW2 hG g2 b2' gs;refine⟨(A0.out _).mpr AQ.out,?_⟩;try simp only[Act.put,tA0,tA1,tA2]
  refine qbj rfl rfl ?_;refine wp_store_row 66 (.tmp 6) (.tmp 41) rfl G X.toArray rfl rfl 66 _ G2.out (by simpa using A9.out) (by simp[LX.out]) (by simpa using OX.out) ?_;obtain⟨W3,hW3⟩:=eqx (W2.setRow G X.toArray);rw[←hW3];have g3:Blk W3 G 66 X.toArray:=by rw[hW3];exact G2.out.setRow _
  have b3:Below W1.heap.size W1 W3:=by rw[hW3];exact below_setRow AQ.out GS.out _
  obtain⟨G3,AU⟩:=zh2 g3 b3;clear hW3 g3 b3;refine⟨fun h=>absurd h (by decide),?_⟩;try simp only[Act.put,tA0,tA1,tA2]
  refine qbg ?_;clear A0 F0 F1 FG;obtain⟨A7,AD⟩:=zh2 (show G≠w.heap.size+1 by have:=GS.out;have:=BW.out.size;have:=Z0.out.lt;omega) (BW.out.trans (AU.out.mono BW.out.size));obtain⟨B3,Q3,Z3⟩:=zh3 (B0.out.trans (AD.out.mono B0.out.size)) (Q0.out.below AD.out Q0.out.lt) (Z0.out.below AD.out Z0.out.lt);have kop:=(Q3.out.cell 0).trans AF.out;have k35:=qai AS.out AD.out;clear p1 plt plt2 q0 hy;go_wp2_with fail
  refine(qgx R.op W3).mono ?_;rintro e w' ⟨rfl,rfl⟩;cases htb:qgv R.op with
  |true=>
   have A6:=zh1 (show (if qgv R.op then R.tree else 0)=R.tree by rw[htb];rfl);clear htb;clear kop;go_upto_region 7 with(fail)
   obtain⟨S,A0⟩:∃S:World→Prop,Hid (∀w',S w'=(Below w.heap.size w w'∧Blk w' w.heap.size 34 Q.toArray∧Blk w' G 66 X.toArray)):=⟨_,fun _=>rfl⟩;refine zrs S 29 [(0,false),(1,false),(2,false),(3,false),(4,false),(5,false),(6,false),(7,false),(8,false),(9,false),(10,false),(11,false),(12,false),(13,false),(14,false),(15,false),(16,false),(17,false),(18,false),(19,false),(20,false),(21,false),(22,false),(23,false),(24,false),(25,true),(26,false),(27,true),(28,false)] ((A0.out _).mpr ⟨B3.out.drew,Q3.out,G3.out⟩) ?_;obtain⟨FX,AJ,F0,F1,F2,F3,A2⟩:=zh7 (fun(w':World)(h:S w')=>qap ((A0.out w').mp h).2.2 0 X (fun j u h=>by simpa using h)) (fun(w':World)(h:S w')=>qap (l:=Q) ((A0.out w').mp h).2.1 1 (tokv R.tid (.slice Ac R.cavs.length cc) R.tag) (fun j u hu=>by rw[←HQ.out];exact qit R _ _ j u hu)) (fun(w':World)(h:S w')=>(((A0.out w').mp h).2.2.cell 3).trans X3.out) (fun(w':World)(h:S w')=>(((A0.out w').mp h).2.2.cell 2).trans X2.out) (fun(w':World)(h:S w')=>(H.out.call ((A0.out w').mp h).1).c4) (fun(w':World)(h:S w')=>(((A0.out w').mp h).2.1.cell 0).trans AF.out) (zI 66 LX.out);refine qnf rfl rfl 66 (.tmp 6) rfl G 0 rfl X _ FX.out Tryz.underlying66 rfl A2.out ?_;try simp only[Act.put,tA0,tA1,tA2]
   obtain⟨W4,hW4⟩:=eqx W3.drew;have B4:=zh1 (show Below W3.heap.size W3 W4 by rw[hW4];exact(tA5 _ _).drew);rw[←hW4];clear hW4;obtain⟨A5,Q4,G4,Z4⟩:=zh4 (B3.out.trans (B4.out.mono B3.out.size)) (Q3.out.below B4.out Q3.out.lt) (G3.out.below B4.out G3.out.lt) (Z3.out.below B4.out Z3.out.lt);cases rv with
   |true=>
    iterate 4 (refine zrd rfl rfl (fun w1 hS=>by have g0:=F0.out w1 hS;clear hS;go_simp;try rfl) ?_;simp only[Act.put,tA0,tA1,tA2])
    iterate 8 (refine qbi rfl rfl ?_;try simp only[Act.put,tA0,tA1,tA2])
    iterate 2 (refine zrd rfl rfl (fun w1 hS=>by go_simp;(try go_bits);try rfl) ?_;simp only[Act.put,tA0,tA1,tA2])
    iterate 10 (refine qbi rfl rfl ?_;try simp only[Act.put,tA0,tA1,tA2])
    refine qq6 rfl rfl ⟨(A0.out _).mpr ⟨A5.out,Q4.out,G4.out⟩,?_⟩;try simp only[Act.put,tA0,tA1,tA2]
    iterate 1 (refine zrd rfl rfl (fun w1 hS=>by go_simp;(try go_bits);try rfl) ?_;simp only[Act.put,tA0,tA1,tA2])
    refine qbj rfl rfl ?_;refine wp_store_row 66 (.tmp 4) (.tmp 47) rfl (w.heap.size+1) X.toArray rfl rfl 66 _ (Z4.out) (by simpa using A2.out) (by simp[LX.out]) (by simpa using OX.out) ?_;have zz:=(Z4.out).setRow X.toArray;obtain⟨ZZ,BB⟩:=zh2 zz (below_setRow (A5.out) (by omega:w.heap.size≤w.heap.size+1) X.toArray);have gx:=(G4.out).grown (qam _ (w.heap.size+1) X.toArray) (by intro e;injection e with e;exact A7.out e);have qx:=(Q4.out).grown (qam _ (w.heap.size+1) X.toArray) (by intro e;injection e with e;omega);refine⟨fun _=>(A0.out _).mpr ⟨BB.out,qx,gx⟩,?_⟩;clear zz gx qx;try simp only[Act.put,tA0,tA1,tA2]
    iterate 1 (refine zrd rfl rfl (fun w1 hS=>by go_simp;(try go_bits);try rfl) ?_;simp only[Act.put,tA0,tA1,tA2])
    refine qbg ?_;go_wp2_with fail
    have A3:=qap ZZ.out 0 X (fun j u h=>by simpa using h);refine bodyPost_ret (qfu rfl rfl (run_loadVar_mid _ _ 0 _ X _ A3 Tryz.underlying66 rfl A2.out)) rfl ⟨y,?_,fun _=>HY.out,BB.out⟩;rw[qrk HY.out AB.out,←A4.out];rfl
   |false=>
    by_cases hex:clk<ex
    ·
     have qx:(clk:Int)<ex:=by omega
     iterate 15 (refine zrd rfl rfl (fun w1 hS=>by have g0:=F0.out w1 hS;have g1:=F1.out w1 hS;have g2:=F2.out w1 hS;rw[A1.out]at g2;clear hS;go_simp;try rfl) ?_;simp only[Act.put,tA0,tA1,tA2])
     refine qnf rfl rfl 31 (.tmp 62) rfl w.heap.size 1 rfl (tokv R.tid (.slice Ac R.cavs.length cc) R.tag) _ AJ.out Tryz.underlying31 rfl AH.out ?_;try simp only[Act.put,tA0,tA1,tA2]
     iterate 8 (refine zrd rfl rfl (fun w1 hS=>by have g2:=F2.out w1 hS;rw[A1.out]at g2;have g3:=F3.out w1 hS;clear hS;go_simp;try rfl) ?_;simp only[Act.put,tA0,tA1,tA2])
     refine qbj rfl rfl ?_;go_simp;refine(qki R.op R.tree clk (R.tid,R.cavs,R.tag) Ac R.cavs.length cc W4 ((HR.out.cavs.call (B3.out)).call B4.out) HR.out.cavc (by have:=AE.out;omega) AG.out).mono ?_;rintro e w5 ⟨rfl,b5⟩;have B5:=zh1 (B4.out.trans (b5.mono B4.out.size));clear b5;obtain⟨AA,Q5,G5,Z5⟩:=zh4 (B3.out.trans (B5.out.mono B3.out.size)) (Q3.out.below B5.out Q3.out.lt) (G3.out.below B5.out G3.out.lt) (Z3.out.below B5.out Z3.out.lt);refine⟨(A0.out _).mpr ⟨AA.out,Q5.out,G5.out⟩,?_⟩;try simp only[Act.put,tA0,tA1,tA2]
     iterate 1 (refine zrd rfl rfl (fun w1 hS=>by go_simp;(try go_bits);try rfl) ?_;simp only[Act.put,tA0,tA1,tA2])
     refine qbj rfl rfl ?_;refine wp_store_row 66 (.tmp 4) (.tmp 47) rfl (w.heap.size+1) X.toArray rfl rfl 66 _ (Z5.out) (by simpa using A2.out) (by simp[LX.out]) (by simpa using OX.out) ?_;have zz:=(Z5.out).setRow X.toArray;obtain⟨ZZ,BB⟩:=zh2 zz (below_setRow (AA.out) (by omega:w.heap.size≤w.heap.size+1) X.toArray);have gx:=(G5.out).grown (qam _ (w.heap.size+1) X.toArray) (by intro e;injection e with e;exact A7.out e);have qx:=(Q5.out).grown (qam _ (w.heap.size+1) X.toArray) (by intro e;injection e with e;omega);refine⟨fun _=>(A0.out _).mpr ⟨BB.out,qx,gx⟩,?_⟩;clear zz gx qx;try simp only[Act.put,tA0,tA1,tA2]
     iterate 1 (refine zrd rfl rfl (fun w1 hS=>by go_simp;(try go_bits);try rfl) ?_;simp only[Act.put,tA0,tA1,tA2])
     refine qbg ?_;go_wp2_with fail
     have A3:=qap ZZ.out 0 X (fun j u h=>by simpa using h);refine bodyPost_ret (qfu rfl rfl (run_loadVar_mid _ _ 0 _ X _ A3 Tryz.underlying66 rfl A2.out)) rfl ⟨y,?_,fun _=>HY.out,BB.out⟩;rw[(qrm A1.out HY.out AP.out AB.out (by rw[A1.out,AC.out];exact hex) A6.out),←A4.out];rfl
    have qx:¬(clk:Int)<ex:=by omega
    iterate 14 (refine zrd rfl rfl (fun w1 hS=>by have g0:=F0.out w1 hS;have g1:=F1.out w1 hS;have g2:=F2.out w1 hS;rw[A1.out]at g2;clear hS;go_simp;try rfl) ?_;simp only[Act.put,tA0,tA1,tA2])
    iterate 10 (refine qbi rfl rfl ?_;try simp only[Act.put,tA0,tA1,tA2])
    refine qq6 rfl rfl ⟨(A0.out _).mpr ⟨A5.out,Q4.out,G4.out⟩,?_⟩;try simp only[Act.put,tA0,tA1,tA2]
    iterate 1 (refine zrd rfl rfl (fun w1 hS=>by go_simp;(try go_bits);try rfl) ?_;simp only[Act.put,tA0,tA1,tA2])
    refine qbj rfl rfl ?_;refine wp_store_row 66 (.tmp 4) (.tmp 47) rfl (w.heap.size+1) X.toArray rfl rfl 66 _ (Z4.out) (by simpa using A2.out) (by simp[LX.out]) (by simpa using OX.out) ?_;have zz:=(Z4.out).setRow X.toArray;obtain⟨ZZ,BB⟩:=zh2 zz (below_setRow (A5.out) (by omega:w.heap.size≤w.heap.size+1) X.toArray);have gx:=(G4.out).grown (qam _ (w.heap.size+1) X.toArray) (by intro e;injection e with e;exact A7.out e);have qx:=(Q4.out).grown (qam _ (w.heap.size+1) X.toArray) (by intro e;injection e with e;omega);refine⟨fun _=>(A0.out _).mpr ⟨BB.out,qx,gx⟩,?_⟩;clear zz gx qx;try simp only[Act.put,tA0,tA1,tA2]
    iterate 1 (refine zrd rfl rfl (fun w1 hS=>by go_simp;(try go_bits);try rfl) ?_;simp only[Act.put,tA0,tA1,tA2])
    refine qbg ?_;go_wp2_with fail
    have A3:=qap ZZ.out 0 X (fun j u h=>by simpa using h);refine bodyPost_ret (qfu rfl rfl (run_loadVar_mid _ _ 0 _ X _ A3 Tryz.underlying66 rfl A2.out)) rfl ⟨y,?_,fun _=>HY.out,BB.out⟩;rw[(qrl HY.out (by rw[A1.out,AC.out];exact hex)),←A4.out];rfl
  |false=>
   have A6:=zh1 (show (if qgv R.op then R.tree else 0)=(0:Int) by rw[htb];rfl);clear htb;clear kop;go_upto_region 7 with(fail)
   obtain⟨S,A0⟩:∃S:World→Prop,Hid (∀w',S w'=(Below w.heap.size w w'∧Blk w' w.heap.size 34 Q.toArray∧Blk w' G 66 X.toArray)):=⟨_,fun _=>rfl⟩;refine zrs S 29 [(0,false),(1,false),(2,false),(3,false),(4,false),(5,false),(6,false),(7,false),(8,false),(9,false),(10,false),(11,false),(12,false),(13,false),(14,false),(15,false),(16,false),(17,false),(18,false),(19,false),(20,false),(21,false),(22,false),(23,false),(24,false),(25,true),(26,false),(27,true),(28,false)] ((A0.out _).mpr ⟨B3.out.drew,Q3.out,G3.out⟩) ?_;obtain⟨FX,AJ,F0,F1,F2,F3,A2⟩:=zh7 (fun(w':World)(h:S w')=>qap ((A0.out w').mp h).2.2 0 X (fun j u h=>by simpa using h)) (fun(w':World)(h:S w')=>qap (l:=Q) ((A0.out w').mp h).2.1 1 (tokv R.tid (.slice Ac R.cavs.length cc) R.tag) (fun j u hu=>by rw[←HQ.out];exact qit R _ _ j u hu)) (fun(w':World)(h:S w')=>(((A0.out w').mp h).2.2.cell 3).trans X3.out) (fun(w':World)(h:S w')=>(((A0.out w').mp h).2.2.cell 2).trans X2.out) (fun(w':World)(h:S w')=>(H.out.call ((A0.out w').mp h).1).c4) (fun(w':World)(h:S w')=>(((A0.out w').mp h).2.1.cell 0).trans AF.out) (zI 66 LX.out);refine qnf rfl rfl 66 (.tmp 6) rfl G 0 rfl X _ FX.out Tryz.underlying66 rfl A2.out ?_;try simp only[Act.put,tA0,tA1,tA2]
   obtain⟨W4,hW4⟩:=eqx W3.drew;have B4:=zh1 (show Below W3.heap.size W3 W4 by rw[hW4];exact(tA5 _ _).drew);rw[←hW4];clear hW4;obtain⟨A5,Q4,G4,Z4⟩:=zh4 (B3.out.trans (B4.out.mono B3.out.size)) (Q3.out.below B4.out Q3.out.lt) (G3.out.below B4.out G3.out.lt) (Z3.out.below B4.out Z3.out.lt);cases rv with
   |true=>
    iterate 4 (refine zrd rfl rfl (fun w1 hS=>by have g0:=F0.out w1 hS;clear hS;go_simp;try rfl) ?_;simp only[Act.put,tA0,tA1,tA2])
    iterate 8 (refine qbi rfl rfl ?_;try simp only[Act.put,tA0,tA1,tA2])
    iterate 2 (refine zrd rfl rfl (fun w1 hS=>by go_simp;(try go_bits);try rfl) ?_;simp only[Act.put,tA0,tA1,tA2])
    iterate 10 (refine qbi rfl rfl ?_;try simp only[Act.put,tA0,tA1,tA2])
    refine qq6 rfl rfl ⟨(A0.out _).mpr ⟨A5.out,Q4.out,G4.out⟩,?_⟩;try simp only[Act.put,tA0,tA1,tA2]
    iterate 1 (refine zrd rfl rfl (fun w1 hS=>by go_simp;(try go_bits);try rfl) ?_;simp only[Act.put,tA0,tA1,tA2])
    refine qbj rfl rfl ?_;refine wp_store_row 66 (.tmp 4) (.tmp 47) rfl (w.heap.size+1) X.toArray rfl rfl 66 _ (Z4.out) (by simpa using A2.out) (by simp[LX.out]) (by simpa using OX.out) ?_;have zz:=(Z4.out).setRow X.toArray;obtain⟨ZZ,BB⟩:=zh2 zz (below_setRow (A5.out) (by omega:w.heap.size≤w.heap.size+1) X.toArray);have gx:=(G4.out).grown (qam _ (w.heap.size+1) X.toArray) (by intro e;injection e with e;exact A7.out e);have qx:=(Q4.out).grown (qam _ (w.heap.size+1) X.toArray) (by intro e;injection e with e;omega);refine⟨fun _=>(A0.out _).mpr ⟨BB.out,qx,gx⟩,?_⟩;clear zz gx qx;try simp only[Act.put,tA0,tA1,tA2]
    iterate 1 (refine zrd rfl rfl (fun w1 hS=>by go_simp;(try go_bits);try rfl) ?_;simp only[Act.put,tA0,tA1,tA2])
    refine qbg ?_;go_wp2_with fail
    have A3:=qap ZZ.out 0 X (fun j u h=>by simpa using h);refine bodyPost_ret (qfu rfl rfl (run_loadVar_mid _ _ 0 _ X _ A3 Tryz.underlying66 rfl A2.out)) rfl ⟨y,?_,fun _=>HY.out,BB.out⟩;rw[qrk HY.out AB.out,←A4.out];rfl
   |false=>
    by_cases hex:clk<ex
    ·
     have qx:(clk:Int)<ex:=by omega
     iterate 15 (refine zrd rfl rfl (fun w1 hS=>by have g0:=F0.out w1 hS;have g1:=F1.out w1 hS;have g2:=F2.out w1 hS;rw[A1.out]at g2;clear hS;go_simp;try rfl) ?_;simp only[Act.put,tA0,tA1,tA2])
     refine qnf rfl rfl 31 (.tmp 62) rfl w.heap.size 1 rfl (tokv R.tid (.slice Ac R.cavs.length cc) R.tag) _ AJ.out Tryz.underlying31 rfl AH.out ?_;try simp only[Act.put,tA0,tA1,tA2]
     iterate 8 (refine zrd rfl rfl (fun w1 hS=>by have g2:=F2.out w1 hS;rw[A1.out]at g2;have g3:=F3.out w1 hS;clear hS;go_simp;try rfl) ?_;simp only[Act.put,tA0,tA1,tA2])
     refine qbj rfl rfl ?_;go_simp;refine(qki R.op (0:Int) clk (R.tid,R.cavs,R.tag) Ac R.cavs.length cc W4 ((HR.out.cavs.call (B3.out)).call B4.out) HR.out.cavc (by have:=AE.out;omega) AG.out).mono ?_;rintro e w5 ⟨rfl,b5⟩;have B5:=zh1 (B4.out.trans (b5.mono B4.out.size));clear b5;obtain⟨AA,Q5,G5,Z5⟩:=zh4 (B3.out.trans (B5.out.mono B3.out.size)) (Q3.out.below B5.out Q3.out.lt) (G3.out.below B5.out G3.out.lt) (Z3.out.below B5.out Z3.out.lt);refine⟨(A0.out _).mpr ⟨AA.out,Q5.out,G5.out⟩,?_⟩;try simp only[Act.put,tA0,tA1,tA2]
     iterate 1 (refine zrd rfl rfl (fun w1 hS=>by go_simp;(try go_bits);try rfl) ?_;simp only[Act.put,tA0,tA1,tA2])
     refine qbj rfl rfl ?_;refine wp_store_row 66 (.tmp 4) (.tmp 47) rfl (w.heap.size+1) X.toArray rfl rfl 66 _ (Z5.out) (by simpa using A2.out) (by simp[LX.out]) (by simpa using OX.out) ?_;have zz:=(Z5.out).setRow X.toArray;obtain⟨ZZ,BB⟩:=zh2 zz (below_setRow (AA.out) (by omega:w.heap.size≤w.heap.size+1) X.toArray);have gx:=(G5.out).grown (qam _ (w.heap.size+1) X.toArray) (by intro e;injection e with e;exact A7.out e);have qx:=(Q5.out).grown (qam _ (w.heap.size+1) X.toArray) (by intro e;injection e with e;omega);refine⟨fun _=>(A0.out _).mpr ⟨BB.out,qx,gx⟩,?_⟩;clear zz gx qx;try simp only[Act.put,tA0,tA1,tA2]
     iterate 1 (refine zrd rfl rfl (fun w1 hS=>by go_simp;(try go_bits);try rfl) ?_;simp only[Act.put,tA0,tA1,tA2])
     refine qbg ?_;go_wp2_with fail
     have A3:=qap ZZ.out 0 X (fun j u h=>by simpa using h);refine bodyPost_ret (qfu rfl rfl (run_loadVar_mid _ _ 0 _ X _ A3 Tryz.underlying66 rfl A2.out)) rfl ⟨y,?_,fun _=>HY.out,BB.out⟩;rw[(qrm A1.out HY.out AP.out AB.out (by rw[A1.out,AC.out];exact hex) A6.out),←A4.out];rfl
    have qx:¬(clk:Int)<ex:=by omega
    iterate 14 (refine zrd rfl rfl (fun w1 hS=>by have g0:=F0.out w1 hS;have g1:=F1.out w1 hS;have g2:=F2.out w1 hS;rw[A1.out]at g2;clear hS;go_simp;try rfl) ?_;simp only[Act.put,tA0,tA1,tA2])
    iterate 10 (refine qbi rfl rfl ?_;try simp only[Act.put,tA0,tA1,tA2])
    refine qq6 rfl rfl ⟨(A0.out _).mpr ⟨A5.out,Q4.out,G4.out⟩,?_⟩;try simp only[Act.put,tA0,tA1,tA2]
    iterate 1 (refine zrd rfl rfl (fun w1 hS=>by go_simp;(try go_bits);try rfl) ?_;simp only[Act.put,tA0,tA1,tA2])
    refine qbj rfl rfl ?_;refine wp_store_row 66 (.tmp 4) (.tmp 47) rfl (w.heap.size+1) X.toArray rfl rfl 66 _ (Z4.out) (by simpa using A2.out) (by simp[LX.out]) (by simpa using OX.out) ?_;have zz:=(Z4.out).setRow X.toArray;obtain⟨ZZ,BB⟩:=zh2 zz (below_setRow (A5.out) (by omega:w.heap.size≤w.heap.size+1) X.toArray);have gx:=(G4.out).grown (qam _ (w.heap.size+1) X.toArray) (by intro e;injection e with e;exact A7.out e);have qx:=(Q4.out).grown (qam _ (w.heap.size+1) X.toArray) (by intro e;injection e with e;omega);refine⟨fun _=>(A0.out _).mpr ⟨BB.out,qx,gx⟩,?_⟩;clear zz gx qx;try simp only[Act.put,tA0,tA1,tA2]
    iterate 1 (refine zrd rfl rfl (fun w1 hS=>by go_simp;(try go_bits);try rfl) ?_;simp only[Act.put,tA0,tA1,tA2])
    refine qbg ?_;go_wp2_with fail
    have A3:=qap ZZ.out 0 X (fun j u h=>by simpa using h);refine bodyPost_ret (qfu rfl rfl (run_loadVar_mid _ _ 0 _ X _ A3 Tryz.underlying66 rfl A2.out)) rfl ⟨y,?_,fun _=>HY.out,BB.out⟩;rw[(qrl HY.out (by rw[A1.out,AC.out];exact hex)),←A4.out];rfl
end
section
open Go.RowKit
theorem qrp (c:Cfg)(s:Sta)(L:Loc)(col:Col)(k g:Nat)(css:List (List Value))(R:Req)(cav leafv:Value)(own ro ex rv:Value)(tn:Int)(w:World)(hk:Kind k)(hs:s.Ok)(h:Mdl w col k g c s L css)
 (ht:R.tag.length=32)(hid:R.id<4294967296):
 Calls Tryz.prog 128 #[.pointer (some ⟨g,0,none⟩),.agg (reqv R cav leafv).toArray,.agg #[.int .i64 tn,ro,ex,rv]] w fun e w'=>e=.returned (.int .i64 (qlw s R tn))∧Below w.heap.size w w':=by
 have rest:=qgu R cav leafv ht;have r0:(reqv R cav leafv)[0]? =some (.int .i64 R.op):=rfl;obtain⟨Q,hQ⟩:=xeq (reqv R cav leafv);rw[hQ]at rest r0 ⊢;obtain⟨W0,hW0⟩:=eqx ((w.alloc (.cells Q.toArray 34)).alloc (.cells #[.int .i64 tn,ro,ex,rv] 66));have q0:Blk W0 w.heap.size 34 Q.toArray:=by rw[hW0];exact(Blk.new w _ _).alloc _
 have z0:W0.cell? ⟨w.heap.size+1,0,none⟩=some (.int .i64 tn):=by
  have h:=Blk.new (w.alloc (.cells Q.toArray 34)) 66 #[.int .i64 tn,ro,ex,rv];rw[qar]at h;rw[hW0];exact(h.cell 0).trans rfl
 have b0:Below w.heap.size w W0:=by rw[hW0];exact qah (qah (tA5 _ _) _) _
 obtain⟨op,hop⟩:=xeq R.op;obtain⟨i,hi⟩:=xeq R.id;obtain⟨ng,hng⟩:=xeq s.gras.length;have gb:ng≤64:=by rw[←hng];exact hs.grasn
 have ib:i<4294967296:=by rw[←hi];exact hid
 have c9:=h.c9;rw[hng]at c9;have k0:W0.cell? ⟨w.heap.size,0,none⟩=some (.int .i64 op):=(q0.cell 0).trans (by rw[tA3,←hop];exact r0);have k35:W0.cell? ⟨w.heap.size,35,none⟩=some (.int .i64 R.tree):=(q0.cell 35).trans (by rw[tA3];exact rest 0);have k36:W0.cell? ⟨w.heap.size,36,none⟩=some (.int .i64 R.tenant):=(q0.cell 36).trans (by rw[tA3];exact rest 1);have k40:W0.cell? ⟨w.heap.size,40,none⟩=some (.int .u32 (i:Int)):=(q0.cell 40).trans (by rw[tA3,←hi];exact rest 5);obtain⟨H,A4,Z0,B0,HS,K0,A9,AA⟩:=zh8 h hW0 z0 b0 hs k0 k35 k36;obtain⟨A6,C9,A7,HI,A5,H0⟩:=zh6 k40 (qai c9 b0) hop hi hng (h.call b0);obtain⟨av,hav⟩:=xeq (qlw s R tn);rw[hav];have A3:=zh1 hav;clear hav;rw[hW0]at k0;clear h hW0 q0 z0 b0 hs hop hi hng k35 k36 k40 c9 rest r0 ht hid hQ;have u1:IntKind.u64.wrap (i:Int)=(i:Int):=IntWalk.u64_in _ (by omega);have u2:IntKind.u64.wrap (ng:Int)=(ng:Int):=IntWalk.u64_in _ (by omega);go_enter Tryz.func128,Tryz.ntmps128
 by_cases hm:op=6∨op=10∨op=12
 ·
  have ha:qlw s R tn=R.tenant:=by
   unfold qlw;rw[A7.out,if_pos hm]
  have HA:=zh1 ha;have k36:=AA.out;rw[A4.out]at k36;rcases hm with rfl|rfl|rfl
  · go_wp2_with fail
    go_ret
    exact⟨by rw[←A3.out,HA.out];rfl,by rw[←A4.out];exact B0.out⟩
  · go_wp2_with fail
    go_ret
    exact⟨by rw[←A3.out,HA.out];rfl,by rw[←A4.out];exact B0.out⟩
  go_wp2_with fail
  go_ret
  exact⟨by rw[←A3.out,HA.out];rfl,by rw[←A4.out];exact B0.out⟩
 have e6:(op==6)=false:=by simp;omega
 have e10:(op==10)=false:=by simp;omega
 have e12:(op==12)=false:=by simp;omega
 have HM:=zh1 hm;clear hm;go_upto_region 3 with(fail)
 rw[←A4.out];clear k0;obtain⟨S,A1⟩:∃S:World→Prop,Hid (∀w',S w'=(Below W0.heap.size W0 w')):=⟨_,fun _=>rfl⟩;refine zrs S 17 [(0,false),(1,false),(2,false),(3,false),(4,false),(5,false),(6,false),(7,false),(8,false),(9,false),(10,false),(11,false),(12,false),(13,false),(14,false),(15,false),(16,false)] ((A1.out _).mpr ((tA5 _ _).drew)) ?_;obtain⟨F0,F1,F2⟩:=zh3 (fun(w':World)(h:S w')=>qai K0.out ((A1.out w').mp h)) (fun(w':World)(h:S w')=>qai A6.out ((A1.out w').mp h)) (fun(w':World)(h:S w')=>qai C9.out ((A1.out w').mp h));have rest:qlw s R tn=(if op=11∧i<ng then((s.gras[i]?).getD ⟨0,0,0,false⟩).tenant else if qgv op then(match s.tree R.tree with|some t=>t.tenant|none=>tn) else tn):=by
  unfold qlw;rw[A7.out,if_neg HM.out,HI.out];by_cases h11:op=11
  · rw[if_pos h11]
    by_cases hl:i<ng
    · rw[if_pos ⟨h11,hl⟩,tA7 (by rw[A5.out];exact hl)]
      rfl
    rw[if_neg (by omega),List.getElem?_eq_none (by rw[A5.out];omega),if_neg (by rw[h11];decide)]
  rw[if_neg h11,if_neg (c:=op=11∧i<ng) (by omega)];rfl
 have A0:=zh1 rest;clear rest;by_cases h11:op=11
 ·
  subst h11;iterate 15 (refine zrd rfl rfl (fun w1 hS=>by have g0:=F0.out w1 hS;have g1:=F1.out w1 hS;have g2:=F2.out w1 hS;clear hS;go_simp;try rfl) ?_;simp only[Act.put,tA0,tA1,tA2])
  by_cases hl:i<ng
  ·
   have q1:(i:Int)<ng:=by omega
   have q0:(0:Int)≤i:=by omega
   iterate 2 (refine zrd rfl rfl (fun w1 hS=>by go_simp;(try go_bits);try rfl) ?_;simp only[Act.put,tA0,tA1,tA2])
   refine qbg ?_;clear A1 F0 F1 F2 u1 u2 e6 e10 e12;obtain⟨x,hx⟩:∃x,s.gras[i]? =some x:=⟨_,tA7 (by rw[A5.out];exact hl)⟩;have ha:qlw s R tn=x.tenant:=by rw[A0.out,if_pos ⟨rfl,hl⟩,hx];rfl
   have HA:=zh1 ha;obtain⟨W1,hW1⟩:=eqx W0.drew;have B1:=zh1 (show Below W0.heap.size W0 W1 by rw[hW1];exact(tA5 _ _).drew);rw[←hW1];clear hW1 ha;obtain⟨A2,XC⟩:=zh2 (B0.out.trans (B1.out.mono B0.out.size)) (fun(w':World)(hb:Below w.heap.size w w')=>(show w'.cell? ⟨L.gg,i*4,none⟩=some (.int .i64 x.tenant) from(H.out.call hb).st.gras.cell ((qmz (j:=0) hx (by omega)).trans rfl)));clear hx hl;go_upto_region 4 with(fail)
   obtain⟨S,A1⟩:∃S:World→Prop,Hid (∀w',S w'=(Below W1.heap.size W1 w')):=⟨_,fun _=>rfl⟩;refine zrs S 11 [(0,false),(1,false),(2,false),(3,false),(4,false),(5,false),(6,false),(7,false),(8,false),(9,false),(10,false)] ((A1.out _).mpr ((tA5 _ _).drew)) ?_;obtain⟨F1,F2,F3⟩:=zh3 (fun(w':World)(h:S w')=>qai (qai A6.out B1.out) ((A1.out w').mp h)) (fun(w':World)(h:S w')=>qai (qai C9.out B1.out) ((A1.out w').mp h)) (fun(w':World)(h:S w')=>XC.out w' (A2.out.trans (((A1.out w').mp h).mono A2.out.size)));iterate 11 (refine zrd rfl rfl (fun w1 hS=>by have g1:=F1.out w1 hS;have g2:=F2.out w1 hS;have g3:=F3.out w1 hS;clear hS;go_simp;try rfl) ?_;simp only[Act.put,tA0,tA1,tA2])
   refine qbg ?_;clear A1 F1 F2 F3;go_wp2_with fail
   go_ret
   exact⟨by rw[←A3.out,HA.out];rfl,A2.out.drew⟩
  have q1:¬(i:Int)<ng:=by omega
  iterate 2 (refine zrd rfl rfl (fun w1 hS=>by go_simp;(try go_bits);try rfl) ?_;simp only[Act.put,tA0,tA1,tA2])
  refine qbg ?_;clear A1 F0 F1 F2 u1 u2 e6 e10 e12;have ha:qlw s R tn=tn:=by
   rw[A0.out,if_neg (by omega)];rfl
  have HA:=zh1 ha;obtain⟨W1,hW1⟩:=eqx W0.drew;have B1:=zh1 (show Below W0.heap.size W0 W1 by rw[hW1];exact(tA5 _ _).drew);rw[←hW1];clear hW1 ha;have A2:=zh1 (B0.out.trans (B1.out.mono B0.out.size));have k0:=qai K0.out B1.out;have z0:=qai Z0.out B1.out;go_wp2_with fail
  refine(qgx 11 W1).mono ?_;rintro e w' ⟨rfl,rfl⟩;rw[show qgv 11=false from rfl];go_wp2_with fail
  go_ret
  exact⟨by rw[←A3.out,HA.out];rfl,A2.out⟩
 have e11:(op==11)=false:=by simp;omega
 iterate 4 (refine zrd rfl rfl (fun w1 hS=>by have g0:=F0.out w1 hS;clear hS;go_simp;try rfl) ?_;simp only[Act.put,tA0,tA1,tA2])
 iterate 11 (refine qbi rfl rfl ?_;try simp only[Act.put,tA0,tA1,tA2])
 iterate 2 (refine zrd rfl rfl (fun w1 hS=>by go_simp;(try go_bits);try rfl) ?_;simp only[Act.put,tA0,tA1,tA2])
 refine qbg ?_;clear A1 F0 F1 F2 u1 u2 e6 e10 e12 e11;obtain⟨W1,hW1⟩:=eqx W0.drew;have B1:=zh1 (show Below W0.heap.size W0 W1 by rw[hW1];exact(tA5 _ _).drew);rw[←hW1];clear hW1;have A2:=zh1 (B0.out.trans (B1.out.mono B0.out.size));have k0:=qai K0.out B1.out;have z0:=qai Z0.out B1.out;have k35:=qai A9.out B1.out;obtain⟨HN,H1⟩:=zh2 h11 (H0.out.call B1.out);clear h11;go_wp2_with fail
 refine(qgx op W1).mono ?_;rintro e w' ⟨rfl,rfl⟩;cases htb:qgv op with
 |false=>
  have ha:qlw s R tn=tn:=by
   rw[A0.out,if_neg (by have:=HN.out;omega),htb];rfl
  have HA:=zh1 ha;clear ha htb;go_wp2_with fail
  go_ret
  exact⟨by rw[←A3.out,HA.out];rfl,A2.out⟩
 |true=>
  have A8:=zh1 htb;clear htb;cases htr:s.tree R.tree with
  |none=>
   have ha:qlw s R tn=tn:=by
    rw[A0.out,if_neg (by have:=HN.out;omega),A8.out,htr];rfl
   have HA:=zh1 ha;clear ha;have CT:=zh1 (qpl R.tree c s L col k g css W1 HS.out H1.out htr);clear htr;go_wp2_with fail
   refine CT.out.mono ?_;rintro e w' ⟨rfl,rfl⟩;go_wp2_with fail
   go_ret
   exact⟨by rw[←A3.out,HA.out];rfl,A2.out⟩
  |some t=>
   have ha:qlw s R tn=t.tenant:=by
    rw[A0.out,if_neg (by have:=HN.out;omega),A8.out,htr];rfl
   have HA:=zh1 ha;clear ha;obtain⟨n,hn,ht,h0,h4⟩:∃n:Nat,R.tree=n∧s.tres[n]? =some t∧t.state≠0∧t.state≠4:=by
    unfold Sta.tree at htr;split at htr
    ·
     rename_i h0
     split at htr
     · cases htr
     rename_i x hx
     split at htr
     · cases htr
     rename_i hne
     injection htr with htr;subst htr;exact⟨R.tree.toNat,by omega,hx,fun e=>hne (.inl e),fun e=>hne (.inr e)⟩
    cases htr
   have CT:=zh1 (qpm n t c s L col k g css W1 HS.out H1.out ht h0 h4);obtain⟨-,Ad,cd,Al,cl,Aq,cq,-,hcell,-,-,-⟩:=H1.out.st.tree HS.out ht;have e1:=hcell 1 (.int .i64 t.tenant) rfl;rw[hn]at k35;clear htr hn ht h0 h4 hcell;go_wp2_with fail
   refine CT.out.mono ?_;rintro e w' ⟨rfl,rfl⟩;go_wp2_with fail
   go_ret
   exact⟨by rw[←A3.out,HA.out];rfl,A2.out⟩
end
section
open Go.RowKit
theorem qrq (role op:Int)(w:World):
 Calls Tryz.prog 185 #[.int .i64 role,.int .i64 op] w fun e w'=>e=.returned (.bool (qlu role op))∧w=w':=by
 by_cases h4:role=4
 ·
  subst h4;go_enter Tryz.func185,Tryz.ntmps185
  go_wp2
  all_goals
   go_ret
   exact⟨qen (by simp_all [qlu]),rfl⟩
 by_cases h3:role=3
 ·
  subst h3;go_enter Tryz.func185,Tryz.ntmps185
  go_wp2
  all_goals
   go_ret
   exact⟨qen (by simp_all [qlu]),rfl⟩
 by_cases h2:role=2
 ·
  subst h2;go_enter Tryz.func185,Tryz.ntmps185
  go_wp2
  all_goals
   go_ret
   exact⟨qen (by simp_all [qlu]),rfl⟩
 by_cases h1:role=1
 ·
  subst h1;go_enter Tryz.func185,Tryz.ntmps185
  go_wp2
  all_goals
   go_ret
   exact⟨qen (by simp_all [qlu]),rfl⟩
 have e:qlu role op=false:=by
  unfold qlu;rw[decide_eq_false h4,decide_eq_false (by omega:¬(3≤role∧role≤4)),decide_eq_false (by omega:¬(2≤role∧role≤4)),decide_eq_false (by omega:¬(1≤role∧role≤4))];rfl
 rw[e];go_enter Tryz.func185,Tryz.ntmps185
 go_wp2
 all_goals
  go_ret
  exact⟨rfl,rfl⟩
theorem qrr (role op own asked:Int)(w:World):
 Calls Tryz.prog 127 #[.int .i64 role,.int .i64 op,.int .i64 own,.int .i64 asked] w fun e w'=>∃v,e=.returned v∧Below w.heap.size w w'∧(qlv role op own asked=true→v=.nilIface)∧
  (qlv role op own asked=false→∃g,v=.iface 218 (.pointer (some ⟨g,0,none⟩))∧Blk w' g 224 #[.int .i64 op,.int .i64 role,.int .i64 21]∧w.heap.size≤g):=by
 obtain⟨b,hb⟩:=xeq (qlu role op);have hd:qlv role op own asked=(b&&(own==asked||role==4)):=by rw[←hb];rfl
 rw[hd];have HB:=zh1 hb;clear hb hd;go_enter Tryz.func127,Tryz.ntmps127
 go_wp2_with fail
 refine(qrq role op w).mono ?_;rintro e w1 ⟨rfl,rfl⟩;rw[HB.out];cases b with
 |false=>
  go_wp2_with fail
  go_ret
  exact⟨_,rfl,qah (tA5 _ _) _,fun h=>(by cases h),fun _=>⟨_,rfl,Blk.new _ _ _,tA4 _⟩⟩
 |true=>
  by_cases h1:own=asked
  · have e1:(own==asked)=true:=by simpa using h1
    go_wp2_with fail
    go_ret
    exact⟨_,rfl,tA5 _ _,fun _=>rfl,fun h=>(by rw[e1]at h;cases h)⟩
  have e1:(own==asked)=false:=by simpa using h1
  by_cases h4:role=4
  · have e4:(role==4)=true:=by simpa using h4
    go_wp2_with fail
    go_ret
    exact⟨_,rfl,tA5 _ _,fun _=>rfl,fun h=>(by rw[e1,e4]at h;cases h)⟩
  have e4:(role==4)=false:=by simpa using h4
  go_wp2_with fail
  go_ret
  exact⟨_,rfl,qah (tA5 _ _) _,fun h=>(by rw[e1,e4]at h;cases h),fun _=>⟨_,rfl,Blk.new _ _ _,tA4 _⟩⟩
end
end Go.Proofs.YthomgopipiomhaaGreatDoor

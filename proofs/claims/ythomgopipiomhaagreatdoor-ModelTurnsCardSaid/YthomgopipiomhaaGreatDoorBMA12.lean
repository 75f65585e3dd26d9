/- Lemmas. -/
import Derived.Test.YthomgopipiomhaaGreatDoorBMA11
namespace Go.Proofs.YthomgopipiomhaaGreatDoor
open Go.RowKit
set_option linter.unusedVariables false
set_option linter.unusedSimpArgs false
set_option maxRecDepth 100000
set_option maxHeartbeats 32000000
theorem qtt {α:Type}{f:α→α}(h:∀x,f x=x):∀(l:List α) (n:Nat),l.modify n f=l
 |[],n=>by simp
 |x::l,0=>by simp[h]
 |x::l,n+1=>by simp[qtt h l n]
theorem Did.step {w W W':World}{col col' col'':Col}{k g:Nat}{c:Cfg}{css:List (List Value)}{s s1 s2:Sta}(h:Did w col W col' k g c css s s1)(hT:Turns (inP k) W col' W' col'')(ho:∀i,i=5∨10≤i→KeepsCol i W col' W' col'')(hm:∃L' css',Mdl W' col'' k g c s2 L' css'):Did w col W' col'' k g c css s s2:=
 ⟨hm,h.old.keep ho,h.turns.trans hT⟩
theorem Mdl.state1 {w:World}{col:Col}{k g:Nat}{c:Cfg}{s:Sta}{L:Loc}{css:List (List Value)}(h:Mdl w col k g c s L css)(hk:Kind k)(hs:s.Ok){n:Nat}{t:Tre}(ht:s.tres[n]? =some t)(x:Int):
 Mdl (w.setCell ⟨L.rg,n*75,none⟩ (.int .i64 x)) col k g c (s.setT n fun t=>{t with state:=x}) L (css.modify n fun cs=>over cs 0 [.int .i64 x]):=
 h.treOver hk hs ht (j:=0) (cs:=[.int .i64 x]) (fun t=>{t with state:=x}) zm (fun vd vl vq=>by simp[over,trev]) rfl rfl rfl
theorem Mdl.deficit1 {w:World}{col:Col}{k g:Nat}{c:Cfg}{s:Sta}{L:Loc}{css:List (List Value)}(h:Mdl w col k g c s L css)(hk:Kind k)(hs:s.Ok){n:Nat}{t:Tre}(ht:s.tres[n]? =some t)(x:Int):
 Mdl (w.setCell ⟨L.rg,n*75+3,none⟩ (.int .i64 x)) col k g c (s.setT n fun t=>{t with deficit:=x}) L (css.modify n fun cs=>over cs 3 [.int .i64 x]):=
 h.treOver hk hs ht (j:=3) (cs:=[.int .i64 x]) (fun t=>{t with deficit:=x}) zm (fun vd vl vq=>by simp[over,trev]) rfl rfl rfl
theorem Mdl.queueNil {w:World}{col:Col}{k g:Nat}{c:Cfg}{s:Sta}{L:Loc}{css:List (List Value)}(h:Mdl w col k g c s L css)(hk:Kind k)(hs:s.Ok){n:Nat}{t:Tre}(ht:s.tres[n]? =some t):
 ∃css',Mdl (w.setCell ⟨L.rg,n*75+6,none⟩ (.slice none 0 0)) col k g c (s.setT n fun t=>{t with queue:=[]}) L css'∧TrsAt (w.setCell ⟨L.rg,n*75+6,none⟩ (.slice none 0 0)) col css s.tres∧Turns (inP k) w col (w.setCell ⟨L.rg,n*75+6,none⟩ (.slice none 0 0)) col:=by
 obtain⟨hn16,Ad,cd,Al,cl,Aq,cq,hcs,-,r1,r2,r3⟩:=h.st.tree hs ht;exact⟨_,h.treRow hk hs ht hcs (.inr (.inr rfl)) (Turns.refl _ w col) h.fin (fun t=>{t with queue:=[]}) (.slice none 0 0) zo ⟨_,_,_,rfl,r1,r2,r3⟩ ⟨_,_,_,rfl,r1,r2,TextsC.nil _ _ _⟩⟩
theorem qtu (c:Cfg)(s:Sta)(L:Loc)(col:Col)(k g:Nat)(css:List (List Value))(n:Nat)(t:Tre)(R:Req)(Ac:Option Addr)(cc:Nat)(Al:Option Addr)(cl:Nat)(w:World)(hk:Kind k)(hs:s.Ok)(h:Mdl w col k g c s L css)
 (hr:Asked w col R Ac cc Al cl)(ht:s.tres[n]? =some t)(hrt:R.tree=(n:Int))(hn0:n≠0)(hop:R.op=7):
 Zc 137 #[.pointer (some ⟨g,0,none⟩),.pointer (some ⟨L.rg,n*75,none⟩),.agg (reqv R (.slice Ac R.cavs.length cc) (.slice Al R.leaf.length cl)).toArray] w fun e w'=>∃v col',e=.returned v∧RspV w' col' w.heap.size v (qmq c s R t).2∧Did w col w' col' k g c css s (qmq c s R t).1:=by
 obtain⟨hn16,Ad,cd,Al',cl',Aq,cq,hcs,hcell,hrd,hrl,hrq⟩:=h.st.tree hs ht;obtain⟨Q,hQ,rlen,rest,W0,hW0,q0,z0,b0⟩:=qr5 R Ac cc Al cl w hr.good.tag;rw[hQ];have hG0:=h.fin.none (b:=w.heap.size+1) zo;have D0:=Did.same (css:=css) h b0;obtain⟨H,AQ,Q0,Z0,B0,A3,AV,HK⟩:=zh8 h hW0 q0 z0 b0 hG0 D0 hk;obtain⟨HS,HR,RL,AL,HQ⟩:=zh5 hs hr rlen rest hQ;clear h hW0 q0 z0 b0 hG0 D0 hk hs hr rlen rest hQ;obtain⟨st,hst⟩:=xeq R.state;obtain⟨t0,ht0⟩:=xeq t.state;obtain⟨nq,hnq⟩:=xeq t.queue.length;have k0:=(Q0.cell 0).trans (show Q.toArray[0]? =some (.int .i64 7) by rw[tA3,←hop,←HQ.o];rfl);have k38:=(Q0.cell 38).trans (show Q.toArray[38]? =some (.int .i64 st) by rw[tA3,←hst];exact AL.o 3);obtain⟨K0,AR,HT,AA,AC,A8,AD,A7⟩:=zh8 k0 k38 ht hrt hn0 hst ht0 hnq;have e0:=hcell 0 (.int .i64 t.state) rfl;have e6:=hcell 6 (.slice Aq t.queue.length cq) rfl;rw[ht0,Nat.add_zero]at e0;rw[hnq]at e6;obtain⟨E0,E6,B7⟩:=zh3 (qai e0 B0.o) (qai e6 B0.o) hrq;have k0:=K0.o;rw[AQ.o]at k0;clear hrt hn0 hop hst ht0 hnq ht hcs hcell hrd hrl hrq k38 e0 e6;go_enter Tryz.func137,Tryz.ntmps137
 go_upto_region 3 with(fail)
 rw[←AQ.o];clear k0;obtain⟨S,HS9⟩:=zS fun w'=>Below W0.heap.size W0 w'
 refine zrs S 13 (zq 0 11 [(11,true),(12,false)]) ((HS9.o _).mpr ((tA5 _ _).drew)) ?_;obtain⟨F0,F1,F2⟩:=zh3 (zF HS9 E0.o) (zF HS9 E6.o) (zF HS9 AR.o);iterate 11 (refine zr3 ?_)
 obtain⟨Wd,hWd,BD⟩:=zdr W0;rw[←hWd];clear hWd;refine zw ?_;go_simp;refine(qkq t0 st (nq:Int) Wd).mono ?_;rintro e w1 ⟨rfl,rfl⟩;refine⟨(HS9.o _).mpr BD.o,zput ?_⟩;iterate 1 (refine zrb ?_)
 refine qbf ?_;clear HS9 F0 F1 F2;obtain⟨Z1,AW⟩:=zh2 (Z0.below BD.o Z0.lt) (AV.call BD.o);obtain⟨mb,hmb⟩:=xeq (mayB t0 st (nq:Int));rw[hmb];cases mb with
 |false=>
  have hdo:qmq c s R t=(s,rWhy 24):=by
   unfold qmq;rw[if_pos (.inr (by rw[AD.o,A8.o,A7.o,hmb];rfl))]
  have A4:=zh1 hdo;clear hdo hmb;go_wp2_with fail
  exact qr6 A4 HK (A3.o) (qqe 24 Wd) (Z1.o) (AW.o)
 |true=>
  have hst:st=1∨st=2∨st=3∨st=4:=by
   unfold mayB at hmb;split at hmb
   · simp at hmb;omega
   split at hmb
   · simp at hmb;omega
   split at hmb
   · simp at hmb;omega
   cases hmb
  have H1:=H.call (B0.trans (BD.mono B0.size));have e0:=qai E0.o BD.o;have f0:=H1.st.tres.frozen (n*75);have k38:=qai AR.o BD.o;have M2:=H1.state1 HK.o HS.o HT.o st;have T2:Turns (· ==k+1) Wd col (Wd.setCell ⟨L.rg,n*75,none⟩ (.int .i64 st)) col:=Turns.setCell _ (by simp[H1.st.tres.1]);obtain⟨A5,AG,AH⟩:=zh3 M2 T2 hmb;clear hmb M2 T2 H1;go_upto_region 6 with(fail)
  obtain⟨W2,hW2⟩:=eqx (Wd.setCell ⟨L.rg,n*75,none⟩ (.int .i64 st));rw[←hW2]at A5 AG ⊢;clear hW2 e0 f0;have cW:col w.heap.size=0:=by
   by_cases e:col w.heap.size=0
   · exact e
   have:=H.fin _ e;omega
  have sok2:(s.setT n fun t=>{t with state:=st}).Ok:=HS.setT (fun y hy o=>by
   rw[HT.o]at hy;injection hy with hy;subst hy;exact {o with state:=by show 0≤st∧st≤4;omega,live:=fun _=>o.live (by intro e;rw[AD.o]at e;subst e;have h:=AH.o;unfold mayB at h;simp at h)}) (fun e=>absurd e AC.o)
  have ht2:(s.setT n fun t=>{t with state:=st}).tres[n]? =some {t with state:=st}:=qo6 _ HT.o;have x38:W2.cell? ⟨w.heap.size,38,none⟩=some (.int .i64 st):=qo8 k38 AG.o (by rw[cW];simp);have z2:Blk W2 (w.heap.size+1) 57 Tryz.zeroCells57:=(AG.block _ Z1.lt (by rw[A3.o];simp)).trans Z1.o;have dd2:Did w col W2 col k g c css s (s.setT n fun t=>{t with state:=st}):=Did.turned H.o (B0.trans (BD.mono B0.size)) AG.o (by unfold inP;simp) (by have:=HK.o;rcases this with rfl|rfl<;>omega) A5.o;have hto:=HS.tre HT.o;obtain⟨A6,A2,AM,Z2,AI,AJ,AK⟩:=zh7 sok2 ht2 x38 z2 dd2 hto cW;clear sok2 ht2 x38 z2 dd2 hto cW k38;have k38:=AM.o;have plain:∀m:Nat,st=m→m≠4→m≠2→qmq c s R t=(s.setT n (fun t=>{t with state:=st}),qml m):=by
   intro m hm h4 h2;unfold qmq;rw[if_neg (by rw[AD.o,A8.o,A7.o,AH.o,AA.o];simp;exact AC.o),A8.o,AA.o,tBe];simp only[show ¬st=4 by omega,show ¬st=2 by omega,if_false,or_self];rw[show st.toNat=m by omega]
  rcases hst with rfl|rfl|rfl|rfl
  · have A4:=zh1 (plain 1 rfl zdc zdc)
    clear plain;go_wp2_with fail
    exact qr6 A4 HK (A3.o) (qqd 1 W2 zo) (Z2.o) (AI.o)
  ·
   clear plain;have hdo:qmq c s R t=((s.setT n (fun t=>{t with state:=2})).setT n (fun t=>{t with deficit:=0}),qml 2):=by
    unfold qmq;rw[if_neg (by rw[AD.o,A8.o,A7.o,AH.o,AA.o];simp;exact AC.o),A8.o,AA.o,tBe];simp only[show ¬(2:Int)=4 by decide,if_false,false_or,if_true];unfold Sta.setT;rw[qsw];rfl
   have A4:=zh1 hdo;clear hdo;obtain⟨-,Ad2,cd2,Al2,cl2,Aq2,cq2,hcs2,hcell2,-,-,-⟩:=A5.st.tree A6.o A2.o;have e3:=hcell2 3 (.int .i64 t.deficit) rfl;have f3:=A5.st.tres.frozen (n*75+3);have M3:=A5.deficit1 HK.o A6.o A2.o 0;have T3:Turns (· ==k+1) W2 col (W2.setCell ⟨L.rg,n*75+3,none⟩ (.int .i64 0)) col:=Turns.setCell _ (by simp[A5.st.tres.1]);have z3:Blk (W2.setCell ⟨L.rg,n*75+3,none⟩ (.int .i64 0)) (w.heap.size+1) 57 Tryz.zeroCells57:=(T3.block _ Z2.lt (by rw[A3.o];simp)).trans Z2.o;have x3:=qo8 AM.o T3 (by rw[AK.o];simp);have D3:=AI.step (T3.mono (q:=inP k) fun i hi=>(show i=k+1 by simpa using hi)▸(by unfold inP;simp)) (fun i hi=>T3.keeps (by have:=HK.o;rcases this with rfl|rfl<;>simp<;>omega)) ⟨_,_,M3⟩;obtain⟨Z3,X3,AS⟩:=zh3 z3 x3 D3;clear M3 T3 z3 x3 D3 hcell2 hcs2;go_upto_region 17 with(fail)
   clear e3 f3 k38;obtain⟨W9,hW9⟩:=eqx (W2.setCell ⟨L.rg,n*75+3,none⟩ (.int .i64 0));rw[←hW9]at Z3 X3 AS ⊢;clear hW9;have k38:=X3.o;go_wp2_with fail
   exact qr6 A4 HK (A3.o) (qqd 2 W9 zo) (Z3.o) (AS.o)
  · have A4:=zh1 (plain 3 rfl zdc zdc)
    clear plain;go_wp2_with fail
    exact qr6 A4 HK (A3.o) (qqd 3 W2 zo) (Z2.o) (AI.o)
  clear plain;obtain⟨tn,htn⟩:∃m:Nat,t.tenant=m:=⟨t.tenant.toNat,by have:=AJ.tenant;omega⟩;have tn16:tn<16:=by have:=AJ.tenant;omega
  obtain⟨x,hx⟩:∃x,s.tens[tn]? =some x:=⟨_,tA7 (by rw[HS.tensn];exact tn16)⟩;have hxo:=HS.ten hx;have hdo:qmq c s R t=(((((s.setT n (fun t=>{t with state:=4})).setX tn fun x=>{x with used:=x.used - qmf t.queue}).setT n fun t=>{t with queue:=[]}).setT n fun t=>{t with deficit:=0}),qml 4):=by
   unfold qmq;rw[if_neg (by rw[AD.o,A8.o,A7.o,AH.o,AA.o];simp;exact AC.o),A8.o,AA.o,htn,tBe,tBe];simp only[if_true,true_or];unfold Sta.setT Sta.setX;simp only;rw[qsw,qsw];rfl
  obtain⟨A4,HX,AX,B8⟩:=zh4 hdo hx hxo htn;clear hdo hx hxo;obtain⟨-,Ad2,cd2,Al2,cl2,Aq2,cq2,hcs2,hcell2,-,-,-⟩:=A5.st.tree A6.o A2.o;have e1:=hcell2 1 (.int .i64 t.tenant) rfl;have e6:=hcell2 6 (.slice Aq2 t.queue.length cq2) rfl;rw[htn]at e1;rw[A7.o]at e6;have c7:=A5.c7;obtain⟨AE,E1,E6,C7⟩:=zh4 hcs2 e1 e6 c7;clear hcs2 hcell2 e1 e6 c7 htn;obtain⟨css2,hc2⟩:=xeq (css.modify n fun cs=>over cs 0 [.int .i64 4]);rw[hc2]at A5 AE;clear hc2;have qt0:(0:Int)≤tn:=zo;have qt1:(tn:Int)<16:=zo;go_upto_region 9 with(fail)
  obtain⟨S,HS9⟩:=zS fun w'=>Below W2.heap.size W2 w'
  refine zrs S 11 (zq 0 11 []) ((HS9.o _).mpr ((tA5 _ _).drew)) ?_;obtain⟨F0,F1⟩:=zh2 (zF HS9 C7.o) (zF HS9 E1.o);iterate 11 (refine zr2 ?_)
  refine qbf ?_;clear HS9 F0 F1;obtain⟨W3,hW3,AN⟩:=zdr W2;rw[←hW3];clear hW3;have e6:=qai E6.o AN.o;have AO:=zh1 (show nq≤64 by have:=AJ.queue;rw[A7.o]at this;exact this);clear k38;go_wp2_with fail
  clear e6;go_loopw [54] (fun i wr=>∃j:Nat,j≤nq∧i=.int .i64 j∧Hid (Mdl wr col k g c ((s.setT n fun t=>{t with state:=4}).setX tn fun x=>{x with used:=x.used - qmf (t.queue.take j)}) L css2∧Turns (· ==k) W3 col wr col)) (fun i _=>nq - (intOf i).toNat)
  case atStart=>
   refine⟨0,by omega,rfl,?_⟩;have e0:((s.setT n fun t=>{t with state:=4}).setX tn fun x=>{x with used:=x.used - qmf (t.queue.take 0)})=s.setT n fun t=>{t with state:=4}:=by
    unfold Sta.setX;rw[qtt (fun x=>by simp[qmf])]
   show Mdl _ _ _ _ _ _ _ _∧_;rw[e0];exact⟨A5.call AN.o,Turns.refl _ _ _⟩
  case round=>
   obtain⟨j,hj,rfl,hl⟩:=hrel;have hx':((s.setT n fun t=>{t with state:=4}).setX tn fun x=>{x with used:=x.used - qmf (t.queue.take j)}).tens[tn]? =some {x with used:=x.used - qmf (t.queue.take j)}:=qo6 _ HX.o;have sokj:((s.setT n fun t=>{t with state:=4}).setX tn fun x=>{x with used:=x.used - qmf (t.queue.take j)}).Ok:=A6.setX fun y _ o=>{o with used:=by have:=o.used;show y.used - _<_;omega}
   obtain⟨-,-,r3⟩:=hl.o.1.rows (t:={t with state:=4}) A2.o AE.o;obtain⟨A1,k1,e1,a1,a2,a3⟩:=r3.reads;injection e1 with e11 e12 e13;subst e11 e13;dsimp only at a1 a3;rw[A7.o]at a1 a3;obtain⟨AP,A0,AY⟩:=zh3 hx' sokj a3;have qj0:(0:Int)≤j:=zo;clear hx' sokj a3 r3 e12;by_cases hjn:j<nq
   ·
    have qj:(j:Int)<nq:=zo;obtain⟨g0,o0,bs,A',n',c',rfl,-,hi,hc,-,-,h5⟩:=AY.at_ hjn;have hst:=qqn hi;have hbl:=(AJ.queueb bs (tB2 hi)).1;rw[qb4 h5]at hst hbl;have hub:=AX.used;obtain⟨u,hu⟩:=xeq (x.used - qmf (t.queue.take j));have hu1:x.used - qmf (t.queue.take (j+1))=u - (n'+16):=zo;have ub:u<4294967296:=zo;have c5:wr.cell? ⟨L.tg,tn*6+5,none⟩=some (.int .u32 (u:Int)):=hl.o.1.st.tens.cell ((qnl AP.o zo).trans (by rw[hu];rfl));obtain⟨C5,AZ,HU⟩:=zh3 c5 hu1 hu;have p1:IntKind.u32.wrap (n':Int)=(n':Int):=tBf _ zo;have p2:IntKind.u32.wrap ((n':Int)+16)=(n':Int)+16:=tBf _ zo;clear hst h5 hub hu1 c5 hi hu;have B9:=zh1 hc;go_upto_region 13 with(fail)
    clear hc;obtain⟨S,HS9⟩:=zS fun w'=>Below wr.heap.size wr w'
    refine zrs S 16 (zq 0 16 [(16,true)]) ((HS9.o _).mpr ((tA5 _ _).drew)) ?_;have F0:=zh1 (zF HS9 C5.o);obtain⟨v,hv,hvu⟩:∃v:Nat,v=u - (n'+16)∧v≤u:=⟨_,rfl,by omega⟩;have M4:=fun(w':World)(hb:Below wr.heap.size wr w')=>(hl.o.1.call hb).tenOver HK.o A0.o AP.o (j:=5) (cs:=[.int .u32 (v:Int)]) (fun x=>{x with used:=v}) zm (by simp[over,tenv])
    have e4:(((s.setT n fun t=>{t with state:=4}).setX tn fun x=>{x with used:=x.used - qmf (t.queue.take j)}).setX tn fun x=>{x with used:=v})=(s.setT n fun t=>{t with state:=4}).setX tn fun x=>{x with used:=x.used - qmf (t.queue.take (j+1))}:=by
     unfold Sta.setX;dsimp only;rw[qsw];rw[qr7 (f:=fun y:Ten=>{y with used:=v}) (g:=fun x=>{x with used:=x.used - qmf (t.queue.take (j+1))}) fun y hy=>by
      have h0:s.tens[tn]? =some y:=hy;rw[HX.o]at h0;injection h0 with h0;subst h0;rw[AZ.o,hv]]
    rw[e4]at M4;obtain⟨A9,FZ,TG,B1⟩:=zh4 M4 (fun(w':World)(hb:Below wr.heap.size wr w')=>(hl.o.1.call hb).st.tens.frozen (tn*6+5)) (show col L.tg=k from hl.o.1.st.tens.1) hl.o.2;clear M4 e4 hl;have wv:(u:Int) - min (u:Int) ((n':Int)+16)=(v:Int):=zo;have wv2:IntKind.u32.wrap ((u:Int) - min (u:Int) ((n':Int)+16))=(v:Int):=by rw[tBf _ zo];omega
    have HV:=zh1 hv;clear hv hvu;iterate 16 (refine zr1 ?_)
    obtain⟨W4,hW4,B4⟩:=zdr wr;rw[←hW4];clear hW4;have c5:=qai C5.o B4.o;have f5:=FZ.o W4 B4.o;have M5:=A9.o W4 B4.o;rw[show W4.setCells L.tg (tn*6+5) [.int .u32 (v:Int)]=W4.setCell ⟨L.tg,tn*6+5,none⟩ (.int .u32 (v:Int)) from rfl]at M5;have T5:Turns (· ==k) W3 col (W4.setCell ⟨L.tg,tn*6+5,none⟩ (.int .u32 (v:Int))) col:=(B1.trans (Turns.of_below _ B4.o)).trans (Turns.setCell _ (by simp[TG.o]));obtain⟨B2,B3⟩:=zh2 M5 T5;clear M5 T5;refine zw ?_;go_simp;refine qbf ?_;clear HS9 F0 c5 f5;have hnb:=AO.o;go_wp2
    go_roundw
    case rel=>exact⟨j+1,by omega,by go_num,zh1 ⟨B2.o,B3.o⟩⟩
    case measure=>simp[intOf];omega
   have qj:¬(j:Int)<nq:=zo;obtain rfl:j=nq:=zo;have htk:t.queue.take j=t.queue:=tB5 (by have:=A7.o;omega);rw[htk]at hl A0 AP;obtain⟨AB,B5⟩:=zh2 hl.o.1 hl.o.2;clear htk hl;obtain⟨s3,hs3⟩:=xeq ((s.setT n fun t=>{t with state:=4}).setX tn fun x=>{x with used:=x.used - qmf t.queue});rw[hs3]at AB A0 A4;have ht3:s3.tres[n]? =some {t with state:=4}:=by rw[←hs3];exact A2.o
   have AF:Turns (· ==k) W2 col wr col:=(Turns.of_below _ AN.o).trans B5.o;have D3:=AI.step (AF.mono (q:=inP k) fun i hi=>(show i=k by simpa using hi)▸(by unfold inP;simp)) (fun i hi=>AF.keeps (by have:=HK.o;rcases this with rfl|rfl<;>simp<;>omega)) ⟨_,_,AB.o⟩;have z3:Blk wr (w.heap.size+1) 57 Tryz.zeroCells57:=(AF.block _ Z2.lt (by rw[A3.o];have:=HK.o;rcases this with rfl|rfl<;>rfl)).trans Z2.o;have x3:=qo8 AM.o AF (by rw[AK.o];have:=HK.o;rcases this with rfl|rfl<;>rfl);obtain⟨-,Ad3,cd3,Al3,cl3,Aq3,cq3,-,hcell3,-,-,-⟩:=AB.st.tree A0.o ht3;have e6:=hcell3 6 (.slice Aq3 t.queue.length cq3) rfl;have f6:=AB.st.tres.frozen (n*75+6);obtain⟨css4,M4,-,-⟩:=AB.queueNil HK.o A0.o ht3;have T4:Turns (· ==k+1) wr col (wr.setCell ⟨L.rg,n*75+6,none⟩ (.slice none 0 0)) col:=Turns.setCell _ (by simp[AB.st.tres.1]);have D4:=D3.step (T4.mono (q:=inP k) fun i hi=>(show i=k+1 by simpa using hi)▸(by unfold inP;simp)) (fun i hi=>T4.keeps (by have:=HK.o;rcases this with rfl|rfl<;>simp<;>omega)) ⟨_,_,M4⟩;have z4:Blk (wr.setCell ⟨L.rg,n*75+6,none⟩ (.slice none 0 0)) (w.heap.size+1) 57 Tryz.zeroCells57:=(T4.block _ z3.lt (by rw[A3.o];simp)).trans z3;have x4:=qo8 x3 T4 (by rw[AK.o];simp);obtain⟨A9,AT,Z4,X4,B6,BA⟩:=zh6 M4 D4 z4 x4 ht3 hs3;clear M4 D4 z4 x4 D3 z3 x3 AF T4 hcell3 ht3 hs3;go_upto_region 16 with(fail)
   obtain⟨W6,hW6⟩:=eqx (wr.setCell ⟨L.rg,n*75+6,none⟩ (.slice none 0 0));rw[←hW6]at A9 AT Z4 X4 ⊢;clear hW6 e6 f6;have sok4:(s3.setT n fun t=>{t with queue:=[]}).Ok:=A0.setT (fun y hy o=>{o with leaves:=by have:=o.leaves;dsimp only;simp;omega,queue:=by simp,queueb:=fun b hb=>(nomatch hb)}) (fun e=>absurd e AC.o);have ht4:(s3.setT n fun t=>{t with queue:=[]}).tres[n]? =some {({t with state:=4}:Tre) with queue:=[]}:=qo6 _ B6.o;obtain⟨-,Ad4,cd4,Al4,cl4,Aq4,cq4,-,hcell4,-,-,-⟩:=A9.st.tree sok4 ht4;have e3:=hcell4 3 (.int .i64 t.deficit) rfl;have f3:=A9.st.tres.frozen (n*75+3);have M5:=A9.deficit1 HK.o sok4 ht4 0;have T5:Turns (· ==k+1) W6 col (W6.setCell ⟨L.rg,n*75+3,none⟩ (.int .i64 0)) col:=Turns.setCell _ (by simp[A9.st.tres.1]);have D5:=AT.step (T5.mono (q:=inP k) fun i hi=>(show i=k+1 by simpa using hi)▸(by unfold inP;simp)) (fun i hi=>T5.keeps (by have:=HK.o;rcases this with rfl|rfl<;>simp<;>omega)) ⟨_,_,M5⟩;have z5:Blk (W6.setCell ⟨L.rg,n*75+3,none⟩ (.int .i64 0)) (w.heap.size+1) 57 Tryz.zeroCells57:=(T5.block _ Z4.lt (by rw[A3.o];simp)).trans Z4.o;have x5:=qo8 X4.o T5 (by rw[AK.o];simp);obtain⟨AU,Z5,X5⟩:=zh3 D5 z5 x5;clear M5 D5 z5 x5 T5 sok4 ht4 hcell4;go_upto_region 17 with(fail)
   clear e3 f3;obtain⟨W9,hW9⟩:=eqx (W6.setCell ⟨L.rg,n*75+3,none⟩ (.int .i64 0));rw[←hW9]at AU Z5 X5 ⊢;clear hW9;have k38:=X5.o;go_wp2_with fail
   exact qr6 A4 HK (A3.o) (qqd 4 W9 zo) (Z5.o) (AU.o)
def qtv (c:Cfg)(s:Sta)(R:Req):Bool:=
 match s.gras[R.tid]? with
 |none=>false
 |some g=>qk9 (qmd c.seed) (R.tid,R.cavs,R.tag)&&(!g.revoked&&(decide (s.clock<g.expires)&&qkh R.op (if qdi R.op then R.tree else 0) s.clock R.cavs))
theorem qtw:Tryz.prog.built 66 []=some (grav ⟨0,0,0,false⟩).toArray:=by kernel_rfl
theorem qtx {c:Cfg}{s:Sta}{R:Req}{y:Gra}(hy:s.gras[R.tid]? =some y)(h:y.revoked=true):qtv c s R=false:=by
 unfold qtv;rw[hy];simp[h]
theorem qty {c:Cfg}{s:Sta}{R:Req}{y:Gra}(hy:s.gras[R.tid]? =some y)(h:¬s.clock<y.expires):qtv c s R=false:=by
 unfold qtv;rw[hy];simp[h]
theorem qtz {c:Cfg}{s:Sta}{R:Req}{y:Gra}{tr:Int}{clk:Nat}(hc:s.clock=clk)(hy:s.gras[R.tid]? =some y)(hg:qk9 (qmd c.seed) (R.tid,R.cavs,R.tag)=true)(h:y.revoked=false)(he:s.clock<y.expires)(ht:(if qdi R.op then R.tree else 0)=tr):qtv c s R=qkh R.op tr clk R.cavs:=by
 subst hc;unfold qtv;rw[hy,ht];simp[h,hg,he]
theorem qu0 {c:Cfg}{s:Sta}{R:Req}(hg:qk9 (qmd c.seed) (R.tid,R.cavs,R.tag)=false):qtv c s R=false:=by
 unfold qtv;cases s.gras[R.tid]? with
 |none=>rfl
 |some y=>simp[hg]
theorem qu1 (c:Cfg)(s:Sta)(L:Loc)(col:Col)(k g:Nat)(css:List (List Value))(R:Req)(Ac:Option Addr)(cc:Nat)(Al:Option Addr)(cl:Nat)(w:World)(hk:Kind k)(hc:c.Ok)(hs:s.Ok)(h:Mdl w col k g c s L css)
 (hr:Asked w col R Ac cc Al cl)(hT:Tabs w)(h4:R.cavs.length≤4):
 Zc 125 #[.pointer (some ⟨g,0,none⟩),.agg (reqv R (.slice Ac R.cavs.length cc) (.slice Al R.leaf.length cl)).toArray] w fun e w'=>∃y:Gra,e=.returned (.tuple #[.agg #[.int .i64 y.tenant,.int .i64 y.role,.int .u64 (y.expires:Int),.bool y.revoked],.bool (qtv c s R)])∧(qtv c s R=true→s.gras[R.tid]? =some y)∧Below w.heap.size w w':=by
 have rlen:=qiu R (.slice Ac R.cavs.length cc) (.slice Al R.leaf.length cl) hr.good.tag;have rest:=qdh R (.slice Ac R.cavs.length cc) (.slice Al R.leaf.length cl) hr.good.tag;have rtok:=qiv R (.slice Ac R.cavs.length cc) (.slice Al R.leaf.length cl);obtain⟨Q,hQ⟩:=xeq (reqv R (.slice Ac R.cavs.length cc) (.slice Al R.leaf.length cl));rw[hQ]at rlen rest rtok ⊢;obtain⟨W0,hW0⟩:=eqx ((w.alloc (.cells Q.toArray 34)).alloc (.cells #[.int .i64 0,.int .i64 0,.int .u64 0,.bool false] 66));have q0:Blk W0 w.heap.size 34 Q.toArray:=by rw[hW0];exact(Blk.new w _ _).alloc _
 have z0:Blk W0 (w.heap.size+1) 66 #[.int .i64 0,.int .i64 0,.int .u64 0,.bool false]:=by
  have h:=Blk.new (w.alloc (.cells Q.toArray 34)) 66 #[.int .i64 0,.int .i64 0,.int .u64 0,.bool false];rw[qar]at h;rw[hW0];exact h
 have b0:Below w.heap.size w W0:=by rw[hW0];exact qah (qah (tA5 _ _) _) _
 obtain⟨ti,hti⟩:=xeq R.tid;have tb:ti<4294967296:=by rw[←hti];exact hr.good.tid
 obtain⟨ng,hng⟩:=xeq s.gras.length;have gb:ng≤64:=by rw[←hng];exact hs.grasn
 have c9:=h.c9;rw[hng]at c9;have k1:W0.cell? ⟨w.heap.size,1,none⟩=some (.int .u32 (ti:Int)):=(q0.cell 1).trans (by rw[tA3,←hti];exact rtok 0 _ rfl);have k35:W0.cell? ⟨w.heap.size,35,none⟩=some (.int .i64 R.tree):=(q0.cell 35).trans (by rw[tA3];exact rest 0);have kop:Q.toArray[0]? =some (.int .i64 R.op):=by rw[tA3,←hQ];rfl
 have htk:Tok.Ok (R.tid,R.cavs,R.tag):=⟨hr.good.tid,hr.good.cavn,hr.good.tag,hr.good.tagb⟩;obtain⟨H,AQ,Q0,Z0,B0,HK,HC,HS⟩:=zh8 h hW0 q0 z0 b0 hk hc hs;obtain⟨HR,RL,HQ,TT,AD,K1,AR,AE⟩:=zh8 hr rlen hQ hT h4 k1 k35 kop;obtain⟨C9,AJ,AK,AF,AG,CI⟩:=zh6 (qai c9 b0) hti hng htk (show (Tryz.prog.info? 31).map (·.size)=some (tokv R.tid (.slice Ac R.cavs.length cc) R.tag).length by rw[qdc _ _ _ hr.good.tag];kernel_rfl) (show (Tryz.prog.info? 25).map (·.size)=some 4 by kernel_rfl);clear h hW0 q0 z0 b0 hk hc hs hr rlen rest rtok hQ hT h4 k1 k35 kop hti hng htk c9;have u1:IntKind.u64.wrap (ti:Int)=(ti:Int):=tBa _ zo;have u2:IntKind.u64.wrap (ng:Int)=(ng:Int):=tBa _ zo;go_enter Tryz.func125,Tryz.ntmps125
 go_upto_region 1 with(fail)
 rw[←AQ.o];obtain⟨gn,hgn⟩:=xeq (qk9 (qmd c.seed) (R.tid,R.cavs,R.tag));have AH:=zh1 hgn;clear hgn;obtain⟨S,HS9⟩:=zS fun w'=>Below W0.heap.size W0 w'
 refine zrs S 23 (zq 0 17 [(18,false),(19,false),(17,true),(20,true),(21,false),(22,false)]) ((HS9.o _).mpr ((tA5 _ _).drew)) ?_;obtain⟨F0,F1,FC,FT⟩:=zh4 (zF HS9 K1.o) (zF HS9 C9.o) (fun(w':World)(h:S w')=>((H.call B0.o).call ((HS9.o w').mp h)).cfgRange) (fun(w':World)(h:S w')=>qap (l:=Q) (Q0.below ((HS9.o w').mp h) Q0.lt) 1 (tokv R.tid (.slice Ac R.cavs.length cc) R.tag) (fun j u hu=>by rw[←HQ.o];exact qiv R _ _ j u hu));by_cases hge:ng≤ti
 ·
  have p1:(ng:Int)≤ti:=zo;have hno:qtv c s R=false:=by
   unfold qtv;rw[AJ.o,List.getElem?_eq_none (by rw[AK.o];exact hge)]
  have A7:=zh1 hno;clear hno hge;iterate 19 (first|refine zsk ?_|refine zr2 ?_)
  refine qr1 rfl rfl ⟨(HS9.o _).mpr (tA5 _ _).drew,?_⟩;try simp only[Act.put,tA0,tA1,tA2]
  refine qr1 rfl rfl ⟨(HS9.o _).mpr (tA5 _ _).drew,?_⟩;try simp only[Act.put,tA0,tA1,tA2]
  iterate 2 (first|refine zsk ?_|refine zrb ?_)
  refine qbf ?_;clear HS9 F0 F1 FC FT u1 u2;obtain⟨W1,hW1,B1⟩:=zdr W0;rw[←hW1];clear hW1;obtain⟨X,hX⟩:=xeq (grav ⟨0,0,0,false⟩);have lX:X.length=4:=by rw[←hX];rfl
  have oX:∀u∈X,u.oneCell'=true:=by
   rw[←hX];intro u hu;unfold grav at hu;simp only[List.mem_cons,List.not_mem_nil,or_false]at hu;rcases hu with rfl|rfl|rfl|rfl<;>rfl
  obtain⟨BT,A3,LX,OX⟩:=zh4 (show Tryz.prog.built 66 []=some X.toArray by rw[←hX];exact qtw) hX lX oX;obtain⟨A1,Z1,BB⟩:=zh3 (zI 66 LX.o) (Z0.below B1.o Z0.lt) (below_setRow (B0.trans (B1.mono B0.size)) (by omega:w.heap.size≤w.heap.size+1) X.toArray);clear hX lX oX;go_wp2_with (first
   |(refine qbj rfl ⟨.agg X.toArray,qgn 66 _ rfl _ _ BT.o (by simp[Act.eval]),?_⟩)
   |(refine zst Z1.o A1.o (by simp[LX.o]) OX.o ?_))
  have A2:=qap (Z1.setRow X.toArray) 0 X (fun j u h=>by simpa using h);refine bodyPost_ret (qgr rfl rfl (run_loadVar_mid _ _ 0 _ X _ A2 Tryz.underlying66 rfl A1.o)) rfl ⟨⟨0,0,0,false⟩,?_,fun h=>(by rw[A7.o]at h;cases h),BB.o⟩;rw[A7.o,←A3.o];rfl
 have p1:¬(ng:Int)≤ti:=zo;have plt:ti<ng:=zo;have plt2:(ti:Int)<ng:=zo;have q0:(0:Int)≤ti:=zo;obtain⟨y,hy⟩:∃y,s.gras[ti]? =some y:=⟨_,tA7 (by rw[AK.o];exact plt)⟩;have HY:=zh1 (show s.gras[R.tid]? =some y by rw[AJ.o];exact hy);clear hge;iterate 16 (refine zr2 ?_)
 refine qo9 rfl rfl 25 (.tmp 23) rfl g 0 rfl _ _ FC.o Tryz.underlying25 rfl CI.o ?_;try simp only[Act.put,tA0,tA1,tA2]
 iterate 1 (refine zrb ?_)
 refine qo9 rfl rfl 31 (.tmp 26) rfl w.heap.size 1 rfl (tokv R.tid (.slice Ac R.cavs.length cc) R.tag) _ FT.o Tryz.underlying31 rfl AG.o ?_;try simp only[Act.put,tA0,tA1,tA2]
 obtain⟨Wd,hWd,BD⟩:=zdr W0;rw[←hWd];clear hWd;have AL:=zh1 (B0.trans (BD.mono B0.size));refine zw ?_;go_simp;refine(qon c (.slice L.sa L.sn L.sc) L.sa L.sn L.sc Wd (H.call AL.o).seedR HC.seedb (by have:=HC.seed;have:=(H.seedR).1;simp[byv]at this;omega) (TT.below AL.o TT.size)).mono ?_;rintro e w1 ⟨rfl,b1⟩;have B1:=zh1 (BD.trans (b1.mono BD.size));clear b1;have AM:=zh1 (B0.trans (B1.mono B0.size));refine⟨(HS9.o _).mpr B1.o,zput ?_⟩;refine zw ?_;go_simp;refine(qkf (qmd c.seed) (R.tid,R.cavs,R.tag) Ac R.cavs.length cc w1 (qjv _ _) (qjw _ _) (HR.cavs.call AM.o) HR.cavc (by have:=AD.o;omega) AF.o (TT.below AM.o TT.size)).mono ?_;rintro e w2 ⟨rfl,b2⟩;rw[AH.o];have B2:=zh1 (B1.trans (b2.mono B1.size));clear b2;refine⟨(HS9.o _).mpr B2.o,zput ?_⟩;iterate 2 (refine zrb ?_)
 refine qbf ?_;clear HS9 F0 F1 FC FT u1 u2;cases gn with
 |false=>
  have A7:=zh1 (qu0 (c:=c) (s:=s) AH.o);obtain⟨W1,hW1⟩:=eqx w2;rw[←hW1];have B1:=zh1 (show Below W0.heap.size W0 W1 by rw[hW1];exact B2.o);clear hW1;obtain⟨X,hX⟩:=xeq (grav ⟨0,0,0,false⟩);have lX:X.length=4:=by rw[←hX];rfl
  have oX:∀u∈X,u.oneCell'=true:=by
   rw[←hX];intro u hu;unfold grav at hu;simp only[List.mem_cons,List.not_mem_nil,or_false]at hu;rcases hu with rfl|rfl|rfl|rfl<;>rfl
  obtain⟨BT,A3,LX,OX⟩:=zh4 (show Tryz.prog.built 66 []=some X.toArray by rw[←hX];exact qtw) hX lX oX;obtain⟨A1,Z1,BB⟩:=zh3 (zI 66 LX.o) (Z0.below B1.o Z0.lt) (below_setRow (B0.trans (B1.mono B0.size)) (by omega:w.heap.size≤w.heap.size+1) X.toArray);clear hX lX oX;go_wp2_with (first
   |(refine qbj rfl ⟨.agg X.toArray,qgn 66 _ rfl _ _ BT.o (by simp[Act.eval]),?_⟩)
   |(refine zst Z1.o A1.o (by simp[LX.o]) OX.o ?_))
  have A2:=qap (Z1.setRow X.toArray) 0 X (fun j u h=>by simpa using h);refine bodyPost_ret (qgr rfl rfl (run_loadVar_mid _ _ 0 _ X _ A2 Tryz.underlying66 rfl A1.o)) rfl ⟨⟨0,0,0,false⟩,?_,fun h=>(by rw[A7.o]at h;cases h),BB.o⟩;rw[A7.o,←A3.o];rfl
 |true=>
  obtain⟨W1,hW1⟩:=eqx w2;rw[←hW1];have BW:=zh1 (show Below W0.heap.size W0 W1 by rw[hW1];exact B2.o);clear hW1;have AN:=zh1 (B0.trans (BW.mono B0.size));obtain⟨rv,hrv⟩:=xeq y.revoked;obtain⟨ex,hex⟩:=xeq y.expires;obtain⟨clk,hclk⟩:=xeq s.clock;have exb:ex<18446744073709551616:=by rw[←hex];exact(HS.gra hy).expires
  have clb:clk<18446744073709551616:=by rw[←hclk];exact HS.clock
  obtain⟨X,hX⟩:=xeq (grav y);have lX:X.length=4:=by rw[←hX];rfl
  have oX:∀u∈X,u.oneCell'=true:=by
   rw[←hX];intro u hu;unfold grav at hu;simp only[List.mem_cons,List.not_mem_nil,or_false]at hu;rcases hu with rfl|rfl|rfl|rfl<;>rfl
  obtain⟨X2,X3,A3,LX,OX,AA,AB,A0⟩:=zh8 (show X.toArray[2]? =some (.int .u64 (ex:Int)) by rw[←hX,←hex];rfl) (show X.toArray[3]? =some (.bool rv) by rw[←hX,←hrv];rfl) hX lX oX hrv hex hclk;have AO:=AH;have AS:=zh1 (fun(w':World)(hb:Below w.heap.size w w')=>(show w'.rangeAt L.gg (ti*4) X from fun j u hu=>by
   obtain⟨hj,_⟩:=tA8 hu;refine(H.call hb).st.gras.cell ?_;rw[qnm hy zo,A3.o];exact hu))
  have A8:=zh1 (zI 66 LX.o);clear hX lX oX hrv hex hclk;go_upto_region 3 with(fail)
  obtain⟨S,HS9⟩:=zS fun w'=>Below W1.heap.size W1 w'
  refine zrs S 11 (zq 0 10 [(10,true),(11,true)]) ((HS9.o _).mpr ((tA5 _ _).drew)) ?_;obtain⟨F0,F1,FG⟩:=zh3 (zF HS9 (qai K1.o BW.o)) (zF HS9 (qai C9.o BW.o)) (fun(w':World)(h:S w')=>AS.o w' (AN.trans (((HS9.o w').mp h).mono AN.size)));iterate 9 (refine zr2 ?_)
  refine qo9 rfl rfl 66 (.tmp 40) rfl L.gg (ti*4) rfl X _ FG.o Tryz.underlying66 rfl A8.o ?_;try simp only[Act.put,tA0,tA1,tA2]
  obtain⟨We,hWe,BE⟩:=zdr W1;rw[←hWe];clear hWe;refine zw ?_;go_simp;obtain⟨W2,hW2⟩:=eqx (We.alloc (.cells #[.int .i64 0,.int .i64 0,.int .u64 0,.bool false] 66));rw[←hW2];obtain⟨G,hG⟩:=eqx We.heap.size;have g2:Blk W2 G 66 #[.int .i64 0,.int .i64 0,.int .u64 0,.bool false]:=by rw[hW2,hG];exact Blk.new _ _ _
  have b2':Below W1.heap.size W1 W2:=by rw[hW2];exact BE.alloc BE.size _
  have gs:W1.heap.size≤G:=by rw[hG];exact BE.size
  rw[←hG];obtain⟨G2,AP,GS⟩:=zh3 g2 b2' gs;clear hW2 hG g2 b2' gs;refine⟨(HS9.o _).mpr AP.o,zput ?_⟩;refine zw ?_;refine wp_store_row 66 (.tmp 6) (.tmp 41) rfl G X.toArray rfl rfl 66 _ G2.o (by simpa using A8.o) (by simp[LX.o]) (by simpa using OX.o) ?_;obtain⟨W3,hW3⟩:=eqx (W2.setRow G X.toArray);rw[←hW3];have g3:Blk W3 G 66 X.toArray:=by rw[hW3];exact G2.setRow _
  have b3:Below W1.heap.size W1 W3:=by rw[hW3];exact below_setRow AP.o GS.o _
  obtain⟨G3,AT⟩:=zh2 g3 b3;clear hW3 g3 b3;refine⟨fun h=>absurd h zdc,zput ?_⟩;refine qbf ?_;clear HS9 F0 F1 FG;obtain⟨A6,AC⟩:=zh2 (show G≠w.heap.size+1 by have:=GS.o;have:=BW.size;have:=Z0.lt;omega) (BW.trans (AT.mono BW.size));obtain⟨B3,Q3,Z3⟩:=zh3 (B0.trans (AC.mono B0.size)) (Q0.below AC.o Q0.lt) (Z0.below AC.o Z0.lt);have kop:=(Q3.cell 0).trans AE.o;have k35:=qai AR.o AC.o;clear p1 plt plt2 q0 hy;go_wp2_with fail
  refine zca (qdk R.op W3) ?_;cases htb:qdi R.op with
  |true=>
   have A5:=zh1 (show (if qdi R.op then R.tree else 0)=R.tree by rw[htb];rfl);clear htb;clear kop;go_upto_region 7 with(fail)
   obtain⟨S,HS9⟩:=zS fun w'=>Below w.heap.size w w'∧Blk w' w.heap.size 34 Q.toArray∧Blk w' G 66 X.toArray
   refine zrs S 29 (zq 0 25 [(25,true),(26,false),(27,true),(28,false)]) ((HS9.o _).mpr ⟨B3.drew,Q3.o,G3.o⟩) ?_;obtain⟨FX,AI,F0,F1,F2,F3,A1⟩:=zh7 (fun(w':World)(h:S w')=>qap ((HS9.o w').mp h).2.2 0 X (fun j u h=>by simpa using h)) (fun(w':World)(h:S w')=>qap (l:=Q) ((HS9.o w').mp h).2.1 1 (tokv R.tid (.slice Ac R.cavs.length cc) R.tag) (fun j u hu=>by rw[←HQ.o];exact qiv R _ _ j u hu)) (fun(w':World)(h:S w')=>(((HS9.o w').mp h).2.2.cell 3).trans X3.o) (fun(w':World)(h:S w')=>(((HS9.o w').mp h).2.2.cell 2).trans X2.o) (fun(w':World)(h:S w')=>(H.call ((HS9.o w').mp h).1).c4) (fun(w':World)(h:S w')=>(((HS9.o w').mp h).2.1.cell 0).trans AE.o) (zI 66 LX.o);refine qo9 rfl rfl 66 (.tmp 6) rfl G 0 rfl X _ FX.o Tryz.underlying66 rfl A1.o ?_;try simp only[Act.put,tA0,tA1,tA2]
   obtain⟨W4,hW4,B4⟩:=zdr W3;rw[←hW4];clear hW4;obtain⟨A4,Q4,G4,Z4⟩:=zh4 (B3.trans (B4.mono B3.size)) (Q3.below B4.o Q3.lt) (G3.below B4.o G3.lt) (Z3.below B4.o Z3.lt);cases rv with
   |true=>
    iterate 12 (first|refine zsk ?_|refine zr1 ?_)
    iterate 12 (first|refine zsk ?_|refine zrb ?_)
    refine qr1 rfl rfl ⟨(HS9.o _).mpr ⟨A4.o,Q4.o,G4.o⟩,?_⟩;try simp only[Act.put,tA0,tA1,tA2]
    iterate 1 (refine zrb ?_)
    refine zw ?_;refine wp_store_row 66 (.tmp 4) (.tmp 47) rfl (w.heap.size+1) X.toArray rfl rfl 66 _ (Z4.o) (by simpa using A1.o) (by simp[LX.o]) (by simpa using OX.o) ?_;have zz:=(Z4.o).setRow X.toArray;obtain⟨ZZ,BB⟩:=zh2 zz (below_setRow (A4.o) (by omega:w.heap.size≤w.heap.size+1) X.toArray);have gx:=(G4.o).grown (qam _ (w.heap.size+1) X.toArray) (by intro e;injection e with e;exact A6.o e);have qx:=(Q4.o).grown (qam _ (w.heap.size+1) X.toArray) (by intro e;injection e with e;omega);refine⟨fun _=>(HS9.o _).mpr ⟨BB.o,qx,gx⟩,?_⟩;clear zz gx qx;try simp only[Act.put,tA0,tA1,tA2]
    iterate 1 (refine zrb ?_)
    refine qbf ?_;go_wp2_with fail
    have A2:=qap ZZ.o 0 X (fun j u h=>by simpa using h);refine bodyPost_ret (qgr rfl rfl (run_loadVar_mid _ _ 0 _ X _ A2 Tryz.underlying66 rfl A1.o)) rfl ⟨y,?_,fun _=>HY.o,BB.o⟩;rw[qtx HY.o AA.o,←A3.o];rfl
   |false=>
    by_cases hex:clk<ex
    ·
     have qx:(clk:Int)<ex:=zo;iterate 15 (refine zre rfl rfl (fun w1 hS=>by have g0:=F0.o w1 hS;have g1:=F1.o w1 hS;have g2:=F2.o w1 hS;rw[A0.o]at g2;clear hS;go_simp;try rfl) ?_)
     refine qo9 rfl rfl 31 (.tmp 62) rfl w.heap.size 1 rfl (tokv R.tid (.slice Ac R.cavs.length cc) R.tag) _ AI.o Tryz.underlying31 rfl AG.o ?_;try simp only[Act.put,tA0,tA1,tA2]
     iterate 8 (refine zre rfl rfl (fun w1 hS=>by have g2:=F2.o w1 hS;rw[A0.o]at g2;have g3:=F3.o w1 hS;clear hS;go_simp;try rfl) ?_)
     refine zw ?_;go_simp;refine(qkk R.op R.tree clk (R.tid,R.cavs,R.tag) Ac R.cavs.length cc W4 ((HR.cavs.call (B3.o)).call B4.o) HR.cavc (by have:=AD.o;omega) AF.o).mono ?_;rintro e w5 ⟨rfl,b5⟩;have B5:=zh1 (B4.trans (b5.mono B4.size));clear b5;obtain⟨A9,Q5,G5,Z5⟩:=zh4 (B3.trans (B5.mono B3.size)) (Q3.below B5.o Q3.lt) (G3.below B5.o G3.lt) (Z3.below B5.o Z3.lt);refine⟨(HS9.o _).mpr ⟨A9.o,Q5.o,G5.o⟩,zput ?_⟩;iterate 1 (refine zrb ?_)
     refine zw ?_;refine wp_store_row 66 (.tmp 4) (.tmp 47) rfl (w.heap.size+1) X.toArray rfl rfl 66 _ (Z5.o) (by simpa using A1.o) (by simp[LX.o]) (by simpa using OX.o) ?_;have zz:=(Z5.o).setRow X.toArray;obtain⟨ZZ,BB⟩:=zh2 zz (below_setRow (A9.o) (by omega:w.heap.size≤w.heap.size+1) X.toArray);have gx:=(G5.o).grown (qam _ (w.heap.size+1) X.toArray) (by intro e;injection e with e;exact A6.o e);have qx:=(Q5.o).grown (qam _ (w.heap.size+1) X.toArray) (by intro e;injection e with e;omega);refine⟨fun _=>(HS9.o _).mpr ⟨BB.o,qx,gx⟩,?_⟩;clear zz gx qx;try simp only[Act.put,tA0,tA1,tA2]
     iterate 1 (refine zrb ?_)
     refine qbf ?_;go_wp2_with fail
     have A2:=qap ZZ.o 0 X (fun j u h=>by simpa using h);refine bodyPost_ret (qgr rfl rfl (run_loadVar_mid _ _ 0 _ X _ A2 Tryz.underlying66 rfl A1.o)) rfl ⟨y,?_,fun _=>HY.o,BB.o⟩;rw[(qtz A0.o HY.o AO.o AA.o (by rw[A0.o,AB.o];exact hex) A5.o),←A3.o];rfl
    have qx:¬(clk:Int)<ex:=zo;iterate 14 (refine zre rfl rfl (fun w1 hS=>by have g0:=F0.o w1 hS;have g1:=F1.o w1 hS;have g2:=F2.o w1 hS;rw[A0.o]at g2;clear hS;go_simp;try rfl) ?_)
    iterate 10 (refine zsk ?_)
    refine qr1 rfl rfl ⟨(HS9.o _).mpr ⟨A4.o,Q4.o,G4.o⟩,?_⟩;try simp only[Act.put,tA0,tA1,tA2]
    iterate 1 (refine zrb ?_)
    refine zw ?_;refine wp_store_row 66 (.tmp 4) (.tmp 47) rfl (w.heap.size+1) X.toArray rfl rfl 66 _ (Z4.o) (by simpa using A1.o) (by simp[LX.o]) (by simpa using OX.o) ?_;have zz:=(Z4.o).setRow X.toArray;obtain⟨ZZ,BB⟩:=zh2 zz (below_setRow (A4.o) (by omega:w.heap.size≤w.heap.size+1) X.toArray);have gx:=(G4.o).grown (qam _ (w.heap.size+1) X.toArray) (by intro e;injection e with e;exact A6.o e);have qx:=(Q4.o).grown (qam _ (w.heap.size+1) X.toArray) (by intro e;injection e with e;omega);refine⟨fun _=>(HS9.o _).mpr ⟨BB.o,qx,gx⟩,?_⟩;clear zz gx qx;try simp only[Act.put,tA0,tA1,tA2]
    iterate 1 (refine zrb ?_)
    refine qbf ?_;go_wp2_with fail
    have A2:=qap ZZ.o 0 X (fun j u h=>by simpa using h);refine bodyPost_ret (qgr rfl rfl (run_loadVar_mid _ _ 0 _ X _ A2 Tryz.underlying66 rfl A1.o)) rfl ⟨y,?_,fun _=>HY.o,BB.o⟩;rw[(qty HY.o (by rw[A0.o,AB.o];exact hex)),←A3.o];rfl
  |false=>
   have A5:=zh1 (show (if qdi R.op then R.tree else 0)=(0:Int) by rw[htb];rfl);clear htb;clear kop;go_upto_region 7 with(fail)
   obtain⟨S,HS9⟩:=zS fun w'=>Below w.heap.size w w'∧Blk w' w.heap.size 34 Q.toArray∧Blk w' G 66 X.toArray
   refine zrs S 29 (zq 0 25 [(25,true),(26,false),(27,true),(28,false)]) ((HS9.o _).mpr ⟨B3.drew,Q3.o,G3.o⟩) ?_;obtain⟨FX,AI,F0,F1,F2,F3,A1⟩:=zh7 (fun(w':World)(h:S w')=>qap ((HS9.o w').mp h).2.2 0 X (fun j u h=>by simpa using h)) (fun(w':World)(h:S w')=>qap (l:=Q) ((HS9.o w').mp h).2.1 1 (tokv R.tid (.slice Ac R.cavs.length cc) R.tag) (fun j u hu=>by rw[←HQ.o];exact qiv R _ _ j u hu)) (fun(w':World)(h:S w')=>(((HS9.o w').mp h).2.2.cell 3).trans X3.o) (fun(w':World)(h:S w')=>(((HS9.o w').mp h).2.2.cell 2).trans X2.o) (fun(w':World)(h:S w')=>(H.call ((HS9.o w').mp h).1).c4) (fun(w':World)(h:S w')=>(((HS9.o w').mp h).2.1.cell 0).trans AE.o) (zI 66 LX.o);refine qo9 rfl rfl 66 (.tmp 6) rfl G 0 rfl X _ FX.o Tryz.underlying66 rfl A1.o ?_;try simp only[Act.put,tA0,tA1,tA2]
   obtain⟨W4,hW4,B4⟩:=zdr W3;rw[←hW4];clear hW4;obtain⟨A4,Q4,G4,Z4⟩:=zh4 (B3.trans (B4.mono B3.size)) (Q3.below B4.o Q3.lt) (G3.below B4.o G3.lt) (Z3.below B4.o Z3.lt);cases rv with
   |true=>
    iterate 12 (first|refine zsk ?_|refine zr1 ?_)
    iterate 12 (first|refine zsk ?_|refine zrb ?_)
    refine qr1 rfl rfl ⟨(HS9.o _).mpr ⟨A4.o,Q4.o,G4.o⟩,?_⟩;try simp only[Act.put,tA0,tA1,tA2]
    iterate 1 (refine zrb ?_)
    refine zw ?_;refine wp_store_row 66 (.tmp 4) (.tmp 47) rfl (w.heap.size+1) X.toArray rfl rfl 66 _ (Z4.o) (by simpa using A1.o) (by simp[LX.o]) (by simpa using OX.o) ?_;have zz:=(Z4.o).setRow X.toArray;obtain⟨ZZ,BB⟩:=zh2 zz (below_setRow (A4.o) (by omega:w.heap.size≤w.heap.size+1) X.toArray);have gx:=(G4.o).grown (qam _ (w.heap.size+1) X.toArray) (by intro e;injection e with e;exact A6.o e);have qx:=(Q4.o).grown (qam _ (w.heap.size+1) X.toArray) (by intro e;injection e with e;omega);refine⟨fun _=>(HS9.o _).mpr ⟨BB.o,qx,gx⟩,?_⟩;clear zz gx qx;try simp only[Act.put,tA0,tA1,tA2]
    iterate 1 (refine zrb ?_)
    refine qbf ?_;go_wp2_with fail
    have A2:=qap ZZ.o 0 X (fun j u h=>by simpa using h);refine bodyPost_ret (qgr rfl rfl (run_loadVar_mid _ _ 0 _ X _ A2 Tryz.underlying66 rfl A1.o)) rfl ⟨y,?_,fun _=>HY.o,BB.o⟩;rw[qtx HY.o AA.o,←A3.o];rfl
   |false=>
    by_cases hex:clk<ex
    ·
     have qx:(clk:Int)<ex:=zo;iterate 15 (refine zre rfl rfl (fun w1 hS=>by have g0:=F0.o w1 hS;have g1:=F1.o w1 hS;have g2:=F2.o w1 hS;rw[A0.o]at g2;clear hS;go_simp;try rfl) ?_)
     refine qo9 rfl rfl 31 (.tmp 62) rfl w.heap.size 1 rfl (tokv R.tid (.slice Ac R.cavs.length cc) R.tag) _ AI.o Tryz.underlying31 rfl AG.o ?_;try simp only[Act.put,tA0,tA1,tA2]
     iterate 8 (refine zre rfl rfl (fun w1 hS=>by have g2:=F2.o w1 hS;rw[A0.o]at g2;have g3:=F3.o w1 hS;clear hS;go_simp;try rfl) ?_)
     refine zw ?_;go_simp;refine(qkk R.op (0:Int) clk (R.tid,R.cavs,R.tag) Ac R.cavs.length cc W4 ((HR.cavs.call (B3.o)).call B4.o) HR.cavc (by have:=AD.o;omega) AF.o).mono ?_;rintro e w5 ⟨rfl,b5⟩;have B5:=zh1 (B4.trans (b5.mono B4.size));clear b5;obtain⟨A9,Q5,G5,Z5⟩:=zh4 (B3.trans (B5.mono B3.size)) (Q3.below B5.o Q3.lt) (G3.below B5.o G3.lt) (Z3.below B5.o Z3.lt);refine⟨(HS9.o _).mpr ⟨A9.o,Q5.o,G5.o⟩,zput ?_⟩;iterate 1 (refine zrb ?_)
     refine zw ?_;refine wp_store_row 66 (.tmp 4) (.tmp 47) rfl (w.heap.size+1) X.toArray rfl rfl 66 _ (Z5.o) (by simpa using A1.o) (by simp[LX.o]) (by simpa using OX.o) ?_;have zz:=(Z5.o).setRow X.toArray;obtain⟨ZZ,BB⟩:=zh2 zz (below_setRow (A9.o) (by omega:w.heap.size≤w.heap.size+1) X.toArray);have gx:=(G5.o).grown (qam _ (w.heap.size+1) X.toArray) (by intro e;injection e with e;exact A6.o e);have qx:=(Q5.o).grown (qam _ (w.heap.size+1) X.toArray) (by intro e;injection e with e;omega);refine⟨fun _=>(HS9.o _).mpr ⟨BB.o,qx,gx⟩,?_⟩;clear zz gx qx;try simp only[Act.put,tA0,tA1,tA2]
     iterate 1 (refine zrb ?_)
     refine qbf ?_;go_wp2_with fail
     have A2:=qap ZZ.o 0 X (fun j u h=>by simpa using h);refine bodyPost_ret (qgr rfl rfl (run_loadVar_mid _ _ 0 _ X _ A2 Tryz.underlying66 rfl A1.o)) rfl ⟨y,?_,fun _=>HY.o,BB.o⟩;rw[(qtz A0.o HY.o AO.o AA.o (by rw[A0.o,AB.o];exact hex) A5.o),←A3.o];rfl
    have qx:¬(clk:Int)<ex:=zo;iterate 14 (refine zre rfl rfl (fun w1 hS=>by have g0:=F0.o w1 hS;have g1:=F1.o w1 hS;have g2:=F2.o w1 hS;rw[A0.o]at g2;clear hS;go_simp;try rfl) ?_)
    iterate 10 (refine zsk ?_)
    refine qr1 rfl rfl ⟨(HS9.o _).mpr ⟨A4.o,Q4.o,G4.o⟩,?_⟩;try simp only[Act.put,tA0,tA1,tA2]
    iterate 1 (refine zrb ?_)
    refine zw ?_;refine wp_store_row 66 (.tmp 4) (.tmp 47) rfl (w.heap.size+1) X.toArray rfl rfl 66 _ (Z4.o) (by simpa using A1.o) (by simp[LX.o]) (by simpa using OX.o) ?_;have zz:=(Z4.o).setRow X.toArray;obtain⟨ZZ,BB⟩:=zh2 zz (below_setRow (A4.o) (by omega:w.heap.size≤w.heap.size+1) X.toArray);have gx:=(G4.o).grown (qam _ (w.heap.size+1) X.toArray) (by intro e;injection e with e;exact A6.o e);have qx:=(Q4.o).grown (qam _ (w.heap.size+1) X.toArray) (by intro e;injection e with e;omega);refine⟨fun _=>(HS9.o _).mpr ⟨BB.o,qx,gx⟩,?_⟩;clear zz gx qx;try simp only[Act.put,tA0,tA1,tA2]
    iterate 1 (refine zrb ?_)
    refine qbf ?_;go_wp2_with fail
    have A2:=qap ZZ.o 0 X (fun j u h=>by simpa using h);refine bodyPost_ret (qgr rfl rfl (run_loadVar_mid _ _ 0 _ X _ A2 Tryz.underlying66 rfl A1.o)) rfl ⟨y,?_,fun _=>HY.o,BB.o⟩;rw[(qty HY.o (by rw[A0.o,AB.o];exact hex)),←A3.o];rfl
theorem qu2 (c:Cfg)(s:Sta)(L:Loc)(col:Col)(k g:Nat)(css:List (List Value))(R:Req)(cav leafv:Value)(own ro ex rv:Value)(tn:Int)(w:World)(hk:Kind k)(hs:s.Ok)(h:Mdl w col k g c s L css)
 (ht:R.tag.length=32)(hid:R.id<4294967296):
 Zc 128 #[.pointer (some ⟨g,0,none⟩),.agg (reqv R cav leafv).toArray,.agg #[.int .i64 tn,ro,ex,rv]] w fun e w'=>e=.returned (.int .i64 (qmi s R tn))∧Below w.heap.size w w':=by
 have rest:=qdh R cav leafv ht;have r0:(reqv R cav leafv)[0]? =some (.int .i64 R.op):=rfl;obtain⟨Q,hQ⟩:=xeq (reqv R cav leafv);rw[hQ]at rest r0 ⊢;obtain⟨W0,hW0⟩:=eqx ((w.alloc (.cells Q.toArray 34)).alloc (.cells #[.int .i64 tn,ro,ex,rv] 66));have q0:Blk W0 w.heap.size 34 Q.toArray:=by rw[hW0];exact(Blk.new w _ _).alloc _
 have z0:W0.cell? ⟨w.heap.size+1,0,none⟩=some (.int .i64 tn):=by
  have h:=Blk.new (w.alloc (.cells Q.toArray 34)) 66 #[.int .i64 tn,ro,ex,rv];rw[qar]at h;rw[hW0];exact(h.cell 0).trans rfl
 have b0:Below w.heap.size w W0:=by rw[hW0];exact qah (qah (tA5 _ _) _) _
 obtain⟨op,hop⟩:=xeq R.op;obtain⟨i,hi⟩:=xeq R.id;obtain⟨ng,hng⟩:=xeq s.gras.length;have gb:ng≤64:=by rw[←hng];exact hs.grasn
 have ib:i<4294967296:=by rw[←hi];exact hid
 have c9:=h.c9;rw[hng]at c9;have k0:W0.cell? ⟨w.heap.size,0,none⟩=some (.int .i64 op):=(q0.cell 0).trans (by rw[tA3,←hop];exact r0);have k35:W0.cell? ⟨w.heap.size,35,none⟩=some (.int .i64 R.tree):=(q0.cell 35).trans (by rw[tA3];exact rest 0);have k36:W0.cell? ⟨w.heap.size,36,none⟩=some (.int .i64 R.tenant):=(q0.cell 36).trans (by rw[tA3];exact rest 1);have k40:W0.cell? ⟨w.heap.size,40,none⟩=some (.int .u32 (i:Int)):=(q0.cell 40).trans (by rw[tA3,←hi];exact rest 5);obtain⟨H,A3,Z0,B0,HS,K0,A8,A9⟩:=zh8 h hW0 z0 b0 hs k0 k35 k36;obtain⟨A5,C9,A6,HI,A4,H0⟩:=zh6 k40 (qai c9 b0) hop hi hng (h.call b0);obtain⟨av,hav⟩:=xeq (qmi s R tn);rw[hav];have A2:=zh1 hav;clear hav;rw[hW0]at k0;clear h hW0 q0 z0 b0 hs hop hi hng k35 k36 k40 c9 rest r0 ht hid hQ;have u1:IntKind.u64.wrap (i:Int)=(i:Int):=tBa _ zo;have u2:IntKind.u64.wrap (ng:Int)=(ng:Int):=tBa _ zo;go_enter Tryz.func128,Tryz.ntmps128
 by_cases hm:op=6∨op=10∨op=12
 ·
  have ha:qmi s R tn=R.tenant:=by
   unfold qmi;rw[A6.o,if_pos hm]
  have HA:=zh1 ha;have k36:=A9.o;rw[A3.o]at k36;rcases hm with rfl|rfl|rfl
  · go_wp2
    go_ret
    exact⟨by rw[←A2.o,HA.o];rfl,by rw[←A3.o];exact B0.o⟩
  · go_wp2
    go_ret
    exact⟨by rw[←A2.o,HA.o];rfl,by rw[←A3.o];exact B0.o⟩
  go_wp2
  go_ret
  exact⟨by rw[←A2.o,HA.o];rfl,by rw[←A3.o];exact B0.o⟩
 have e6:(op==6)=false:=by simp;omega
 have e10:(op==10)=false:=by simp;omega
 have e12:(op==12)=false:=by simp;omega
 have HM:=zh1 hm;clear hm;go_upto_region 3 with(fail)
 rw[←A3.o];clear k0;obtain⟨S,HS9⟩:=zS fun w'=>Below W0.heap.size W0 w'
 refine zrs S 17 (zq 0 17 []) ((HS9.o _).mpr ((tA5 _ _).drew)) ?_;obtain⟨F0,F1,F2⟩:=zh3 (zF HS9 K0.o) (zF HS9 A5.o) (zF HS9 C9.o);have rest:qmi s R tn=(if op=11∧i<ng then((s.gras[i]?).getD ⟨0,0,0,false⟩).tenant else if qdi op then(match s.tree R.tree with|some t=>t.tenant|none=>tn) else tn):=by
  unfold qmi;rw[A6.o,if_neg HM.o,HI.o];by_cases h11:op=11
  · rw[if_pos h11]
    by_cases hl:i<ng
    · rw[if_pos ⟨h11,hl⟩,tA7 (by rw[A4.o];exact hl)]
      rfl
    rw[if_neg zo,List.getElem?_eq_none (by rw[A4.o];omega),if_neg (by rw[h11];decide)]
  rw[if_neg h11,if_neg (c:=op=11∧i<ng) zo];rfl
 have A0:=zh1 rest;clear rest;by_cases h11:op=11
 ·
  subst h11;iterate 15 (refine zr3 ?_)
  by_cases hl:i<ng
  ·
   have q1:(i:Int)<ng:=zo;have q0:(0:Int)≤i:=zo;iterate 2 (refine zrb ?_)
   refine qbf ?_;clear HS9 F0 F1 F2 u1 u2 e6 e10 e12;obtain⟨x,hx⟩:∃x,s.gras[i]? =some x:=⟨_,tA7 (by rw[A4.o];exact hl)⟩;have ha:qmi s R tn=x.tenant:=by rw[A0.o,if_pos ⟨rfl,hl⟩,hx];rfl
   have HA:=zh1 ha;obtain⟨W1,hW1⟩:=eqx W0.drew;have B1:=zh1 (show Below W0.heap.size W0 W1 by rw[hW1];exact(tA5 _ _).drew);rw[←hW1];clear hW1 ha;obtain⟨A1,XC⟩:=zh2 (B0.trans (B1.mono B0.size)) (fun(w':World)(hb:Below w.heap.size w w')=>(show w'.cell? ⟨L.gg,i*4,none⟩=some (.int .i64 x.tenant) from(H.call hb).st.gras.cell ((qnm (j:=0) hx zo).trans rfl)));clear hx hl;go_upto_region 4 with(fail)
   obtain⟨S,HS9⟩:=zS fun w'=>Below W1.heap.size W1 w'
   refine zrs S 11 (zq 0 11 []) ((HS9.o _).mpr ((tA5 _ _).drew)) ?_;obtain⟨F1,F2,F3⟩:=zh3 (zF HS9 (qai A5.o B1.o)) (zF HS9 (qai C9.o B1.o)) (fun(w':World)(h:S w')=>XC.o w' (A1.trans (((HS9.o w').mp h).mono A1.size)));iterate 11 (refine zre rfl rfl (fun w1 hS=>by have g1:=F1.o w1 hS;have g2:=F2.o w1 hS;have g3:=F3.o w1 hS;clear hS;go_simp;try rfl) ?_)
   refine qbf ?_;clear HS9 F1 F2 F3;go_wp2
   go_ret
   exact⟨by rw[←A2.o,HA.o];rfl,A1.drew⟩
  have q1:¬(i:Int)<ng:=zo;iterate 2 (refine zrb ?_)
  refine qbf ?_;clear HS9 F0 F1 F2 u1 u2 e6 e10 e12;have ha:qmi s R tn=tn:=by
   rw[A0.o,if_neg zo];rfl
  have HA:=zh1 ha;obtain⟨W1,hW1⟩:=eqx W0.drew;have B1:=zh1 (show Below W0.heap.size W0 W1 by rw[hW1];exact(tA5 _ _).drew);rw[←hW1];clear hW1 ha;have A1:=zh1 (B0.trans (B1.mono B0.size));have k0:=qai K0.o B1.o;have z0:=qai Z0.o B1.o;go_wp2_with fail
  refine zca (qdk 11 W1) ?_;rw[show qdi 11=false from rfl];go_wp2
  go_ret
  exact⟨by rw[←A2.o,HA.o];rfl,A1.o⟩
 have e11:(op==11)=false:=by simp;omega
 iterate 15 (first|refine zsk ?_|refine zr1 ?_)
 iterate 2 (refine zrb ?_)
 refine qbf ?_;clear HS9 F0 F1 F2 u1 u2 e6 e10 e12 e11;obtain⟨W1,hW1,B1⟩:=zdr W0;rw[←hW1];clear hW1;have A1:=zh1 (B0.trans (B1.mono B0.size));have k0:=qai K0.o B1.o;have z0:=qai Z0.o B1.o;have k35:=qai A8.o B1.o;obtain⟨HN,H1⟩:=zh2 h11 (H0.call B1.o);clear h11;go_wp2_with fail
 refine zca (qdk op W1) ?_;cases htb:qdi op with
 |false=>
  have ha:qmi s R tn=tn:=by
   rw[A0.o,if_neg (by have:=HN.o;omega),htb];rfl
  have HA:=zh1 ha;clear ha htb;go_wp2
  go_ret
  exact⟨by rw[←A2.o,HA.o];rfl,A1.o⟩
 |true=>
  have A7:=zh1 htb;clear htb;cases htr:s.tree R.tree with
  |none=>
   have ha:qmi s R tn=tn:=by
    rw[A0.o,if_neg (by have:=HN.o;omega),A7.o,htr];rfl
   have HA:=zh1 ha;clear ha;have CT:=zh1 (qqg R.tree c s L col k g css W1 HS.o H1.o htr);clear htr;go_wp2_with fail
   refine CT.o.mono ?_;rintro e w' ⟨rfl,rfl⟩;go_wp2
   go_ret
   exact⟨by rw[←A2.o,HA.o];rfl,A1.o⟩
  |some t=>
   have ha:qmi s R tn=t.tenant:=by
    rw[A0.o,if_neg (by have:=HN.o;omega),A7.o,htr];rfl
   have HA:=zh1 ha;clear ha;obtain⟨n,hn,ht,h0,h4⟩:∃n:Nat,R.tree=n∧s.tres[n]? =some t∧t.state≠0∧t.state≠4:=by
    unfold Sta.tree at htr;split at htr
    ·
     rename_i h0
     split at htr
     · cases htr
     rename_i x hx
     split at htr
     · cases htr
     rename_i hne
     injection htr with htr;subst htr;exact⟨R.tree.toNat,by omega,hx,fun e=>hne (.inl e),fun e=>hne (.inr e)⟩
    cases htr
   have CT:=zh1 (qqh n t c s L col k g css W1 HS.o H1.o ht h0 h4);obtain⟨-,Ad,cd,Al,cl,Aq,cq,-,hcell,-,-,-⟩:=H1.st.tree HS.o ht;have e1:=hcell 1 (.int .i64 t.tenant) rfl;rw[hn]at k35;clear htr hn ht h0 h4 hcell;go_wp2_with fail
   refine CT.o.mono ?_;rintro e w' ⟨rfl,rfl⟩;go_wp2
   go_ret
   exact⟨by rw[←A2.o,HA.o];rfl,A1.o⟩
theorem qu3 (role op:Int)(w:World):
 Zc 185 #[.int .i64 role,.int .i64 op] w fun e w'=>e=.returned (.bool (qmg role op))∧w=w':=by
 by_cases h4:role=4
 ·
  subst h4;go_enter Tryz.func185,Tryz.ntmps185
  go_wp2
  all_goals
   go_ret
   exact⟨qd8 (by simp_all [qmg]),rfl⟩
 by_cases h3:role=3
 ·
  subst h3;go_enter Tryz.func185,Tryz.ntmps185
  go_wp2
  all_goals
   go_ret
   exact⟨qd8 (by simp_all [qmg]),rfl⟩
 by_cases h2:role=2
 ·
  subst h2;go_enter Tryz.func185,Tryz.ntmps185
  go_wp2
  all_goals
   go_ret
   exact⟨qd8 (by simp_all [qmg]),rfl⟩
 by_cases h1:role=1
 ·
  subst h1;go_enter Tryz.func185,Tryz.ntmps185
  go_wp2
  all_goals
   go_ret
   exact⟨qd8 (by simp_all [qmg]),rfl⟩
 have e:qmg role op=false:=by
  unfold qmg;rw[decide_eq_false h4,decide_eq_false (by omega:¬(3≤role∧role≤4)),decide_eq_false (by omega:¬(2≤role∧role≤4)),decide_eq_false (by omega:¬(1≤role∧role≤4))];rfl
 rw[e];go_enter Tryz.func185,Tryz.ntmps185
 go_wp2
 all_goals
  go_ret
  exact⟨rfl,rfl⟩
theorem qu4 (role op own asked:Int)(w:World):
 Zc 127 #[.int .i64 role,.int .i64 op,.int .i64 own,.int .i64 asked] w fun e w'=>∃v,e=.returned v∧Below w.heap.size w w'∧(qmh role op own asked=true→v=.nilIface)∧
  (qmh role op own asked=false→∃g,v=.iface 218 (.pointer (some ⟨g,0,none⟩))∧Blk w' g 224 #[.int .i64 op,.int .i64 role,.int .i64 21]∧w.heap.size≤g):=by
 obtain⟨b,hb⟩:=xeq (qmg role op);have hd:qmh role op own asked=(b&&(own==asked||role==4)):=by rw[←hb];rfl
 rw[hd];have HB:=zh1 hb;clear hb hd;go_enter Tryz.func127,Tryz.ntmps127
 go_wp2_with fail
 refine(qu3 role op w).mono ?_;rintro e w1 ⟨rfl,rfl⟩;rw[HB.o];cases b with
 |false=>
  go_wp2
  go_ret
  exact⟨_,rfl,qah (tA5 _ _) _,fun h=>(by cases h),fun _=>⟨_,rfl,Blk.new _ _ _,tA4 _⟩⟩
 |true=>
  by_cases h1:own=asked
  · have e1:(own==asked)=true:=by simpa using h1
    go_wp2
    go_ret
    exact⟨_,rfl,tA5 _ _,fun _=>rfl,fun h=>(by rw[e1]at h;cases h)⟩
  have e1:(own==asked)=false:=by simpa using h1
  by_cases h4:role=4
  · have e4:(role==4)=true:=by simpa using h4
    go_wp2
    go_ret
    exact⟨_,rfl,tA5 _ _,fun _=>rfl,fun h=>(by rw[e1,e4]at h;cases h)⟩
  have e4:(role==4)=false:=by simpa using h4
  go_wp2
  go_ret
  exact⟨_,rfl,qah (tA5 _ _) _,fun h=>(by rw[e1,e4]at h;cases h),fun _=>⟨_,rfl,Blk.new _ _ _,tA4 _⟩⟩
theorem qu7 (op:Int)(n:Nat):qq5 op (n:Int)=((qmj op n:Nat):Int):=by
 unfold qq5 qmj;split
 · split
   · omega
   split<;>omega
 rfl
theorem qu8 (op:Int)(n:Nat):qmj op n≤16385:=by
 unfold qmj;split<;>omega
theorem qu9 {c:Cfg}{s:Sta}{R:Req}(h:(qit R).1≠0):qmk c s R=12:=by
 unfold qmk;rw[if_pos h]
theorem qua {c:Cfg}{s:Sta}{R:Req}(h:(qit R).1=0)(hg:qtv c s R=false):qmk c s R=20:=by
 unfold qmk;rw[if_neg zo];unfold qtv at hg;cases hy:s.gras[R.tid]? with
 |none=>rfl
 |some y=>
  rw[hy]at hg;dsimp only at hg ⊢;cases h1:qk9 (qmd c.seed) (R.tid,R.cavs,R.tag) with
  |false=>rfl
  |true=>
   rw[h1]at hg;rw[if_neg zdc,if_pos];cases h2:y.revoked with
   |true=>rfl
   |false=>
    rw[h2]at hg;by_cases h3:s.clock<y.expires
    · rw[decide_eq_true h3]at hg
      simp at hg;simp[hg]
    simp[show y.expires≤s.clock by omega]
theorem qub {c:Cfg}{s:Sta}{R:Req}{y:Gra}(h:(qit R).1=0)(hg:qtv c s R=true)(hy:s.gras[R.tid]? =some y):
 qmk c s R=if !qmh y.role R.op y.tenant (qmi s R y.tenant) then 21 else match s.tenant y.tenant with|none=>22|some x=>if x.tok<qmj R.op R.leaf.length then 22 else 0:=by
 unfold qtv at hg;rw[hy]at hg;simp only[Bool.and_eq_true]at hg;obtain⟨h1,h2,h3,h4⟩:=hg;have h5:=of_decide_eq_true h3;have h6:¬(y.revoked||decide (y.expires≤s.clock)||!qkh R.op (if qdi R.op then R.tree else 0) s.clock R.cavs)=true:=by
  rw[h4];simp at h2;simp[h2];omega
 unfold qmk;rw[if_neg zo,hy];dsimp only;rw[if_neg (by rw[h1];decide),if_neg h6];rfl
theorem quc {R:Req}(h:(qit R).1=0):R.cavs.length≤4:=by
 have hb:=qrh h;unfold qit at h;rw[if_pos hb]at h;split at h
 · rename_i h1
   unfold qd7 at h1;split at h1
   · cases h1
   omega
 rename_i h1
 exact absurd h h1
theorem Req.Good.fit {R:Req}(h:R.Good):R.Fit:=by
 have bd:∀{x:Int},(Lit.int .i64 x).wf=true→x<18446744073709551616:=fun {x} hx=>by
  have:=(Go.Lit.wf_int_iff _ _).1 hx;rw[IntKind.min_i64,IntKind.max_i64]at this;omega
 refine⟨h.tag,fun o=>?_⟩;have a1:=bd h.tree;have a2:=bd h.tenant;have a3:=bd h.role;have a4:=bd h.state;have a5:=bd h.weight;have a6:=h.id;have a7:=h.lo;have a8:=h.hi;have a9:=h.rate;have b1:=h.burst;have b2:=h.store;have b3:=h.expires;unfold Req.num;split<;>omega
theorem Asked.call {w w':World}{col:Col}{R:Req}{Ac:Option Addr}{cc:Nat}{Al:Option Addr}{cl:Nat}(h:Asked w col R Ac cc Al cl)(hb:Below w.heap.size w w'):Asked w' col R Ac cc Al cl:=
 ⟨h.good,h.leaf.call hb,h.leafc,h.leafm,h.cavs.call hb,h.cavc,h.cavm,h.leaf0,h.cavs0⟩
theorem qud (c:Cfg)(s:Sta)(L:Loc)(col:Col)(k g:Nat)(css:List (List Value))(R:Req)(Ac:Option Addr)(cc:Nat)(Al:Option Addr)(cl:Nat)(w:World)(hk:Kind k)(hc:c.Ok)(hs:s.Ok)(h:Mdl w col k g c s L css)
 (hr:Asked w col R Ac cc Al cl)(hT:Tabs w)(hE:w.cell? ⟨0,0,none⟩=some (.iface 327 (.agg #[.pointer (some ⟨3,81,none⟩)]))):
 Zc 50 #[.pointer (some ⟨g,0,none⟩),.agg (reqv R (.slice Ac R.cavs.length cc) (.slice Al R.leaf.length cl)).toArray] w fun e w'=>∃(y:Gra) (cost:Nat),e=.returned (.tuple #[.agg #[.int .i64 y.tenant,.int .i64 y.role,.int .u64 (y.expires:Int),.bool y.revoked],.int .u32 (cost:Int),.int .i64 ((qmk c s R:Nat):Int)])∧
  (qmk c s R=0→s.gras[R.tid]? =some y∧cost=qmj R.op R.leaf.length)∧Below w.heap.size w w':=by
 have rlen:=qiu R (.slice Ac R.cavs.length cc) (.slice Al R.leaf.length cl) hr.good.tag;have rest:=qdh R (.slice Ac R.cavs.length cc) (.slice Al R.leaf.length cl) hr.good.tag;obtain⟨Q,hQ⟩:=xeq (reqv R (.slice Ac R.cavs.length cc) (.slice Al R.leaf.length cl));have CE:=fun(w':World)(hb:Below w.heap.size w w')=>qiy R Ac cc Al cl w' hr.good.fit (hr.leaf.call hb) hr.leafc hr.leafm (hr.cavs.call hb) hr.cavc hr.cavm hr.good.tid hr.good.cavn
 have CG:=fun(w':World)(hb:Below w.heap.size w w')(h4:R.cavs.length≤4)=>qu1 c s L col k g css R Ac cc Al cl w' hk hc hs (h.call hb) (hr.call hb) (hT.below hb hT.size) h4
 have CA:=fun(w':World)(hb:Below w.heap.size w w')(own ro ex rv:Value)(tn:Int)=>qu2 c s L col k g css R (.slice Ac R.cavs.length cc) (.slice Al R.leaf.length cl) own ro ex rv tn w' hk hs (h.call hb) hr.good.tag hr.good.id
 rw[hQ]at rlen rest CE CG CA ⊢;obtain⟨W0,hW0⟩:=eqx ((w.alloc (.cells Q.toArray 34)).alloc (.cells #[.int .i64 0,.int .i64 0,.int .u64 0,.bool false] 66));have q0:Blk W0 w.heap.size 34 Q.toArray:=by rw[hW0];exact(Blk.new w _ _).alloc _
 have z0:Blk W0 (w.heap.size+1) 66 #[.int .i64 0,.int .i64 0,.int .u64 0,.bool false]:=by
  have h:=Blk.new (w.alloc (.cells Q.toArray 34)) 66 #[.int .i64 0,.int .i64 0,.int .u64 0,.bool false];rw[qar]at h;rw[hW0];exact h
 have b0:Below w.heap.size w W0:=by rw[hW0];exact qah (qah (tA5 _ _) _) _
 have rng:W0.rangeAt w.heap.size 0 Q:=qap q0 0 Q (fun j u h=>by simpa using h);have kop:Q.toArray[0]? =some (.int .i64 R.op):=by rw[tA3,←hQ];rfl
 have k47:Q.toArray[47]? =some (.slice Al R.leaf.length cl):=by rw[tA3];exact rest 12
 obtain⟨H,BB,Q0,Z0,B0,HK,HC,HS⟩:=zh8 h hW0 q0 z0 b0 hk hc hs;obtain⟨HR,RL,HQ,TT,HE,AE,AN,AO⟩:=zh8 hr rlen hQ hT hE kop k47 rng;obtain⟨AP,AQ,AR,AC⟩:=zh4 CE CG CA (zI 34 rlen);clear h q0 z0 b0 hk hc hs hr rlen rest hQ hT hE kop k47 rng CE CG CA;obtain⟨en,hen⟩:=xeq ((qit R).1);have A9:=zh1 hen;clear hen;go_enter Tryz.func50,Tryz.ntmps50
 go_upto_region 1 with(fail)
 rw[←hW0];clear hW0;go_wp2_with (refine zld AO.o zu34 AC.o ?_)
 refine(AP.o W0 B0.o).mono ?_;rintro e w1 ⟨v1,rfl,o1,b1⟩;rw[A9.o];obtain⟨B1,AA,Z1,Q1⟩:=zh4 b1 (B0.trans (b1.mono B0.size)) (Z0.below b1 Z0.lt) (Q0.below b1 Q0.lt);clear o1 b1;by_cases h0:en=0
 ·
  subst h0;have h4:=quc A9.o;have AS:=zh1 h4;clear h4;have AD:=zh1 (qap Q1.o 0 Q (fun j u h=>by simpa using h));go_upto_region 4 with(fail)
  go_wp2_with (refine zld AD.o zu34 AC.o ?_)
  refine(AQ.o w1 AA.o AS.o).mono ?_;rintro e w2 ⟨y,rfl,hy,b2⟩;obtain⟨gb,hgb⟩:=xeq (qtv c s R);rw[hgb]at hy ⊢;obtain⟨tn,htn⟩:=xeq y.tenant;obtain⟨ro,hro⟩:=xeq y.role;obtain⟨X,hX⟩:=xeq (grav y);rw[show (#[.int .i64 y.tenant,.int .i64 y.role,.int .u64 (y.expires:Int),.bool y.revoked]:Array Value)=X.toArray by rw[←hX];rfl];have lX:X.length=4:=by rw[←hX];rfl
  have oX:∀u∈X,u.oneCell'=true:=by
   rw[←hX];intro u hu;unfold grav at hu;simp only[List.mem_cons,List.not_mem_nil,or_false]at hu;rcases hu with rfl|rfl|rfl|rfl<;>rfl
  obtain⟨X0,X1,XA,A7,LX,OX,HY,AF⟩:=zh8 (show X.toArray[0]? =some (.int .i64 tn) by rw[←hX,←htn];rfl) (show X.toArray[1]? =some (.int .i64 ro) by rw[←hX,←hro];rfl) (show X.toArray=#[.int .i64 tn,.int .i64 y.role,.int .u64 (y.expires:Int),.bool y.revoked] by rw[←hX,←htn];rfl) hX lX oX hy hgb;obtain⟨A8,AG,A0,B2,GN⟩:=zh5 htn hro (zI 66 lX) b2 (Blk.new w2 66 #[.int .i64 0,.int .i64 0,.int .u64 0,.bool false]);clear hX lX oX hy hgb htn hro b2;go_upto_region 5 with(refine zst GN.o A0.o (by simp[LX.o]) OX.o ?_)
  obtain⟨W3,hW3⟩:=eqx ((w2.alloc (.cells #[.int .i64 0,.int .i64 0,.int .u64 0,.bool false] 66)).setRow w2.heap.size X.toArray);rw[←hW3];obtain⟨G,hG⟩:=eqx w2.heap.size;rw[←hG];have GS:=zh1 (show w1.heap.size≤G by rw[hG];exact B2.size);have g3:Blk W3 G 66 X.toArray:=by rw[hW3,hG];exact(Blk.new _ _ _).setRow _
  have b3:Below w1.heap.size w1 W3:=by rw[hW3];exact below_setRow (B2.alloc B2.size _) B2.size _
  obtain⟨G3,B3,AB,Z3,Q3⟩:=zh5 g3 b3 (AA.trans (b3.mono AA.size)) (Z1.below b3 Z1.lt) (Q1.below b3 Q1.lt);clear hW3 hG g3 b3;have AT:=zh1 (qap G3.o 0 X (fun j u h=>by simpa using h));cases gb with
  |false=>
   have A1:=zh1 (qua (c:=c) (s:=s) A9.o AF.o);go_wp2_with (first
    |(refine zld (AT.o) zu66 A0.o ?_)
    |(refine zst (Z3.o) A0.o (by simp[LX.o]) OX.o ?_))
   have A2:=qap ((Z3.o).setRow X.toArray) 0 X (fun j u h=>by simpa using h);refine bodyPost_ret (qhj rfl rfl (run_loadVar_mid _ _ 0 _ X _ A2 Tryz.underlying66 rfl A0.o)) rfl ⟨y,0,?_,fun h=>?_,below_setRow (AB.o) zo _⟩
   · rw[A1.o,←A7.o]
     rfl
   rw[A1.o]at h;cases h
  |true=>
   have hyy:=HY.o rfl;have hyo:=HS.gra hyy;obtain⟨AU,A1⟩:=zh2 hyy (qub A9.o AF.o hyy);obtain⟨m,rfl⟩:∃m:Nat,tn=m:=⟨tn.toNat,by have:=hyo.tenant;rw[A8.o]at this;omega⟩;have hm16:m<16:=by have:=hyo.tenant;rw[A8.o]at this;omega
   obtain⟨x,hx⟩:∃x,s.tens[m]? =some x:=⟨_,tA7 (by rw[HS.tensn];omega)⟩;have HX:=zh1 hx;have hxt:s.tenant y.tenant=some x:=by
    unfold Sta.tenant;rw[A8.o,if_pos zo,tBe];exact hx
   obtain⟨AV,HM⟩:=zh2 hxt hm16;clear hyy hyo hx hxt hm16;go_upto_region 8 with(fail)
   obtain⟨W4,hW4⟩:=eqx (W3.alloc (.cells #[.pointer none] 218));rw[←hW4];obtain⟨p,hp⟩:=eqx W3.heap.size;rw[←hp];have p4:Blk W4 p 218 #[.pointer none]:=by rw[hW4,hp];exact Blk.new _ _ _
   have b4:Below W3.heap.size W3 W4:=by rw[hW4];exact qah (tA5 _ _) _
   obtain⟨PS,P4,BC,A5,Z4,Q4,G4⟩:=zh7 (show W3.heap.size≤p by omega) p4 b4 (AB.trans (b4.mono AB.size)) (Z3.below b4 Z3.lt) (Q3.below b4 Q3.lt) (G3.below b4 G3.lt);clear hW4 hp p4 b4;obtain⟨S,HS9⟩:=zS fun w'=>Below W4.heap.size W4 w'
   refine zrs S 12 (zq 0 9 [(11,false),(9,true),(10,true),(12,true)]) ((HS9.o _).mpr ((tA5 _ _).drew)) ?_;obtain⟨F0,F1,F2,FQ,FG⟩:=zh5 (fun(w':World)(h:S w')=>((G4.below ((HS9.o w').mp h) G4.lt).cell 0).trans X0.o) (fun(w':World)(h:S w')=>((G4.below ((HS9.o w').mp h) G4.lt).cell 1).trans X1.o) (fun(w':World)(h:S w')=>((Q4.below ((HS9.o w').mp h) Q4.lt).cell 0).trans AE.o) (fun(w':World)(h:S w')=>qap (Q4.below ((HS9.o w').mp h) Q4.lt) 0 Q (fun j u h=>by simpa using h)) (fun(w':World)(h:S w')=>qap (G4.below ((HS9.o w').mp h) G4.lt) 0 X (fun j u h=>by simpa using h));iterate 7 (refine zr3 ?_)
   refine qo9 rfl rfl 34 (.tmp 3) rfl w.heap.size 0 rfl Q _ FQ.o Tryz.underlying34 rfl AC.o ?_;try simp only[Act.put,tA0,tA1,tA2]
   refine qo9 rfl rfl 66 (.tmp 9) rfl G 0 rfl X _ FG.o Tryz.underlying66 rfl A0.o ?_;try simp only[Act.put,tA0,tA1,tA2]
   iterate 1 (refine zrb ?_)
   obtain⟨Wd,hWd,BD⟩:=zdr W4;rw[←hWd];clear hWd;have AW:=zh1 (A5.trans (BD.mono A5.size));refine zw ?_;go_simp;rw[XA.o];refine zcb (AR.o Wd AW.o (.bool false) (.int .i64 y.role) (.int .u64 (y.expires:Int)) (.bool y.revoked) (m:Int)) fun w5 b5=>?_
   have B5:=zh1 (BD.trans (b5.mono BD.size));clear b5;refine⟨(HS9.o _).mpr B5.o,zput ?_⟩;refine zw ?_;go_simp;refine(qu4 ro R.op (m:Int) (qmi s R (m:Int)) w5).mono ?_;rintro e w6 ⟨v6,rfl,b6,hd1,hd2⟩;obtain⟨B6,S5⟩:=zh2 (B5.trans (b6.mono B5.size)) (show W4.heap.size≤w5.heap.size from B5.size);clear b6;refine⟨(HS9.o _).mpr B6.o,zput ?_⟩;refine zw ?_;go_simp;cases hdec:qmh ro R.op (m:Int) (qmi s R (m:Int)) with
   |false=>
    obtain⟨eg,rfl,e6,es⟩:=hd2 hdec;have why21:qmk c s R=21:=by
     rw[A1.o,AG.o,A8.o,hdec];rfl
    obtain⟨A4,E6,ES⟩:=zh3 why21 e6 es;clear hd1 hd2 hdec e6 es why21;obtain⟨P6,A6,G6,Z6⟩:=zh4 (P4.below B6.o P4.lt) (A5.trans (B6.mono A5.size)) (G4.below B6.o G4.lt) (Z4.below B6.o Z4.lt);refine zcb (qu6 ⟨eg,0,none⟩ ⟨p,0,none⟩ (.pointer none) w6 (qai HE.o A6.o) ((P6.cell 0).trans rfl) (P6.frozen 0)) fun w7 hw7=>?_
    obtain⟨W6,hW6⟩:=eqx ((((w6.alloc (.cells #[.pointer (some ⟨p,0,none⟩)] 222)).alloc (.cells #[.pointer (some ⟨3,222,none⟩),.pointer (some ⟨w6.heap.size,0,none⟩),.int .u64 150] 284)).alloc (.cells #[.pointer (some ⟨3,222,none⟩),.pointer (some ⟨w6.heap.size,0,none⟩),.int .u64 150] 284)).alloc (.cells #[.pointer (some ⟨eg,0,none⟩)] 218));rw[←hW6]at hw7;have b66:Below w6.heap.size w6 W6:=by rw[hW6];exact qah (qah (qah (qah (tA5 _ _) _) _) _) _
    have AH:=P6.below b66 P6.lt;have AI:=E6.below b66 E6.lt;have AJ:=G6.below b66 G6.lt;have AK:=Z6.below b66 Z6.lt;have AL:=A6.trans (b66.mono A6.size);have pw:w.heap.size≤p:=by have:=PS.o;have:=AB.size;omega
    have ne1:eg≠p:=by have:=ES.o;have:=P4.lt;have:=S5.o;omega
    have ne2:G≠p:=by have:=G3.lt;have:=PS.o;omega
    have ne3:w.heap.size+1≠p:=by have:=Z3.lt;have:=PS.o;omega
    have p7:Blk w7 p 218 #[.pointer (some ⟨eg,0,none⟩)]:=by rw[hw7];exact AH.set_ 0 _
    have e7:Blk w7 eg 224 #[.int .i64 R.op,.int .i64 ro,.int .i64 21]:=by rw[hw7];exact AI.far (p:=⟨p,0,none⟩) ne1 _
    have g7:Blk w7 G 66 X.toArray:=by rw[hw7];exact AJ.far (p:=⟨p,0,none⟩) ne2 _
    have z7:Blk w7 (w.heap.size+1) 66 #[.int .i64 0,.int .i64 0,.int .u64 0,.bool false]:=by rw[hw7];exact AK.far (p:=⟨p,0,none⟩) ne3 _
    have b7:Below w.heap.size w w7:=by rw[hw7];exact AL.setCell (p:=⟨p,0,none⟩) pw _
    obtain⟨AX,AY,AZ,P7,E7,G7,Z7,B7⟩:=zh8 ne3 (show eg≠w.heap.size+1 by have:=ES.o;have:=A5.size;have:=S5.o;have:=Z4.lt;omega) (show G≠w.heap.size+1 by have:=GS.o;have:=Z1.lt;omega) p7 e7 g7 z7 b7;clear hw7 hW6 b66 AH AI AJ AK AL p7 e7 g7 z7 b7 ne1 ne2 ne3 pw HS9 F0 F1 F2 FQ FG;try simp only[Act.put,tA0,tA1,tA2]
    refine qbf ?_;go_upto_region 9 with(fail)
    obtain⟨S,HS9⟩:=zS fun w'=>Below w.heap.size w w'∧Blk w' p 218 #[.pointer (some ⟨eg,0,none⟩)]∧Blk w' eg 224 #[.int .i64 R.op,.int .i64 ro,.int .i64 21]∧Blk w' G 66 X.toArray
    refine zrs S 8 (zq 0 5 [(5,true),(6,false),(7,false)]) ((HS9.o _).mpr ⟨B7.drew,P7.o,E7.o,G7.o⟩) ?_;obtain⟨F0,F1,FG⟩:=zh3 (fun(w':World)(h:S w')=>(((HS9.o w').mp h).2.1.cell 0).trans (show (#[.pointer (some ⟨eg,0,none⟩)]:Array Value)[0]? =some (.pointer (some ⟨eg,0,none⟩)) from rfl)) (fun(w':World)(h:S w')=>(((HS9.o w').mp h).2.2.1.cell 2).trans (show (#[.int .i64 R.op,.int .i64 ro,.int .i64 21]:Array Value)[2]? =some (.int .i64 21) from rfl)) (fun(w':World)(h:S w')=>qap ((HS9.o w').mp h).2.2.2 0 X (fun j u h=>by simpa using h));refine qo9 rfl rfl 66 (.tmp 9) rfl G 0 rfl X _ FG.o Tryz.underlying66 rfl A0.o ?_;try simp only[Act.put,tA0,tA1,tA2]
    iterate 4 (refine zr2 ?_)
    obtain⟨W8,hW8⟩:=eqx w7.drew;have b8:Below w7.heap.size w7 W8:=by rw[hW8];exact(tA5 _ _).drew
    rw[←hW8];obtain⟨Z8,B8,P8,E8,G8⟩:=zh5 (Z7.below b8 Z7.lt) (B7.trans (b8.mono B7.size)) (P7.below b8 P7.lt) (E7.below b8 E7.lt) (G7.below b8 G7.lt);clear hW8 b8;refine zw ?_;refine wp_store_row 66 (.tmp 4) (.tmp 45) rfl (w.heap.size+1) X.toArray rfl rfl 66 _ Z8.o (by simpa using A0.o) (by simp[LX.o]) (by simpa using OX.o) ?_;have gp:=P8.grown (qam _ (w.heap.size+1) X.toArray) (by intro e;injection e with e;exact AX.o e.symm);have ge:=E8.grown (qam _ (w.heap.size+1) X.toArray) (by intro e;injection e with e;exact AY.o e);have gx:=G8.grown (qam _ (w.heap.size+1) X.toArray) (by intro e;injection e with e;exact AZ.o e);have A2:=qap (Z8.setRow X.toArray) 0 X (fun j u h=>by simpa using h);have B4:=zh1 A2;refine⟨fun _=>(HS9.o _).mpr ⟨below_setRow B8.o zo _,gp,ge,gx⟩,?_⟩;clear gp ge gx A2;try simp only[Act.put,tA0,tA1,tA2]
    iterate 2 (refine zrb ?_)
    refine qbf ?_;go_wp2_with fail
    refine bodyPost_ret (qhj rfl rfl (run_loadVar_mid _ _ 0 _ X _ B4.o Tryz.underlying66 rfl A0.o)) rfl ⟨y,0,?_,fun h=>?_,below_setRow B8.o zo _⟩
    · rw[A4.o,←A7.o]
      rfl
    rw[A4.o]at h;cases h
   |true=>
    obtain rfl:=hd1 hdec;have why:qmk c s R=if x.tok<qmj R.op R.leaf.length then 22 else 0:=by
     rw[A1.o,AG.o,A8.o,hdec,←A8.o,AV.o];rfl
    have A4:=zh1 why;clear hd1 hd2 hdec why;obtain⟨A6,Q6,G6,Z6⟩:=zh4 (A5.trans (B6.mono A5.size)) (Q4.below B6.o Q4.lt) (G4.below B6.o G4.lt) (Z4.below B6.o Z4.lt);have H6:=zh1 (H.call A6.o);have CT:=zh1 (qqf (m:Int) c s L col k g css w6 H6.o);have c3:w6.cell? ⟨L.tg,m*6+3,none⟩=some (.int .u32 (x.tok:Int)):=H6.st.tens.cell ((qnl HX.o zo).trans rfl);have C3:=zh1 c3;clear c3;refine(qu5 _ w6).mono ?_;rintro e w7 ⟨rfl,rfl⟩;clear HS9 F0 F1 F2 FQ FG;try simp only[Act.put,tA0,tA1,tA2]
    refine qbf ?_;obtain⟨ln,hln⟩:=xeq R.leaf.length;have kop:=(Q6.cell 0).trans AE.o;have k47:=(Q6.cell 47).trans AN.o;rw[hln]at k47 A4;have B9:=zh1 hln;clear hln;go_wp2_with fail
    refine(qq6 R.op (ln:Int) _).mono ?_;rintro e w8 ⟨rfl,rfl⟩;rw[qu7];obtain⟨K,hK⟩:=xeq (qmj R.op ln);rw[hK]at A4 ⊢;have BA:=zh1 hK;clear hK kop k47;have x0:=(G6.cell 0).trans X0.o;go_wp2_with fail
    refine CT.o.mono ?_;rintro e w9 ⟨rfl,rfl⟩;rw[if_pos ⟨by omega,by have:=HM.o;omega⟩,tBe];clear x0;have c3:=C3.o;have AM:=zh1 (qap G6.o 0 X (fun j u h=>by simpa using h));obtain⟨tk,htk⟩:=xeq x.tok;rw[htk]at c3 A4;clear htk;by_cases hlt:tk<K
    ·
     have ql:(tk:Int)<K:=zo;have A3:=zh1 (show qmk c s R=22 by rw[A4.o,if_pos hlt]);clear hlt;go_wp2_with (first
      |(refine zld (AM.o) zu66 A0.o ?_)
      |(refine zst (Z6.o) A0.o (by simp[LX.o]) OX.o ?_))
     have A2:=qap ((Z6.o).setRow X.toArray) 0 X (fun j u h=>by simpa using h);refine bodyPost_ret (qhj rfl rfl (run_loadVar_mid _ _ 0 _ X _ A2 Tryz.underlying66 rfl A0.o)) rfl ⟨y,0,?_,fun h=>?_,below_setRow (A6.o) zo _⟩
     · rw[A3.o,←A7.o]
       rfl
     rw[A3.o]at h;cases h
    have ql:¬(tk:Int)<K:=zo;have A3:=zh1 (show qmk c s R=0 by rw[A4.o,if_neg hlt]);clear hlt;go_wp2_with (first
     |(refine zld (AM.o) zu66 A0.o ?_)
     |(refine zst (Z6.o) A0.o (by simp[LX.o]) OX.o ?_))
    have A2:=qap (Z6.setRow X.toArray) 0 X (fun j u h=>by simpa using h);refine bodyPost_ret (qhj rfl rfl (run_loadVar_mid _ _ 0 _ X _ A2 Tryz.underlying66 rfl A0.o)) rfl ⟨y,K,?_,fun h=>⟨AU.o,by rw[←BA.o,B9.o]⟩,below_setRow A6.o zo _⟩;rw[A3.o,←A7.o];rfl
 have A1:=zh1 (qu9 (c:=c) (s:=s) (R:=R) (by rw[A9.o];exact h0));have qn:((en:Int)==0)=false:=by simp;omega
 obtain⟨y,hyz⟩:∃y:Gra,y=⟨0,0,0,false⟩:=⟨_,rfl⟩;obtain⟨X,hX⟩:=xeq (grav y);have lX:X.length=4:=by rw[←hX];rfl
 have oX:∀u∈X,u.oneCell'=true:=by
  rw[←hX];intro u hu;unfold grav at hu;simp only[List.mem_cons,List.not_mem_nil,or_false]at hu;rcases hu with rfl|rfl|rfl|rfl<;>rfl
 obtain⟨BT,A7,LX,OX⟩:=zh4 (show Tryz.prog.built 66 []=some X.toArray by rw[←hX,hyz];exact qtw) hX lX oX;have A0:=zh1 (zI 66 LX.o);clear hX lX oX h0 hyz;go_wp2_with (first
  |(refine qbj rfl ⟨.agg X.toArray,qgn 66 _ rfl _ _ BT.o (by simp[Act.eval]),?_⟩)
  |(refine zst Z1.o A0.o (by simp[LX.o]) OX.o ?_))
 have A2:=qap ((Z1.o).setRow X.toArray) 0 X (fun j u h=>by simpa using h);refine bodyPost_ret (qhj rfl rfl (run_loadVar_mid _ _ 0 _ X _ A2 Tryz.underlying66 rfl A0.o)) rfl ⟨y,0,?_,fun h=>?_,below_setRow (AA.o) zo _⟩
 · rw[A1.o,←A7.o]
   rfl
 rw[A1.o]at h;cases h
def Rsp.Shape (A:Rsp):Prop:=A.hd.Ok∧A.tok.2.2.length=32
theorem que (n:Nat):(rWhy n).Shape:=⟨Hd.zero_Ok,by simp[rWhy,qir,qgq]⟩
theorem quf (n:Nat):(qml n).Shape:=⟨Hd.zero_Ok,by simp[qml,qir,qgq]⟩
theorem qug (n:Nat)(bs:List Nat)(hs:List (List Nat)):({qir with n:=n,bytes:=bs,hashes:=hs}:Rsp).Shape:=⟨Hd.zero_Ok,by simp[qir,qgq]⟩
theorem quh {c:Cfg}{s:Sta}{R:Req}{t:Tre}(ho:t.hd.Ok):(qmo c s R t).Shape:=by
 unfold qmo;split
 · exact⟨ho,by simp[qir,qgq]⟩
 split
 · split
   · exact que _
   exact qug _ _ []
 split
 · split
   · exact que _
   exact qug _ [] _
 split
 · exact que _
 exact qug _ [] _
theorem qui {c:Cfg}{s:Sta}{R:Req}(hs:s.Ok):(qmw c s R).2.Shape:=by
 unfold qmw;split
 · unfold qmp
   repeat' split
   all_goals first|exact que _|exact quf _
 split
 · unfold qmt
   repeat' split
   all_goals first|exact que _|exact quf _|exact⟨Hd.zero_Ok,qjv _ _⟩
 split
 · unfold qmu
   repeat' split
   all_goals first|exact que _|exact quf _
 split
 · unfold qmv
   repeat' split
   all_goals first|exact que _|exact quf _
 split
 · exact que _
 rename_i t ht
 split
 · unfold qmn
   repeat' split
   all_goals first|exact que _|exact quf _
 split
 · unfold qmq
   split
   · exact que _
   exact quf _
 split
 · unfold qmr
   repeat' split
   all_goals first|exact que _|exact quf _
 split
 · unfold qms
   split
   · exact que _
   exact quf _
 exact quh (s:=s) (hs.tre (Sta.tree_some ht).2.1).hd
theorem RspV.row {W:World}{col:Col}{base base' G:Nat}{v:Value}{A:Rsp}{cs X:Array Value}(h:RspV W col base v A)(hz:Blk W G 57 cs)(hb:base'≤base):RspV (W.setRow G X) col base' v A:=by
 obtain⟨bv,hv,cav,e,h1,h2,h3,h4,h5,h6⟩:=h;exact⟨bv,hv,cav,e,qdb (tB3 h1 (qam _ G X) (.inr (qa3 h1 hz zdc))) hb,
  ⟨h2.1,qdb (tB3 h2.2 (qam _ G X) (.inr (qa3 h2.2 hz zdc))) hb⟩,
  qdb (tB3 h3 (qam _ G X) (.inr (qa3 h3 hz zdc))) hb,h4,h5,h6⟩
theorem Did.pre {w W w':World}{col col':Col}{k g:Nat}{c:Cfg}{css:List (List Value)}{s s':Sta}(hb:Below w.heap.size w W)(h:Did W col w' col' k g c css s s'):Did w col w' col' k g c css s s':=
 ⟨h.mdl,h.old,(Turns.of_below _ hb).trans h.turns⟩
theorem RspV.cells {W:World}{col:Col}{base:Nat}{v:Value}{A:Rsp}(h:RspV W col base v A)(hs:A.Shape):∃X:List Value,v=.agg X.toArray∧X.length=106∧∀u∈X,u.oneCell'=true:=by
 obtain⟨bv,hv,cav,e,h1,h2,h3,-⟩:=h;obtain⟨A1,n1,c1,rfl,-⟩:=h1.sl;obtain⟨A2,n2,c2,rfl,-⟩:=h2.sl;obtain⟨A3,n3,c3,rfl,-⟩:=h3.sl;exact⟨_,e,qpw _ _ _ _ (qnj hs.1) hs.2,qpx _ _ _ _ rfl rfl rfl⟩
theorem quj (a b c d:Value)(R M:List Value)(hR:R.length=32)(hM:M.length=32):Tryz.prog.built 57 [(4,.agg (a::b::c::d::(R++M)).toArray)]=some (Value.int .i64 0::.int .u64 0::.slice none 0 0::.slice none 0 0::((a::b::c::d::(R++M))++tokv qgq.1 (.slice none 0 0) qgq.2.2)).toArray:=by
 obtain⟨a0,a1,a2,a3,a4,a5,a6,a7,a8,a9,a10,a11,a12,a13,a14,a15,a16,a17,a18,a19,a20,a21,a22,a23,a24,a25,a26,a27,a28,a29,a30,a31,rfl⟩:=qgm R hR;obtain⟨b0,b1,b2,b3,b4,b5,b6,b7,b8,b9,b10,b11,b12,b13,b14,b15,b16,b17,b18,b19,b20,b21,b22,b23,b24,b25,b26,b27,b28,b29,b30,b31,rfl⟩:=qgm M hM;kernel_rfl
theorem quk {h:Hd}(ho:h.Ok):Tryz.prog.built 57 [(4,.agg (hdv h).toArray)]=some (qq9 {qir with hd:=h}).toArray:=
 quj _ _ _ _ (byv h.root) (byv h.tag) (by rw[qat,ho.rootl]) (by rw[qat,ho.tagl])
theorem qul (t:Tre)(a b d:Value)(j:Nat):(trev t a b d)[7+j]? =(hdv t.hd)[j]? :=by
 unfold trev;rw[show 7+j=j+1+1+1+1+1+1+1 by omega];simp only[tBc]
theorem qum {w W0 W5:World}{col col5:Col}{k g:Nat}{c:Cfg}{css:List (List Value)}{s s':Sta}{v5:Value}{a:Rsp}(d5:Did W0 col W5 col5 k g c css s s')(r5:RspV W5 col5 W0.heap.size v5 a)(hs:a.Shape)(z0:Blk W0 (w.heap.size+1) 57 Tryz.zeroCells57)(g0:col (w.heap.size+1)=0)(hk:Kind k)(b0:Below w.heap.size w W0):
 ∃X:List Value,v5=.agg X.toArray∧RspK X∧Hid (Blk W5 (w.heap.size+1) 57 Tryz.zeroCells57)∧Hid (RspV (W5.setRow (w.heap.size+1) X.toArray) col5 w.heap.size v5 a)∧Hid (Did w col (W5.setRow (w.heap.size+1) X.toArray) col5 k g c css s s'):=by
 obtain⟨X,rfl,lX,oX⟩:=r5.cells hs;have z5:Blk W5 (w.heap.size+1) 57 Tryz.zeroCells57:=(d5.turns.block _ z0.lt (by rw[g0];exact qr2 hk)).trans z0;have g5:col5 (w.heap.size+1)=0:=(d5.turns.same _ z0.lt).trans g0;exact⟨X,rfl,⟨lX,oX⟩,z5,r5.row (X:=X.toArray) z5 b0.size,(d5.pre b0).row0 hk X.toArray g5 zo⟩
theorem qun {f:FuncId}{args:Array Value}{w W0:World}{K:Ending→World→Prop}{A r:Rsp}{s s' s1:Sta}{col:Col}{k g:Nat}{c:Cfg}{css:List (List Value)}(HA:Hid (A=r))(HB:Hid (s'=s1))(HSH:Hid A.Shape)(HZ:Hid (Blk W0 (w.heap.size+1) 57 Tryz.zeroCells57))(HG:Hid (col (w.heap.size+1)=0))(HK:Hid (Kind k))(B0:Hid (Below w.heap.size w W0))
 (hc:Zc f args W0 fun e w'=>∃v col',e=.returned v∧RspV w' col' W0.heap.size v r∧Did W0 col w' col' k g c css s s1)
 (h:∀X W5 col5,Hid (Blk W5 (w.heap.size+1) 57 Tryz.zeroCells57)→RspK X→Hid (RspV (W5.setRow (w.heap.size+1) X.toArray) col5 w.heap.size (.agg X.toArray) A∧Did w col (W5.setRow (w.heap.size+1) X.toArray) col5 k g c css s s')→K (.returned (.agg X.toArray)) W5:=by
  (intro X W5 col5 Z5 pk RD
   go_wp2_with (refine qqj _ _ _ X Z5.o pk ?_)
   exact qqk (Z5.setRow X.toArray) pk ⟨_,col5,rfl,RD.o⟩)):Zc f args W0 K:=by
 refine hc.mono ?_;rintro e W5 ⟨v5,col5,rfl,r5,d5⟩;rw[←HA.o]at r5;rw[←HB.o]at d5;obtain⟨X,rfl,pk,Z5,R9,D9⟩:=qum d5 r5 HSH.o HZ.o HG.o HK.o B0.o;exact h X W5 col5 Z5 pk ⟨R9.o,D9.o⟩
theorem quo (c:Cfg)(s:Sta)(L:Loc)(col:Col)(k g:Nat)(css:List (List Value))(R:Req)(Ac:Option Addr)(cc:Nat)(Al:Option Addr)(cl:Nat)(w:World)(hk:Kind k)(hc:c.Ok)(hs:s.Ok)(h:Mdl w col k g c s L css)
 (hr:Asked w col R Ac cc Al cl)(hT:Tabs w)(he:(qit R).1=0):
 Zc 54 #[.pointer (some ⟨g,0,none⟩),.agg (reqv R (.slice Ac R.cavs.length cc) (.slice Al R.leaf.length cl)).toArray] w fun e w'=>∃v col',e=.returned v∧RspV w' col' w.heap.size v (qmw c s R).2∧Did w col w' col' k g c css s (qmw c s R).1:=by
 obtain⟨Q,hQ,rlen,rest,W0,hW0,q0,z0,b0⟩:=qr5 R Ac cc Al cl w hr.good.tag;rw[hQ];have hG0:=h.fin.none (b:=w.heap.size+1) zo;have D0:=Did.same (css:=css) h b0;obtain⟨H,A8,Q0,Z0,B0,A1,A9,HK⟩:=zh8 h hW0 q0 z0 b0 hG0 D0 hk;obtain⟨HS,HR,RL,AA,HQ⟩:=zh5 hs hr rlen rest hQ;clear h hW0 q0 z0 b0 hG0 D0 hk hs hr rlen rest hQ;obtain⟨HC,A5,AB,A2⟩:=zh4 hc (hT.below B0.o hT.size) he (qui (c:=c) (R:=R) HS.o);have hop:=qrj he;obtain⟨A3,A4⟩:=zh2 (qap Q0.o 0 Q (fun j u h=>by simpa using h)) (zI 34 RL.o);obtain⟨op,hop'⟩:=xeq R.op;rw[hop']at hop;have k0:=(Q0.cell 0).trans (show Q.toArray[0]? =some (.int .i64 op) by rw[tA3,←hop',←HQ.o];rfl);have k35:=(Q0.cell 35).trans (show Q.toArray[35]? =some (.int .i64 R.tree) by rw[tA3];exact AA.o 0);obtain⟨A6,A0,HW,AW⟩:=zh4 k35 hop' (H.call B0.o) (HR.call B0.o);clear hc hT he hop' k35;cases htr:s.tree R.tree with
 |none=>
  obtain⟨CT,AC⟩:=zh2 (qqg R.tree c s L col k g css W0 HS.o HW.o htr) htr;clear htr;have k0':=k0;rw[A8.o]at k0';go_enter Tryz.func54,Tryz.ntmps54
  go_upto_region 1 with(fail)
  rw[←A8.o];clear k0';have k35:=A6.o;go_wp2_with fail
  refine CT.o.mono ?_;rintro e w' ⟨rfl,rfl⟩;clear k35;have no:op≠6→op≠10→op≠11→op≠12→qmw c s R=(s,rWhy 23):=by
   intro h6 h10 h11 h12;unfold qmw;rw[A0.o,if_neg h6,if_neg h10,if_neg h11,if_neg h12,AC.o]
  have hcases:op=6∨op=10∨op=11∨op=12∨op=1∨op=2∨op=3∨op=4∨op=5∨op=7∨op=8∨op=9:=zo;clear hop;rcases hcases with rfl|rfl|rfl|rfl|hrest
  ·
   clear no;have hd:qmw c s R=qmp c s R:=by unfold qmw;rw[if_pos A0.o]
   obtain⟨HA,HB⟩:=zh2 (show (qmw c s R).2=(qmp c s R).2 by rw[hd]) (show (qmw c s R).1=(qmp c s R).1 by rw[hd]);have C1:=qtj c s L col k g css R Ac cc Al cl W0 HK.o HC.o HS.o HW.o AW.o A5.o (qrl (o:=35) (l:=[(1,1,35),(1,1,36),(1,1,39)]) AB.o (by rw[A0.o];rfl) zm).1;rw[HQ.o]at C1;have CL:=zh1 C1;clear hd C1;go_wp2_with (refine zld A3.o zu34 A4.o ?_)
   exact qun HA HB A2 Z0 A1 HK B0 (CL.o)
  ·
   clear no;have hd:qmw c s R=qmt c s R:=by unfold qmw;rw[if_neg (by rw[A0.o];decide),if_pos A0.o]
   obtain⟨HA,HB⟩:=zh2 (show (qmw c s R).2=(qmt c s R).2 by rw[hd]) (show (qmw c s R).1=(qmt c s R).1 by rw[hd]);have C1:=qtq c s L col k g css R Ac cc Al cl W0 HK.o HC.o HS.o HW.o AW.o A5.o;rw[HQ.o]at C1;have CL:=zh1 C1;clear hd C1;go_wp2_with fail
   refine zca (qdk 10 W0) ?_;rw[show qdi 10=false from rfl];go_wp2_with (refine zld A3.o zu34 A4.o ?_)
   exact qun HA HB A2 Z0 A1 HK B0 (CL.o)
  ·
   clear no;have hd:qmw c s R=qmu s R:=by unfold qmw;rw[if_neg (by rw[A0.o];decide),if_neg (by rw[A0.o];decide),if_pos A0.o]
   obtain⟨HA,HB⟩:=zh2 (show (qmw c s R).2=(qmu s R).2 by rw[hd]) (show (qmw c s R).1=(qmu s R).1 by rw[hd]);have C1:=qsv c s L col k g css R Ac cc Al cl W0 HK.o HS.o HW.o AW.o;rw[HQ.o]at C1;have CL:=zh1 C1;clear hd C1;go_wp2_with fail
   refine zca (qdk 11 W0) ?_;rw[show qdi 11=false from rfl];go_wp2_with (refine zld A3.o zu34 A4.o ?_)
   exact qun HA HB A2 Z0 A1 HK B0 (CL.o)
  ·
   clear no;have hd:qmw c s R=qmv s R:=by unfold qmw;rw[if_neg (by rw[A0.o];decide),if_neg (by rw[A0.o];decide),if_neg (by rw[A0.o];decide),if_pos A0.o]
   obtain⟨HA,HB⟩:=zh2 (show (qmw c s R).2=(qmv s R).2 by rw[hd]) (show (qmw c s R).1=(qmv s R).1 by rw[hd]);have C1:=qsx c s L col k g css R Ac cc Al cl W0 HK.o HS.o HW.o AW.o;rw[HQ.o]at C1;have CL:=zh1 C1;clear hd C1;go_wp2_with fail
   refine zca (qdk 12 W0) ?_;rw[show qdi 12=false from rfl];go_wp2_with (refine zld A3.o zu34 A4.o ?_)
   exact qun HA HB A2 Z0 A1 HK B0 (CL.o)
  have A7:=zh1 (no zo zo zo zo);have e6:(op==6)=false:=by simp;omega
  have ht:qdi op=true:=by unfold qdi;exact decide_eq_true zo
  have AG:=zh1 ht;clear no hrest ht;go_wp2_with fail
  refine zca (qdk op W0) ?_;rw[AG.o];go_wp2_with fail
  exact qr6 A7 HK (A1.o) (qqe 23 W0) (Z0.o) (A9.o)
 |some t=>
  obtain⟨hp,ht,h0,h4⟩:=Sta.tree_some htr;obtain⟨n,hn⟩:∃n:Nat,R.tree=n:=⟨R.tree.toNat,by omega⟩;rw[hn,tBe]at ht;obtain⟨CT,AC,HN,HT⟩:=zh4 (qqh n t c s L col k g css W0 HS.o HW.o ht h0 h4) htr hn ht;clear hp h0 h4;have k35:=A6.o;rw[hn]at k35;have A6:=zh1 k35;have k0':=k0;rw[A8.o]at k0';have hto:=HS.tre ht;obtain⟨-,Ad,cd,Al',cl',Aq,cq,-,hcell,-,-,-⟩:=HW.st.tree HS.o ht;obtain⟨HV,hHV⟩:=xeq (hdv t.hd);have AH:=zh1 (show W0.rangeAt L.rg (n*75+7) HV from fun j u hu=>by
   have h7:=hcell (7+j) u ((qul _ _ _ _ j).trans (by rw[hHV];exact hu));rw[←Nat.add_assoc]at h7;exact h7)
  have lHV:HV.length=68:=by rw[←hHV];exact qnj hto.hd
  obtain⟨AI,AJ,AE⟩:=zh3 (zI 55 lHV) hHV hto;clear htr hn ht k35 hto hcell hHV lHV;go_enter Tryz.func54,Tryz.ntmps54
  go_upto_region 1 with(fail)
  rw[←A8.o];clear k0';have k35:=A6.o;go_wp2_with fail
  refine CT.o.mono ?_;rintro e w' ⟨rfl,rfl⟩;clear k35;have yes:op≠6→op≠10→op≠11→op≠12→qmw c s R=(if op=1 then qmn c s R t else if op=7 then qmq c s R t else if op=8 then qmr s R else if op=9 then qms c s R t else(s,qmo c s R t)):=by
   intro h6 h10 h11 h12;unfold qmw;rw[A0.o,if_neg h6,if_neg h10,if_neg h11,if_neg h12,AC.o]
  have hcases:op=6∨op=10∨op=11∨op=12∨op=1∨op=2∨op=3∨op=4∨op=5∨op=7∨op=8∨op=9:=zo;clear hop;rcases hcases with rfl|rfl|rfl|rfl|rfl|rfl|rfl|rfl|rfl|rfl|rfl|rfl
  ·
   clear yes;have hd:qmw c s R=qmp c s R:=by unfold qmw;rw[if_pos A0.o]
   obtain⟨HA,HB⟩:=zh2 (show (qmw c s R).2=(qmp c s R).2 by rw[hd]) (show (qmw c s R).1=(qmp c s R).1 by rw[hd]);have C1:=qtj c s L col k g css R Ac cc Al cl W0 HK.o HC.o HS.o HW.o AW.o A5.o (qrl (o:=35) (l:=[(1,1,35),(1,1,36),(1,1,39)]) AB.o (by rw[A0.o];rfl) zm).1;rw[HQ.o]at C1;have CL:=zh1 C1;clear hd C1;go_wp2_with (refine zld A3.o zu34 A4.o ?_)
   exact qun HA HB A2 Z0 A1 HK B0 (CL.o)
  ·
   clear yes;have hd:qmw c s R=qmt c s R:=by unfold qmw;rw[if_neg (by rw[A0.o];decide),if_pos A0.o]
   obtain⟨HA,HB⟩:=zh2 (show (qmw c s R).2=(qmt c s R).2 by rw[hd]) (show (qmw c s R).1=(qmt c s R).1 by rw[hd]);have C1:=qtq c s L col k g css R Ac cc Al cl W0 HK.o HC.o HS.o HW.o AW.o A5.o;rw[HQ.o]at C1;have CL:=zh1 C1;clear hd C1;go_wp2_with fail
   refine zca (qdk 10 W0) ?_;rw[show qdi 10=false from rfl];go_wp2_with (refine zld A3.o zu34 A4.o ?_)
   exact qun HA HB A2 Z0 A1 HK B0 (CL.o)
  ·
   clear yes;have hd:qmw c s R=qmu s R:=by unfold qmw;rw[if_neg (by rw[A0.o];decide),if_neg (by rw[A0.o];decide),if_pos A0.o]
   obtain⟨HA,HB⟩:=zh2 (show (qmw c s R).2=(qmu s R).2 by rw[hd]) (show (qmw c s R).1=(qmu s R).1 by rw[hd]);have C1:=qsv c s L col k g css R Ac cc Al cl W0 HK.o HS.o HW.o AW.o;rw[HQ.o]at C1;have CL:=zh1 C1;clear hd C1;go_wp2_with fail
   refine zca (qdk 11 W0) ?_;rw[show qdi 11=false from rfl];go_wp2_with (refine zld A3.o zu34 A4.o ?_)
   exact qun HA HB A2 Z0 A1 HK B0 (CL.o)
  ·
   clear yes;have hd:qmw c s R=qmv s R:=by unfold qmw;rw[if_neg (by rw[A0.o];decide),if_neg (by rw[A0.o];decide),if_neg (by rw[A0.o];decide),if_pos A0.o]
   obtain⟨HA,HB⟩:=zh2 (show (qmw c s R).2=(qmv s R).2 by rw[hd]) (show (qmw c s R).1=(qmv s R).1 by rw[hd]);have C1:=qsx c s L col k g css R Ac cc Al cl W0 HK.o HS.o HW.o AW.o;rw[HQ.o]at C1;have CL:=zh1 C1;clear hd C1;go_wp2_with fail
   refine zca (qdk 12 W0) ?_;rw[show qdi 12=false from rfl];go_wp2_with (refine zld A3.o zu34 A4.o ?_)
   exact qun HA HB A2 Z0 A1 HK B0 (CL.o)
  ·
   have hd:qmw c s R=qmn c s R t:=by rw[yes zdc zdc zdc zdc];rfl
   obtain⟨HA,HB⟩:=zh2 (show (qmw c s R).2=(qmn c s R t).2 by rw[hd]) (show (qmw c s R).1=(qmn c s R t).1 by rw[hd]);have C1:=qsu c s L col k g css n t R Ac cc Al cl W0 HK.o HC.o HS.o HW.o AW.o HN.o HT.o (qrk AB.o A0.o);rw[HQ.o]at C1;have CL:=zh1 C1;clear hd C1 yes;go_wp2_with fail
   refine zca (qdk 1 W0) ?_;rw[show qdi 1=true from rfl];go_wp2_with (refine zld A3.o zu34 A4.o ?_)
   exact qun HA HB A2 Z0 A1 HK B0 (CL.o)
  ·
   have hd:qmw c s R=(s,{qir with hd:=t.hd}):=by
    rw[yes zdc zdc zdc zdc];show (s,qmo c s R t)=_;unfold qmo;rw[if_pos A0.o]
   have A7:=zh1 hd;clear hd yes;go_wp2_with fail
   refine zca (qdk 2 W0) ?_;rw[show qdi 2=true from rfl];obtain⟨X,hX⟩:=xeq (qq9 {qir with hd:=t.hd});have lX:X.length=106:=by rw[←hX];exact qqa _ AE.hd (by simp[qir,qgq])
   have oX:∀u∈X,u.oneCell'=true:=by rw[←hX];exact qqb _
   have bT:Tryz.prog.built 57 [(4,.agg HV.toArray)]=some X.toArray:=by rw[←hX,←AJ.o];exact quk AE.hd
   obtain⟨HX,LX,OX,BT,AF,AD⟩:=zh6 hX lX oX bT (zI 57 lX) qqc;clear hX lX oX bT;go_wp2_with (first
    |(refine zld AH.o zu55 AI.o ?_)
    |(refine qbj rfl ⟨.agg X.toArray,qgn 57 _ rfl _ _ BT.o (by simp[Act.eval,Act.put]),?_⟩)
    |(refine zst Z0.o AF.o (by simp[LX.o,AD.o]) OX.o ?_))
   have AK:=qap (Z0.setRow X.toArray) 0 X (fun j u h=>by simpa using h);exact zrt AK zu57 AF.o ⟨_,col,rfl,(by rw[A7.o,←HX.o];exact RspV.plain _ _ _ _ rfl rfl rfl),(by rw[A7.o];exact A9.row0 HK.o X.toArray A1.o zo)⟩
  ·
   have hd:qmw c s R=(s,qmo c s R t):=by rw[yes zdc zdc zdc zdc];rfl
   obtain⟨HA,HB⟩:=zh2 (show (qmw c s R).2=((s,qmo c s R t)).2 by rw[hd]) (show (qmw c s R).1=((s,qmo c s R t)).1 by rw[hd]);have C1:=qtg c s L col k g css n t R Ac cc Al cl W0 HK.o HS.o HW.o AW.o HT.o A5.o (.inl A0.o);rw[HQ.o]at C1;have CL:=zh1 C1;clear hd C1 yes;go_wp2_with fail
   refine zca (qdk 3 W0) ?_;rw[show qdi 3=true from rfl];go_wp2_with (refine zld A3.o zu34 A4.o ?_)
   exact qun HA HB A2 Z0 A1 HK B0 (CL.o)
  ·
   have hd:qmw c s R=(s,qmo c s R t):=by rw[yes zdc zdc zdc zdc];rfl
   obtain⟨HA,HB⟩:=zh2 (show (qmw c s R).2=((s,qmo c s R t)).2 by rw[hd]) (show (qmw c s R).1=((s,qmo c s R t)).1 by rw[hd]);have C1:=qtg c s L col k g css n t R Ac cc Al cl W0 HK.o HS.o HW.o AW.o HT.o A5.o (.inr (.inl A0.o));rw[HQ.o]at C1;have CL:=zh1 C1;clear hd C1 yes;go_wp2_with fail
   refine zca (qdk 4 W0) ?_;rw[show qdi 4=true from rfl];go_wp2_with (refine zld A3.o zu34 A4.o ?_)
   exact qun HA HB A2 Z0 A1 HK B0 (CL.o)
  ·
   have hd:qmw c s R=(s,qmo c s R t):=by rw[yes zdc zdc zdc zdc];rfl
   obtain⟨HA,HB⟩:=zh2 (show (qmw c s R).2=((s,qmo c s R t)).2 by rw[hd]) (show (qmw c s R).1=((s,qmo c s R t)).1 by rw[hd]);have C1:=qtg c s L col k g css n t R Ac cc Al cl W0 HK.o HS.o HW.o AW.o HT.o A5.o (.inr (.inr A0.o));rw[HQ.o]at C1;have CL:=zh1 C1;clear hd C1 yes;go_wp2_with fail
   refine zca (qdk 5 W0) ?_;rw[show qdi 5=true from rfl];go_wp2_with (refine zld A3.o zu34 A4.o ?_)
   exact qun HA HB A2 Z0 A1 HK B0 (CL.o)
  ·
   by_cases hn0:n=0
   ·
    subst hn0;have hd:qmw c s R=(s,rWhy 24):=by
     rw[yes zdc zdc zdc zdc];show qmq c s R t=_;unfold qmq;rw[if_pos (.inl HN.o)]
    have A7:=zh1 hd;clear hd yes;go_wp2_with fail
    refine zca (qdk 7 W0) ?_;rw[show qdi 7=true from rfl];have k35:=A6.o;go_wp2_with fail
    exact qr6 A7 HK (A1.o) (qqe 24 W0) (Z0.o) (A9.o)
   have qn:((n:Int)==0)=false:=by simp;omega
   have hd:qmw c s R=qmq c s R t:=by rw[yes zdc zdc zdc zdc];rfl
   obtain⟨HA,HB⟩:=zh2 (show (qmw c s R).2=(qmq c s R t).2 by rw[hd]) (show (qmw c s R).1=(qmq c s R t).1 by rw[hd]);have C1:=qtu c s L col k g css n t R Ac cc Al cl W0 HK.o HS.o HW.o AW.o HT.o HN.o hn0 A0.o;rw[HQ.o]at C1;have CL:=zh1 C1;clear hd C1 yes hn0;go_wp2_with fail
   refine zca (qdk 7 W0) ?_;rw[show qdi 7=true from rfl];have k35:=A6.o;go_wp2_with (refine zld A3.o zu34 A4.o ?_)
   exact qun HA HB A2 Z0 A1 HK B0 (CL.o)
  ·
   by_cases hn0:n=0
   ·
    subst hn0;have hd:qmw c s R=(s,rWhy 24):=by
     rw[yes zdc zdc zdc zdc];show qmr s R=_;unfold qmr;rw[if_pos (c:=R.tree=0) HN.o]
    have A7:=zh1 hd;clear hd yes;go_wp2_with fail
    refine zca (qdk 8 W0) ?_;rw[show qdi 8=true from rfl];have k35:=A6.o;go_wp2_with fail
    exact qr6 A7 HK (A1.o) (qqe 24 W0) (Z0.o) (A9.o)
   have qn:((n:Int)==0)=false:=by simp;omega
   have hd:qmw c s R=qmr s R:=by rw[yes zdc zdc zdc zdc];rfl
   obtain⟨HA,HB⟩:=zh2 (show (qmw c s R).2=(qmr s R).2 by rw[hd]) (show (qmw c s R).1=(qmr s R).1 by rw[hd]);have C1:=qtr c s L col k g css n t R Ac cc Al cl W0 HK.o HS.o HW.o AW.o HT.o HN.o hn0 A0.o;rw[HQ.o]at C1;have CL:=zh1 C1;clear hd C1 yes hn0;go_wp2_with fail
   refine zca (qdk 8 W0) ?_;rw[show qdi 8=true from rfl];have k35:=A6.o;go_wp2_with (refine zld A3.o zu34 A4.o ?_)
   exact qun HA HB A2 Z0 A1 HK B0 (CL.o)
  have hd:qmw c s R=qms c s R t:=by rw[yes zdc zdc zdc zdc];rfl
  obtain⟨HA,HB⟩:=zh2 (show (qmw c s R).2=(qms c s R t).2 by rw[hd]) (show (qmw c s R).1=(qms c s R t).1 by rw[hd]);have C1:=qts c s L col k g css n t R Ac cc Al cl W0 HK.o HC.o HS.o HW.o AW.o A5.o HT.o HN.o A0.o;rw[HQ.o]at C1;have CL:=zh1 C1;clear hd C1 yes;go_wp2_with fail
  refine zca (qdk 9 W0) ?_;rw[show qdi 9=true from rfl];go_wp2_with (refine zld A3.o zu34 A4.o ?_)
  exact qun HA HB A2 Z0 A1 HK B0 (CL.o)
def qup (c:Cfg)(s:Sta):Nat:=if 1024≤(s.tres[0]?.getD Tre.zero).leaves.length then 4 else if c.store<stored s+64 then 26 else 0
theorem quq (c:Cfg)(s s1:Sta)(L L1:Loc)(col:Col)(g:Nat)(css css1:List (List Value))(w:World)(hc:c.Ok)(hs:s.Ok)(h:Mdl w col 6 g c s1 L1 css1)(hst:StAt 92 74 66 w col 2 L css s):
 Zc 56 #[.pointer (some ⟨g,0,none⟩),.agg (stav s L).toArray] w fun e w'=>e=.returned (.int .i64 ((qup c s:Nat):Int))∧Below w.heap.size w w':=by
 show Zc 56 #[.pointer (some ⟨g,0,none⟩),.agg #[.int .u64 (s.clock:Int),.int .u32 (s.draw:Int),.int .i64 s.lane,.slice (some ⟨L.tg,0,none⟩) 16 L.tc,.slice (some ⟨L.rg,0,none⟩) 16 L.rc,.slice (some ⟨L.gg,0,none⟩) s.gras.length L.gc]] w _;obtain⟨t,ht,-,-⟩:=hs.first;obtain⟨-,Ad,cd,Al,cl,Aq,cq,-,hcell,-,-,-⟩:=hst.tree hs ht;have hto:=hs.tre ht;obtain⟨nl,hnl⟩:=xeq t.leaves.length;have e5:=hcell 5 (.slice Al t.leaves.length cl) rfl;rw[hnl]at e5;rw[show 0*75+5=5 from rfl]at e5;have nb:nl≤1024:=by have:=hto.leaves;omega
 have hsb:stored s≤16*851968:=by rw[←qqs s hs];exact qqr hs.tres 16
 have hfw:qup c s=if 1024≤nl then 4 else if c.store<stored s+64 then 26 else 0:=by
  unfold qup;rw[ht,Option.getD_some,hnl]
 rw[hfw];have CS:=zh1 (fun(w':World)(hb:Below w.heap.size w w')=>qqt s L col 2 css w' hs (hst.keep ((Turns.of_below (fun _=>false) hb).keeps rfl) ((Turns.of_below (fun _=>false) hb).keeps rfl) ((Turns.of_below (fun _=>false) hb).keeps rfl) fun i _=>(Turns.of_below (fun _=>false) hb).keeps rfl));obtain⟨st,hstd⟩:=xeq (stored s);rw[hstd]at CS hsb ⊢;have csb:c.store≤32768:=hc.store;obtain⟨cst,hcst⟩:=xeq c.store;have c2:=h.c2;rw[hcst]at c2 csb ⊢;obtain⟨E5,C2⟩:=zh2 e5 c2;clear hcell ht hto hnl e5 hfw hstd hcst c2 h hst hc hs;obtain⟨W0,hW0⟩:=eqx (w.alloc (.cells #[.int .u64 (s.clock:Int),.int .u32 (s.draw:Int),.int .i64 s.lane,.slice (some ⟨L.tg,0,none⟩) 16 L.tc,.slice (some ⟨L.rg,0,none⟩) 16 L.rc,.slice (some ⟨L.gg,0,none⟩) s.gras.length L.gc] 49));have B0:=zh1 (show Below w.heap.size w W0 by rw[hW0];exact qah (tA5 _ _) _);have z0:Blk W0 w.heap.size 49 #[.int .u64 (s.clock:Int),.int .u32 (s.draw:Int),.int .i64 s.lane,.slice (some ⟨L.tg,0,none⟩) 16 L.tc,.slice (some ⟨L.rg,0,none⟩) 16 L.rc,.slice (some ⟨L.gg,0,none⟩) s.gras.length L.gc]:=by rw[hW0];exact Blk.new _ _ _
 have Z0:=zh1 z0;have e5:=qai E5.o B0.o;rw[hW0]at e5;clear z0;obtain⟨fw,hfw⟩:∃n:Nat,(if 1024≤nl then 4 else if cst<st+64 then 26 else 0)=n:=⟨_,rfl⟩;rw[hfw];have A0:=zh1 hfw;clear hfw;go_enter Tryz.func56,Tryz.ntmps56
 by_cases hl:1024≤nl
 ·
  have ql:(1024:Int)≤nl:=zo;have HF:=zh1 (show fw=4 by rw[←A0.o,if_pos hl]);clear hl;go_wp2
  go_ret
  exact⟨by rw[HF.o];rfl,by rw[←hW0];exact B0.o⟩
 have ql:¬(1024:Int)≤nl:=zo;have A1:=zh1 hl;clear hl;go_upto_region 3 with(fail)
 rw[←hW0];clear e5 hW0;obtain⟨S,HS9⟩:=zS fun w'=>Below W0.heap.size W0 w'
 refine zrs S 11 ((0,false)::zq 3 6 [(1,true),(2,true),(9,false),(10,false)]) ((HS9.o _).mpr ((tA5 _ _).drew)) ?_;obtain⟨F2,FS,SI⟩:=zh3 (zF HS9 (qai C2.o B0.o)) (fun(w':World)(h:S w')=>qap (Z0.below ((HS9.o w').mp h) Z0.lt) 0 (stav s L) (fun j u hu=>by simpa [stav] using hu)) (show (Tryz.prog.info? 49).map (·.size)=some 6 by kernel_rfl);refine qo9 rfl rfl 49 (.tmp 3) rfl w.heap.size 0 rfl (stav s L) _ FS.o Tryz.underlying49 rfl SI.o ?_;try simp only[Act.put,tA0,tA1,tA2]
 have w1:IntKind.u64.wrap (cst:Int)=(cst:Int):=tBa _ zo;iterate 6 (refine zre rfl rfl (fun w1 hS=>by have g2:=F2.o w1 hS;clear hS;go_simp;try rfl) ?_)
 obtain⟨Wd,hWd,BD⟩:=zdr W0;rw[←hWd];clear hWd;refine zw ?_;go_simp;refine zcb (CS.o Wd (B0.trans (BD.mono B0.size))) fun w1 b1=>?_
 have B1:=zh1 (BD.trans (b1.mono BD.size));clear b1;refine⟨(HS9.o _).mpr B1.o,zput ?_⟩;refine zw ?_;go_simp;refine(qpz (st:Int) 64 w1 zo zo zo zo).mono ?_;rintro e w2 ⟨rfl,rfl⟩;rw[show sumI (st:Int) 64=((st+64:Nat):Int) by unfold sumI;rw[if_neg zo];omega];refine⟨(HS9.o _).mpr B1.o,zput ?_⟩;by_cases hf:cst<st+64
 ·
  have qf:(cst:Int)<((st+64:Nat):Int):=zo;have qf2:(cst:Int)<(st:Int)+64:=zo;have HF:=zh1 (show fw=26 by rw[←A0.o,if_neg A1.o,if_pos hf]);clear hf;iterate 2 (refine zrb ?_)
  refine qbf ?_;clear HS9 F2 FS;go_wp2
  go_ret
  exact⟨by rw[HF.o];rfl,B0.trans (B1.mono B0.size)⟩
 have qf:¬(cst:Int)<((st+64:Nat):Int):=zo;have qf2:¬(cst:Int)<(st:Int)+64:=zo;have HF:=zh1 (show fw=0 by rw[←A0.o,if_neg A1.o,if_neg hf]);clear hf;iterate 2 (refine zrb ?_)
 refine qbf ?_;clear HS9 F2 FS;go_wp2
 go_ret
 exact⟨by rw[HF.o];rfl,B0.trans (B1.mono B0.size)⟩
end Go.Proofs.YthomgopipiomhaaGreatDoor

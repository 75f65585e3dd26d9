/- Lemmas. -/
import Derived.Test.YthomgopipiomhaaGreatDoorBMA12
namespace Go.Proofs.YthomgopipiomhaaGreatDoor
open Go.RowKit
set_option linter.unusedVariables false
set_option linter.unusedSimpArgs false
set_option maxRecDepth 100000
set_option maxHeartbeats 32000000
theorem Mdl.leafAdd {w w':World}{col col':Col}{k g:Nat}{c:Cfg}{s:Sta}{L:Loc}{css:List (List Value)}(h:Mdl w col k g c s L css)(hk:Kind k)(hs:s.Ok){n:Nat}{t:Tre}(ht:s.tres[n]? =some t){vd vl vq:Value}(hcs:css[n]? =some (trev t vd vl vq)){vs:List Value}(hlen:vs.length=t.leaves.length)
 (htx:∀(i:Nat) (bs:List Nat),t.leaves[i]? =some bs→∃u,vs[i]? =some u∧TextC w col u bs){u v':Value}{bs:List Nat}(hu:TextC w col u bs)(ha:AppendedC w col w' col' (11+3*n) vl v' 23 1 t.leaves.length 1 vs [u]):
 Mdl (w'.setCell ⟨L.rg,n*75+5,none⟩ v') col' k g c (s.setT n fun t=>{t with leaves:=t.leaves++[bs]}) L (css.modify n fun x=>x.set 5 v')∧TrsAt (w'.setCell ⟨L.rg,n*75+5,none⟩ v') col' css s.tres∧Turns (inP k) w col (w'.setCell ⟨L.rg,n*75+5,none⟩ v') col':=by
 obtain⟨r1,r2,r3⟩:=h.rows ht hcs;have kp:∀i,i≠11+3*n→KeepsCol i w col w' col':=fun i hi=>ha.turns.keeps (by simpa using hi)
 obtain⟨t1,t2⟩:=qr9 ha hlen htx hu (kp 5 zo);exact h.treRow hk hs ht hcs (.inr (.inl rfl)) ha.turns (ha.fin h.fin) _ v' zo
  ⟨vd,vl,vq,rfl,r1.keep (kp _ zo),t1,r3.keep (kp _ zo) (kp 5 zo)⟩
  ⟨vd,v',vq,rfl,r1.keep (kp _ zo),t2,r3.keep (kp _ zo) (kp 5 zo)⟩
theorem qur (c:Cfg)(s:Sta)(L:Loc)(col:Col)(k g:Nat)(css:List (List Value))(R:Req)(Ac:Option Addr)(cc:Nat)(Al:Option Addr)(cl:Nat)(w:World)(hk:Kind k)(hc:c.Ok)(hs:s.Ok)(h:Mdl w col k g c s L css)
 (hr:Asked w col R Ac cc Al cl)(hT:Tabs w)(ha:ql4 R.op=true)(hl:∀t,s.tres[0]? =some t→t.leaves.length<1024):
 Zc 57 #[.pointer (some ⟨g,0,none⟩),.agg (reqv R (.slice Ac R.cavs.length cc) (.slice Al R.leaf.length cl)).toArray] w fun e w'=>∃col',e=.returned (.tuple #[])∧Did w col w' col' k g c css s ((s.setT 0 fun t=>{t with leaves:=t.leaves++[qmx s R]}).pub c 0):=by
 have rlen:=qiu R (.slice Ac R.cavs.length cc) (.slice Al R.leaf.length cl) hr.good.tag;have rtok:=qiv R (.slice Ac R.cavs.length cc) (.slice Al R.leaf.length cl);obtain⟨Q,hQ⟩:=xeq (reqv R (.slice Ac R.cavs.length cc) (.slice Al R.leaf.length cl));have CB:=fun(w':World)(hb:Below w.heap.size w w')=>qi9 R (.slice Ac R.cavs.length cc) Al cl w' hr.good.fit (hr.leaf.call hb) hr.leafc hr.leafm
 rw[hQ]at rlen rtok CB ⊢;obtain⟨t,ht,hst,hq0⟩:=hs.first;obtain⟨-,Ad,cd,Al',cl',Aq,cq,hcs,hcell,-,-,-⟩:=h.st.tree hs ht;have hto:=hs.tre ht;have hl0:=hl t ht;obtain⟨W0,hW0⟩:=eqx (w.alloc (.cells Q.toArray 34));have q0:Blk W0 w.heap.size 34 Q.toArray:=by rw[hW0];exact Blk.new w _ _
 have b0:Below w.heap.size w W0:=by rw[hW0];exact qah (tA5 _ _) _
 obtain⟨ti,hti⟩:=xeq R.tid;have tb:ti<4294967296:=by rw[←hti];exact hr.good.tid
 have k1:Q.toArray[1]? =some (.int .u32 (ti:Int)):=by rw[tA3,←hti];exact rtok 0 _ rfl
 obtain⟨clk,hclk⟩:=xeq s.clock;have cb:clk<18446744073709551616:=by rw[←hclk];exact hs.clock
 have c4:=h.c4;rw[hclk]at c4;have hnd:qmx s R=be clk 8++(be ti 4++(qhz R).2):=by unfold qmx;rw[hclk,hti]
 have hlo:=qrf s R hr.good ha;have bl:=qre R ha;rw[hnd]at hlo ⊢;obtain⟨bd,hbd⟩:=xeq ((qhz R).2);rw[hbd]at hlo bl CB ⊢;obtain⟨nl,hnl⟩:=xeq t.leaves.length;have e5:=hcell 5 (.slice Al' t.leaves.length cl') rfl;rw[hnl,show 0*75+5=5 from rfl]at e5;rw[hnl]at hl0;obtain⟨H,A4,A5,HK,HC,HS,HR,TT⟩:=zh8 h q0 b0 hk hc hs hr hT;obtain⟨RL,K1,C4,AH,HT,AI,AJ,A1⟩:=zh8 rlen k1 c4 CB ht hto hcs hnl;obtain⟨E5,AK,AL,AM,AN,A2,AO⟩:=zh7 e5 hlo bl hst hq0 (show w.heap.size<W0.heap.size by rw[hW0];simp) (zI 34 rlen);clear h q0 b0 hk hc hs hr hT rlen rtok k1 c4 CB ht hto hcs hcell hnl e5 hlo bl hst hq0 hQ hti hclk hnd hbd ha hl;go_enter Tryz.func57,Tryz.ntmps57
 go_wp2_with fail
 rw[←hW0];refine(qcz W0).mono ?_;rintro e w1 ⟨rfl,h1,b1⟩;obtain⟨hww1,Zw1,Bw1⟩:=zh3 h1 (A4.below b1 A4.lt) (A5.trans (b1.mono A5.size));clear h1 b1 hW0;have c4:=qai C4.o Bw1.o;go_wp2_with fail
 refine(qcy _ _ (clk) 8 _ w1 hww1.o zo (by simp only[tA6,qaw,List.length_nil,qod,qoe,qof];omega)).mono ?_;rintro e w2 ⟨rfl,hw2,bw2,-⟩;simp only[qod,qoe,qof]at hw2;obtain⟨hww2,Zw2,Bw2⟩:=zh3 hw2 (Zw1.below bw2 (by first|exact A2.o|omega)) (Bw1.trans (bw2.mono (by first|exact Nat.le_of_lt A2.o|omega)));clear hw2 bw2;clear c4;have k1:=(Zw2.cell 1).trans K1.o;have u1:IntKind.u64.wrap (ti:Int)=(ti:Int):=tBa _ zo;go_wp2_with fail
 refine(qcy _ _ (ti) 4 _ w2 hww2.o zo (by simp only[tA6,qaw,List.length_nil,qod,qoe,qof];omega)).mono ?_;rintro e w3 ⟨rfl,hw3,bw3,-⟩;simp only[qod,qoe,qof]at hw3;obtain⟨hww3,Zw3,Bw3⟩:=zh3 hw3 (Zw2.below bw3 (by first|exact A2.o|omega)) (Bw2.trans (bw3.mono (by first|exact Nat.le_of_lt A2.o|omega)));clear hw3 bw3;clear k1 u1;have AP:=zh1 (qap Zw3.o 0 Q (fun j u h=>by simpa using h));go_wp2_with (refine zld AP.o zu34 AO.o ?_)
 refine(AH.o w3 Bw3.o).mono ?_;rintro e w4 ⟨vb,rfl,ob,b4⟩;obtain⟨Ab,nb,cb,rfl,-,-,rb⟩:=OwnB.sl ob;obtain⟨hww4,Bw4,RB⟩:=zh3 (hww3.kept_call b4) (Bw3.trans (b4.mono Bw3.size)) rb;clear b4 rb ob;have c8:=qai H.c8 Bw4.o;go_upto_region 6 with(fail)
 clear c8;have AQ:=zh1 (qai E5.o Bw4.o);obtain⟨S,HS9⟩:=zS fun w'=>w'.cell? ⟨L.rg,5,none⟩=some (.slice Al' nl cl')
 refine zrs S 14 (zq 0 6 [(7,false),(6,true),(8,true),(9,true),(10,true),(11,true),(12,false),(13,false),(14,true)]) ((HS9.o _).mpr (AQ.o)) ?_;have F0:=zh1 (fun(w':World)(h:S w')=>(HS9.o w').mp h);iterate 7 (refine zr1 ?_)
 obtain⟨Wd,hWd,BD⟩:=zdr w4;rw[←hWd];clear hWd;have Bwd:=zh1 (Bw4.trans (BD.mono Bw4.size));refine zw ?_;go_simp;refine(qd1 _ _ _ Wd (hww4.kept_call BD.o) (by simp only[tA6,qaw,List.length_nil];omega)).mono ?_;rintro e w6 ⟨v6,rfl,o6,b6⟩;replace o6:OwnB w6 Wd.heap.size v6 (be clk 8++be ti 4):=OwnB.cast (OwnB.of o6) (by simp only[List.nil_append]);obtain⟨A6,n6,c6,rfl,-,-,r6⟩:=o6.sl;have l6:=qb4 r6;obtain⟨Bw6,R6,L6,A7⟩:=zh4 (Bwd.trans (b6.mono Bwd.size)) r6 l6 ((RB.call BD.o).call b6);clear o6 b6 r6 l6;refine⟨(HS9.o _).mpr (qai E5.o Bw6.o),zput ?_⟩;refine zw ?_;go_simp;obtain⟨w7,hw7⟩:=eqx (w6.alloc (.cells #[.slice A6 n6 c6,.slice Ab nb cb] 23));rw[←hw7];have b67:Below w6.heap.size w6 w7:=by rw[hw7];exact qah (tA5 _ _) _
 have x0:w7.cell? ⟨w6.heap.size,0,none⟩=some (.slice A6 n6 c6):=by rw[hw7];exact(qak w6 _ _ 0).trans rfl
 have x1:w7.cell? ⟨w6.heap.size,1,none⟩=some (.slice Ab nb cb):=by rw[hw7];exact(qak w6 _ _ 1).trans rfl
 have lb:=qb4 A7.o;have J:=qjb w6.heap.size n6 c6 nb cb _ _ (be clk 8++be ti 4) bd w7 x0 x1 (R6.call b67) (A7.call b67) (by have h1:=L6.o;have h2:=AL.o;simp only[tA6,qaw]at h1;omega);obtain⟨HJ,Bw7⟩:=zh2 J (Bw6.trans (b67.mono Bw6.size));clear J x0 x1 b67 hw7 lb;refine⟨(HS9.o _).mpr (qai E5.o Bw7.o),zput ?_⟩;refine zw ?_;go_simp;refine HJ.o.mono ?_;rintro e w8 ⟨v8,rfl,o8,b8⟩;replace o8:OwnB w8 w7.heap.size v8 (be clk 8++(be ti 4++bd)):=OwnB.cast o8 (by simp only[List.append_assoc]);have Bw8:=zh1 (Bw7.trans (b8.mono Bw7.size));have M8:=H.call Bw8.o;obtain⟨A8,n8,c8,rfl,-,-,-⟩:=o8.sl;obtain⟨col1,hc1,tx1,fin1⟩:=qra (w:=w7) (col:=col) o8 (tA4 _) b8.size (H.fin.mono Bw7.size);have T1:Turns (fun _=>false) w7 col w8 col1:=(Turns.of_below _ b8).recolour hc1;obtain⟨AR,AS,AT⟩:=zh3 tx1 fin1 ((Turns.of_below (fun _=>false) Bw7.o).trans T1);clear tx1 fin1 T1 o8 hc1 M8 b8;refine⟨(HS9.o _).mpr (qai E5.o Bw8.o),zput ?_⟩;refine zw ?_;go_simp;obtain⟨wB,hwB⟩:=eqx (w8.alloc (.cells #[.slice A8 n8 c8] 23));rw[←hwB];have bB:Below w8.heap.size w8 wB:=by rw[hwB];exact qah (tA5 _ _) _
 have blB:Blk wB w8.heap.size 23 #[.slice A8 n8 c8]:=by rw[hwB];exact Blk.new w8 _ _
 have TB:=AT.trans (Turns.of_below (fun _=>false) bB);obtain⟨BB,AA,A3,BwB⟩:=zh4 bB blB TB (Bw8.trans (bB.mono Bw8.size));clear hwB bB blB TB;refine⟨(HS9.o _).mpr (qai E5.o BwB.o),zput ?_⟩;have MB:=H.keep A3.o rfl rfl (by have:=HK.o;rcases this with rfl|rfl<;>rfl) (by have:=HK.o;rcases this with rfl|rfl<;>rfl) (by have:=HK.o;rcases this with rfl|rfl<;>rfl) (fun _ _=>rfl) (AS.mono BB.size);have A0:css[0]? =some (trev t (.slice Ad t.draws.length cd) (.slice Al' nl cl') (.slice Aq t.queue.length cq)):=by rw[AJ.o,A1.o]
 obtain⟨vs,hrow,htx⟩:=(MB.rows HT.o A0).2.1;rw[A1.o]at hrow;have hvl:vs.length=t.leaves.length:=by have:=hrow.1;have:=A1.o;omega
 obtain⟨i0,hi0,hz0,hz1,hz2⟩:=info_parts Tryz.madd_info;have hr1:Reads wB wB.heap.size 1 (some ⟨w8.heap.size,0,none⟩) 1 [.slice A8 n8 c8]:=⟨rfl,fun _=>⟨_,rfl,AA.lt,fun j u hu=>by rw[Addr.add_mid,AA.cell (0+j)];simpa using hu⟩⟩;have AB:=AR.keep ((Turns.of_below (col:=col1) (fun _=>false) BB.o).keeps rfl);have colR1:col1 L.rg=k+1:=(A3.same L.rg H.st.tres.lt).trans H.st.tres.1;refine zw ?_;refine qnc wB (.tmp 37) (.tmp 43) _ _ rfl col1 (11+3*0) 23 i0 _ 1 24 Tryz.underlying72 hi0 hz0 hz1 hz2 rfl (.slice Al' nl cl') nl vs rfl hrow (.slice (some ⟨w8.heap.size,0,none⟩) 1 1) 1 [.slice A8 n8 c8] rfl (Src.reads wB Tryz.underlying72 hr1 (by simp[Value.oneCell']) zdc) (by simp only[maxLen];omega) zo ?_;intro v' wC col2 ap;obtain⟨A9,c9,rfl,-,-,-,-⟩:=ap.row.sl;have ap2:AppendedC wB col1 wC col2 (11+3*0) (.slice Al' nl cl') (.slice A9 (nl+1) c9) 23 1 t.leaves.length 1 vs [.slice A8 n8 c8]:=by rw[A1.o];exact ap
 obtain⟨N1,N2,N3⟩:=MB.leafAdd HK.o HS.o (t:=t) (bs:=be clk 8++(be ti 4++bd)) HT.o A0 hvl htx AB ap2;rw[show 0*75+5=5 from rfl]at N1 N2 N3;have eC:=qo8 (qai E5.o BwB.o) ap.turns (by rw[colR1];have:=HK.o;rcases this with rfl|rfl<;>rfl);have fC:=(MB.st.tres.keep (ap.turns.keeps (k:=k+1) (by have:=HK.o;rcases this with rfl|rfl<;>rfl))).frozen 5;have T9:=(A3.mono (q:=inP k) (fun i h=>by cases h)).trans N3;have AC:=TT.turns T9 (qr2 HK.o) H.base;obtain⟨AD,AE,AF,AG⟩:=zh4 N1 N2 T9 AC;clear N1 N2 N3 T9 AC MB hrow htx hvl hi0 hz0 hz1 hz2 hr1 AB colR1 ap ap2 A0;refine⟨fun _=>(HS9.o _).mpr eC,zput ?_⟩;iterate 2 (refine zrb ?_)
 refine zw ?_;go_simp;refine qbf ?_;clear HS9 F0 eC fC;obtain⟨W9,hW9⟩:=eqx (wC.setCell ⟨L.rg,5,none⟩ (.slice A9 (nl+1) c9));rw[←hW9]at AD AE AF AG ⊢;clear hW9;have sok:(s.setT 0 fun t=>{t with leaves:=t.leaves++[be clk 8++(be ti 4++bd)]}).Ok:=HS.setT (fun y hy o=>by
  rw[HT.o]at hy;injection hy with hy;subst hy;have h1:=A1.o;have h2:=o.leaves;have h3:=AN.o;exact {o with
   leaves:=by simp[h3];omega
   leafb:=fun b hb=>by
    rcases List.mem_append.1 hb with h|h
    · exact o.leafb b h
    obtain rfl:=List.mem_singleton.1 h;exact AK.o
   hds:=by have:=o.hds;simp;omega}) (fun _ y _ h1 h2=>⟨h1,h2⟩)
 have ht2:(s.setT 0 fun t=>{t with leaves:=t.leaves++[be clk 8++(be ti 4++bd)]}).tres[0]? =some {t with leaves:=t.leaves++[be clk 8++(be ti 4++bd)]}:=qo6 _ HT.o;have CP:=zh1 (qpk c _ L col2 k g _ 0 _ W9 HK.o HC.o sok AD.o ht2 (AI.live (by rw[AM.o];decide)).2 AG.o);clear sok ht2;go_wp2_with fail
 refine CP.o.mono ?_;rintro e W5 ⟨rfl,⟨css5,M5⟩,T5⟩;have D5:Did w col W5 col2 k g c css s ((s.setT 0 fun t=>{t with leaves:=t.leaves++[be clk 8++(be ti 4++bd)]}).pub c 0):=
  ⟨⟨L,css5,M5⟩,AE.keep fun i hi=>T5.keeps (by have:=HK.o;rcases this with rfl|rfl<;>simp<;>omega),AF.trans (T5.mono fun i hi=>(show i=k+1 by simpa using hi)▸(by unfold inP;simp))⟩
 have HD:=zh1 D5;clear D5 M5 T5;go_wp2
 go_end0
 exact⟨col2,rfl,HD.o⟩
def byR (c:Cfg)(id:Nat)(r:Req):Req:={r with tid:=id,cavs:=[],tag:=qju (qmd c.seed) id}
theorem qus (root:List Nat)(id:Nat):qk9 root (id,[],qju root id)=true:=by
 unfold qk9;simp[qk5,qk7]
theorem qut {R R':Req}(h1:∀f,qhx R f=qhx R' f)(h2:∀f,fldB R f=fldB R' f):∀(l:List Fld) (acc:List Nat),qhy R l acc=qhy R' l acc
 |[],acc=>rfl
 |f::l,acc=>by
  rw[qhy,qhy,h1,h2,qut h1 h2 l]
theorem quu (c:Cfg)(id:Nat)(r:Req):qhz (byR c id r)=qhz r:=by
 unfold qhz;show (match fieldsOf r.op with|none=>_|some l=>_)=_;cases fieldsOf r.op with
 |none=>rfl
 |some l=>
  show qhy (byR c id r) l (be r.op.toNat 1)=qhy r l (be r.op.toNat 1);exact qut (R:=byR c id r) (R':=r) (fun f=>rfl) (fun f=>rfl) l _
theorem quv {c:Cfg}{s:Sta}{id:Nat}{r:Req}{g:Gra}{x:Ten}(hb:(qhz r).1=0)(hg:s.gras[id]? =some g)(hv:g.revoked=false)(he:s.clock<g.expires)(hx:s.tenant g.tenant=some x)(hk:qmj r.op r.leaf.length≤x.tok):
 qmk c s (byR c id r)=if qmh g.role r.op g.tenant (qmi s r g.tenant) then 0 else 21:=by
 have h1:(qit (byR c id r)).1=0:=by
  unfold qit;rw[if_pos (by rw[quu];exact hb),if_pos (by rfl)]
 have h2:(byR c id r).tid=id:=rfl;unfold qmk;rw[if_neg (by rw[h1];decide),h2,hg];show (if (!qk9 (qmd c.seed) (id,[],qju (qmd c.seed) id))=true then _ else _)=_;rw[qus,if_neg zdc];rw[if_neg (by rw[hv];simp[qkh,byR];exact he)];show (if (!qmh g.role r.op g.tenant (qmi s r g.tenant))=true then _ else _)=_;cases hd:qmh g.role r.op g.tenant (qmi s r g.tenant) with
 |true=>
  rw[if_neg zdc,hx];show (if x.tok<qmj r.op r.leaf.length then 22 else 0)=_;rw[if_neg zo];rfl
 |false=>rfl
def quw (c:Cfg)(s:Sta)(r:Req):Sta:=
 let s2:=(qmw c s r).1.setX (((s.gras[r.tid]?).getD ⟨0,0,0,false⟩).tenant).toNat fun x=>{x with tok:=x.tok - qmj r.op r.leaf.length}
 (s2.setT 0 fun t=>{t with leaves:=t.leaves++[qmx s2 r]}).pub c 0
def qux (c:Cfg)(s:Sta)(r:Req):Sta:=
 (qmw c s r).1.setX (((s.gras[r.tid]?).getD ⟨0,0,0,false⟩).tenant).toNat fun x=>{x with tok:=x.tok - qmj r.op r.leaf.length}
theorem quy {c:Cfg}{s:Sta}{r:Req}(hm:qmk c s r=0)(hw:(qmw c s r).2.why=0)(ha:ql4 r.op=true)(hl:(s.tres[0]?.getD Tre.zero).leaves.length<1024)(hst:stored s+64≤c.store)(h9:r.op≠9):doS c s r=(quw c s r,(qmw c s r).2):=by
 unfold doS;rw[if_neg (by rw[hm];decide)];obtain⟨s1,a,h⟩:∃s1 a,qmw c s r=(s1,a):=⟨_,_,rfl⟩;unfold quw;rw[h]at hw ⊢;dsimp only at hw ⊢;rw[if_neg (by rw[hw];decide),if_neg (by simp;intro _;omega),if_neg (by simp;intro _;omega),if_pos ha,if_neg h9]
theorem quz {c:Cfg}{s:Sta}{r:Req}(hm:qmk c s r=0)(hw:(qmw c s r).2.why=0)(ha:ql4 r.op=false):doS c s r=(qux c s r,(qmw c s r).2):=by
 unfold doS;rw[if_neg (by rw[hm];decide)];obtain⟨s1,a,h⟩:∃s1 a,qmw c s r=(s1,a):=⟨_,_,rfl⟩;unfold qux;rw[h]at hw ⊢;dsimp only at hw ⊢;rw[if_neg (by rw[hw];decide),ha,if_neg zm,if_neg zm,if_neg zdc]
theorem qv0 {c:Cfg}{s:Sta}{r:Req}{y:Nat}(hm:qmk c s r=y)(h0:y≠0):doS c s r=(s,rWhy y):=by
 unfold doS;rw[if_pos (by rw[hm];exact h0),hm]
theorem qv1 {c:Cfg}{s:Sta}{r:Req}{y:Nat}(hm:qmk c s r=0)(hw:(qmw c s r).2.why=(y:Int))(h0:y≠0):doS c s r=(s,rWhy y):=by
 unfold doS;rw[if_neg (by rw[hm];decide)];obtain⟨s1,a,h⟩:∃s1 a,qmw c s r=(s1,a):=⟨_,_,rfl⟩;rw[h]at hw ⊢;dsimp only at hw ⊢;rw[if_pos (by rw[hw];omega),hw,tBe]
def KC:Cfg:=⟨32,1,32768,[115]⟩
def qv2:Req:={qid with op:=12,tenant:=1,rate:=9,burst:=9,store:=999}
def qv3:Req:={qid with op:=6,tree:=1,tenant:=1,weight:=1}
def qv4:Req:={qid with op:=10,tenant:=1,role:=2,expires:=99}
def kAdd:Req:={qid with op:=1,tree:=1,leaf:=[97]}
def qv5:Req:={qid with op:=2,tree:=1}
def qv6:Req:={qid with op:=6,tree:=3,tenant:=1,weight:=1}
theorem KC_ok:KC.Ok:=⟨by decide,by decide,by decide,by decide,by decide,by decide,by decide⟩
def K1:Sta:=quw KC (newS KC) (byR KC 0 qv2)
def K2:Sta:=quw KC K1 (byR KC 0 qv3)
def K3:Sta:=quw KC K2 (byR KC 0 qv4)
def K4:Sta:=qux KC K3 (byR KC 1 kAdd)
def K5:Sta:=seqS KC K4
def K6:Sta:=qux KC K5 (byR KC 1 qv5)
theorem qv7:doS KC (newS KC) (byR KC 0 qv2)=(K1,qml 1):=
 quy ((quv (g:=⟨0,4,18446744073709551615,false⟩) zdc rfl rfl zdc rfl zdc).trans (by rfl)) rfl rfl (by decide+kernel) (by decide+kernel) zdc
theorem qv8:doS KC K1 (byR KC 0 qv3)=(K2,qml 1):=
 quy ((quv (g:=⟨0,4,18446744073709551615,false⟩) zdc rfl rfl zdc rfl zdc).trans (by rfl)) rfl rfl (by decide+kernel) (by decide+kernel) zdc
theorem qv9:doS KC K2 (byR KC 0 qv4)=(K3,{qml 1 with tok:=(1,[],qju (qmd KC.seed) 1)}):=
 quy ((quv (g:=⟨0,4,18446744073709551615,false⟩) zdc rfl rfl zdc rfl zdc).trans (by rfl)) rfl rfl (by decide+kernel) (by decide+kernel) zdc
theorem qva:doS KC K3 (byR KC 1 kAdd)=(K4,qml 0):=
 quz ((quv (g:=⟨1,2,99,false⟩) zdc rfl rfl zdc rfl zdc).trans (by rfl)) rfl rfl
theorem qvb:(doS KC K5 (byR KC 1 qv5)).1=K6∧(doS KC K5 (byR KC 1 qv5)).2.hd.size=1:=by
 rw[quz ((quv (g:=⟨1,2,99,false⟩) zdc rfl rfl zdc rfl zdc).trans (by rfl)) rfl rfl];exact⟨rfl,rfl⟩
theorem qvc:doS KC K6 (byR KC 1 qv6)=(K6,rWhy 21):=
 qv0 ((quv (g:=⟨1,2,99,false⟩) zdc rfl rfl zdc rfl zdc).trans (by rfl)) zdc
theorem qvd:∃t,K6.tres[0]? =some t∧t.leaves.length=3:=⟨_,rfl,rfl⟩
def seqN (c:Cfg)(s:Sta):Nat→Sta
 |0=>s
 |k+1=>seqS c (seqN c s k)
theorem xdl {c:Cfg}{s:Sta}(hs:s.Ok):∀k,(seqN c s k).Ok
 |0=>hs
 |k+1=>qsg (xdl hs k)
def xdm (s:Sta)(i:Nat):Bool:=decide (1≤(s.tres.mapIdx fun i t=>qn3 i t).getD i 0)
theorem xdn {s:Sta}(hs:s.Ok)(a:Nat):qn1 (s.tres.mapIdx fun i t=>qn3 i t) a=xda (xdm s) 16 a 16:=by
 have h:=xdb (xdm s) 16 16 a 0;rw[Nat.add_zero,←List.range_eq_range']at h;rw[←h];unfold qn1;rw[List.length_mapIdx,hs.tresn];rfl
theorem xdo {s:Sta}{n:Nat}{t:Tre}(ht:s.tres[n]? =some t):xdm s n=decide (1≤qn3 n t):=by
 unfold xdm;rw[tB4,List.getElem?_mapIdx,ht];rfl
theorem xdp {c:Cfg}{t:Tre}(o:t.Ok)(hw:1≤t.weight):
 ∃g:Nat,(g:Int)=min t.weight 4*min (max c.quantum 1) 2∧1≤g∧(seqT c t).leaves=t.leaves++t.queue.take g∧(seqT c t).queue=t.queue.drop g∧(takeN c t=0 ↔ t.queue=[]):=by
 have hp:0<min t.weight 4*min (max c.quantum 1) 2:=Int.mul_pos zo zo;obtain⟨g,hg⟩:∃g:Nat,(g:Int)=min t.weight 4*min (max c.quantum 1) 2:=⟨(min t.weight 4*min (max c.quantum 1) 2).toNat,Int.toNat_of_nonneg zo⟩;refine⟨g,hg,by omega,?_,?_,?_⟩
 · unfold seqT takeN
   rw[o.deficit,←hg,Int.zero_add];by_cases h:g≤t.queue.length
   · rw[show (max (min (g:Int) t.queue.length) 0).toNat=g by omega]
   rw[show (max (min (g:Int) t.queue.length) 0).toNat=t.queue.length by omega,tB5 (tA4 _),tB5 zo]
 · unfold seqT takeN
   rw[o.deficit,←hg,Int.zero_add];by_cases h:g≤t.queue.length
   · rw[show (max (min (g:Int) t.queue.length) 0).toNat=g by omega]
   rw[show (max (min (g:Int) t.queue.length) 0).toNat=t.queue.length by omega,List.drop_of_length_le (tA4 _),List.drop_of_length_le zo]
 unfold takeN;rw[o.deficit,←hg,Int.zero_add];constructor
 · intro h
   exact tB8 zo
 intro h;rw[h];simp only[List.length_nil];omega
theorem xdq {c:Cfg}{s:Sta}(hs:s.Ok){k:Nat}{t:Tre}(h:qn1 (s.tres.mapIdx fun i t=>qn3 i t) s.lane.toNat=some k)(ht:s.tres[k]? =some t):
 (seqS c s).lane=(((k+1) % 16:Nat):Int)∧(∀i,i≠k→(seqS c s).tres[i]? =s.tres[i]?)∧
  ∃hd,(seqS c s).tres[k]? =some {seqT c t with hd:=hd}∧(t.queue=[]→hd=t.hd)∧(t.queue≠[]→hd.size=(seqT c t).leaves.length):=by
 obtain⟨h0,t1,ht1,hr,hw⟩:=qsa h;have e:t1=t:=by
  rw[ht]at ht1;injection ht1 with h;exact h.symm
 subst e;obtain⟨g,hg,hg1,hl,hq,hz⟩:=xdp (c:=c) (hs.tre ht) hw;rw[qsf hs h ht];split
 · rename_i h1
   refine⟨rfl,fun i hi=>qo7 _ _ (Ne.symm hi),t1.hd,qo6 _ ht,fun _=>rfl,fun h=>absurd (hz.1 h1) h⟩
 rename_i h1
 refine⟨rfl,fun i hi=>?_,pubT c s.clock k (seqT c t1),?_,fun h=>absurd (hz.2 h) h1,fun _=>rfl⟩
 · show ((s.tres.modify k _).modify k _)[i]? =_
   rw[qo7 _ _ (Ne.symm hi),qo7 _ _ (Ne.symm hi)]
 exact qo6 (f:=fun t=>{t with hd:=pubT c s.clock k t}) (l:=s.tres.modify k fun _=>seqT c t1) (qo6 _ ht)
theorem xdr {s s':Sta}(h:∀i,(s'.tres[i]?).map (qn3 i)=(s.tres[i]?).map (qn3 i)):xdm s'=xdm s:=by
 funext i
 unfold xdm;rw[tB4,tB4,List.getElem?_mapIdx,List.getElem?_mapIdx];rw[show (Option.map (fun t=>qn3 i t) s'.tres[i]?)=_ from h i]
theorem xds {c:Cfg}{s:Sta}(hs:s.Ok):xdm (seqS c s)=xdm s:=by
 rcases h:qn1 (s.tres.mapIdx fun i t=>qn3 i t) s.lane.toNat with _|k
 · rw[qsd hs h]
 obtain⟨h0,t,ht,hr,hw⟩:=qsa h;obtain⟨-,h2,hd,h3,-,-⟩:=xdq (c:=c) hs h ht;refine xdr fun i=>?_
 by_cases e:i=k
 · subst e
   rw[h3,ht];rfl
 rw[h2 i e]
structure OnWay (s:Sta)(n:Nat)(t0:Tre)(t:Tre):Prop where
 at_:s.tres[n]? =some t
 all:t.leaves++t.queue=t0.leaves++t0.queue
 weight:t.weight=t0.weight
 state:t.state=t0.state
 head:t.queue=[]→t.hd.size=t.leaves.length
theorem xdt {c:Cfg}{s:Sta}(hs:s.Ok){n:Nat}{t0 t:Tre}(h:OnWay s n t0 t)(hn:n<16)(hr:xdm s n=true){g:Nat}(hg:(g:Int)=min t0.weight 4*min (max c.quantum 1) 2)(hg1:1≤g):
 ∃t',OnWay (seqS c s) n t0 t'∧(t.queue=[]→t'.queue=[])∧(t.queue≠[]→xdg (xdm s) 16 n g (seqS c s).lane.toNat t'.queue.length+1=xdg (xdm s) 16 n g s.lane.toNat t.queue.length):=by
 have ha:s.lane.toNat<16:=by have:=hs.lane;omega
 have hnx:=xdn hs s.lane.toNat;rcases xdf (xdm s) hn ha hr with⟨h1,h2,h3⟩|⟨k,hk,hk16,h1,h2⟩
 ·
  rw[h1]at hnx;obtain⟨h4,h5,hd,h6,h7,h8⟩:=xdq (c:=c) hs hnx h.at_;obtain⟨-,t1,ht1,-,hw⟩:=qsa hnx;have e:t1=t:=by
   have:=h.at_;rw[this]at ht1;injection ht1 with h;exact h.symm
  subst e;obtain⟨g',hg',-,hl,hq,hz⟩:=xdp (c:=c) (hs.tre h.at_) hw;have eg:g'=g:=by
   rw[h.weight]at hg';omega
  subst eg;refine⟨_,⟨h6,?_,h.weight,h.state,?_⟩,?_,?_⟩
  · show (seqT c t1).leaves++(seqT c t1).queue=_
    rw[hl,hq,List.append_assoc,List.take_append_drop];exact h.all
  · intro he
    by_cases e:t1.queue=[]
    · show hd.size=(seqT c t1).leaves.length
      rw[h7 e,hl,e];simpa using h.head e
    exact h8 e
  · intro e
    show (seqT c t1).queue=[];rw[hq,e];simp
  intro e;show xdg _ _ _ _ _ (seqT c t1).queue.length+1=_;rw[hq,tBk,h4,tBe];exact xdi (xdm s) h2 h3 hg1 (by intro h0;exact e (tB8 h0))
 rw[h1]at hnx;obtain⟨-,tk,htk,-,-⟩:=qsa hnx;obtain⟨h4,h5,hd,h6,h7,h8⟩:=xdq (c:=c) hs hnx htk;refine⟨t,⟨by rw[h5 n (Ne.symm hk)];exact h.at_,h.all,h.weight,h.state,h.head⟩,fun h=>h,fun e=>?_⟩;rw[h4,tBe];exact xdh (xdm s) h2 (by intro h0;exact e (tB8 h0))
theorem xdu {c:Cfg}{s:Sta}(hs:s.Ok){n:Nat}{t0:Tre}(ht:s.tres[n]? =some t0)(hn:n<16)(hr:xdm s n=true){g:Nat}(hg:(g:Int)=min t0.weight 4*min (max c.quantum 1) 2)(hg1:1≤g)(hq:t0.queue≠[]):
 ∀k,∃t,OnWay (seqN c s k) n t0 t∧xdm (seqN c s k)=xdm s∧(t.queue=[]∨xdg (xdm s) 16 n g (seqN c s k).lane.toNat t.queue.length+k≤xdg (xdm s) 16 n g s.lane.toNat t0.queue.length)
 |0=>⟨t0,⟨ht,rfl,rfl,rfl,fun e=>absurd e hq⟩,rfl,.inr (tA4 _)⟩
 |k+1=>by
  obtain⟨t,h1,h2,h3⟩:=xdu hs ht hn hr hg hg1 hq k;have hok:=xdl (c:=c) hs k;obtain⟨t',h4,h5,h6⟩:=xdt hok h1 hn (by rw[h2];exact hr) hg hg1;rw[h2]at h6;refine⟨t',h4,(xds hok).trans h2,?_⟩;by_cases e:t.queue=[]
  · exact .inl (h5 e)
  rcases h3 with h3|h3
  · exact absurd h3 e
  have h7:=h6 e;right;show xdg _ _ _ _ (seqS c (seqN c s k)).lane.toNat _+(k+1)≤_;omega
theorem xdv {c:Cfg}{s:Sta}(hs:s.Ok){n:Nat}{t0:Tre}(ht:s.tres[n]? =some t0)(hn0:n≠0)(hr:qkm t0.state=true)(hq:t0.queue≠[]){g T:Nat}(hg:(g:Int)=min t0.weight 4*min (max c.quantum 1) 2)
 (hT:(t0.queue.length+g - 1) / g*ahead (xdm s) 16 0 16≤T):
 ∃t,(seqN c s T).tres[n]? =some t∧t.queue=[]∧t.leaves=t0.leaves++t0.queue∧t.hd.size=t.leaves.length:=by
 have hn:n<16:=by
  obtain⟨h,_⟩:=tA8 ht;rw[hs.tresn]at h;exact h
 have o:=hs.tre ht;have hw:1≤t0.weight:=(o.live (by intro e;rw[e]at hr;cases hr)).1;have hrun:xdm s n=true:=by
  rw[xdo ht];unfold qn3;rw[if_neg (by rw[hr];simp;exact hn0)];simpa using hw
 have hg1:1≤g:=by
  have:0<min t0.weight 4*min (max c.quantum 1) 2:=Int.mul_pos zo zo;omega
 obtain⟨t,h1,-,h3⟩:=xdu (c:=c) hs ht hn hrun hg hg1 hq T;have ha:s.lane.toNat<16:=by have:=hs.lane;omega
 have h4:=xdk (xdm s) (q:=t0.queue.length) hn ha hrun hg1;have hq0:t.queue=[]:=by
  rcases h3 with h3|h3
  · exact h3
  by_cases e:t.queue=[]
  · exact e
  have h5:1≤xdg (xdm s) 16 n g (seqN c s T).lane.toNat t.queue.length:=by
   unfold xdg;rw[if_neg (by intro h0;exact e (tB8 h0))];omega
  omega
 have h5:=h1.all;rw[hq0,List.append_nil]at h5;exact⟨t,h1.at_,hq0,h5,h1.head hq0⟩
theorem qve {c:Cfg}{s:Sta}{r:Req}(h:qmk c s r=0):
 ∃g x,s.gras[r.tid]? =some g∧qk9 (qmd c.seed) (r.tid,r.cavs,r.tag)=true∧g.revoked=false∧s.clock<g.expires∧qkh r.op (if qdi r.op then r.tree else 0) s.clock r.cavs=true∧
  qmh g.role r.op g.tenant (qmi s r g.tenant)=true∧s.tenant g.tenant=some x∧qmj r.op r.leaf.length≤x.tok:=by
 have he:(qit r).1=0:=qs0 h;unfold qmk at h;rw[if_neg zo]at h;cases hg:s.gras[r.tid]? with
 |none=>
  rw[hg]at h;simp at h
 |some g=>
  rw[hg]at h;dsimp only at h;by_cases h1:qk9 (qmd c.seed) (r.tid,r.cavs,r.tag)=true
  ·
   rw[if_neg (by rw[h1];decide)]at h;by_cases h2:(g.revoked||decide (g.expires≤s.clock)||!qkh r.op (if qdi r.op then r.tree else 0) s.clock r.cavs)=true
   · rw[if_pos h2]at h
     exact absurd h zdc
   rw[if_neg h2]at h;by_cases h3:qmh g.role r.op g.tenant (qmi s r g.tenant)=true
   ·
    rw[if_neg (by rw[h3];decide)]at h;cases hx:s.tenant g.tenant with
    |none=>
     rw[hx]at h;simp at h
    |some x=>
     rw[hx]at h;dsimp only at h;by_cases h4:x.tok<qmj r.op r.leaf.length
     · rw[if_pos h4]at h
       exact absurd h zdc
     simp only[Bool.or_eq_true,not_or,decide_eq_true_eq,Bool.not_eq_true,Bool.not_eq_false']at h2;exact⟨g,x,rfl,h1,h2.1.1,by omega,by simpa using h2.2,h3,hx,by omega⟩
   rw[if_pos (by simpa using h3)]at h;exact absurd h zdc
  rw[if_pos (by simpa using h1)]at h;exact absurd h zdc
theorem qvf {c:Cfg}{s:Sta}{r:Req}(h:(doS c s r).2.why=0):qmk c s r=0:=by
 unfold doS at h;split at h
 · rename_i h0
   have:((qmk c s r:Nat):Int)=0:=h;omega
 omega
theorem qvg (c:Cfg)(s:Sta)(r:Req):0≤(qmw c s r).2.why:=by
 have add:∀t,0≤(qmn c s r t).2.why:=fun t=>by
  unfold qmn;repeat' split
  all_goals first|exact Int.natCast_nonneg _|exact Int.le_refl _
 have look:∀t,0≤(qmo c s r t).why:=fun t=>by
  unfold qmo;repeat' split
  all_goals first|exact Int.natCast_nonneg _|exact Int.le_refl _
 have create:0≤(qmp c s r).2.why:=by
  unfold qmp;repeat' split
  all_goals first|exact Int.natCast_nonneg _|exact Int.le_refl _
 have change:∀t,0≤(qmq c s r t).2.why:=fun t=>by
  unfold qmq;split
  · exact Int.natCast_nonneg _
  exact Int.le_refl _
 have weigh:0≤(qmr s r).2.why:=by
  unfold qmr;repeat' split
  all_goals first|exact Int.natCast_nonneg _|exact Int.le_refl _
 have rotate:∀t,0≤(qms c s r t).2.why:=fun t=>by
  unfold qms;split
  · exact Int.natCast_nonneg _
  exact Int.le_refl _
 have grant:0≤(qmt c s r).2.why:=by
  unfold qmt;repeat' split
  all_goals first|exact Int.natCast_nonneg _|exact Int.le_refl _
 have revoke:0≤(qmu s r).2.why:=by
  unfold qmu;repeat' split
  all_goals first|exact Int.natCast_nonneg _|exact Int.le_refl _
 have limit:0≤(qmv s r).2.why:=by
  unfold qmv;repeat' split
  all_goals first|exact Int.natCast_nonneg _|exact Int.le_refl _
 unfold qmw;split
 · exact create
 split
 · exact grant
 split
 · exact revoke
 split
 · exact limit
 split
 · exact Int.natCast_nonneg _
 split
 · exact add _
 split
 · exact change _
 split
 · exact weigh
 split
 · exact rotate _
 exact look _
theorem qvh {c:Cfg}{s:Sta}{r:Req}{y:Nat}(hm:qmk c s r=0)(hw:(qmw c s r).2.why=0)(ha:ql4 r.op=true)(hf:qup c s=y)(hy:y≠0):doS c s r=(s,rWhy y):=by
 unfold doS;rw[if_neg (by rw[hm];decide)];obtain⟨s1,a,h⟩:∃s1 a,qmw c s r=(s1,a):=⟨_,_,rfl⟩;rw[h]at hw ⊢;dsimp only at hw ⊢;rw[if_neg (by rw[hw];decide),ha];unfold qup at hf;by_cases h1:1024≤(s.tres[0]?.getD Tre.zero).leaves.length
 · rw[if_pos h1]at hf
   rw[if_pos (by simp;exact h1),hf]
 rw[if_neg h1]at hf;by_cases h2:c.store<stored s+64
 · rw[if_pos h2]at hf
   rw[if_neg (by simp;omega),if_pos (by simp;omega),hf]
 rw[if_neg h2]at hf;exact absurd hf.symm hy
theorem qvi {c:Cfg}{s:Sta}(hf:qup c s=0):(s.tres[0]?.getD Tre.zero).leaves.length<1024∧stored s+64≤c.store:=by
 unfold qup at hf;by_cases h1:1024≤(s.tres[0]?.getD Tre.zero).leaves.length
 · rw[if_pos h1]at hf
   cases hf
 rw[if_neg h1]at hf;by_cases h2:c.store<stored s+64
 · rw[if_pos h2]at hf
   cases hf
 omega
theorem qvj {c:Cfg}{s:Sta}{r:Req}(hm:qmk c s r=0)(hw:(qmw c s r).2.why=0)(ha:ql4 r.op=true)(hf:qup c s=0)(h9:r.op=9):doS c s r=(quw c s r,{(qmw c s r).2 with hd:=((quw c s r).tres[r.tree.toNat]?.getD Tre.zero).hd}):=by
 obtain⟨hl,hst⟩:=qvi hf;unfold doS;rw[if_neg (by rw[hm];decide)];obtain⟨s1,a,h⟩:∃s1 a,qmw c s r=(s1,a):=⟨_,_,rfl⟩;unfold quw;rw[h]at hw ⊢;dsimp only at hw ⊢;rw[if_neg (by rw[hw];decide),if_neg (by simp;intro _;omega),if_neg (by simp;intro _;omega),if_pos ha,if_pos h9]
section
variable {w w' : World} {col col' : Col} {p : Nat → Bool}
theorem qvk {base:Nat}{e:TypeId}{size n:Nat}{v:Value}{xs:List Value}(h:w.ownsRow base e size v n xs)(h0:∀g,v.ownBlock=some g→col g=0)(ht:Turns p w col w' col')(hp:p 0=false):w'.ownsRow base e size v n xs∧∀g,v.ownBlock=some g→col' g=0:=by
 refine⟨⟨h.1,?_⟩,fun g hg=>?_⟩
 · rcases h.2 with h1|⟨g,cap,cur,rfl,hg,hh,rest⟩
   · exact .inl h1
   have hl:Blk w g e cur:=hh;exact .inr ⟨g,cap,cur,rfl,hg,(ht.block g hl.lt (by rw[h0 g rfl];exact hp)).trans hh,rest⟩
 exact(ht.same g (World.ownsRow.lt h g hg).2).trans (h0 g hg)
theorem RspV.turns {base:Nat}{v:Value}{A:Rsp}(h:RspV w col base v A)(ht:Turns p w col w' col')(hp:p 0=false):RspV w' col' base v A:=by
 obtain⟨bv,hv,cav,e,h1,h2,h3,h4,h5,h6⟩:=h;obtain⟨a1,b1⟩:=qvk h1 h4 ht hp;obtain⟨a2,b2⟩:=qvk h2.2 h5 ht hp;obtain⟨a3,b3⟩:=qvk h3 h6 ht hp;exact⟨bv,hv,cav,e,a1,⟨h2.1,a2⟩,a3,b1,b2,b3⟩
theorem RspV.call {base:Nat}{v:Value}{A:Rsp}(h:RspV w col base v A)(hb:Below w.heap.size w w'):RspV w' col base v A:=h.turns (Turns.of_below (fun _=>false) hb) rfl
theorem RspV.grown {base G:Nat}{v:Value}{A:Rsp}{cs:Array Value}(h:RspV w col base v A)(hz:Blk w G 57 cs)(hg:w.grownBy w' (some G)):RspV w' col base v A:=by
 obtain⟨bv,hv,cav,e,h1,h2,h3,h4,h5,h6⟩:=h;exact⟨bv,hv,cav,e,tB3 h1 hg (.inr (qa3 h1 hz zdc)),⟨h2.1,tB3 h2.2 hg (.inr (qa3 h2.2 hz zdc))⟩,tB3 h3 hg (.inr (qa3 h3 hz zdc)),h4,h5,h6⟩
theorem RspV.base {base base':Nat}{v:Value}{A:Rsp}(h:RspV w col base v A)(hb:base'≤base):RspV w col base' v A:=by
 obtain⟨bv,hv,cav,e,h1,h2,h3,h4,h5,h6⟩:=h;exact⟨bv,hv,cav,e,qdb h1 hb,⟨h2.1,qdb h2.2 hb⟩,qdb h3 hb,h4,h5,h6⟩
theorem Turns.only0 {G:Nat}(h:w.grownBy w' (some G))(h0:col G=0):Turns (· ==0) w col w' col:=
 Turns.of_grown h (fun g e=>by injection e with e;subst e;simp[h0]) (fun _ _=>rfl)
theorem Mdl.grown0 {k g:Nat}{c:Cfg}{s:Sta}{L:Loc}{css:List (List Value)}{G:Nat}(h:Mdl w col k g c s L css)(hk:Kind k)(hg:w.grownBy w' (some G))(h0:col G=0):Mdl w' col k g c s L css:=
 h.keep (Turns.only0 hg h0) rfl rfl (by rcases hk with rfl|rfl<;>rfl) (by rcases hk with rfl|rfl<;>rfl) (by rcases hk with rfl|rfl<;>rfl) (fun i hi=>by simp;omega) (h.fin.mono hg.size)
theorem StAt.grown0 {tt rt gt:TypeId}{k:Nat}{L:Loc}{css:List (List Value)}{s:Sta}{G:Nat}(h:StAt tt rt gt w col k L css s)(hk:Kind k)(hg:w.grownBy w' (some G))(h0:col G=0):StAt tt rt gt w' col k L css s:=by
 have T:=Turns.only0 hg h0;exact h.keep (T.keeps (by rcases hk with rfl|rfl<;>rfl)) (T.keeps (by rcases hk with rfl|rfl<;>rfl)) (T.keeps (by rcases hk with rfl|rfl<;>rfl)) fun i hi=>T.keeps (by simp;omega)
theorem StAt.call {tt rt gt:TypeId}{k:Nat}{L:Loc}{css:List (List Value)}{s:Sta}(h:StAt tt rt gt w col k L css s)(hb:Below w.heap.size w w'):StAt tt rt gt w' col k L css s:=
 h.keep ((Turns.of_below (fun _=>false) hb).keeps rfl) ((Turns.of_below (fun _=>false) hb).keeps rfl) ((Turns.of_below (fun _=>false) hb).keeps rfl) fun i _=>(Turns.of_below (fun _=>false) hb).keeps rfl
theorem Rest.newer {W W':World}{colW:Col}{G:Nat}(h:Rest w col W colW)(hg:W.grownBy W' (some G))(hG:w.heap.size≤G):Rest w col W' colW:=
 ⟨hg.os.trans h.os,hg.tape.trans h.tape,hg.output.trans h.output,tB1 h.size hg.size,fun b hb hc=>by
  obtain⟨h1,h2⟩:=h.block b hb hc;exact⟨(hg.block b (tB0 hb h.size) (by intro e;injection e with e;omega)).trans h1,h2⟩⟩
theorem Rest.step {W W':World}{colW colW':Col}(h:Rest w col W colW)(ht:Turns p W colW W' colW')(hp:p 0=false):Rest w col W' colW':=h.trans (Rest.of_turns ht hp)
end
theorem qvl {w:World}{col:Col}{css:List (List Value)}{l:List Tre}(h:TrsAt w col css l):∀u∈css.flatten,u.oneCell'=true:=by
 intro u hu;obtain⟨cs,hcs,hu⟩:=List.mem_flatten.1 hu;obtain⟨i,hi⟩:=List.mem_iff_getElem?.1 hcs;have hlt:i<l.length:=by
  obtain⟨h1,_⟩:=tA8 hi;rw[←h.1];exact h1
 obtain⟨cs',h1,vd,vl,vq,e,r1,r2,r3⟩:=h.2 i _ (tA7 hlt);rw[hi]at h1;injection h1 with h1;subst h1;obtain⟨A1,c1,e1,-⟩:=r1.sl;obtain⟨vs2,A2,c2,e2,-⟩:=r2.sl;obtain⟨vs3,A3,c3,e3,-⟩:=r3.sl;subst e e1 e2 e3;exact qql _ _ _ _ rfl rfl rfl u hu
theorem qvm (l:List Ten):∀u∈l.flatMap tenv,u.oneCell'=true:=by
 intro u hu;obtain⟨x,_,hx⟩:=List.mem_flatMap.1 hu;unfold tenv at hx;simp only[List.mem_cons,List.not_mem_nil,or_false]at hx;rcases hx with rfl|rfl|rfl|rfl|rfl|rfl<;>rfl
theorem qvn (l:List Gra):∀u∈l.flatMap grav,u.oneCell'=true:=by
 intro u hu;obtain⟨x,_,hx⟩:=List.mem_flatMap.1 hu;unfold grav at hx;simp only[List.mem_cons,List.not_mem_nil,or_false]at hx;rcases hx with rfl|rfl|rfl|rfl<;>rfl
theorem qvo (s:Sta)(L:Loc):(stav s L).length=6:=rfl
theorem qvp (s:Sta)(L:Loc):∀u∈stav s L,u.oneCell'=true:=by
 intro u hu;unfold stav at hu;simp only[List.mem_cons,List.not_mem_nil,or_false]at hu;rcases hu with rfl|rfl|rfl|rfl|rfl|rfl<;>rfl
theorem qvq (A:Rsp)(h:Hd)(bv hv cav:Value)(h1:A.hd.Ok)(h2:h.Ok):over (rspv A bv hv cav) 4 (hdv h)=rspv {A with hd:=h} bv hv cav:=by
 unfold over rspv;have l1:=qnj h1;have l2:=qnj h2;rw[l2];simp only[List.take_succ_cons,List.take_zero,List.drop_succ_cons,List.cons_append,List.nil_append];rw[show 4+64=(hdv A.hd).length by rw[l1],List.drop_left]
theorem qvr {l:List Value}{i:Nat}{u:Value}(h:l.toArray[i]? =some u):l.toArray.setIfInBounds i u=l.toArray:=by
 rw[List.setIfInBounds_toArray];congr 1
 rw[tA3]at h;obtain⟨hi,e⟩:=tA8 h;rw[←e,List.set_getElem_self]
theorem Mdl.there4 {w:World}{col:Col}{k g:Nat}{c:Cfg}{s:Sta}{L:Loc}{css:List (List Value)}(h:Mdl w col k g c s L css):w.there g 4 6:=fun j hj=>
 ⟨by rw[h.blk.cell,Array.getElem?_eq_getElem (by simp[mdlv];omega)];simp,h.blk.frozen _⟩
theorem Tabs.rest {w w':World}{col col':Col}(h:Tabs w)(hr:Rest w col w' col')(hb:3≤w.heap.size∧∀b,b<3→col b=0):Tabs w':=h.below (hr.below hb.2 hb.1).1 (tA4 _)
theorem Asked.rest {w w':World}{col col':Col}{R:Req}{Ac:Option Addr}{cc:Nat}{Al:Option Addr}{cl:Nat}(h:Asked w col R Ac cc Al cl)(hr:Rest w col w' col'):Asked w' col' R Ac cc Al cl:=
 ⟨h.good,hr.reads h.leaf h.leaf0,h.leafc,h.leafm,hr.reads h.cavs h.cavs0,h.cavc,h.cavm,
  fun hn ad e=>by
   obtain⟨ad',e',hb,_⟩:=h.leaf.2 hn;rw[e]at e';injection e' with e';subst e';exact(hr.block _ hb (h.leaf0 hn ad e)).2,
  fun hn ad e=>by
   obtain⟨ad',e',hb,_⟩:=h.cavs.2 hn;rw[e]at e';injection e' with e';subst e';exact(hr.block _ hb (h.cavs0 hn ad e)).2⟩
theorem RspV.cell0 {W:World}{col:Col}{base:Nat}{X:List Value}{A:Rsp}(h:RspV W col base (.agg X.toArray) A):X.toArray[0]? =some (.int .i64 A.why):=by
 obtain⟨bv,hv,cav,e,-⟩:=h;injection e with e;rw[e];rfl
theorem RspV.head {W:World}{col:Col}{base:Nat}{X:List Value}{A:Rsp}{h:Hd}(hr:RspV W col base (.agg X.toArray) A)(h1:A.hd.Ok)(h2:h.Ok):RspV W col base (.agg (over X 4 (hdv h)).toArray) {A with hd:=h}:=by
 obtain⟨bv,hv,cav,e,h3,h4,h5,h6,h7,h8⟩:=hr;injection e with e;have e':X=rspv A bv hv cav:=by simpa using e
 rw[e',qvq A h bv hv cav h1 h2];exact⟨bv,hv,cav,rfl,h3,h4,h5,h6,h7,h8⟩
theorem qvs {c:Cfg}{s:Sta}{r:Req}(h9:r.op=9)(hw:(qmw c s r).2.why=0):∃t,s.tree r.tree=some t:=by
 cases h:s.tree r.tree with
 |some t=>exact⟨t,rfl⟩
 |none=>
  unfold qmw at hw;rw[h,if_neg zo,if_neg zo,if_neg zo,if_neg zo]at hw;have hw':(23:Int)=0:=hw;exact absurd hw' zdc
theorem qvt (c:Cfg)(s:Sta)(L:Loc)(col:Col)(g:Nat)(css:List (List Value))(R:Req)(Ac:Option Addr)(cc:Nat)(Al:Option Addr)(cl:Nat)(w:World)(hc:c.Ok)(hs:s.Ok)(h:Mdl w col 2 g c s L css)
 (hr:Asked w col R Ac cc Al cl)(hT:Tabs w)(hE:w.cell? ⟨0,0,none⟩=some (.iface 327 (.agg #[.pointer (some ⟨3,81,none⟩)]))):
 Zc 17 #[.pointer (some ⟨g,0,none⟩),.agg (reqv R (.slice Ac R.cavs.length cc) (.slice Al R.leaf.length cl)).toArray] w fun e w'=>∃v col' L' css',e=.returned v∧RspV w' col' w.heap.size v (doS c s R).2∧Mdl w' col' 2 g c (doS c s R).1 L' css'∧Rest w col w' col':=by
 have hk:Kind 2:=.inl rfl;have CM:=fun(w':World)(hb:Below w.heap.size w w')=>qud c s L col 2 g css R Ac cc Al cl w' hk hc hs (h.call hb) (hr.call hb) (hT.below hb hT.size) (qai hE hb)
 have CD:=fun (w':World) (col':Col) (L6:Loc) (hM:Mdl w' col' 6 g c s L6 css) (hA:Asked w' col' R Ac cc Al cl) (hT':Tabs w') (he:(qit R).1=0)=>quo c s L6 col' 6 g css R Ac cc Al cl w' (.inr rfl) hc hs hM hA hT' he
 have CN:=fun (w':World) (col':Col) (s2:Sta) (L6:Loc) (css2:List (List Value)) (hs2:s2.Ok) (hM:Mdl w' col' 6 g c s2 L6 css2) (hA:Asked w' col' R Ac cc Al cl) (hT':Tabs w') (ha:ql4 R.op=true) (hl:∀t,s2.tres[0]? =some t→t.leaves.length<1024)=>qur c s2 L6 col' 6 g css2 R Ac cc Al cl w' (.inr rfl) hc hs2 hM hA hT' ha hl
 obtain⟨Q,hQ,rlen,rest,W0,hW0,q0,z0,b0⟩:=qr5 R Ac cc Al cl w hr.good.tag;rw[hQ];have hG0:=h.fin.none (b:=w.heap.size+1) zo;have D0:=Did.same (css:=css) h b0;obtain⟨H,DC,Q0,Z0,B0,DD,DX,HK⟩:=zh8 h hW0 q0 z0 b0 hG0 D0 hk;obtain⟨HS,HR,RL,BK,HQ⟩:=zh5 hs hr rlen rest hQ;clear h hW0 q0 z0 b0 hG0 D0 hk hs hr rlen rest hQ;rw[HQ.o]at CM CD CN;obtain⟨DE,DF,DG,HC,TT⟩:=zh5 CM CD CN hc hT;have B4:=DD;obtain⟨DH,BL,B5⟩:=zh3 (qap Q0.o 0 Q (fun j u h=>by simpa using h)) (zI 34 RL.o) (show Q.toArray[0]? =some (.int .i64 R.op) by rw[tA3,←HQ.o];rfl);obtain⟨wy,hwy⟩:=xeq (qmk c s R);have AD:=zh1 hwy;clear hc hT hE hwy CM CD CN;go_enter Tryz.func17,Tryz.ntmps17
 go_upto_region 1 with(fail)
 rw[←DC.o];go_wp2_with (refine zld DH.o zu34 BL.o ?_)
 refine(DE.o W0 B0.o).mono ?_;rintro e w1 ⟨y,cost,rfl,hy,b1⟩;rw[AD.o]at hy ⊢;obtain⟨tn,htn⟩:=xeq y.tenant;obtain⟨X,hX⟩:=xeq (grav y);rw[show (#[.int .i64 y.tenant,.int .i64 y.role,.int .u64 (y.expires:Int),.bool y.revoked]:Array Value)=X.toArray by rw[←hX];rfl];have lX:X.length=4:=by rw[←hX];rfl
 have oX:∀u∈X,u.oneCell'=true:=by
  rw[←hX];intro u hu;unfold grav at hu;simp only[List.mem_cons,List.not_mem_nil,or_false]at hu;rcases hu with rfl|rfl|rfl|rfl<;>rfl
 obtain⟨X0,LX,OX,HY,B6,DI,B1,GN⟩:=zh8 (show X.toArray[0]? =some (.int .i64 tn) by rw[←hX,←htn];rfl) lX oX hy htn (zI 66 lX) b1 (Blk.new w1 66 #[.int .i64 0,.int .i64 0,.int .u64 0,.bool false]);clear hX lX oX hy htn b1;go_upto_region 2 with(refine zst GN.o DI.o (by simp[LX.o]) OX.o ?_)
 obtain⟨W1,hW1⟩:=eqx ((w1.alloc (.cells #[.int .i64 0,.int .i64 0,.int .u64 0,.bool false] 66)).setRow w1.heap.size X.toArray);rw[←hW1];obtain⟨G,hG⟩:=eqx w1.heap.size;rw[←hG];have g1:Blk W1 G 66 X.toArray:=by rw[hW1,hG];exact(Blk.new _ _ _).setRow _
 have b01:Below W0.heap.size W0 W1:=by rw[hW1];exact below_setRow (B1.alloc B1.size _) B1.size _
 obtain⟨G1,DY,AE,Z1,Q1,GS⟩:=zh6 g1 b01 (B0.trans (b01.mono B0.size)) (Z0.below b01 Z0.lt) (Q0.below b01 Q0.lt) (show W0.heap.size≤G by rw[hG];exact B1.size);clear hW1 hG g1 b01;by_cases hw0:wy=0
 ·
  subst hw0;obtain⟨hyg,rfl⟩:=HY.o rfl;have CH:=zh1 hyg;have henc:=qs0 AD.o;have CI:=zh1 henc;have hyo:=HS.gra hyg;obtain⟨tn,rfl⟩:∃m:Nat,tn=m:=⟨tn.toNat,by have:=hyo.tenant;rw[B6.o]at this;omega⟩;have tn16:tn<16:=by have:=hyo.tenant;rw[B6.o]at this;omega
  obtain⟨cost,hcost⟩:=xeq (qmj R.op R.leaf.length);have costb:=qu8 R.op R.leaf.length;rw[hcost]at costb ⊢;obtain⟨CJ,AK,CK⟩:=zh3 hcost tn16 costb;obtain⟨SV,hSV⟩:=xeq (stav s L);have lSV:SV.length=6:=by rw[←hSV];rfl
  have oSV:∀u∈SV,u.oneCell'=true:=by rw[←hSV];exact qvp s L
  obtain⟨S3,S4,S5,SR,BM,BN,BO,AH⟩:=zh8 (show SV.toArray[3]? =some (.slice (some ⟨L.tg,0,none⟩) 16 L.tc) by rw[←hSV];rfl) (show SV.toArray[4]? =some (.slice (some ⟨L.rg,0,none⟩) 16 L.rc) by rw[←hSV];rfl) (show SV.toArray[5]? =some (.slice (some ⟨L.gg,0,none⟩) s.gras.length L.gc) by rw[←hSV];rfl) (show W1.rangeAt g 4 SV by rw[←hSV];exact(H.call AE.o).stRange) hSV lSV oSV (zI 49 lSV);have SN:=zh1 (Blk.new W1 49 #[.int .u64 0,.int .u32 0,.int .i64 0,.slice none 0 0,.slice none 0 0,.slice none 0 0]);clear hyg henc hyo tn16 hcost costb hSV lSV oSV;go_upto_region 5 with(first
   |(refine zld SR.o zu49 AH.o ?_)
   |(refine zst SN.o AH.o (by simp[BN.o]) BO.o ?_))
  obtain⟨W2,hW2⟩:=eqx ((W1.alloc (.cells #[.int .u64 0,.int .u32 0,.int .i64 0,.slice none 0 0,.slice none 0 0,.slice none 0 0] 49)).setRow W1.heap.size SV.toArray);rw[←hW2];obtain⟨B8,hB8⟩:=eqx W1.heap.size;rw[←hB8];have s2:Blk W2 B8 49 SV.toArray:=by rw[hW2,hB8];exact(Blk.new _ _ _).setRow _
  have b12:Below W1.heap.size W1 W2:=by rw[hW2];exact below_setRow ((tA5 _ _).alloc (tA4 _) _) (tA4 _) _
  obtain⟨A3,DZ,CL,Z2,Q2,G2,BP⟩:=zh7 s2 b12 (AE.trans (b12.mono AE.size)) (Z1.below b12 Z1.lt) (Q1.below b12 Q1.lt) (G1.below b12 G1.lt) (show W1.heap.size≤B8 by omega);clear hW2 hB8 s2 b12;obtain⟨S,HS9⟩:=zS fun w'=>Blk w' B8 49 SV.toArray
  refine zrs S 23 (zq 0 5 ((6,false)::(7,false)::(9,false)::(10,false)::(5,true)::(8,true)::(11,true)::zq 12 3 ((15,true)::zq 16 3 ((19,true)::zq 20 3 [(23,true)])))) ((HS9.o _).mpr (A3.o)) ?_;obtain⟨F3,F4,F5⟩:=zh3 (fun(w':World)(h:S w')=>(((HS9.o w').mp h).cell 3).trans S3.o) (fun(w':World)(h:S w')=>(((HS9.o w').mp h).cell 4).trans S4.o) (fun(w':World)(h:S w')=>(((HS9.o w').mp h).cell 5).trans S5.o);iterate 9 (refine zre rfl rfl (fun w1 hS=>by have g3:=F3.o w1 hS;have g4:=F4.o w1 hS;have g5:=F5.o w1 hS;clear hS;go_simp;try rfl) ?_)
  obtain⟨Wd,hWd,BD⟩:=zdr W2;rw[←hWd];clear hWd;have CO:=zh1 (CL.trans (BD.mono CL.size));have HD:=zh1 (H.call CO.o);have gl:=HS.grasn;refine zw ?_;go_simp;refine(qsq (some ⟨L.tg,0,none⟩) 16 L.tc (s.tens.flatMap tenv) Wd HD.st.tens.reads zdc (qvm _)).mono ?_;rintro e wa ⟨va,rfl,oa,ba⟩;obtain⟨BA,OA⟩:=zh2 ba oa;clear oa ba;refine⟨(HS9.o _).mpr (A3.below (BD.trans (BA.mono BD.size)) A3.lt),zput ?_⟩;refine zw ?_;go_simp;refine(qsr (some ⟨L.rg,0,none⟩) 16 L.rc css.flatten wa ((HD.call BA.o).st.tres.reads) zdc (qvl H.st.trs)).mono ?_;rintro e wb ⟨vb,rfl,ob,bb⟩;obtain⟨BB,OB,AN⟩:=zh3 bb ob (BA.trans (bb.mono BA.size));clear ob bb;refine⟨(HS9.o _).mpr (A3.below (BD.trans (AN.mono BD.size)) A3.lt),zput ?_⟩;refine zw ?_;go_simp;refine(qss (some ⟨L.gg,0,none⟩) s.gras.length L.gc (s.gras.flatMap grav) wb ((HD.call AN.o).st.gras.reads) zo (qvn _)).mono ?_;rintro e wc ⟨vc,rfl,oc,bc⟩;obtain⟨BC,OC,B7⟩:=zh3 bc oc (AN.trans (bc.mono AN.size));clear oc bc;refine⟨(HS9.o _).mpr (A3.below (BD.trans (B7.mono BD.size)) A3.lt),zput ?_⟩;obtain⟨L6,col4,e1,e2,e3,M4,CP,T4⟩:=HD.fork HS.o B7.o (qr4 (qr4 OA.o BB.o) BC.o) (qdb (qr4 OB.o BC.o) BA.size) (qdb OC.o AN.size);subst e1 e2 e3;have AL:=HD.call B7.o;have c7:=AL.c7;have c8:=AL.c8;have c9:=AL.c9;have f7:=AL.blk.frozen 7;obtain⟨CR,CS,BQ,CT,AA,A8⟩:=zh6 (A3.below (BD.trans (B7.mono BD.size)) A3.lt) AL.blk (show B8≠g by have h1:=H.blk.lt;have h2:=BP.o;have h3:=AE.size;omega) M4 CP T4;clear M4 CP T4 AL;iterate 3 (refine zre rfl rfl (fun w1 hS=>by clear hS;go_simp;try rfl) ?_)
  refine zw ?_;go_simp;refine⟨(HS9.o _).mpr (CR.far (p:=⟨g,7,none⟩) BQ.o _),zput ?_⟩;iterate 3 (refine zre rfl rfl (fun w1 hS=>by clear hS;go_simp;try rfl) ?_)
  refine zw ?_;have f8:=CS.frozen 8;have f9:=CS.frozen 9;go_simp;refine⟨(HS9.o _).mpr ((CR.far (p:=⟨g,7,none⟩) BQ.o _).far (p:=⟨g,8,none⟩) BQ.o _),zput ?_⟩;iterate 3 (refine zre rfl rfl (fun w1 hS=>by clear hS;go_simp;try rfl) ?_)
  refine zw ?_;go_simp;try simp only[Act.put,tA0,tA1,tA2]
  refine qbf ?_;clear HS9 F3 F4 F5 c7 c8 c9 f7 f8 f9 gl;obtain⟨W4,hW4⟩:=eqx (((wc.setCell ⟨g,7,none⟩ (.slice (some ⟨L6.tg,0,none⟩) 16 L6.tc)).setCell ⟨g,8,none⟩ (.slice (some ⟨L6.rg,0,none⟩) 16 L6.rc)).setCell ⟨g,9,none⟩ (.slice (some ⟨L6.gg,0,none⟩) s.gras.length L6.gc));rw[←hW4]at CT AA A8 ⊢;clear hW4;have hcz:∀b,w.heap.size≤b→col b=0:=fun b hb=>by
   by_cases e:col b=0
   · exact e
   have:=H.fin b e;omega
  have q4:=Q2.below BD.o Q2.lt;have g4:=G2.below BD.o G2.lt;have s4:=A3.below BD.o A3.lt;have z4:=Z2.below BD.o Z2.lt;have cQ:col4 w.heap.size=0:=(A8.same _ q4.lt).trans (hcz _ (tA4 _));have cG:col4 G=0:=(A8.same _ g4.lt).trans (hcz _ (by have:=GS.o;have:=B0.size;omega));have cB:col4 B8=0:=(A8.same _ s4.lt).trans (hcz _ (by have:=BP.o;have:=AE.size;omega));have cZ:col4 (w.heap.size+1)=0:=(A8.same _ z4.lt).trans (hcz _ zo);obtain⟨Q4,G4,BR,Z4,R4,CQ,CG,CB⟩:=zh8 (show Blk W4 w.heap.size 34 Q.toArray from(A8.block _ q4.lt (by rw[hcz _ (tA4 _)];rfl)).trans q4) (show Blk W4 G 66 X.toArray from(A8.block _ g4.lt (by rw[hcz _ (by have:=GS.o;have:=B0.size;omega)];rfl)).trans g4) (show Blk W4 B8 49 SV.toArray from(A8.block _ s4.lt (by rw[hcz _ (by have:=BP.o;have:=AE.size;omega)];rfl)).trans s4) (show Blk W4 (w.heap.size+1) 57 Tryz.zeroCells57 from(A8.block _ z4.lt (by rw[hcz _ zo];rfl)).trans z4) ((Rest.of_below (col:=col) CO.o).step A8.o rfl) cQ cG cB;have CZ:=zh1 cZ;clear q4 g4 s4 z4 cQ cG cB cZ hcz;have BS:=zh1 (qap Q4.o 0 Q (fun j u h=>by simpa using h));go_wp2_with (refine zld BS.o zu34 BL.o ?_)
  refine(DF.o W4 col4 L6 CT.o (HR.rest R4.o) (TT.rest R4.o H.base) CI.o).mono ?_;rintro e w5 ⟨v5,col5,rfl,r5,d5⟩;have hsh:=qui (c:=c) (R:=R) HS.o;have sok1:=qrx (c:=c) HS.o HR.good (qrk CI.o);have hnn:=qvg c s R;have ws:W4.heap.size≤w5.heap.size:=d5.turns.size;obtain⟨s1,hs1⟩:=xeq ((qmw c s R).1);obtain⟨a,haa⟩:=xeq ((qmw c s R).2);rw[hs1]at d5 sok1;rw[haa]at r5 hsh hnn;obtain⟨X5,rfl,lX5,oX5⟩:=r5.cells hsh;obtain⟨aw,haw⟩:∃n:Nat,a.why=n:=⟨a.why.toNat,by omega⟩;have x50:=r5.cell0;rw[haw]at x50;obtain⟨BU,AO,CU,A2,CV,A9,BV,AP⟩:=zh8 hs1 haa hsh sok1 haw lX5 oX5 x50;obtain⟨DJ,BE,N5,D5,R5,Q5,G5,BW⟩:=zh8 (zI 57 lX5) qqc (Blk.new w5 57 Tryz.zeroCells57) d5 r5 (show Blk w5 w.heap.size 34 Q.toArray from(d5.turns.block _ Q4.lt (by rw[CQ.o];rfl)).trans Q4.o) (show Blk w5 G 66 X.toArray from(d5.turns.block _ G4.lt (by rw[CG.o];rfl)).trans G4.o) (show Blk w5 B8 49 SV.toArray from(d5.turns.block _ BR.lt (by rw[CB.o];rfl)).trans BR.o);obtain⟨Z5,E0,E1,AF,BX,BY⟩:=zh6 (show Blk w5 (w.heap.size+1) 57 Tryz.zeroCells57 from(d5.turns.block _ Z4.lt (by rw[CZ.o];rfl)).trans Z4.o) ((d5.turns.same _ G4.lt).trans CG.o) ((d5.turns.same _ BR.lt).trans CB.o) ((d5.turns.same _ Z4.lt).trans CZ.o) ((d5.turns.same _ Q4.lt).trans CQ.o) (R4.step d5.turns rfl);have hw5:w.heap.size+1<w5.heap.size:=Z5.lt;clear hsh sok1 hnn hs1 haa haw lX5 oX5 x50 d5 r5;go_upto_region 7 with(refine zst N5.o DJ.o (by simp[A9.o,BE.o]) BV.o ?_)
  obtain⟨W6,hW6⟩:=eqx ((w5.alloc (.cells Tryz.zeroCells57 57)).setRow w5.heap.size X5.toArray);rw[←hW6];obtain⟨B9,hB9⟩:=eqx w5.heap.size;rw[←hB9];have n6:Blk W6 B9 57 X5.toArray:=by rw[hW6,hB9];exact(Blk.new _ _ _).setRow _
  have b56:Below w5.heap.size w5 W6:=by rw[hW6];exact below_setRow ((tA5 _ _).alloc (tA4 _) _) (tA4 _) _
  obtain⟨E2,N6,CW⟩:=zh3 b56 n6 (show w5.heap.size≤B9 by omega);have AB:=zh1 (show col5 B9=0 by
   by_cases e:col5 B9=0
   · exact e
   obtain⟨Lx,cx,mx⟩:=D5.mdl;have:=mx.fin B9 e;omega)
  obtain⟨Q6,G6,BF,Z6,D6,CX,BZ,C0⟩:=zh8 (Q5.below b56 Q5.lt) (G5.below b56 G5.lt) (BW.below b56 BW.lt) (Z5.below b56 Z5.lt) (D5.call b56) (R5.call b56) (BY.trans (Rest.of_below b56)) (show StAt 92 74 66 W6 col5 2 L css s from StAt.call ⟨AA.tens.keep (D5.turns.keeps rfl),AA.tres.keep (D5.turns.keeps rfl),AA.gras.keep (D5.turns.keeps rfl),D5.old⟩ b56);obtain⟨L1,css1,m6⟩:=D6.mdl;have M6:=zh1 m6;have B4:=AF;obtain⟨CY,DK,DL,DM,E3⟩:=zh5 (show B9≠w.heap.size+1 by omega) (show B9≠B8 by have:=BW.lt;omega) (show B9≠G by have:=G5.lt;omega) (show B9≠w.heap.size by omega) (show B9≠g by intro e;have h1:=AB.o;rw[e,m6.own]at h1;cases h1);clear hW6 hB9 n6 b56 m6;have n0:=(N6.cell 0).trans AP.o;by_cases ha0:aw=0
  ·
   subst ha0;have hw:=CV.o;have hwhy:(qmw c s R).2.why=0:=by rw[AO.o];exact hw
   have A4:=zh1 hwhy;have kop:=(Q6.cell 0).trans B5.o;clear hw hwhy;go_upto_region 7 with(fail)
   go_wp2_with fail
   refine zca (ql5 R.op W6) ?_;cases hadm:ql4 R.op with
   |false=>
    have A0:=zh1 hadm;clear hadm kop;have N7:=N6;have G7:=G6;have Q7:=Q6;have Z7:=Z6;have M7:=M6;have AM:=BZ;have C1:=CX;have sokx:=A2.o;obtain⟨x1,hx1⟩:∃x,s1.tens[tn]? =some x:=⟨_,tA7 (by rw[sokx.tensn];exact AK.o)⟩;obtain⟨tk,htk⟩:=xeq x1.tok;have tkb:tk<4294967296:=by have h1:=(sokx.ten hx1).tok;have h2:=(sokx.ten hx1).burst;omega
    have cob:=CK.o;obtain⟨AQ,AR⟩:=zh2 hx1 htk;have q16:(tn:Int)<16:=by have:=AK.o;omega
    have q16n:=AK.o;have q0:(0:Int)≤tn:=zo;clear sokx hx1 htk;go_upto_region 12 with(fail)
    obtain⟨S,HS9⟩:=zS fun w'=>Below (W6).heap.size (W6) w'
    refine zrs S 10 (zq 0 10 []) ((HS9.o _).mpr ((tA5 _ _).drew)) ?_;obtain⟨F7,F0⟩:=zh2 (fun(w':World)(h:S w')=>(M7.call ((HS9.o w').mp h)).c7) (fun(w':World)(h:S w')=>((G7.below ((HS9.o w').mp h) G7.lt).cell 0).trans X0.o);iterate 10 (refine zre rfl rfl (fun w1 hS=>by have g7:=F7.o w1 hS;have g0:=F0.o w1 hS;clear hS;go_simp;try rfl) ?_)
    refine qbf ?_;clear HS9 F7 F0;obtain⟨W8,hW8⟩:=eqx ((W6).drew);have AC:=zh1 (show Below (W6).heap.size (W6) W8 by rw[hW8];exact(tA5 _ _).drew);rw[←hW8];clear hW8;have C3:=zh1 (fun (w':World) (hb:Below (W6).heap.size (W6) w')=>(show w'.cell? ⟨L1.tg,tn*6+3,none⟩=some (.int .u32 (tk:Int)) from(M7.call hb).st.tens.cell ((qnl AQ.o zo).trans (by rw[←AR.o];rfl))));go_upto_region 13 with(fail)
    obtain⟨S,HS9⟩:=zS fun w'=>Below W8.heap.size W8 w'
    refine zrs S 13 (zq 0 13 [(13,true)]) ((HS9.o _).mpr ((tA5 _ _).drew)) ?_;have F3:=zh1 (fun(w':World)(h:S w')=>C3.o w' (AC.trans (((HS9.o w').mp h).mono AC.size)));have wv:(tk:Int) - min (cost:Int) (tk:Int)=((tk - cost:Nat):Int):=zo;obtain⟨v,hv⟩:=xeq (tk - cost);rw[hv]at wv;have wv2:IntKind.u32.wrap ((tk:Int) - min (cost:Int) (tk:Int))=(v:Int):=by rw[tBf _ zo];exact wv
    have wv3:IntKind.u32.wrap (v:Int)=(v:Int):=tBf _ zo;have HV:=zh1 hv;clear hv;iterate 13 (refine zre rfl rfl (fun w1 hS=>by have g3:=F3.o w1 hS;clear hS;go_simp;try rfl) ?_)
    obtain⟨Wt,hWt⟩:=eqx W8.drew;have B7t:=zh1 (show Below (W6).heap.size (W6) Wt by rw[hWt];exact AC.trans (((tA5 _ _).drew).mono AC.size));rw[←hWt];clear hWt;have c3:=C3.o Wt B7t.o;have Mt:=M7.call B7t.o;have f3:=Mt.st.tens.frozen (tn*6+3);have m9:=Mt.tenOver (.inr rfl) A2.o AQ.o (j:=3) (cs:=[.int .u32 (v:Int)]) (fun x=>{x with tok:=x.tok - cost}) zm (by rw[←HV.o,←AR.o];simp[over,tenv]);rw[show Wt.setCells L1.tg (tn*6+3) [.int .u32 (v:Int)]=Wt.setCell ⟨L1.tg,tn*6+3,none⟩ (.int .u32 (v:Int)) from rfl]at m9;have t9:Turns (· ==6) Wt col5 (Wt.setCell ⟨L1.tg,tn*6+3,none⟩ (.int .u32 (v:Int))) col5:=Turns.setCell _ (by simp[Mt.st.tens.1]);obtain⟨M9,T9⟩:=zh2 m9 t9;clear m9 t9 Mt;refine zw ?_;go_simp;try simp only[Act.put,tA0,tA1,tA2]
    refine qbf ?_;rw[show tn*6+1+2=tn*6+3 from rfl];try rw[wv3]
    clear HS9 F3 c3 f3 wv wv2 wv3;obtain⟨W9,hW9⟩:=eqx (Wt.setCell ⟨L1.tg,tn*6+3,none⟩ (.int .u32 (v:Int)));rw[←hW9]at M9 T9 ⊢;clear hW9;have n9:=N7.below B7t.o N7.lt;have q9:=Q7.below B7t.o Q7.lt;have z9:=Z7.below B7t.o Z7.lt;obtain⟨N9,Q9,Z9,AS,C2,AI⟩:=zh6 (show Blk W9 B9 57 X5.toArray from(T9.block _ n9.lt (by rw[AB.o];rfl)).trans n9) (show Blk W9 w.heap.size 34 Q.toArray from(T9.block _ q9.lt (by rw[BX.o];rfl)).trans q9) (show Blk W9 (w.heap.size+1) 57 Tryz.zeroCells57 from(T9.block _ z9.lt (by rw[AF.o];rfl)).trans z9) ((AM.trans (Rest.of_below B7t.o)).step T9.o rfl) ((C1.call B7t.o).turns T9.o rfl) (A2.setX (n:=tn) (f:=fun x=>{x with tok:=x.tok - cost}) (fun x _ o=>{o with tok:=by have:=o.tok;show x.tok - cost≤x.burst;omega}));clear n9 q9 z9;have hs2:qux c s R=s1.setX tn fun x=>{x with tok:=x.tok - cost}:=by
     unfold qux;rw[CH.o,Option.getD_some,B6.o,tBe,CJ.o,BU.o]
    have A1:=zh1 (show doS c s R=(s1.setX tn fun x=>{x with tok:=x.tok - cost},a) by rw[quz AD.o A4.o A0.o,hs2,AO.o]);clear hs2;have kop:=(Q9.cell 0).trans B5.o;go_wp2_with fail
    refine zca (ql5 R.op W9) ?_;rw[A0.o];have BG:=AF;obtain⟨AT,A5⟩:=zh2 (qap (N9.o) 0 X5 (fun j u h=>by simpa using h)) (show (Tryz.prog.info? 57).map (·.size)=some (X5).length by rw[(A9).o];kernel_rfl);go_wp2_with (first
     |(refine zld AT.o zu57 A5.o ?_)
     |(refine wpList_store_row rfl 57 (.tmp 4) (.tmp 114) rfl (w.heap.size+1) (X5).toArray rfl rfl 57 _ (Z9.o) (by simpa using A5.o) (by simp[(A9).o,BE.o]) (by simpa using (BV).o) ?_))
    have A6:=qap ((Z9.o).setRow (X5).toArray) 0 X5 (fun j u h=>by simpa using h);refine zrt A6 zu57 A5.o ⟨_,Col.back col5,?_,?_,rfl,?_,?_,((AS.o).newer (qam _ (w.heap.size+1) (X5).toArray) zo).back⟩;rotate_left 2
    · rw[A1.o]
      exact(((C2.o).grown (Z9.o) (qam _ (w.heap.size+1) (X5).toArray)).base (by have:=R4.size;omega)).back
    rw[A1.o];exact((M9.o).grown0 (.inr rfl) (qam _ (w.heap.size+1) (X5).toArray) (BG.o)).back
   |true=>
    obtain⟨A0,AU⟩:=zh2 hadm (qap BF.o 0 SV (fun j u h=>by simpa using h));have cf:=quq c s s1 L L1 col5 g css css1 W6 HC.o HS.o M6.o C0.o;rw[BM.o]at cf;obtain⟨fw,hfw⟩:=xeq (qup c s);rw[hfw]at cf;obtain⟨CF,C4⟩:=zh2 cf hfw;clear hadm kop cf hfw n0;go_wp2_with (refine zld AU.o zu49 AH.o ?_)
    refine zcb CF.o fun w7 b7=>?_
    have n6:=N6.below b7 N6.lt;have n0:=(n6.cell 0).trans AP.o;have f0:=n6.frozen 0;have gr:=qab (tB9 w7 (some B9)) (p:=⟨B9,0,none⟩) (.inl rfl) (.int .i64 (fw:Int));have n7:=n6.set_ 0 (.int .i64 (fw:Int));have z7:=(Z6.below b7 Z6.lt).grown gr (by intro e;injection e with e;exact CY.o e.symm);have q7:=(Q6.below b7 Q6.lt).grown gr (by intro e;injection e with e;exact DM.o e.symm);have g7:=(G6.below b7 G6.lt).grown gr (by intro e;injection e with e;exact DL.o e.symm);have sb7:=(BF.below b7 BF.lt).grown gr (by intro e;injection e with e;exact DK.o e.symm);have m7:=(M6.call b7).grown0 (.inr rfl) gr AB.o;have st7:=(C0.call b7).grown0 (.inl rfl) gr AB.o;have r7:=(BZ.trans (Rest.of_below b7)).newer gr (by have:=BY.size;have:=CW.o;omega);have rv7:=(CX.call b7).grown n6 gr;go_upto_region 9 with(fail)
    obtain⟨W7,hW7⟩:=eqx (w7.setCell ⟨B9,0,none⟩ (.int .i64 (fw:Int)));rw[←hW7]at n7 z7 q7 g7 sb7 m7 st7 r7 rv7 ⊢;obtain⟨N7a,Z7,Q7,G7,DN,M7,DO,AM⟩:=zh8 n7 z7 q7 g7 sb7 m7 st7 r7;have C1:=zh1 rv7;clear hW7 n6 n0 f0 gr n7 z7 q7 g7 sb7 m7 st7 r7 rv7 b7;by_cases hf0:fw=0
    ·
     subst hf0;have N7:=zh1 (show Blk W7 B9 57 X5.toArray by have h:=N7a.o;rwa[qvr AP.o]at h);have n0:=(N7.cell 0).trans AP.o;have sokx:=A2.o;obtain⟨x1,hx1⟩:∃x,s1.tens[tn]? =some x:=⟨_,tA7 (by rw[sokx.tensn];exact AK.o)⟩;obtain⟨tk,htk⟩:=xeq x1.tok;have tkb:tk<4294967296:=by have h1:=(sokx.ten hx1).tok;have h2:=(sokx.ten hx1).burst;omega
     have cob:=CK.o;obtain⟨AQ,AR⟩:=zh2 hx1 htk;have q16:(tn:Int)<16:=by have:=AK.o;omega
     have q16n:=AK.o;have q0:(0:Int)≤tn:=zo;clear sokx hx1 htk;go_upto_region 12 with(fail)
     obtain⟨S,HS9⟩:=zS fun w'=>Below (W7).heap.size (W7) w'
     refine zrs S 10 (zq 0 10 []) ((HS9.o _).mpr ((tA5 _ _).drew)) ?_;obtain⟨F7,F0⟩:=zh2 (fun(w':World)(h:S w')=>(M7.call ((HS9.o w').mp h)).c7) (fun(w':World)(h:S w')=>((G7.below ((HS9.o w').mp h) G7.lt).cell 0).trans X0.o);iterate 10 (refine zre rfl rfl (fun w1 hS=>by have g7:=F7.o w1 hS;have g0:=F0.o w1 hS;clear hS;go_simp;try rfl) ?_)
     refine qbf ?_;clear HS9 F7 F0;obtain⟨W8,hW8⟩:=eqx ((W7).drew);have AC:=zh1 (show Below (W7).heap.size (W7) W8 by rw[hW8];exact(tA5 _ _).drew);rw[←hW8];clear hW8;have C3:=zh1 (fun (w':World) (hb:Below (W7).heap.size (W7) w')=>(show w'.cell? ⟨L1.tg,tn*6+3,none⟩=some (.int .u32 (tk:Int)) from(M7.call hb).st.tens.cell ((qnl AQ.o zo).trans (by rw[←AR.o];rfl))));go_upto_region 13 with(fail)
     obtain⟨S,HS9⟩:=zS fun w'=>Below W8.heap.size W8 w'
     refine zrs S 13 (zq 0 13 [(13,true)]) ((HS9.o _).mpr ((tA5 _ _).drew)) ?_;have F3:=zh1 (fun(w':World)(h:S w')=>C3.o w' (AC.trans (((HS9.o w').mp h).mono AC.size)));have wv:(tk:Int) - min (cost:Int) (tk:Int)=((tk - cost:Nat):Int):=zo;obtain⟨v,hv⟩:=xeq (tk - cost);rw[hv]at wv;have wv2:IntKind.u32.wrap ((tk:Int) - min (cost:Int) (tk:Int))=(v:Int):=by rw[tBf _ zo];exact wv
     have wv3:IntKind.u32.wrap (v:Int)=(v:Int):=tBf _ zo;have HV:=zh1 hv;clear hv;iterate 13 (refine zre rfl rfl (fun w1 hS=>by have g3:=F3.o w1 hS;clear hS;go_simp;try rfl) ?_)
     obtain⟨Wt,hWt⟩:=eqx W8.drew;have B7t:=zh1 (show Below (W7).heap.size (W7) Wt by rw[hWt];exact AC.trans (((tA5 _ _).drew).mono AC.size));rw[←hWt];clear hWt;have c3:=C3.o Wt B7t.o;have Mt:=M7.call B7t.o;have f3:=Mt.st.tens.frozen (tn*6+3);have m9:=Mt.tenOver (.inr rfl) A2.o AQ.o (j:=3) (cs:=[.int .u32 (v:Int)]) (fun x=>{x with tok:=x.tok - cost}) zm (by rw[←HV.o,←AR.o];simp[over,tenv]);rw[show Wt.setCells L1.tg (tn*6+3) [.int .u32 (v:Int)]=Wt.setCell ⟨L1.tg,tn*6+3,none⟩ (.int .u32 (v:Int)) from rfl]at m9;have t9:Turns (· ==6) Wt col5 (Wt.setCell ⟨L1.tg,tn*6+3,none⟩ (.int .u32 (v:Int))) col5:=Turns.setCell _ (by simp[Mt.st.tens.1]);obtain⟨M9,T9⟩:=zh2 m9 t9;clear m9 t9 Mt;refine zw ?_;go_simp;try simp only[Act.put,tA0,tA1,tA2]
     refine qbf ?_;rw[show tn*6+1+2=tn*6+3 from rfl];try rw[wv3]
     clear HS9 F3 c3 f3 wv wv2 wv3;obtain⟨W9,hW9⟩:=eqx (Wt.setCell ⟨L1.tg,tn*6+3,none⟩ (.int .u32 (v:Int)));rw[←hW9]at M9 T9 ⊢;clear hW9;have n9:=N7.below B7t.o N7.lt;have q9:=Q7.below B7t.o Q7.lt;have z9:=Z7.below B7t.o Z7.lt;obtain⟨N9,Q9,Z9,AS,C2,AI⟩:=zh6 (show Blk W9 B9 57 X5.toArray from(T9.block _ n9.lt (by rw[AB.o];rfl)).trans n9) (show Blk W9 w.heap.size 34 Q.toArray from(T9.block _ q9.lt (by rw[BX.o];rfl)).trans q9) (show Blk W9 (w.heap.size+1) 57 Tryz.zeroCells57 from(T9.block _ z9.lt (by rw[AF.o];rfl)).trans z9) ((AM.trans (Rest.of_below B7t.o)).step T9.o rfl) ((C1.call B7t.o).turns T9.o rfl) (A2.setX (n:=tn) (f:=fun x=>{x with tok:=x.tok - cost}) (fun x _ o=>{o with tok:=by have:=o.tok;show x.tok - cost≤x.burst;omega}));clear n9 q9 z9;clear n0;have hs3:quw c s R=((s1.setX tn fun x=>{x with tok:=x.tok - cost}).setT 0 fun t=>{t with leaves:=t.leaves++[qmx (s1.setX tn fun x=>{x with tok:=x.tok - cost}) R]}).pub c 0:=by
      unfold quw;rw[CH.o,Option.getD_some,B6.o,tBe,CJ.o,BU.o]
     obtain⟨hl1,hl2⟩:=qvi C4.o;have hle:=qs2 (s:=s) (s':=s1.setX tn fun x=>{x with tok:=x.tok - cost}) (by have h:=qrz (c:=c) (s:=s) A0.o;rw[BU.o]at h;exact h) hl1;have CN:=zh1 (DG.o W9 col5 _ L1 _ AI.o M9.o (HR.rest AS.o) (TT.rest AS.o H.base) A0.o hle);have sok3:=(qs1 AI.o HR.good A0.o hle (s1.setX tn fun x=>{x with tok:=x.tok - cost})).pub c (n:=0) zdc;obtain⟨s3,h3⟩:=xeq (((s1.setX tn fun x=>{x with tok:=x.tok - cost}).setT 0 fun t=>{t with leaves:=t.leaves++[qmx (s1.setX tn fun x=>{x with tok:=x.tok - cost}) R]}).pub c 0);rw[h3]at hs3 sok3 CN;obtain⟨D1,AJ,C5⟩:=zh3 hs3 sok3 (qap Q9.o 0 Q (fun j u h=>by simpa using h));have kop:=(Q9.cell 0).trans B5.o;obtain⟨DP,DQ⟩:=zh2 hl1 hl2;clear hs3 sok3 h3 hle hl1 hl2;go_wp2_with fail
     refine zca (ql5 R.op W9) ?_;rw[A0.o];clear kop;go_wp2_with (refine zld C5.o zu34 BL.o ?_)
     refine CN.o.mono ?_;rintro e w11 ⟨col6,rfl,d11⟩;obtain⟨L3,css3,m11⟩:=d11.mdl;obtain⟨C6,C7,AV,BG,C8,AW,AX,BI⟩:=zh8 (show Blk w11 B9 57 X5.toArray from(d11.turns.block _ N9.lt (by rw[AB.o];rfl)).trans N9.o) (show Blk w11 w.heap.size 34 Q.toArray from(d11.turns.block _ Q9.lt (by rw[BX.o];rfl)).trans Q9.o) (show Blk w11 (w.heap.size+1) 57 Tryz.zeroCells57 from(d11.turns.block _ Z9.lt (by rw[AF.o];rfl)).trans Z9.o) ((d11.turns.same _ Z9.lt).trans AF.o) ((d11.turns.same _ N9.lt).trans AB.o) (AS.step d11.turns rfl) (C2.turns d11.turns rfl) m11;clear m11 d11;have kop:=(C7.cell 0).trans B5.o;by_cases h9:R.op=9
     ·
      have q9:(R.op==9)=true:=by simpa using h9
      have A1:=zh1 (show doS c s R=(s3,{a with hd:=(s3.tres[R.tree.toNat]?.getD Tre.zero).hd}) by rw[qvj AD.o A4.o A0.o C4.o h9,D1.o,AO.o]);obtain⟨t0,ht0⟩:=qvs h9 A4.o;obtain⟨hp,ht1,-,-⟩:=Sta.tree_some ht0;obtain⟨n,hn⟩:∃n:Nat,R.tree=n:=⟨R.tree.toNat,by omega⟩;have hn16:n<16:=by
       obtain⟨h1,_⟩:=tA8 ht1;rw[HS.tresn]at h1;omega
      obtain⟨t3,ht3⟩:∃t,s3.tres[n]? =some t:=⟨_,tA7 (by rw[AJ.tresn];exact hn16)⟩;rw[hn,tBe,ht3,Option.getD_some]at A1;have k35:Q.toArray[35]? =some (.int .i64 (n:Int)):=by rw[tA3,←hn];exact BK.o 0
      have DR:=zh1 k35;have h3o:=(AJ.tre ht3).hd;have DS:=zh1 ht3;have q16:(n:Int)<16:=zo;have q0:(0:Int)≤n:=zo;clear ht0 hp ht1 hn ht3 k35 h9;obtain⟨HV,hHV⟩:=xeq (hdv t3.hd);have lHV:HV.length=68:=by rw[←hHV];exact qnj h3o
      have oHV:∀u∈HV,u.oneCell'=true:=by rw[←hHV];exact qm8 _
      have DT:=zh1 (fun(w':World)(hb:Below w11.heap.size w11 w')=>(show w'.rangeAt L3.rg (n*75+7) HV from by
       obtain⟨-,Ad,cd,Al',cl',Aq,cq,-,hcell,-,-,-⟩:=(BI.call hb).st.tree AJ.o DS.o;intro j u hu;have h7:=hcell (7+j) u ((qul _ _ _ _ j).trans (by rw[hHV];exact hu));rw[←Nat.add_assoc]at h7;exact h7))
      obtain⟨D2,DU,C9,DV,D3⟩:=zh5 (zI 55 lHV) hHV lHV oHV h3o;clear hHV lHV oHV h3o;go_upto_region 17 with(fail)
      clear kop;obtain⟨S,HS9⟩:=zS fun w'=>Below w11.heap.size w11 w'
      refine zrs S 11 (zq 0 11 [(11,true)]) ((HS9.o _).mpr ((tA5 _ _).drew)) ?_;obtain⟨F8,D4,FH⟩:=zh3 (fun(w':World)(h:S w')=>(BI.call ((HS9.o w').mp h)).c8) (fun(w':World)(h:S w')=>((C7.below ((HS9.o w').mp h) C7.lt).cell 35).trans DR.o) (fun(w':World)(h:S w')=>DT.o w' ((HS9.o w').mp h));iterate 9 (refine zre rfl rfl (fun w1 hS=>by have g8:=F8.o w1 hS;have g35:=D4.o w1 hS;clear hS;go_simp;try rfl) ?_)
      refine qo9 rfl rfl 55 (.tmp 111) rfl L3.rg (n*75+7) rfl HV _ FH.o Tryz.underlying55 rfl D2.o ?_;try simp only[Act.put,tA0,tA1,tA2]
      iterate 1 (refine zrb ?_)
      obtain⟨Wh,hWh,BH⟩:=zdr w11;rw[←hWh];clear hWh;have nh:=C6.below BH.o C6.lt;refine zw ?_;refine wp_store_mid 55 (.tmp 113) (.tmp 112) rfl B9 4 HV.toArray rfl rfl (fun j hj=>⟨by rw[nh.cell,tA3,tA7 (by have h0:HV.toArray.size=68:=List.size_toArray.trans C9.o;rw[A9.o];omega)];simp,nh.frozen _⟩) (by have h0:HV.toArray.size=HV.length:=tB6;rw[h0];exact D2.o) (by simpa using DV.o) ?_;have gr:=qn6 B9 HV 4 Wh;have n12:=qn5 HV 4 Wh X5 nh (by rw[A9.o,C9.o];decide);have z12:=(AV.below BH.o AV.lt).grown gr (by intro e;injection e with e;exact CY.o e.symm);have m12:=(BI.call BH.o).grown0 (.inr rfl) gr C8.o;have r12:=(AW.trans (Rest.of_below BH.o)).newer gr (by have:=BY.size;have:=CW.o;omega);have rv12:=((AX.call BH.o).grown nh gr).head CU.o.1 D3.o;rw[DU.o]at rv12;obtain⟨X6,hX6⟩:=xeq (over X5 4 HV);have lX6:X6.length=106:=by rw[←hX6,qn4 (by rw[A9.o,C9.o];decide)];exact A9.o
      rw[hX6]at n12 rv12;obtain⟨X7,e7,lX7,oX7⟩:=rv12.cells ⟨D3.o,CU.o.2⟩;have e67:X6=X7:=by injection e7 with e7;simpa using e7
      rw[←e67]at oX7;clear e7 e67 lX7;obtain⟨D7,DW,D8,BJ,D9,DA,AY⟩:=zh7 lX6 oX7 n12 z12 m12 r12 rv12;clear nh gr n12 z12 m12 r12 rv12 lX6 oX7 hX6;refine⟨fun h=>absurd h zdc,zput ?_⟩;refine qbf ?_;clear HS9 F8 D4 FH;obtain⟨E4,hW12⟩:=eqx (Wh.setCells B9 4 HV);try rw[show HV.toArray.toList=HV from rfl]
      rw[←hW12]at D8 BJ D9 DA AY ⊢;clear hW12;obtain⟨AT,A5⟩:=zh2 (qap (D8.o) 0 X6 (fun j u h=>by simpa using h)) (show (Tryz.prog.info? 57).map (·.size)=some (X6).length by rw[(D7).o];kernel_rfl);go_wp2_with (first
       |(refine zld AT.o zu57 A5.o ?_)
       |(refine wpList_store_row rfl 57 (.tmp 4) (.tmp 114) rfl (w.heap.size+1) (X6).toArray rfl rfl 57 _ (BJ.o) (by simpa using A5.o) (by simp[(D7).o,BE.o]) (by simpa using (DW).o) ?_))
      have A6:=qap ((BJ.o).setRow (X6).toArray) 0 X6 (fun j u h=>by simpa using h);refine zrt A6 zu57 A5.o ⟨_,Col.back col6,?_,?_,rfl,?_,?_,((DA.o).newer (qam _ (w.heap.size+1) (X6).toArray) zo).back⟩;rotate_left 2
      · rw[A1.o]
        exact(((AY.o).grown (BJ.o) (qam _ (w.heap.size+1) (X6).toArray)).base (by have:=R4.size;omega)).back
      rw[A1.o];exact((D9.o).grown0 (.inr rfl) (qam _ (w.heap.size+1) (X6).toArray) (BG.o)).back
     have q9:(R.op==9)=false:=by simpa using h9
     have A1:=zh1 (show doS c s R=(s3,a) by rw[quy AD.o A4.o A0.o DP.o DQ.o h9,D1.o,AO.o]);clear h9;go_upto_region 18 with(fail)
     clear kop;obtain⟨AT,A5⟩:=zh2 (qap (C6.o) 0 X5 (fun j u h=>by simpa using h)) (show (Tryz.prog.info? 57).map (·.size)=some (X5).length by rw[(A9).o];kernel_rfl);go_wp2_with (first
      |(refine zld AT.o zu57 A5.o ?_)
      |(refine wpList_store_row rfl 57 (.tmp 4) (.tmp 114) rfl (w.heap.size+1) (X5).toArray rfl rfl 57 _ (AV.o) (by simpa using A5.o) (by simp[(A9).o,BE.o]) (by simpa using (BV).o) ?_))
     have A6:=qap ((AV.o).setRow (X5).toArray) 0 X5 (fun j u h=>by simpa using h);refine zrt A6 zu57 A5.o ⟨_,Col.back col6,?_,?_,rfl,?_,?_,((AW.o).newer (qam _ (w.heap.size+1) (X5).toArray) zo).back⟩;rotate_left 2
     · rw[A1.o]
       exact(((AX.o).grown (AV.o) (qam _ (w.heap.size+1) (X5).toArray)).base (by have:=R4.size;omega)).back
     rw[A1.o];exact((BI.o).grown0 (.inr rfl) (qam _ (w.heap.size+1) (X5).toArray) (BG.o)).back
    have qa:((fw:Int)==0)=false:=by simp;omega
    have A1:=zh1 (qvh (s:=s) AD.o A4.o A0.o C4.o hf0);obtain⟨Lu,mu,tu⟩:=M7.unfork DO.o;rw[BM.o]at mu tu;obtain⟨MU,TU,AU⟩:=zh3 mu tu (qap DN.o 0 SV (fun j u h=>by simpa using h));have CA:=zh1 (show W7.there g 4 SV.toArray.size from by
     have h0:SV.toArray.size=6:=List.size_toArray.trans BN.o;rw[h0];exact M7.there4)
    have CC:=zh1 (show (Tryz.prog.info? 49).map (·.size)=some SV.toArray.size from by
     have h0:SV.toArray.size=SV.length:=tB6;rw[h0];exact AH.o)
    obtain⟨CE,DB⟩:=zh2 (show SV.toArray.all (·.oneCell')=true by simpa using BO.o) (show (X5.toArray.setIfInBounds 0 (.int .i64 (fw:Int)))[0]? =some (.int .i64 (fw:Int)) by rw[Array.getElem?_setIfInBounds_self_of_lt (by rw[tB6,A9.o];decide)]);have n0:=(N7a.cell 0).trans DB.o;clear mu tu hf0;go_upto_region 11 with(first
     |(refine zld AU.o zu49 AH.o ?_)
     |(refine wpList_store_mid rfl 49 (.tmp 68) (.tmp 66) rfl g 4 SV.toArray rfl rfl CA.o CC.o CE.o ?_))
    clear n0;obtain⟨Wu,hWu⟩:=eqx (W7.setCells g 4 SV);try rw[show SV.toArray.toList=SV from rfl]
    rw[←hWu]at MU TU ⊢;clear hWu;have n7:=(TU.block _ N7a.lt (by rw[AB.o];rfl)).trans N7a.o;have z7:Blk Wu (w.heap.size+1) 57 Tryz.zeroCells57:=(TU.block _ Z7.lt (by rw[AF.o];rfl)).trans Z7.o;obtain⟨Z7u,R7u⟩:=zh2 z7 (AM.step TU.o rfl);have n0:=(Blk.cell (w:=Wu) n7 0).trans DB.o;clear n7 z7;obtain⟨X9,hX9⟩:=xeq (qq9 (rWhy fw));have lX9:X9.length=106:=by rw[←hX9];exact qqa _ Hd.zero_Ok (by simp[rWhy,qir,qgq])
    have oX9:∀u∈X9,u.oneCell'=true:=by rw[←hX9];exact qqb _
    obtain⟨BT,AZ,B2,B3,AG,A7⟩:=zh6 (show Tryz.prog.built 57 [(0,.int .i64 ((fw:Nat):Int))]=some X9.toArray by rw[←hX9];exact qq8 _) hX9 lX9 oX9 (zI 57 lX9) qqc;clear hX9 lX9 oX9;go_wp2_with (first
     |(refine qbj rfl ⟨.agg X9.toArray,qgn 57 _ rfl _ _ BT.o (by simp[Act.eval,Act.put]),?_⟩)
     |(refine zst (Z7u.o) AG.o (by simp[B2.o,A7.o]) B3.o ?_))
    have A6:=qap ((Z7u.o).setRow X9.toArray) 0 X9 (fun j u h=>by simpa using h);refine zrt A6 zu57 AG.o ⟨_,col5,?_,?_,rfl,?_,?_,(R7u.o).newer (qam _ (w.heap.size+1) X9.toArray) zo⟩;rotate_left 2
    · rw[(A1.o),←AZ.o]
      exact RspV.plain _ _ _ _ rfl rfl rfl
    rw[(A1.o)];exact(MU.o).grown0 (.inl rfl) (qam _ (w.heap.size+1) X9.toArray) B4.o
  ·
   have qa:((aw:Int)==0)=false:=by simp;omega
   have A1:=zh1 (qv1 (s:=s) AD.o (show (qmw c s R).2.why=(aw:Int) by rw[AO.o];exact CV.o) ha0);obtain⟨Lu,mu,tu⟩:=M6.unfork C0.o;rw[BM.o]at mu tu;obtain⟨MU,TU,AU⟩:=zh3 mu tu (qap BF.o 0 SV (fun j u h=>by simpa using h));have CA:=zh1 (show W6.there g 4 SV.toArray.size from by
    have h0:SV.toArray.size=6:=List.size_toArray.trans BN.o;rw[h0];exact M6.there4)
   have CC:=zh1 (show (Tryz.prog.info? 49).map (·.size)=some SV.toArray.size from by
    have h0:SV.toArray.size=SV.length:=tB6;rw[h0];exact AH.o)
   have CE:=zh1 (show SV.toArray.all (·.oneCell')=true by simpa using BO.o);clear mu tu ha0;go_upto_region 11 with(first
    |(refine zld AU.o zu49 AH.o ?_)
    |(refine wpList_store_mid rfl 49 (.tmp 68) (.tmp 66) rfl g 4 SV.toArray rfl rfl CA.o CC.o CE.o ?_))
   clear n0;obtain⟨W7,hW7⟩:=eqx (W6.setCells g 4 SV);try rw[show SV.toArray.toList=SV from rfl]
   rw[←hW7]at MU TU ⊢;clear hW7;have n7:Blk W7 B9 57 X5.toArray:=(TU.block _ N6.lt (by rw[AB.o];rfl)).trans N6.o;have z7:Blk W7 (w.heap.size+1) 57 Tryz.zeroCells57:=(TU.block _ Z6.lt (by rw[AF.o];rfl)).trans Z6.o;obtain⟨Z7,AM⟩:=zh2 z7 (BZ.step TU.o rfl);have n0:=(n7.cell 0).trans AP.o;clear n7 z7;obtain⟨X9,hX9⟩:=xeq (qq9 (rWhy aw));have lX9:X9.length=106:=by rw[←hX9];exact qqa _ Hd.zero_Ok (by simp[rWhy,qir,qgq])
   have oX9:∀u∈X9,u.oneCell'=true:=by rw[←hX9];exact qqb _
   obtain⟨BT,AZ,B2,B3,AG,A7⟩:=zh6 (show Tryz.prog.built 57 [(0,.int .i64 ((aw:Nat):Int))]=some X9.toArray by rw[←hX9];exact qq8 _) hX9 lX9 oX9 (zI 57 lX9) qqc;clear hX9 lX9 oX9;go_wp2_with (first
    |(refine qbj rfl ⟨.agg X9.toArray,qgn 57 _ rfl _ _ BT.o (by simp[Act.eval,Act.put]),?_⟩)
    |(refine zst (Z7.o) AG.o (by simp[B2.o,A7.o]) B3.o ?_))
   have A6:=qap ((Z7.o).setRow X9.toArray) 0 X9 (fun j u h=>by simpa using h);refine zrt A6 zu57 AG.o ⟨_,col5,?_,?_,rfl,?_,?_,(AM.o).newer (qam _ (w.heap.size+1) X9.toArray) zo⟩;rotate_left 2
   · rw[(A1.o),←AZ.o]
     exact RspV.plain _ _ _ _ rfl rfl rfl
   rw[(A1.o)];exact(MU.o).grown0 (.inl rfl) (qam _ (w.heap.size+1) X9.toArray) B4.o
 have A1:=zh1 (qv0 AD.o hw0);have qn:((wy:Int)==0)=false:=by simp;omega
 obtain⟨M1,R1⟩:=zh2 (H.call AE.o) (Rest.of_below (col:=col) AE.o);clear hw0;obtain⟨X9,hX9⟩:=xeq (qq9 (rWhy wy));have lX9:X9.length=106:=by rw[←hX9];exact qqa _ Hd.zero_Ok (by simp[rWhy,qir,qgq])
 have oX9:∀u∈X9,u.oneCell'=true:=by rw[←hX9];exact qqb _
 obtain⟨BT,AZ,B2,B3,AG,A7⟩:=zh6 (show Tryz.prog.built 57 [(0,.int .i64 ((wy:Nat):Int))]=some X9.toArray by rw[←hX9];exact qq8 _) hX9 lX9 oX9 (zI 57 lX9) qqc;clear hX9 lX9 oX9;go_wp2_with (first
  |(refine qbj rfl ⟨.agg X9.toArray,qgn 57 _ rfl _ _ BT.o (by simp[Act.eval,Act.put]),?_⟩)
  |(refine zst (Z1.o) AG.o (by simp[B2.o,A7.o]) B3.o ?_))
 have A6:=qap ((Z1.o).setRow X9.toArray) 0 X9 (fun j u h=>by simpa using h);refine zrt A6 zu57 AG.o ⟨_,col,?_,?_,rfl,?_,?_,(R1.o).newer (qam _ (w.heap.size+1) X9.toArray) zo⟩;rotate_left 2
 · rw[(A1.o),←AZ.o]
   exact RspV.plain _ _ _ _ rfl rfl rfl
 rw[(A1.o)];exact(M1.o).grown0 (.inl rfl) (qam _ (w.heap.size+1) X9.toArray) B4.o
def qvu (s:Sta)(k:Nat):Sta:={s with clock:=if s.clock<18446744073709551615 then s.clock+1 else s.clock,tens:=s.tens.mapIdx fun i x=>if i<k∧x.on=true then {x with tok:=if x.burst<x.tok+x.rate then x.burst else x.tok+x.rate} else x}
theorem qvv (s:Sta):qvu s 0={s with clock:=if s.clock<18446744073709551615 then s.clock+1 else s.clock}:=by
 unfold qvu;congr 1
 apply List.ext_getElem?;intro i;rw[List.getElem?_mapIdx];cases s.tens[i]? <;>simp
theorem qvw {s:Sta}(h:s.tens.length=16):qvu s 16=qmy s:=by
 unfold qvu qmy;congr 1
 apply List.ext_getElem?;intro i;rw[List.getElem?_mapIdx,tBj];cases hi:s.tens[i]? with
 |none=>rfl
 |some x=>
  obtain⟨h1,_⟩:=tA8 hi;simp[show i<16 by omega]
theorem qvx {s:Sta}{k i:Nat}{x:Ten}(h:s.tens[i]? =some x):(qvu s k).tens[i]? =some (if i<k∧x.on=true then {x with tok:=if x.burst<x.tok+x.rate then x.burst else x.tok+x.rate} else x):=by
 show (s.tens.mapIdx _)[i]? =_;rw[List.getElem?_mapIdx,h];rfl
theorem qvy {s:Sta}{k:Nat}{x:Ten}(h:s.tens[k]? =some x)(ho:x.on=false):qvu s (k+1)=qvu s k:=by
 unfold qvu;congr 1
 apply List.ext_getElem?;intro i;rw[List.getElem?_mapIdx,List.getElem?_mapIdx];by_cases e:i=k
 · subst e
   rw[h];simp[ho]
 cases s.tens[i]? with
 |none=>rfl
 |some y=>
  have e2:i<k+1 ↔ i<k:=zo;simp only[Option.map_some,e2]
theorem qvz {s:Sta}{k:Nat}{x:Ten}(h:s.tens[k]? =some x)(ho:x.on=true):qvu s (k+1)=(qvu s k).setX k fun y=>{y with tok:=if y.burst<y.tok+y.rate then y.burst else y.tok+y.rate}:=by
 unfold qvu Sta.setX;congr 1
 apply List.ext_getElem?;intro i;by_cases e:i=k
 ·
  subst e;rw[qo6 (x:=x)]
  · rw[List.getElem?_mapIdx,h]
    simp[ho]
  dsimp only;rw[List.getElem?_mapIdx,h];simp
 rw[qo7 _ _ (Ne.symm e)];dsimp only;rw[List.getElem?_mapIdx,List.getElem?_mapIdx];cases s.tens[i]? with
 |none=>rfl
 |some y=>
  have e2:i<k+1 ↔ i<k:=zo;simp only[Option.map_some,e2]
theorem qw0 {s:Sta}(hs:s.Ok)(k:Nat):(qvu s k).Ok:=by
 have hc:(if s.clock<18446744073709551615 then s.clock+1 else s.clock)<18446744073709551616:=by have:=hs.clock;split<;>omega
 refine {hs with clock:=hc,tensn:=by simpa [qvu] using hs.tensn,tens:=fun x hx=>?_};obtain⟨i,hi,rfl⟩:=List.mem_mapIdx.1 hx;have o:=hs.tens _ (List.getElem_mem hi);split
 · exact {o with tok:=by have:=o.tok;dsimp only;split<;>omega}
 exact o
theorem qw1 (c:Cfg)(s:Sta)(L:Loc)(col:Col)(g:Nat)(css:List (List Value))(w:World)(hs:s.Ok)(h:Mdl w col 2 g c s L css):
 Zc 34 #[.pointer (some ⟨g,0,none⟩)] w fun e w'=>e=.returned (.tuple #[])∧Mdl w' col 2 g c (qmy s) L css∧Rest w col w' col:=by
 have clb:=hs.clock;obtain⟨clk,hclk⟩:=xeq s.clock;have c4:=h.c4;have f4:=h.blk.frozen 4;rw[hclk]at c4 clb;obtain⟨cl2,hcl2⟩:∃n:Nat,(if clk<18446744073709551615 then clk+1 else clk)=n:=⟨_,rfl⟩;have hsum:sumI (clk:Int) 1=(cl2:Int):=by
  unfold sumI;rw[←hcl2];split<;>split<;>omega
 have m1:=h.own1 (.inl rfl) 4 (.int .u64 (cl2:Int)) (s':=qvu s 0) (by rw[qvv];simp only[hclk,hcl2];rfl) (by rw[qvv]) (by rw[qvv]) (by rw[qvv]);have t1:Turns (· ==1) w col (w.setCell ⟨g,4,none⟩ (.int .u64 (cl2:Int))) col:=Turns.setCell _ (by simp[h.own]);have r1:=Rest.of_turns t1 rfl;obtain⟨HS,A0,A4,A1⟩:=zh4 hs m1 r1 hsum;clear hs h hclk hcl2 hsum m1 t1 r1;go_enter Tryz.func34,Tryz.ntmps34
 go_wp2_with fail
 refine zca (qpz (clk:Int) 1 w zo zo zo zo) ?_;rw[A1.o];go_upto_region 1 with(fail)
 obtain⟨W1,hW1⟩:=eqx (w.setCell ⟨g,4,none⟩ (.int .u64 (cl2:Int)));rw[←hW1]at A0 A4 ⊢;clear hW1 c4 f4;have c7:=A0.c7;go_wp2_with fail
 clear c7;go_loopw [20] (fun i wr=>∃j:Nat,j≤16∧i=.int .i64 j∧Hid (Mdl wr col 2 g c (qvu s j) L css∧Rest w col wr col)) (fun i _=>16 - (intOf i).toNat)
 case atStart=>exact⟨0,by omega,rfl,zh1 ⟨A0.o,A4.o⟩⟩
 case round=>
  obtain⟨j,hj,rfl,hl⟩:=hrel;by_cases hjn:j<16
  ·
   have qj:(j:Int)<16:=zo;have qj0:(0:Int)≤j:=zo;obtain⟨x,hx⟩:∃x,s.tens[j]? =some x:=⟨_,tA7 (by rw[HS.tensn];exact hjn)⟩;have hxo:=HS.ten hx;have hxj:(qvu s j).tens[j]? =some x:=by rw[qvx hx];simp
   have c7:=hl.o.1.c7;have tc:∀i u,i<6→(tenv x)[i]? =some u→wr.cell? ⟨L.tg,j*6+i,none⟩=some u:=fun i u hi hu=>hl.o.1.st.tens.cell ((qnl hxj hi).trans hu)
   have t0:=tc 0 (.bool x.on) zo rfl;rw[Nat.add_zero]at t0;obtain⟨on,hon⟩:=xeq x.on;rw[hon]at t0;obtain⟨HL,HX,A2,A6,A5,A7⟩:=zh6 hl.o hx hxo hxj hon tc;clear hl hx hxo hxj hon tc;cases on with
   |false=>
    go_wp2
    go_roundw
    case rel=>exact⟨j+1,by omega,by go_num,zh1 (by rw[qvy HX.o A5.o];exact HL.o)⟩
    case measure=>simp[intOf];omega
   |true=>
    obtain⟨ra,hra⟩:=xeq x.rate;obtain⟨bu,hbu⟩:=xeq x.burst;obtain⟨tk,htk⟩:=xeq x.tok;obtain⟨tk2,htk2⟩:∃n:Nat,(if bu<tk+ra then bu else tk+ra)=n:=⟨_,rfl⟩;have b1:=A2.rate;have b2:=A2.burst;have b3:=A2.tok;rw[hra]at b1;rw[hbu]at b2;rw[htk,hbu]at b3;have hti:qpy (ra:Int) bu tk 1=(tk2:Int):=by
     unfold qpy;rw[←htk2];split<;>split<;>omega
    have A8:=zh1 (show wr.rangeAt L.tg (j*6+1) [.int .u32 (ra:Int),.int .u32 (bu:Int),.int .u32 (tk:Int)] from fun i u hu=>by
     obtain⟨hi,_⟩:=tA8 hu;have hi3:i<3:=by simpa using hi
     rw[Nat.add_assoc];refine A7.o (1+i) u zo ?_;rw[←hu,←hra,←hbu,←htk];unfold tenv;match i,hi3 with
     |0,_=>rfl
     |1,_=>rfl
     |2,_=>rfl)
    obtain⟨A9,AA,AB,AC,A3⟩:=zh5 hti hra hbu htk htk2;clear hti hra hbu htk htk2;go_wp2_with (first
     |(refine qaq rfl 90 (.tmp 37) rfl L.tg (j*6+1) rfl [.int .u32 (ra:Int),.int .u32 (bu:Int),.int .u32 (tk:Int)] _ A8.o Tryz.underlying90 rfl zk ?_)
     |((with_reducible refine(qq2 (ra:Int) bu tk 1 wr zo zo zo zo zo zo zo zo).mono ?_);rintro e w5 ⟨rfl,hb5⟩;have hth:=(HL.o.1.call hb5).st.tens.there (o:=j*6+1) (m:=3) (by rw[qnn,show (qvu s j).tens.length=16 from(qw0 HS.o j).tensn];omega);rw[A9.o])
     |(refine wpList_store_mid rfl 90 (.tmp 41) (.tmp 39) rfl L.tg (j*6+1) #[.int .u32 (ra:Int),.int .u32 (bu:Int),.int .u32 (tk2:Int)] rfl rfl hth zk (by simp[Value.oneCell']) ?_))
    obtain⟨M5,R5⟩:=zh2 (HL.o.1.call hb5) (HL.o.2.trans (Rest.of_below hb5));have m6:=M5.tenOver (.inl rfl) (qw0 HS.o j) A6.o (j:=1) (cs:=[.int .u32 (ra:Int),.int .u32 (bu:Int),.int .u32 (tk2:Int)]) (fun y=>{y with tok:=if y.burst<y.tok+y.rate then y.burst else y.tok+y.rate}) zm (by simp[over,tenv,AA.o,AB.o,AC.o,A3.o]);have t6:Turns (· ==2) w5 col (w5.setCells L.tg (j*6+1) [.int .u32 (ra:Int),.int .u32 (bu:Int),.int .u32 (tk2:Int)]) col:=Turns.setCells _ (by simp[M5.st.tens.1]);obtain⟨M6,R6⟩:=zh2 m6 (R5.step t6 rfl);clear m6 t6 hb5 t0 c7;try go_wp2
    go_roundw
    case rel=>
     have MR:=zh1 (And.intro M6.o R6.o);rw[←qvz HX.o A5.o]at MR;exact⟨j+1,by omega,by go_num,MR⟩
    case measure=>simp[intOf];omega
  obtain rfl:j=16:=zo;have HL:=zh1 hl.o;clear hl;go_wp2
  go_end0
  exact⟨rfl,by rw[←qvw HS.tensn];exact HL.o.1,HL.o.2⟩
abbrev LaneI:=Int × Int × Int
def qw2 (x:LaneI):List Value:=[.int .i64 x.1,.int .i64 x.2.1,.int .i64 x.2.2]
def qw3 (l:List LaneI):List Value:=l.flatMap qw2
theorem qw4 (l:List LaneI):(qw3 l).length=l.length*3:=by
 unfold qw3;rw[List.flatMap_def,qne (sz:=3) (fun c hc=>by obtain⟨y,_,rfl⟩:=List.mem_map.1 hc;rfl),tBl]
theorem qw5 {l:List LaneI}{n j:Nat}{x:LaneI}(h:l[n]? =some x)(hj:j<3):(qw3 l)[n*3+j]? =(qw2 x)[j]? :=by
 unfold qw3;rw[List.flatMap_def];exact qnd (fun c hc=>by obtain⟨y,_,rfl⟩:=List.mem_map.1 hc;rfl) (by rw[tBj,h];rfl) hj
theorem qw6 (l:List LaneI):∀u∈qw3 l,u.oneCell'=true:=by
 intro u hu;obtain⟨x,_,hx⟩:=List.mem_flatMap.1 hu;unfold qw2 at hx;simp only[List.mem_cons,List.not_mem_nil,or_false]at hx;rcases hx with rfl|rfl|rfl<;>rfl
theorem qw7 {ws:List Int}{a k:Nat}(hk:k<ws.length)(hb:∀j,j<k→ws.getD ((a+j) % ws.length) 0<1)(h:1≤ws.getD ((a+k) % ws.length) 0):qn1 ws a=some ((a+k) % ws.length):=by
 unfold qn1;rw[List.find?_map,(List.find?_range_eq_some (i:=k)).2 ⟨by simpa using h,List.mem_range.2 hk,fun j hj=>by
  have:=hb j hj;simp only[Function.comp];rw[decide_eq_false zo];rfl⟩]
 rfl
theorem qw8 {ws:List Int}{a:Nat}(hb:∀j,j<ws.length→ws.getD ((a+j) % ws.length) 0<1):qn1 ws a=none:=by
 unfold qn1;rw[List.find?_map,(List.find?_range_eq_none).2 fun j hj=>by
  have:=hb j hj;simp only[Function.comp];rw[decide_eq_false zo];rfl]
 rfl
def qw9 (l:List LaneI)(a:Nat)(q:Int):LaneI × List LaneI:=
 match qn1 (l.map (·.1)) a with
 |none=>((-1,0,(a:Int)),l)
 |some k=>
  let x:=l.getD k (0,0,0)
  let d:=x.2.2+min x.1 4*min (max q 1) 2
  let take:=max (min d x.2.1) 0
  (((k:Int),take,(((k+1) % l.length:Nat):Int)),l.set k (x.1,x.2.1 - take,if x.2.1 - take=0 then 0 else d - take))
def LanesOk (l:List LaneI):Prop:=∀x∈l,(0≤x.1∧x.1≤4)∧(0≤x.2.1∧x.2.1≤1048576)∧(0≤x.2.2∧x.2.2≤1048576)
theorem qwa {l:List LaneI}{a:Nat}{q:Int}(h:qn1 (l.map (·.1)) a=none):qw9 l a q=((-1,0,(a:Int)),l):=by
 unfold qw9;rw[h]
theorem qwb {l:List LaneI}{a k:Nat}{q:Int}{x:LaneI}(h:qn1 (l.map (·.1)) a=some k)(hx:l[k]? =some x):
 qw9 l a q=(((k:Int),max (min (x.2.2+min x.1 4*min (max q 1) 2) x.2.1) 0,(((k+1) % l.length:Nat):Int)),
  l.set k (x.1,x.2.1 - max (min (x.2.2+min x.1 4*min (max q 1) 2) x.2.1) 0,if x.2.1 - max (min (x.2.2+min x.1 4*min (max q 1) 2) x.2.1) 0=0 then 0 else x.2.2+min x.1 4*min (max q 1) 2 - max (min (x.2.2+min x.1 4*min (max q 1) 2) x.2.1) 0)):=by
 unfold qw9;rw[h];simp only[tB4,hx,Option.getD_some]
def qwc (s:Sta):List LaneI:=s.tres.mapIdx fun i t=>(qn3 i t,(t.queue.length:Int),t.deficit)
theorem qwd (s:Sta):(qwc s).map (·.1)=s.tres.mapIdx fun i t=>qn3 i t:=by
 unfold qwc;apply List.ext_getElem?;intro i;rw[tBj,List.getElem?_mapIdx,List.getElem?_mapIdx];cases s.tres[i]? <;>rfl
theorem qwe {s:Sta}{n:Nat}{t:Tre}(h:s.tres[n]? =some t):(qwc s)[n]? =some (qn3 n t,(t.queue.length:Int),t.deficit):=by
 unfold qwc;rw[List.getElem?_mapIdx,h];rfl
theorem qwf {s:Sta}(hs:s.Ok):LanesOk (qwc s):=by
 intro x hx;unfold qwc at hx;obtain⟨i,hi,rfl⟩:=List.mem_mapIdx.1 hx;have o:=hs.tres (s.tres[i]) (List.getElem_mem hi);have hw:=o.weight;have hq:=o.queue;have hd:=o.deficit;refine⟨?_,by dsimp only;omega,by dsimp only;omega⟩;dsimp only;unfold qn3;split<;>omega
theorem qwg {c:Cfg}{s:Sta}(hs:s.Ok){k:Nat}{t:Tre}(h:qn1 (s.tres.mapIdx fun i t=>qn3 i t) s.lane.toNat=some k)(ht:s.tres[k]? =some t):
 qw9 (qwc s) s.lane.toNat c.quantum=(((k:Int),(takeN c t:Int),(((k+1) % 16:Nat):Int)),(qwc s).set k (qn3 k t,(t.queue.length:Int) - takeN c t,(seqT c t).deficit)):=by
 obtain⟨h0,t1,ht1,hr,hw⟩:=qsa h;have e:t1=t:=by
  rw[ht]at ht1;injection ht1 with h;exact h.symm
 subst e;have hlw:qn3 k t1=t1.weight:=by
  unfold qn3;rw[if_neg (by rw[hr];simp;exact h0)]
 have hlen:(qwc s).length=16:=by unfold qwc;rw[List.length_mapIdx,hs.tresn]
 rw[qwb (by rw[qwd];exact h) (qwe ht),hlen];dsimp only;rw[hlw];have ht0:((takeN c t1:Nat):Int)=max (min (t1.deficit+min t1.weight 4*min (max c.quantum 1) 2) t1.queue.length) 0:=by
  unfold takeN;rw[Int.toNat_of_nonneg zo]
 rw[←ht0];have hle:takeN c t1≤t1.queue.length:=by unfold takeN;omega
 have hdf:(seqT c t1).deficit=if (t1.queue.length:Int) - takeN c t1=0 then 0 else t1.deficit+min t1.weight 4*min (max c.quantum 1) 2 - takeN c t1:=by
  unfold seqT;dsimp only;by_cases hz:takeN c t1=t1.queue.length
  · rw[if_pos (List.drop_of_length_le zo),if_pos zo]
  rw[if_neg (by
   intro e;have:=congrArg List.length e;rw[tBk]at this;simp at this;omega),if_neg zo]
 rw[hdf]
theorem qwh {w:World}{col:Col}{k base:Nat}{e:TypeId}{g c size n:Nat}{xs:List Value}(h:TopAt w col k e g c size n xs)(hb:base≤g):w.ownsRow base e size (.slice (some ⟨g,0,none⟩) n c) n xs:=by
 obtain⟨_,sp,hk,h1,h2,h3,h4⟩:=h;refine⟨h1,.inr ⟨g,c,(xs++sp).toArray,rfl,hb,hk,h2,h3,?_,?_⟩⟩
 · rw[tB6,tA6]
   exact h4
 rw[←h1];simp
theorem qwi:∀{l:List LaneI} {k:Nat} {x:LaneI} (y:LaneI),l[k]? =some x→y.1=x.1→qw3 (l.set k y)=((qw3 l).set (k*3+1) (.int .i64 y.2.1)).set (k*3+2) (.int .i64 y.2.2)
 |[],k,x,y,h,_=>by simp at h
 |a::l,0,x,y,h,e=>by
  simp only[List.getElem?_cons_zero,Option.some.injEq]at h;subst h;show qw2 y++qw3 l=((qw2 a++qw3 l).set 1 _).set 2 _;unfold qw2;rw[e];rfl
 |a::l,k+1,x,y,h,e=>by
  rw[tBc]at h;show qw2 a++qw3 (l.set k y)=((qw2 a++qw3 l).set ((k+1)*3+1) _).set ((k+1)*3+2) _;rw[qwi y h e,show (k+1)*3+1=k*3+1+1+1+1 by omega,show (k+1)*3+2=k*3+2+1+1+1 by omega];rfl
theorem TopAt.row {w:World}{col:Col}{k:Nat}{e:TypeId}{g c size n:Nat}{xs:List Value}(h:TopAt w col k e g c size n xs){G:Nat}(hne:g≠G)(X:Array Value):TopAt (w.setRow G X) col k e g c size n xs:=by
 obtain⟨hc,sp,hb,h1⟩:=h;exact⟨hc,sp,((qam w G X).block g hb.lt (by intro e;injection e with e;exact hne e)).trans hb,h1⟩
theorem qwj (l:List LaneI)(a q:Nat)(A:Option Addr)(c:Nat)(w:World)(hr:Reads w w.heap.size 3 A l.length (qw3 l))(hl:LanesOk l)(hn:l.length≤1000)(ha:a<l.length)(hq:1≤q∧q≤2)(hc:l.length≤c):
 Zc 63 #[.slice A l.length c,.int .i64 (a:Int),.int .i64 (q:Int)] w fun e w'=>∃v,e=.returned (.tuple #[.agg #[.int .i64 (qw9 l a q).1.1,.int .i64 (qw9 l a q).1.2.1,.int .i64 (qw9 l a q).1.2.2],v])∧w'.ownsRow w.heap.size 136 3 v l.length (qw3 (qw9 l a q).2)∧Below w.heap.size w w':=by
 obtain⟨S1,hS1⟩:=xeq (qw9 l a q);rw[hS1];obtain⟨⟨r0,r1,r2⟩,lo⟩:=S1;dsimp only;obtain⟨n,hln⟩:=xeq l.length;rw[hln]at hr hn ha hc ⊢;obtain⟨b0,o0,eA,-,hc0⟩:=hr.mid zo zdc;subst eA;obtain⟨W0,hW0⟩:=eqx (w.alloc (.cells #[.int .i64 0,.int .i64 0,.int .i64 0] 138));have z0:Blk W0 w.heap.size 138 #[.int .i64 0,.int .i64 0,.int .i64 0]:=by rw[hW0];exact Blk.new _ _ _
 obtain⟨B0,A3,A0,HL,Z0⟩:=zh5 (show Below w.heap.size w W0 by rw[hW0];exact qah (tA5 _ _) _) hS1 hln hl z0;obtain⟨CL,A5⟩:=zh2 (qst (some ⟨b0,o0,none⟩) n c (qw3 l) W0 (hr.call B0.o) zo (qw6 l)) (show ∀w',Below w.heap.size w w'→∀j u,(qw3 l)[j]? =some u→w'.cell? ⟨b0,o0+j,none⟩=some u from fun w' hb j u hu=>qai (hc0 j u hu) hb);clear hS1 hln hl z0 hr hc0;have qa:(a:Int)<n:=zo;have qa0:¬(a:Int)<0:=zo;have qan:¬(n:Int)≤a:=zo;have A6:=zh1 (show ∀(j:Nat) (x:LaneI),l[j]? =some x→(0≤x.1∧x.1≤4)∧(0≤x.2.1∧x.2.1≤1048576)∧(0≤x.2.2∧x.2.2≤1048576) from fun j x h=>HL.o x (tB2 h));go_enter Tryz.func63,Tryz.ntmps63
 go_upto_region 1 with(fail)
 rw[←hW0];clear hW0;go_step3
 go_wp2_with ((with_reducible refine CL.o.mono ?_);rintro e w1 ⟨v1,rfl,o1,b1⟩;obtain⟨g1,c1,hv1,t1,t2,⟨tcs,t3⟩,t4⟩:=qsi o1 zo;subst hv1)
 obtain⟨B1,Z1,T1,GS⟩:=zh4 (B0.trans (b1.mono B0.size)) (Z0.below b1 Z0.lt) (t4 (fun b=>if b=g1 then 1 else 0) 1 zm) (tB1 (show w.heap.size+1≤W0.heap.size from Nat.succ_le_of_lt Z0.lt) t1);clear o1 b1 t2 t3 t4 t1 CL;go_step3
 go_wp2_with fail
 go_loopw [9,27] (fun v i wr=>∃j:Nat,j≤n∧i=.int .i64 j∧v=.int .i64 (-1)∧Hid (∀m,m<j→(l.map (·.1)).getD ((a+m) % n) 0<1)∧wr=w1) (fun v i _=>n - (intOf i).toNat)
 case atStart=>exact⟨0,by omega,rfl,rfl,zh1 fun m hm=>absurd hm zo,rfl⟩
 case round=>
  obtain⟨j,hj,rfl,rfl,hb,rfl⟩:=hrel;by_cases hjn:j<n
  ·
   have qj:(j:Int)<n:=zo;obtain⟨k,hk⟩:=xeq ((a+j) % n);have hkn:k<n:=by rw[←hk];exact Nat.mod_lt _ zo
   have qm:((a:Int)+j).tmod n=(k:Int):=by
    rw[←hk,Int.tmod_eq_emod_of_nonneg zo];simp
   have qk:(k:Int)<n:=zo;obtain⟨⟨wt,qu,de⟩,hx⟩:∃x,l[k]? =some x:=⟨_,tA7 (by rw[A0.o];exact hkn)⟩;have c0:wr.cell? ⟨b0,o0+k*3,none⟩=some (.int .i64 wt):=by
    have:=A5.o wr B1.o (k*3+0) (.int .i64 wt) ((qw5 hx zo).trans rfl);rwa[Nat.add_zero]at this
   obtain⟨HX,HK⟩:=zh2 hx hk;clear hx hk;by_cases hw1:wt<1
   ·
    go_wp2
    go_roundw
    case rel=>exact⟨j+1,by omega,by go_num,rfl,zh1 fun m hm=>(by
     rcases Nat.lt_or_ge m j with h|h
     · exact hb.o m h
     obtain rfl:m=j:=zo;rw[HK.o,tB4,tBj,HX.o];exact hw1),trivial⟩
    case measure=>simp[intOf];omega
   have hlo:qn1 (l.map (·.1)) a=some k:=by
    have:=qw7 (ws:=l.map (·.1)) (a:=a) (k:=j) (by rw[tBl,A0.o];exact hjn) (by rw[tBl,A0.o];exact hb.o) (by
     rw[tBl,A0.o,HK.o,tB4,tBj,HX.o];show 1≤wt;omega)
    rwa[tBl,A0.o,HK.o]at this
   have hsv:=qwb (q:=(q:Int)) hlo HX.o;rw[A3.o]at hsv;dsimp only at hsv;obtain⟨⟨w0,w4⟩,⟨q0,q1⟩,⟨d0,d1⟩⟩:=A6.o k (wt,qu,de) HX.o;dsimp only at w0 w4 q0 q1 d0 d1;have A7:=zh1 hsv;clear hlo hsv;have qk0:¬(k:Int)<0:=zo;have e0:wr.cell? ⟨g1,k*3,none⟩=some (.int .i64 wt):=by
    have:=T1.cell (i:=k*3+0) ((qw5 HX.o zo).trans rfl);rwa[Nat.add_zero]at this
   have e1:wr.cell? ⟨g1,k*3+1,none⟩=some (.int .i64 qu):=T1.cell ((qw5 HX.o zo).trans rfl);have e2:wr.cell? ⟨g1,k*3+2,none⟩=some (.int .i64 de):=T1.cell ((qw5 HX.o zo).trans rfl);go_upto_region 16 with(fail)
   obtain⟨D,hD⟩:∃D:Int,min wt 4*min (max (q:Int) 1) 2=D:=⟨_,rfl⟩;have hD8:0≤D∧D≤8:=by
    rw[←hD];rcases(by omega:q=1∨q=2) with h|h
    · subst h
      rw[show min (max ((1:Nat):Int) 1) 2=1 by decide];omega
    subst h;rw[show min (max ((2:Nat):Int) 1) 2=2 by decide];omega
   obtain⟨D0,D8⟩:=hD8;obtain⟨tk,htk⟩:∃tk:Int,max (min (de+D) qu) 0=tk:=⟨_,rfl⟩;have htk3:0≤tk∧tk≤qu∧tk≤de+D:=zo;obtain⟨tk0,tk1,tk2⟩:=htk3;rw[hD,show wrap64 D=D from IntWalk.wrap64_in _ zo];have hs2:=A7.o;rw[hD,htk,A0.o]at hs2;injection hs2 with h1 h2;injection h1 with h3 h4;injection h4 with h4 h5;obtain⟨A4,A8⟩:=zh2 h2 htk;have h4:=h4.symm;subst h3 h4 h5;have q16:¬(9223372036854775807 - D<de):=zo;have f2:=T1.frozen (k*3+2);have hl3:(qw3 l).length=n*3:=by rw[qw4,A0.o]
   have A1:=zh1 hl3;clear hD h2 htk hl3;go_upto_region 19 with(fail)
   obtain⟨W2,hW2⟩:=eqx (wr.setCell ⟨g1,k*3+2,none⟩ (.int .i64 (de+D)));rw[←hW2];obtain⟨B2,Z2,T2⟩:=zh3 (show Below w.heap.size w W2 by rw[hW2];exact B1.setCell (by have:=GS.o;show w.heap.size≤g1;omega) _) (show Blk W2 w.heap.size 138 #[.int .i64 0,.int .i64 0,.int .i64 0] by rw[hW2];exact Z1.far (by have:=GS.o;show w.heap.size≠g1;omega) _) (show TopAt W2 _ _ _ _ _ _ _ _ by rw[hW2];exact T1.set1 (o:=k*3+2) (.int .i64 (de+D)) (by rw[A1.o];omega));clear hW2 f2 e0 e1 e2;have e1:W2.cell? ⟨g1,k*3+1,none⟩=some (.int .i64 qu):=T2.cell (by rw[List.getElem?_set_ne zo];exact(qw5 HX.o zo).trans rfl);have e2:W2.cell? ⟨g1,k*3+2,none⟩=some (.int .i64 (de+D)):=T2.cell (by rw[List.getElem?_set_self (by rw[A1.o];omega)]);obtain⟨S,HS9⟩:=zS fun w'=>w'.cell? ⟨g1,k*3+2,none⟩=some (.int .i64 (de+D))∧w'.cell? ⟨g1,k*3+1,none⟩=some (.int .i64 qu)
   refine zrs S 11 (zq 0 11 []) ((HS9.o _).mpr (⟨e2,e1⟩)) ?_;have F0:=zh1 (fun(w':World)(h:S w')=>(HS9.o w').mp h);repeat(refine zre rfl rfl (fun w1 hS=>by have g0:=(F0.o w1 hS).1;have g3:=(F0.o w1 hS).2;clear hS;go_simp;try rfl) ?_)
   refine qbf ?_;rw[A8.o];clear F0 HS9;obtain⟨W3,hW3⟩:=eqx W2.drew;rw[←hW3];have bd:Below W2.heap.size W2 W3:=by rw[hW3];exact(tA5 _ _).drew
   obtain⟨B3,Z3,T3⟩:=zh3 (B2.trans (bd.mono B2.size)) (Z2.below bd Z2.lt) (T2.keep ((Turns.of_below (fun _=>false) bd).keeps rfl));clear hW3 bd e1 e2;have e1:W3.cell? ⟨g1,k*3+1,none⟩=some (.int .i64 qu):=T3.cell (by rw[List.getElem?_set_ne zo];exact(qw5 HX.o zo).trans rfl);have e2:W3.cell? ⟨g1,k*3+2,none⟩=some (.int .i64 (de+D)):=T3.cell (by rw[List.getElem?_set_self (by rw[A1.o];omega)]);have f2:=T3.frozen (k*3+2);go_upto_region 21 with(fail)
   obtain⟨W4,hW4⟩:=eqx (W3.setCell ⟨g1,k*3+2,none⟩ (.int .i64 (de+D - tk)));rw[←hW4];obtain⟨B4,Z4,T4⟩:=zh3 (show Below w.heap.size w W4 by rw[hW4];exact B3.setCell (by have:=GS.o;show w.heap.size≤g1;omega) _) (show Blk W4 w.heap.size 138 #[.int .i64 0,.int .i64 0,.int .i64 0] by rw[hW4];exact Z3.far (by have:=GS.o;show w.heap.size≠g1;omega) _) (show TopAt W4 (fun b=>if b=g1 then 1 else 0) 1 136 g1 c1 3 n ((qw3 l).set (k*3+2) (.int .i64 (de+D - tk))) by rw[hW4,←List.set_set (a:=Value.int .i64 (de+D))];exact T3.set1 (o:=k*3+2) (.int .i64 (de+D - tk)) (by rw[List.length_set,A1.o];omega));clear hW4 f2 e1 e2;have e1:W4.cell? ⟨g1,k*3+1,none⟩=some (.int .i64 qu):=T4.cell (by rw[List.getElem?_set_ne zo];exact(qw5 HX.o zo).trans rfl);have f1:=T4.frozen (k*3+1);go_upto_region 22 with(fail)
   obtain⟨W5,hW5⟩:=eqx (W4.setCell ⟨g1,k*3+1,none⟩ (.int .i64 (qu - tk)));rw[←hW5];obtain⟨B5,Z5,T5⟩:=zh3 (show Below w.heap.size w W5 by rw[hW5];exact B4.setCell (by have:=GS.o;show w.heap.size≤g1;omega) _) (show Blk W5 w.heap.size 138 #[.int .i64 0,.int .i64 0,.int .i64 0] by rw[hW5];exact Z4.far (by have:=GS.o;show w.heap.size≠g1;omega) _) (show TopAt W5 (fun b=>if b=g1 then 1 else 0) 1 136 g1 c1 3 n (((qw3 l).set (k*3+1) (.int .i64 (qu - tk))).set (k*3+2) (.int .i64 (de+D - tk))) by rw[hW5,List.set_comm _ _ zo];exact T4.set1 (o:=k*3+1) (.int .i64 (qu - tk)) (by rw[List.length_set,A1.o];omega));clear hW5 f1 e1;have e1:W5.cell? ⟨g1,k*3+1,none⟩=some (.int .i64 (qu - tk)):=T5.cell (by rw[List.getElem?_set_ne zo,List.getElem?_set_self (by rw[A1.o];omega)]);have f2:=T5.frozen (k*3+2);have e2:W5.cell? ⟨g1,k*3+2,none⟩=some (.int .i64 (de+D - tk)):=T5.cell (by rw[List.getElem?_set_self (by rw[List.length_set,A1.o];omega)]);have qm2:((k:Int)+1).tmod n=(((k+1) % n:Nat):Int):=by
    rw[Int.tmod_eq_emod_of_nonneg zo];simp
   by_cases hz:qu - tk=0
   ·
    have hlo:qw3 lo=((qw3 l).set (k*3+1) (.int .i64 (qu - tk))).set (k*3+2) (.int .i64 0):=by
     rw[A4.o,qwi (wt,qu - tk,if qu - tk=0 then 0 else de+D - tk) HX.o rfl];dsimp only;rw[if_pos hz]
    have A9:=zh1 hlo;clear hlo;rw[hz]at e1;go_upto_region 24 with(fail)
    obtain⟨W6,hW6⟩:=eqx (W5.setCell ⟨g1,k*3+2,none⟩ (.int .i64 0));rw[←hW6];obtain⟨B6,Z6,T6⟩:=zh3 (show Below w.heap.size w W6 by rw[hW6];exact B5.setCell (by have:=GS.o;show w.heap.size≤g1;omega) _) (show Blk W6 w.heap.size 138 #[.int .i64 0,.int .i64 0,.int .i64 0] by rw[hW6];exact Z5.far (by have:=GS.o;show w.heap.size≠g1;omega) _) (show TopAt W6 (fun b=>if b=g1 then 1 else 0) 1 136 g1 c1 3 n (qw3 lo) by rw[hW6,A9.o,←List.set_set (a:=Value.int .i64 (de+D - tk))];exact T5.set1 (o:=k*3+2) (.int .i64 0) (by rw[List.length_set,List.length_set,A1.o];omega));clear hW6 f2 e1 e2 hz;go_wp2_with (refine wpList_store_row rfl 138 (.tmp 6) (.tmp 120) rfl w.heap.size #[.int .i64 (k:Int),.int .i64 tk,.int .i64 (((k+1) % n:Nat):Int)] rfl rfl 138 _ Z6.o zk zm (by simp[Value.oneCell']) ?_)
    try rw[Exit.noGoto_ret]
    have A2:=qap (Z6.setRow #[.int .i64 (k:Int),.int .i64 tk,.int .i64 (((k+1) % n:Nat):Int)]) 0 [.int .i64 (k:Int),.int .i64 tk,.int .i64 (((k+1) % n:Nat):Int)] (fun j u h=>by simpa using h);refine bodyPost_ret (qgr rfl rfl (run_loadVar_mid _ _ 0 _ [.int .i64 (k:Int),.int .i64 tk,.int .i64 (((k+1) % n:Nat):Int)] _ A2 Tryz.underlying138 rfl zk)) rfl ⟨_,rfl,qwh (T6.row (by have:=GS.o;omega) _) (by have:=GS.o;omega),below_setRow B6.o (tA4 _) _⟩
   have hlo:qw3 lo=((qw3 l).set (k*3+1) (.int .i64 (qu - tk))).set (k*3+2) (.int .i64 (de+D - tk)):=by
    rw[A4.o,qwi (wt,qu - tk,if qu - tk=0 then 0 else de+D - tk) HX.o rfl];dsimp only;rw[if_neg hz]
   rw[←hlo]at T5;clear hlo f2 e2;go_wp2_with (refine wpList_store_row rfl 138 (.tmp 6) (.tmp 120) rfl w.heap.size #[.int .i64 (k:Int),.int .i64 tk,.int .i64 (((k+1) % n:Nat):Int)] rfl rfl 138 _ Z5.o zk zm (by simp[Value.oneCell']) ?_)
   try rw[Exit.noGoto_ret]
   have A2:=qap (Z5.setRow #[.int .i64 (k:Int),.int .i64 tk,.int .i64 (((k+1) % n:Nat):Int)]) 0 [.int .i64 (k:Int),.int .i64 tk,.int .i64 (((k+1) % n:Nat):Int)] (fun j u h=>by simpa using h);refine bodyPost_ret (qgr rfl rfl (run_loadVar_mid _ _ 0 _ [.int .i64 (k:Int),.int .i64 tk,.int .i64 (((k+1) % n:Nat):Int)] _ A2 Tryz.underlying138 rfl zk)) rfl ⟨_,rfl,qwh (T5.row (by have:=GS.o;omega) _) (by have:=GS.o;omega),below_setRow B5.o (tA4 _) _⟩
  have hlo:qn1 (l.map (·.1)) a=none:=qw8 (by
   rw[tBl,A0.o];intro m hm;exact hb.o m zo)
  have hsv:=qwa (q:=(q:Int)) hlo;rw[A3.o]at hsv;injection hsv with h1 h2;injection h1 with h3 h4;injection h4 with h4 h5;subst h2 h3 h4 h5;clear hlo;obtain rfl:j=n:=zo;go_wp2_with (refine wpList_store_row rfl 138 (.tmp 6) (.tmp 47) rfl w.heap.size #[.int .i64 (-1),.int .i64 0,.int .i64 (a:Int)] rfl rfl 138 _ Z1.o zk zm (by simp[Value.oneCell']) ?_)
  try rw[Exit.noGoto_ret]
  have A2:=qap (Z1.setRow #[.int .i64 (-1),.int .i64 0,.int .i64 (a:Int)]) 0 [.int .i64 (-1),.int .i64 0,.int .i64 (a:Int)] (fun j u h=>by simpa using h);refine bodyPost_ret (qgr rfl rfl (run_loadVar_mid _ _ 0 _ [.int .i64 (-1),.int .i64 0,.int .i64 (a:Int)] _ A2 Tryz.underlying138 rfl zk)) rfl ⟨_,rfl,qwh (T1.row (by have:=GS.o;omega) _) (by have:=GS.o;omega),below_setRow B1.o (tA4 _) _⟩
end Go.Proofs.YthomgopipiomhaaGreatDoor

/- Lemmas. -/
import Derived.Test.YthomgopipiomhaaGreatDoorBMA15
namespace Go.Proofs.YthomgopipiomhaaGreatDoor
open Go.RowKit
set_option linter.unusedVariables false
set_option linter.unusedSimpArgs false
set_option maxRecDepth 100000
set_option maxHeartbeats 32000000
def xcm (x y:Int)(st:Nat)(bs:List Nat):Cfg:={width:=1+within (wrap64 (x - 1)) 0 31,quantum:=1+within (wrap64 (y - 1)) 0 1,store:=st % 32769,seed:=bs.take 64}
theorem xcn (x y:Int)(st:Nat)(bs:List Nat)(hb:∀b∈bs,b<256):(xcm x y st bs).Ok:=by
 have h1:=qky (wrap64 (x - 1)) 0 31 zo;have h2:=qky (wrap64 (y - 1)) 0 1 zo;refine⟨?_,?_,?_,?_,?_,?_,?_⟩
 · show 1≤1+within (wrap64 (x - 1)) 0 31;omega
 · show 1+within (wrap64 (x - 1)) 0 31≤32;omega
 · show 1≤1+within (wrap64 (y - 1)) 0 1;omega
 · show 1+within (wrap64 (y - 1)) 0 1≤2;omega
 · show st % 32769≤32768;omega
 · show (bs.take 64).length≤64;rw[tBd];omega
 intro b h;exact hb b (tB7 h)
theorem xco (x y:Int)(st:Nat)(A:Option Addr)(n k:Nat)(bs:List Nat)(w:World)(hr:Reads w w.heap.size 1 A n (byv bs))(hx: -9223372036854775808≤x∧x≤9223372036854775807)(hy: -9223372036854775808≤y∧y≤9223372036854775807)(hst:st<4294967296)(hnk:n≤k)(hn:n≤140737488351232):
 Zc 12 #[.agg #[.int .i64 x,.int .i64 y,.int .u32 (st:Int),.slice A n k]] w fun e w'=>∃A' n' k',e=.returned (.agg #[.int .i64 (xcm x y st bs).width,.int .i64 (xcm x y st bs).quantum,.int .u32 ((xcm x y st bs).store:Int),.slice A' n' k'])∧Reads w' w'.heap.size 1 A' n' (byv (xcm x y st bs).seed)∧(∀ad,A'=some ad→w.heap.size≤ad.block)∧Below w.heap.size w w':=by
 refine(qsk x y st A n k bs w hr hx hy hst hnk hn).mono ?_;rintro e w' ⟨v,rfl,ho,hb⟩;obtain⟨A',n',k',rfl,-,-,r⟩:=ho.sl;refine⟨A',n',k',rfl,r,fun ad e=>?_,hb⟩;rcases ho.2 with⟨e',_⟩|⟨g,cap,cur,e',hb',_⟩
 · injection e' with e1 e2 e3
   rw[e1]at e;cases e
 injection e' with e1 e2 e3;rw[e1]at e;injection e with e;rw[←e];exact hb'
theorem xcp {w w':World}{size n b:Nat}{A:Option Addr}{xs:List Value}(h:Reads w w.heap.size size A n xs)(hg:w.grownBy w' (some b))(hA:∀ad,A=some ad→ad.block≠b):Reads w' w'.heap.size size A n xs:=
 ⟨h.1,fun hn=>by
  obtain⟨ad,e,hl,hc⟩:=h.2 hn;refine⟨ad,e,tB0 hl hg.size,fun j u hu=>?_⟩;refine(World.cell?_of_block ?_).trans (hc j u hu);rw[qa1];exact hg.block _ hl (fun e'=>by injection e' with e';exact hA ad e e')⟩
theorem xcq {W w1 w2 w4:World}{col:Col}{g gw tb:Nat}{c:Cfg}{L:Loc}{css:List (List Value)}{A:Option Addr}{n k:Nat}(hT:Tabs W)(hE:ErrT W)(b1:Below W.heap.size W w1)(r1:Reads w1 w1.heap.size 1 A n (byv c.seed))
 (m2:Mdl w2 col 2 g c (newS c) L css)(z2:∀b,b<w1.heap.size→col b=0)(b2:Below w1.heap.size w1 w2)(wa4:WldAt w4 gw tb c A n k)(lg:w2.heap.size≤gw)(lt:w2.heap.size≤tb)(b4:Below w2.heap.size w2 w4):Sit W w4.heap.size w4 col g gw tb c (newS c):=by
 refine Sit.make qsh m2 b4 wa4 lg lt (fun h0 ad e=>?_) hT hE (fun b hb=>z2 b (tB0 hb b1.size)) (b1.trans (b2.mono b1.size));obtain⟨ad',e',hlt,_⟩:=r1.2 h0;rw[e]at e';injection e' with e';subst e';exact z2 _ hlt
theorem WldAt.rest {w w':World}{col col':Col}{gw tb:Nat}{c:Cfg}{A:Option Addr}{n k:Nat}(h:WldAt w gw tb c A n k)(hr:Rest w col w' col')(g0:col gw=0)(t0:col tb=0)(hA:0<n→∀ad,A=some ad→col ad.block=0):WldAt w' gw tb c A n k:=
 ⟨hr.blk h.blk g0,Rest.blk hr h.tab t0,hr.reads h.seed hA⟩
def Req.cutAt (R:Req)(n:Nat):Req:={R with leaf:=R.leaf.take n}
theorem Req.Good.cutAt {R:Req}(h:R.Good)(n:Nat):(R.cutAt n).Good:={h with leafb:=fun b hb=>h.leafb b (tB7 hb)}
theorem Sit.boxed {W w w':World}{col:Col}{B g gw tb b:Nat}{c:Cfg}{s:Sta}{A:Option Addr}{n k:Nat}(h:Sit W B w col g gw tb c s)(hw:WldAt w gw tb c A n k)(hA:0<n→∀ad,A=some ad→(col ad.block=0∧ad.block<B)∧ad.block≠b)
 (hg:w.grownBy w' (some b))(h0:col b=0)(hb:W.heap.size≤b)(h1:gw≠b)(h2:tb≠b):Sit W B w' col g gw tb c s:=by
 obtain⟨L,css,h3⟩:=h.mdl;obtain⟨h4,h5,h6⟩:=h.base;have hT:Turns (· ==0) w col w' col:=Turns.of_grown hg (fun k e=>by injection e with e;rw[←e,h0];rfl) (fun _ _=>rfl);have hB:Below W.heap.size w w':=⟨hg.os,hg.tape,hg.output,hg.size,fun k hk=>hg.block k zo (fun e=>by injection e with e;omega)⟩;have hbl:∀k,k<w.heap.size→k≠b→w'.heap[k]? =w.heap[k]? :=fun k hk hne=>hg.block k hk (fun e=>by injection e with e;exact hne e)
 refine⟨h.ok,⟨L,css,h3.keep hT rfl rfl rfl rfl rfl (fun i hi=>by simp;omega) (h3.fin.mono hg.size)⟩,⟨A,n,k,⟨(hbl gw hw.blk.lt h1).trans hw.blk,(hbl tb (Blk.lt hw.tab) h2).trans hw.tab,⟨hw.seed.1,fun hn=>?_⟩⟩,fun hn ad e=>(hA hn ad e).1⟩,h.gws,h.tbs,h.tabs.below hB h4,?_,h.low,⟨h4,h5,tB1 h6 hg.size⟩,h.below.trans hB⟩
 · obtain⟨ad,e,hlt,hc⟩:=hw.seed.2 hn
   refine⟨ad,e,tB0 hlt hg.size,fun j u hu=>?_⟩;refine(World.cell?_of_block ?_).trans (hc j u hu);rw[qa1];exact hbl _ hlt (hA hn ad e).2
 exact(hB.cell (p:=⟨0,0,none⟩) (by show (0:Nat)<W.heap.size;exact tB0 (show (0:Nat)<3 from by decide) h4)).trans h.err
def xcr (c:Cfg)(s:Sta)(l:List Stp):Sta:=l.foldl (fun s S=>(xbd c s S).1) s
theorem xcs {c:Cfg}{s:Sta}{l:List Stp}{k:Nat}{S:Stp}(h:l[k]? =some S):xcr c s (l.take (k+1))=(xbd c (xcr c s (l.take k)) S).1:=by
 obtain⟨hk,e⟩:=tA8 h;unfold xcr;rw[List.take_succ_eq_append_getElem hk,List.foldl_append,e];rfl
theorem xct {W w:World}{col:Col}{B g gw tb:Nat}{c:Cfg}{s:Sta}(h:Sit W B w col g gw tb c s)(hc:c.Ok)(R:Req)(Ac:Option Addr)(cc:Nat)(Al:Option Addr)(cl:Nat)(hA:Asked w col R Ac cc Al cl):
 Zc 17 #[.pointer (some ⟨g,0,none⟩),.agg (reqv R (.slice Ac R.cavs.length cc) (.slice Al R.leaf.length cl)).toArray] w fun e w'=>∃X col',e=.returned (.agg X.toArray)∧RspX X (doS c s R).2∧Sit W B w' col' g gw tb c (doS c s R).1∧Rest w col w' col':=by
 have hr:=qzt (c:=c) h.ok hA.good;refine(qzu h hc R Ac cc Al cl hA).mono ?_;rintro e w' ⟨v,col',rfl,h3,h4,h5⟩;obtain⟨X,rfl,hX⟩:=h3.x ⟨hr.hd,hr.tok.2.2.1⟩;exact⟨X,col',rfl,hX,h4,h5⟩
theorem xcu {W w:World}{col:Col}{R:Req}{Ac Aq:Option Addr}{cc nq cq m:Nat}(hg:R.Good)(hrl:R.leaf.length=nq)(hnq:nq≤cq)(hcq:cq≤maxLen)(hl:Reads W W.heap.size 1 Aq nq (byv R.leaf))(hcv:Reads W W.heap.size 2 Ac R.cavs.length (cavv R.cavs))(hcc:R.cavs.length≤cc)(hcm:cc≤maxLen)
 (hb:Below W.heap.size W w)(low:∀b,b<W.heap.size→col b=0):Asked w col (R.cutAt m) Ac cc Aq cq:=by
 have hk:(R.leaf.take m).length≤nq:=by rw[tBd,hrl];omega
 refine⟨hg.cutAt m,?_,tB1 hk hnq,hcq,hcv.call hb,hcc,hcm,fun h0 ad e=>?_,fun h0 ad e=>?_⟩
 ·
  show Reads w w.heap.size 1 Aq (R.leaf.take m).length (byv (R.leaf.take m));have h:=(hl.call hb).take hk;have e:(byv R.leaf).take ((R.leaf.take m).length*1)=byv (R.leaf.take m):=by
   have e2:R.leaf.take (min m R.leaf.length)=R.leaf.take m:=by
    rcases Nat.le_total m R.leaf.length with h|h
    · rw[Nat.min_eq_left h]
    rw[Nat.min_eq_right h,tB5 (tA4 _),tB5 h]
   rw[Nat.mul_one,tBd,←e2];simp[byv,List.map_take]
  rw[e]at h;exact h
 · obtain⟨ad',e',hlt,_⟩:=hl.2 (tB0 h0 hk)
   rw[e]at e';injection e' with e';subst e';exact low _ hlt
 obtain⟨ad',e',hlt,_⟩:=hcv.2 h0;rw[e]at e';injection e' with e';subst e';exact low _ hlt
theorem xcv (A:Option Addr)(n c:Nat)(ls:List (List Nat))(w:World)(hr:TextsR w A n ls)(hn:n≤1024)(hl:∀b∈ls,b.length≤400):
 Zc 87 #[.slice A n c] w fun e w'=>∃v,e=.returned v∧OwnTexts w' w.heap.size v ls∧Below w.heap.size w w':=by
 obtain⟨hln,vs,hrd,htx⟩:=hr;have hvl:vs.length=n:=by have:=hrd.1;omega
 have hone:∀u∈vs,u.oneCell'=true:=by
  intro u hu;obtain⟨i,hi,rfl⟩:=List.getElem_of_mem hu;obtain⟨A',n',c',h,_⟩:=htx i (ls[i]'zo) (tA7 zo);rw[tA7 hi]at h;injection h with h;rw[h];rfl
 obtain⟨A4,A6,A7,AB,A5,HL,HN⟩:=zh7 hln hrd htx hvl hone hl hn;clear hln hrd htx hvl hone hl hn;go_enter Tryz.func87,Tryz.ntmps87
 go_wp2_with fail
 refine(qsp A n c vs w A6.o (by have:=HN.o;omega) A5.o).mono ?_;rintro e w1 ⟨v1,rfl,o1,b1⟩;obtain⟨A1,c1,rfl,hc1,hm1,-⟩:=qaf o1;have T1:=zh1 (show CpT w w1 w.heap.size (.slice A1 n c1) n vs vs ls 0 from⟨o1,fun i b hi _=>absurd hi zo,fun _ _=>rfl,b1.size,b1⟩);clear o1 b1;go_wp2_with fail
 go_loopw [9] (fun i wr=>∃j:Nat,j≤n∧i=.int .i64 j∧Hid (∃vsj,CpT w wr w.heap.size (.slice A1 n c1) n vs vsj ls j)) (fun i _=>n - (intOf i).toNat)
 case atStart=>exact⟨0,by omega,rfl,zh1 ⟨vs,T1.o⟩⟩
 case round=>
  obtain⟨j,hj,rfl,hlp⟩:=hrel;have hn24:=HN.o;by_cases hjn:j<n
  ·
   have qj:(j:Int)<n:=zo;have qj0:(0:Int)≤j:=zo;obtain⟨vsj,tj⟩:=hlp.o;have hvj:vsj.length=n:=by have:=tj.row.1;omega
   obtain⟨bs,hbs⟩:∃bs,ls[j]? =some bs:=⟨_,tA7 (by have:=A4.o;omega)⟩;obtain⟨A2,n2,c2,hv2,hnc2,hcm2,hrd2⟩:=A7.o j bs hbs;have hvj2:=(tj.rest j (tA4 _)).trans hv2;have hlb:=HL.o bs (tB2 hbs);have hn2:=qb4 hrd2;obtain⟨g,cap,cur,e0,hg,hh,-,-,-,ht⟩:∃g cap cur,(Value.slice A1 n c1)=.slice (some ⟨g,0,none⟩) n cap∧w.heap.size≤g∧wr.heap[g]? =some (.cells cur 23 (0,0))∧n≤cap∧cap≤maxLen∧cur.size=cap*1∧cur.toList.take (n*1)=vsj:=by
    rcases tj.row.2 with⟨_,h0⟩|h
    · omega
    exact h
   injection e0 with e1 e2 e3;subst e1 e3;have blk:Blk wr g 23 cur:=hh;have cj:wr.cell? ⟨g,j,none⟩=some (.slice A2 n2 c2):=by
    rw[blk.cell];rw[←ht,List.getElem?_take_of_lt zo]at hvj2;simpa using hvj2
   obtain⟨TJ,A8,A0,A9,BK,HG,AA⟩:=zh7 tj hbs (hrd2.call tj.below) (show n2≤400 by omega) blk hg hvj;clear tj hbs hrd2 hn2 blk hg hvj hlb hv2 hnc2 hcm2 hvj2 hh ht hlp;go_wp2_with fail
   refine(qsn A2 n2 c2 (byv bs) wr A0.o (by have:=A9.o;omega) (qau _)).mono ?_;rintro e w2 ⟨v2,rfl,o2,b2⟩;have o2':OwnB w2 wr.heap.size v2 bs:=by
    have e:n2=bs.length:=by have:=qb4 A0.o;omega
    rw[e]at o2;exact o2
   obtain⟨A3,n3,c3,rfl,-,-,-⟩:=o2'.sl;have bk2:=BK.below b2 BK.lt;have cj2:=qai cj b2;have f2:=bk2.frozen j;obtain⟨O2,B2⟩:=zh2 o2' b2;clear o2 o2' b2 bk2 cj;go_wp2
   go_roundw
   case rel=>exact⟨j+1,by omega,by go_num,zh1 ⟨_,TJ.step A8.o hjn AA.o B2.o O2.o HG.o⟩⟩
   case measure=>simp[intOf];omega
  have qj:¬(j:Int)<n:=zo;obtain rfl:j=n:=zo;go_wp2_with fail
  obtain⟨vsj,tj⟩:=hlp.o;go_ret
  exact⟨_,rfl,⟨vsj,by rw[A4.o];exact tj.row,fun i b hb=>tj.done_ i b (by obtain⟨hi,_⟩:=tA8 hb;have:=A4.o;omega) hb⟩,tj.below⟩
theorem xcw (s:Sta)(L:Loc)(col:Col)(k:Nat)(css:List (List Value))(w:World)(hs:s.Ok)(hst:StAt 92 74 66 w col k L css s):
 Zc 32 #[.agg (stav s L).toArray] w fun e w'=>∃col' L' css',e=.returned (.agg (stav s L').toArray)∧StAt 92 74 66 w' col' 2 L' css' s∧(∀b,col' b≠0→w.heap.size≤b∧b<w'.heap.size)∧Below w.heap.size w w':=by
 obtain⟨W0,hW0⟩:=eqx ((w.alloc (.cells (stav s L).toArray 49)).alloc (.cells #[.int .u64 0,.int .u32 0,.int .i64 0,.slice none 0 0,.slice none 0 0,.slice none 0 0] 49));have a0:Blk W0 w.heap.size 49 (stav s L).toArray:=by rw[hW0];exact(Blk.new w _ _).alloc _
 have z0:Blk W0 (w.heap.size+1) 49 #[.int .u64 0,.int .u32 0,.int .i64 0,.slice none 0 0,.slice none 0 0,.slice none 0 0]:=by
  have h:=Blk.new (w.alloc (.cells (stav s L).toArray 49)) 49 #[.int .u64 0,.int .u32 0,.int .i64 0,.slice none 0 0,.slice none 0 0,.slice none 0 0];rw[qar]at h;rw[hW0];exact h
 have b0:Below w.heap.size w W0:=by rw[hW0];exact qah (qah (tA5 _ _) _) _
 have sg:0<s.gras.length:=by obtain⟨h,_⟩:=tA8 hs.owner;exact h
 obtain⟨SV,hSV⟩:=xeq (stav s L);rw[hSV]at a0 hW0 ⊢;obtain⟨S3,S4,S5,A8,HS,A0,Z0,B0⟩:=zh8 (show SV.toArray[3]? =some (.slice (some ⟨L.tg,0,none⟩) 16 L.tc) by rw[←hSV];rfl) (show SV.toArray[4]? =some (.slice (some ⟨L.rg,0,none⟩) 16 L.rc) by rw[←hSV];rfl) (show SV.toArray[5]? =some (.slice (some ⟨L.gg,0,none⟩) s.gras.length L.gc) by rw[←hSV];rfl) hst hs a0 z0 b0;obtain⟨SG,AL,AM,AV⟩:=zh4 sg hSV hW0 (show W0.heap.size=w.heap.size+1+1 by rw[hW0,qar,qar]);clear hst hs a0 z0 b0 sg hSV hW0;go_enter Tryz.func32,Tryz.ntmps32
 go_upto_region 2 with(fail)
 rw[←AM.o];obtain⟨S,HS9⟩:=zS fun w'=>Blk w' w.heap.size 49 SV.toArray
 refine xb0 S [0,1,2,3,4,5,6,7,8,9,11,13] [(0,none),(1,some false),(3,none),(4,some false),(6,none),(7,some false),(2,some true),(9,none),(5,some true),(8,some true),(10,some true),(11,none),(12,some true),(13,none),(14,some true)] zk rfl zk zk (fun _ _ d _ _ h=>by cases d<;>exact h) ((HS9.o _).mpr (A0.o)) ?_;obtain⟨F3,F4,F5⟩:=zh3 (fun(w':World)(h:S w')=>(((HS9.o w').mp h).cell 3).trans S3.o) (fun(w':World)(h:S w')=>(((HS9.o w').mp h).cell 4).trans S4.o) (fun(w':World)(h:S w')=>(((HS9.o w').mp h).cell 5).trans S5.o);iterate 6 (first
  |(refine xb2 rfl rfl ⟨?_,fun w1=>?_,?_⟩;rotate_left;(focus(go_simp;try rfl));simp only[Act.put,tA0,tA1,tA2])
  |(refine xb3 rfl rfl ⟨?_,fun w1 hS=>?_,?_⟩;rotate_left;(focus(have g3:=F3.o w1 hS;have g4:=F4.o w1 hS;have g5:=F5.o w1 hS;clear hS;go_simp;try rfl));simp only[Act.put,tA0,tA1,tA2]))
 obtain⟨Wd,hWd⟩:=eqx W0.drew;obtain⟨BD,AD,ZD⟩:=zh3 (show Below w.heap.size w Wd by rw[hWd];exact B0.drew) (show Blk Wd w.heap.size 49 SV.toArray by rw[hWd];exact A0.o) (show Blk Wd (w.heap.size+1) 49 #[.int .u64 0,.int .u32 0,.int .i64 0,.slice none 0 0,.slice none 0 0,.slice none 0 0] by rw[hWd];exact Z0.o);rw[←hWd];clear hWd;have gl:=HS.grasn;refine xb4 rfl rfl ?_;go_simp;refine(qsq (some ⟨L.tg,0,none⟩) 16 L.tc (s.tens.flatMap tenv) Wd (A8.tens.reads.call BD.o) zdc (qvm _)).mono ?_;rintro e wa ⟨va,rfl,oa,ba⟩;obtain⟨BA,OA⟩:=zh2 ba oa;clear oa ba;refine⟨(HS9.o _).mpr (AD.below BA.o AD.lt),?_⟩;try simp only[Act.put,tA0,tA1,tA2]
 iterate 1 (refine xb2 rfl rfl ⟨?_,fun w1=>?_,?_⟩;rotate_left;(focus(go_simp;try rfl));simp only[Act.put,tA0,tA1,tA2])
 refine xb4 rfl rfl ?_;go_simp;refine(qss (some ⟨L.gg,0,none⟩) s.gras.length L.gc (s.gras.flatMap grav) wa (A8.gras.reads.call (BD.trans (BA.mono BD.size))) zo (qvn _)).mono ?_;rintro e wb ⟨vb,rfl,ob,bb⟩;obtain⟨BB,OB,AA⟩:=zh3 bb ob (BA.trans (bb.mono BA.size));clear ob bb;refine⟨(HS9.o _).mpr (AD.below AA.o AD.lt),?_⟩;try simp only[Act.put,tA0,tA1,tA2]
 refine xb4 rfl rfl ?_;go_simp;refine(qsr (some ⟨L.rg,0,none⟩) 16 L.rc css.flatten wb (A8.tres.reads.call (BD.trans (AA.mono BD.size))) zdc (qvl A8.trs)).mono ?_;rintro e wc ⟨vc,rfl,oc,bc⟩;obtain⟨BC,OC,AB⟩:=zh3 bc oc (AA.trans (bc.mono AA.size));clear oc bc;refine⟨(HS9.o _).mpr (AD.below AB.o AD.lt),?_⟩;try simp only[Act.put,tA0,tA1,tA2]
 have c16:css.length=16:=A8.trs.1.trans HS.tresn;have c75:=A8.trs.lens (fun t ht=>(HS.tres t ht).hd);obtain⟨col2,L2,e1,e2,e3,C0⟩:=Cpy.start (w0:=w) (lo:=Wd.heap.size) HS.o c16 c75 (qr4 (qr4 OA.o BB.o) BC.o) (qdb OC.o AA.size) (qdb (qr4 OB.o BC.o) BA.size) BD.size AB.size (BD.trans (AB.mono BD.size));subst e1 e2 e3;obtain⟨CC,AC,ZC⟩:=zh3 C0 (AD.below AB.o AD.lt) (ZD.below AB.o ZD.lt);clear C0 c16 c75 gl;have q3:=AC.frozen 3;have q4:=AC.frozen 4;have q5:=AC.frozen 5;have u3:=(AC.cell 3).trans S3.o;have u4:=(AC.cell 4).trans S4.o;have u5:=(AC.cell 5).trans S5.o;refine xb4 rfl rfl ?_;go_simp;try simp only[Act.put,tA0,tA1,tA2]
 iterate 1 (refine xb2 rfl rfl ⟨?_,fun w1=>?_,?_⟩;rotate_left;(focus(go_simp;try rfl));simp only[Act.put,tA0,tA1,tA2])
 refine xb4 rfl rfl ?_;go_simp;try simp only[Act.put,tA0,tA1,tA2]
 iterate 1 (refine xb2 rfl rfl ⟨?_,fun w1=>?_,?_⟩;rotate_left;(focus(go_simp;try rfl));simp only[Act.put,tA0,tA1,tA2])
 refine xb4 rfl rfl ?_;go_simp;try simp only[Act.put,tA0,tA1,tA2]
 refine xb1 ?_;obtain⟨W3,hW3⟩:=eqx (((wc.setCell ⟨w.heap.size,3,none⟩ (.slice (some ⟨L2.tg,0,none⟩) 16 L2.tc)).setCell ⟨w.heap.size,5,none⟩ (.slice (some ⟨L2.gg,0,none⟩) s.gras.length L2.gc)).setCell ⟨w.heap.size,4,none⟩ (.slice (some ⟨L2.rg,0,none⟩) 16 L2.rc));rw[←hW3];obtain⟨A2,hSV2⟩:=xeq (stav s L2);have a3:Blk W3 w.heap.size 49 A2.toArray:=by
  have h:=((AC.set_ 3 (.slice (some ⟨L2.tg,0,none⟩) 16 L2.tc)).set_ 5 (.slice (some ⟨L2.gg,0,none⟩) s.gras.length L2.gc)).set_ 4 (.slice (some ⟨L2.rg,0,none⟩) 16 L2.rc);rw[←hW3,←AL.o]at h;rw[←hSV2];exact h
 have g1:=qab (tB9 wc (some w.heap.size)) (p:=⟨w.heap.size,3,none⟩) (.inl rfl) (.slice (some ⟨L2.tg,0,none⟩) 16 L2.tc);have g2:=qab g1 (p:=⟨w.heap.size,5,none⟩) (.inl rfl) (.slice (some ⟨L2.gg,0,none⟩) s.gras.length L2.gc);have g3:=qab g2 (p:=⟨w.heap.size,4,none⟩) (.inl rfl) (.slice (some ⟨L2.rg,0,none⟩) 16 L2.rc);rw[←hW3]at g3;obtain⟨C3,Z3,A3,A9,AJ⟩:=zh5 (CC.box g3 (tA4 _) (by have:=AD.lt;omega)) (ZC.grown g3 (by intro e;injection e with e;omega)) a3 hSV2 (show A2.toArray[4]? =some (.slice (some ⟨L2.rg,0,none⟩) 16 L2.rc) by rw[←hSV2];rfl);obtain⟨lo,hlo⟩:=xeq Wd.heap.size;rw[hlo]at C3;have AE:=zh1 (show w.heap.size+1<lo by rw[←hlo];exact ZD.lt);have u4':=(a3.cell 4).trans AJ.o;clear hW3 a3 g1 g2 g3 hSV2 hlo q3 q4 q5 u3 u4 u5 HS9 F3 F4 F5;go_wp2_with fail
 clear u4';go_loopw [21] (fun i wr=>∃j:Nat,j≤16∧i=.int .i64 j∧Hid (∃col' cssj,Cpy w lo wr col' L2 css cssj j s)∧Hid (Blk wr w.heap.size 49 A2.toArray)∧Hid (Blk wr (w.heap.size+1) 49 #[.int .u64 0,.int .u32 0,.int .i64 0,.slice none 0 0,.slice none 0 0,.slice none 0 0])) (fun i _=>16 - (intOf i).toNat)
 case atStart=>exact⟨0,by omega,rfl,zh1 ⟨_,_,C3.o⟩,A3,Z3⟩
 case round=>
  obtain⟨j,hj,rfl,hc,ha,hz⟩:=hrel;by_cases hjn:j<16
  ·
   have qj:(j:Int)<16:=zo;have qj0:(0:Int)≤j:=zo;obtain⟨colj,cssj,cj⟩:=hc.o;obtain⟨t,ht⟩:∃t,s.tres[j]? =some t:=⟨_,tA7 (by rw[HS.tresn];exact hjn)⟩;obtain⟨-,Ad,cd,Al,cl,Aq,cq,hcs,-,hrd,hrl,hrq⟩:=A8.tree HS.o ht;have hto:=HS.tre ht;have hcj:=(cj.rest j (tA4 _)).trans hcs;have cell:∀i u,i<75→(trev t (.slice Ad t.draws.length cd) (.slice Al t.leaves.length cl) (.slice Aq t.queue.length cq))[i]? =some u→wr.cell? ⟨L2.rg,j*75+i,none⟩=some u:=fun i u hi hu=>cj.tres.cell ((qnd cj.lens hcj hi).trans hu)
   have x4:=cell 4 _ zo rfl;have x5:=cell 5 _ zo rfl;have x6:=cell 6 _ zo rfl;obtain⟨A',c',ev,hdc,hdm,hDR,-⟩:=hrd.sl;injection ev with ev1 _ ev3;subst ev1 ev3;obtain⟨A',c',ev,hlc,hlm,hLR⟩:=hrl.reads;injection ev with ev1 _ ev3;subst ev1 ev3;obtain⟨A',c',ev,hqc,hqm,hQR⟩:=hrq.reads;injection ev with ev1 _ ev3;subst ev1 ev3;obtain⟨nd,hnd⟩:=xeq t.draws.length;obtain⟨nl,hnl⟩:=xeq t.leaves.length;obtain⟨nq,hnq⟩:=xeq t.queue.length;have b1:=hto.draws;have b2:=hto.leaves;have b3:=hto.queue;rw[hnd]at x4 hDR b1;rw[hnl]at x5 hLR b2;rw[hnq]at x6 hQR b2 b3;have a4:=(ha.cell 4).trans AJ.o;obtain⟨A1,AN,AK,AO,AP,AW,AX,AQ⟩:=zh8 cj ht hto hcs hnd hnl hnq hDR;obtain⟨AR,AS,BN,X4,X5,X6⟩:=zh6 hLR hQR (show nd≤32∧nl≤1024∧nq≤64 by omega) x4 x5 x6;clear cj ht hto hcs hcj cell hnd hnl hnq hDR hLR hQR b1 b2 b3 hrd hrl hrq hdc hdm hlc hlm hqc hqm x4 x5 x6 hc;go_upto_region 7 with(fail)
   clear a4;obtain⟨S,HS9⟩:=zS fun w'=>w'.cell? ⟨L2.rg,j*75+4,none⟩=some (.slice Ad nd cd)∧w'.cell? ⟨L2.rg,j*75+5,none⟩=some (.slice Al nl cl)∧w'.cell? ⟨L2.rg,j*75+6,none⟩=some (.slice Aq nq cq)
   refine xb0 S [0,1,2,3,4,5,6,7,8,9,10,11,12,13,14,15,16,17,18,19,20,21,23,24,26,27] [(0,none),(1,none),(2,none),(3,none),(4,none),(5,none),(6,some false),(8,none),(9,none),(10,none),(11,none),(12,some false),(14,none),(15,none),(16,none),(17,none),(18,some false),(7,some true),(13,some true),(19,some true),(20,none),(21,none),(22,some true),(23,none),(24,none),(25,some true),(26,none),(27,none),(28,some true)] zk rfl zk zk (fun _ _ d _ _ h=>by cases d<;>exact h) ((HS9.o _).mpr (⟨X4.o,X5.o,X6.o⟩)) ?_;have F4:=zh1 (fun(w':World)(h:S w')=>(HS9.o w').mp h);iterate 17 (first
    |(refine xb2 rfl rfl ⟨?_,fun w1=>?_,?_⟩;rotate_left;(focus(go_simp;try rfl));simp only[Act.put,tA0,tA1,tA2])
    |(refine xb3 rfl rfl ⟨?_,fun w1 hS=>?_,?_⟩;rotate_left;(focus(have g4:=(F4.o w1 hS).1;have g5:=(F4.o w1 hS).2.1;have g6:=(F4.o w1 hS).2.2;clear hS;go_simp;try rfl));simp only[Act.put,tA0,tA1,tA2]))
   obtain⟨Wr,hWr,BR⟩:=zdr wr;rw[←hWr];clear hWr;obtain⟨keepS,AF⟩:=zh2 (fun(w':World)(hb:Below wr.heap.size wr w')=>(HS9.o w').mpr ⟨qai X4.o hb,qai X5.o hb,qai X6.o hb⟩) (A1.below.trans (BR.mono A1.below.size));refine xb4 rfl rfl ?_;go_simp;refine(qso Ad nd cd (drwv t.draws) Wr (AQ.call AF.o) (by have:=BN.o;omega) (by intro u hu;obtain⟨n,-,rfl⟩:=List.mem_map.1 hu;rfl)).mono ?_;rintro e w4 ⟨v4,rfl,o4,b4⟩;obtain⟨A4,c4,rfl,-,-,-⟩:=qaf o4;obtain⟨O4,B4,AG,B4'⟩:=zh4 o4 (BR.trans (b4.mono BR.size)) (AF.trans (b4.mono AF.size)) b4;clear o4 b4;refine⟨keepS.o _ B4.o,?_⟩;try simp only[Act.put,tA0,tA1,tA2]
   refine xb4 rfl rfl ?_;go_simp;refine(xcv Al nl cl t.leaves w4 (AR.call AG.o) (by have:=BN.o;omega) (fun b hb=>(AK.leafb b hb).1)).mono ?_;rintro e w5 ⟨v5,rfl,o5,b5⟩;obtain⟨A5,n5,c5,rfl⟩:∃A n c,v5=.slice A n c:=by obtain⟨_,h,_⟩:=o5;obtain⟨A,c,h,_⟩:=qaf h;exact⟨A,_,c,h⟩
   obtain⟨O5,B5,AH,B5'⟩:=zh4 o5 (B4.trans (b5.mono B4.size)) (AG.trans (b5.mono AG.size)) b5;clear o5 b5;refine⟨keepS.o _ B5.o,?_⟩;try simp only[Act.put,tA0,tA1,tA2]
   refine xb4 rfl rfl ?_;go_simp;refine(xcv Aq nq cq t.queue w5 (AS.call AH.o) (by have:=BN.o;omega) (fun b hb=>(AK.queueb b hb).1)).mono ?_;rintro e w6 ⟨v6,rfl,o6,b6⟩;obtain⟨A6,n6,c6,rfl⟩:∃A n c,v6=.slice A n c:=by obtain⟨_,h,_⟩:=o6;obtain⟨A,c,h,_⟩:=qaf h;exact⟨A,_,c,h⟩
   obtain⟨O6,B6,AY,B6'⟩:=zh4 o6 (B5.trans (b6.mono B5.size)) (AH.trans (b6.mono AH.size)) b6;clear o6 b6;refine⟨keepS.o _ B6.o,?_⟩;try simp only[Act.put,tA0,tA1,tA2]
   have y4:=qai X4.o B6.o;have y5:=qai X5.o B6.o;have y6:=qai X6.o B6.o;have f4:=(A1.call B6.o).tres.frozen (j*75+4);have f5:=(A1.call B6.o).tres.frozen (j*75+5);have f6:=(A1.call B6.o).tres.frozen (j*75+6);iterate 2 (refine xb2 rfl rfl ⟨?_,fun w1=>?_,?_⟩;rotate_left;(focus(go_simp;try rfl));simp only[Act.put,tA0,tA1,tA2])
   refine xb4 rfl rfl ?_;go_simp;try simp only[Act.put,tA0,tA1,tA2]
   iterate 2 (refine xb2 rfl rfl ⟨?_,fun w1=>?_,?_⟩;rotate_left;(focus(go_simp;try rfl));simp only[Act.put,tA0,tA1,tA2])
   refine xb4 rfl rfl ?_;go_simp;try simp only[Act.put,tA0,tA1,tA2]
   iterate 2 (refine xb2 rfl rfl ⟨?_,fun w1=>?_,?_⟩;rotate_left;(focus(go_simp;try rfl));simp only[Act.put,tA0,tA1,tA2])
   refine xb4 rfl rfl ?_;go_simp;try simp only[Act.put,tA0,tA1,tA2]
   refine xb1 ?_;clear HS9 F4 keepS y4 y5 y6 f4 f5 f6;obtain⟨W7,hW7⟩:=eqx (((w6.setCell ⟨L2.rg,j*75+4,none⟩ (.slice A4 nd c4)).setCell ⟨L2.rg,j*75+5,none⟩ (.slice A5 n5 c5)).setCell ⟨L2.rg,j*75+6,none⟩ (.slice A6 n6 c6));rw[←hW7];have hW7':W7=w6.setCells L2.rg (j*75+4) [.slice A4 nd c4,.slice A5 n5 c5,.slice A6 n6 c6]:=by rw[hW7];rfl
   have cs7:∃col' cssj',Cpy w lo W7 col' L2 css cssj' (j+1) s:=by
    obtain⟨col',h⟩:=(A1.call BR.o).step AN.o HS.tresn AO.o (by rw[AP.o];exact O4.o) B4'.o O5.o B5'.o O6.o B6'.o;rw[←hW7']at h;exact⟨col',_,h⟩
   have g7:w6.grownBy W7 (some L2.rg):=by rw[hW7'];exact qn6 _ _ _ _
   have lrg:lo≤L2.rg:=(A1.new _ (by rw[A1.tres.1];decide)).1;have a7:=(ha.below B6.o ha.lt).grown g7 (by intro e;injection e with e;have:=AE.o;omega);have z7:=(hz.below B6.o hz.lt).grown g7 (by intro e;injection e with e;have:=AE.o;omega);obtain⟨AT,A7,Z7⟩:=zh3 cs7 a7 z7;clear hW7 hW7' cs7 g7 lrg a7 z7;go_wp2
   go_roundw
   case rel=>exact⟨j+1,by omega,by go_num,AT,A7,Z7⟩
   case measure=>simp[intOf];omega
  have qj:¬(j:Int)<16:=zo;obtain rfl:j=16:=zo;obtain⟨colj,cssj,cj⟩:=hc.o;have A1:=zh1 cj;have l2:A2.length=6:=by rw[←A9.o];rfl
  have o2:∀u∈A2,u.oneCell'=true:=by rw[←A9.o];exact qvp s L2
  obtain⟨AI,L2',O2',RA⟩:=zh4 (zI 49 l2) l2 o2 (qap ha.o 0 A2 (fun j u h=>by simpa using h));clear l2 o2 cj hc;go_wp2_with (first
   |(refine zld RA.o zu49 AI.o ?_)
   |(refine zst hz.o AI.o (by simp[L2'.o]) O2'.o ?_))
  have z9:=hz.setRow A2.toArray;have AU:=qap z9 0 A2 (fun j u h=>by simpa using h);have g9:=qam wr (w.heap.size+1) A2.toArray;have c9:=A1.box g9 zo AE.o;refine zrt AU zu49 AI.o ⟨colj,L2,by rw[A9.o],⟨cssj,c9.stAt HS.tresn⟩,fun b hb=>?_,c9.below⟩;have h1:=c9.new b hb;have h2:=c9.low.1;omega
theorem xcx (c:Cfg)(s:Sta)(L:Loc)(col:Col)(g:Nat)(css:List (List Value))(w:World)(hs:s.Ok)(h:Mdl w col 2 g c s L css):
 Zc 16 #[.pointer (some ⟨g,0,none⟩)] w fun e w'=>∃col' L' css',e=.returned (.agg (stav s L').toArray)∧StAt 92 74 66 w' col' 2 L' css' s∧(∀b,col' b≠0→w.heap.size≤b∧b<w'.heap.size)∧Below w.heap.size w w':=by
 obtain⟨W0,hW0⟩:=eqx (w.alloc (.cells #[.int .u64 0,.int .u32 0,.int .i64 0,.slice none 0 0,.slice none 0 0,.slice none 0 0] 49));have z0:Blk W0 w.heap.size 49 #[.int .u64 0,.int .u32 0,.int .i64 0,.slice none 0 0,.slice none 0 0,.slice none 0 0]:=by rw[hW0];exact Blk.new _ _ _
 have b0:Below w.heap.size w W0:=by rw[hW0];exact qah (tA5 _ _) _
 have h0:=h.call b0;have CC:=xcw s L col 2 css W0 hs h0.st;have rs:W0.rangeAt g 4 (stav s L):=h0.stRange;obtain⟨SV,hSV⟩:=xeq (stav s L);have lSV:SV.length=6:=by rw[←hSV];rfl
 rw[hSV]at CC rs;obtain⟨A4,A5,RS,Z0,B0,A6,A2⟩:=zh7 (zI 49 lSV) CC rs z0 b0 hW0 (show W0.heap.size=w.heap.size+1 by rw[hW0,qar]);clear CC rs hSV lSV z0 b0 hW0 h0 h hs;go_enter Tryz.func16,Tryz.ntmps16
 go_upto_region 1 with(fail)
 rw[←A6.o];go_wp2_with (refine zld RS.o zu49 A4.o ?_)
 refine A5.o.mono ?_;rintro e w1 ⟨col',L',css',rfl,st,nw,b1⟩;obtain⟨A0,hSV2⟩:=xeq (stav s L');have l2:A0.length=6:=by rw[←hSV2];rfl
 have o2:∀u∈A0,u.oneCell'=true:=by rw[←hSV2];exact qvp s L'
 rw[hSV2];obtain⟨A3,L2',O2',ST,NW,B1,A1,Z1⟩:=zh8 (zI 49 l2) l2 o2 st nw b1 hSV2 (Z0.below b1 Z0.lt);clear l2 o2 st nw b1 hSV2;go_wp2_with (refine zst Z1.o A3.o (by simp[L2'.o]) O2'.o ?_)
 have z9:=Z1.setRow A0.toArray;have A7:=qap z9 0 A0 (fun j u h=>by simpa using h);have g9:=qam w1 w.heap.size A0.toArray;have h9:Turns (· ==0) w1 col' (w1.setRow w.heap.size A0.toArray) col':=Turns.of_grown g9 (fun k e=>by
  injection e with e;by_cases h0:col' k=0
  · rw[h0];rfl
  have:=(NW.o k h0).1;have:=A2.o;omega) (fun _ _=>rfl)
 refine zrt A7 zu49 A3.o ⟨col',L',css',by rw[A1.o],?_,fun b hb=>?_,?_⟩
 · exact ST.keep (h9.keeps rfl) (h9.keeps rfl) (h9.keeps rfl) (fun k hk=>h9.keeps (by simp;omega))
 · have h1:=NW.o b hb
   have h2:=A2.o;have h3:=g9.size;omega
 exact below_setRow (B0.trans (B1.mono B0.size)) (tA4 _) _
theorem xcy (s:Sta)(L:Loc)(w:World):(Instr.field 49 (.agg (stav s L).toArray) 4).run Tryz.prog w=.ok (.slice (some ⟨L.rg,0,none⟩) 16 L.rc) w:=by kernel_rfl
theorem xcz {W w:World}{col:Col}{B g gw tb:Nat}{c:Cfg}{s:Sta}(h:Sit W B w col g gw tb c s):
 Zc 16 #[.pointer (some ⟨g,0,none⟩)] w fun e w'=>∃col2 L' css',e=.returned (.agg (stav s L').toArray)∧StAt 92 74 66 w' col2 2 L' css' s∧(∀b,col2 b≠0→w.heap.size≤b∧b<w'.heap.size)∧Below w.heap.size w w'∧Sit W B w' col g gw tb c s:=by
 obtain⟨L,css,h2⟩:=h.mdl;refine(xcx c s L col g css w h.ok h2).mono ?_;rintro e w' ⟨col2,L',css',rfl,h3,h4,h5⟩;exact⟨col2,L',css',rfl,h3,h4,h5,h.call h5⟩
theorem xd0:doS KC K5 (byR KC 1 qv5)=(K6,(doS KC K5 (byR KC 1 qv5)).2):=Prod.ext qvb.1 rfl
theorem xd1 (W:World)(hT:Tabs W)(hE:ErrT W):Zc 18 #[] W fun e w'=>e=.returned (.bool true)∧Below W.heap.size W w':=by
 have CB:=xb7 W hT hE;have AI:=zh1 CB;clear hT hE CB;go_enter Tryz.func18,Tryz.ntmps18
 go_wp2_with fail
 refine AI.o.mono ?_;rintro e w0 ⟨g,gw,tb,B,col0,rfl,s0⟩;have S0:=zh1 s0;clear s0;go_upto_region 4 with(fail)
 have cv4:=Lib.run_convert_bytes_const (P:=Tryz.prog) w0 23 5 #[.int .u8 97] 1 1 Tryz.underlying23 Tryz.underlying5;obtain⟨Q4,hQ4⟩:=xeq (reqv kAdd (.slice none 0 0) (.slice (some ⟨w0.heap.size,0,none⟩) 1 1));have AJ:=zh1 (show Tryz.prog.built 34 [(0,.int .i64 1),(2,.int .i64 1),(14,.slice (some ⟨w0.heap.size,0,none⟩) 1 1)]=some Q4.toArray by rw[←hQ4];kernel_rfl);have sl4:=S0.alloc (.cells #[.int .u8 97] 5 (1,2));have A0:=xa0 sl4 KC_ok 1 1 rfl zdc kAdd zdc (.slice none 0 0) (.slice (some ⟨w0.heap.size,0,none⟩) 1 1) rfl rfl;rw[hQ4]at A0;have rl4:Reads (w0.alloc (.cells #[.int .u8 97] 5 (1,2))) (w0.alloc (.cells #[.int .u8 97] 5 (1,2))).heap.size 1 (some ⟨w0.heap.size,0,none⟩) 1 (byv [97]):=xaq w0 97 (1,2);have z04:=S0.new0 (b:=w0.heap.size) (tA4 _);obtain⟨y4,hy4⟩:=eqx (w0.alloc (.cells #[.int .u8 97] 5 (1,2)));have by4:=(tA5 w0.heap.size w0).alloc (tA4 _) (.cells #[.int .u8 97] 5 (1,2));rw[←hy4]at A0 rl4 by4;obtain⟨A1,AK,AL,AC,AM⟩:=zh5 A0 rl4 hy4 by4 z04;clear A0 hQ4 sl4 rl4 hy4 by4 z04;go_wp2_with (refine qbj rfl ⟨.agg Q4.toArray,qgn 34 _ rfl _ _ AJ.o (by simp[Act.eval,Act.put]),?_⟩)
 rw[←AL.o];refine A1.o.mono ?_;rintro e w4 ⟨rfl,s4,b4⟩;have A2:=xa1 s4 KC_ok 1 kAdd (some ⟨w0.heap.size,0,none⟩) 1 1 rfl qva (xb5 zdc (by exact xb6 _ zdc)) (AK.call b4) (tA4 _) (by simp[maxLen]) (fun _ ad e=>by injection e with e;subst e;exact AM.o);obtain⟨P4,hP4⟩:=xeq (reqv (byR KC 1 kAdd) (.slice none 0 0) (.slice (some ⟨w0.heap.size,0,none⟩) 1 1));rw[hP4]at A2 ⊢;have AN:=zh1 (AC.trans (b4.mono AC.size));clear cv4;obtain⟨A3,S4⟩:=zh2 A2 s4;clear A2 hP4 s4 b4;go_wp2_with fail
 refine A3.o.mono ?_;rintro e v4 ⟨X4,col4,rfl,hX4,t4,r4⟩;have pk4:=hX4.pk;obtain⟨AD,R4,AE,N4⟩:=zh4 hX4 r4 (qzz t4 X4) (Blk.new v4 57 Tryz.zeroCells57);clear hX4 t4 r4;go_upto_region 5 with(refine qqj _ _ _ X4 N4.o pk4 ?_)
 obtain⟨W4,G4,hW4,hG4,U4,AO,AP⟩:=AE.o;rw[hW4,hG4];clear hW4 hG4 AE N4 pk4;have B2:=zh1 (((Rest.of_below AN.o).trans R4.o).trans (Rest.of_below AP.o));go_wp2_with fail
 refine(qzv U4.o KC_ok).mono ?_;rintro e w5 ⟨rfl,col5,s5,r5⟩;rw[show seqS KC K4=K5 from rfl]at s5;obtain⟨S5,AQ⟩:=zh2 s5 r5;clear s5 r5;go_upto_region 6 with(fail)
 obtain⟨Q6,hQ6⟩:=xeq (reqv qv5 (.slice none 0 0) (.slice none 0 0));have AR:=zh1 (show Tryz.prog.built 34 [(0,.int .i64 2),(2,.int .i64 1)]=some Q6.toArray by rw[←hQ6];kernel_rfl);have A4:=xa0 S5.o KC_ok 1 1 rfl zdc qv5 zdc (.slice none 0 0) (.slice none 0 0) rfl rfl;rw[hQ6]at A4;have A5:=zh1 A4;clear A4 hQ6;go_wp2_with (refine qbj rfl ⟨.agg Q6.toArray,qgn 34 _ rfl _ _ AR.o (by simp[Act.eval]),?_⟩)
 refine A5.o.mono ?_;rintro e w6 ⟨rfl,s6,b6⟩;have A6:=xa1 s6 KC_ok 1 qv5 none 0 0 rfl xd0 (xb5 zdc (by exact xb6 _ zdc)) ⟨rfl,fun h=>absurd h zdc⟩ (tA4 _) (by simp[maxLen]) (fun h=>absurd h zdc);obtain⟨P6,hP6⟩:=xeq (reqv (byR KC 1 qv5) (.slice none 0 0) (.slice none 0 0));rw[hP6]at A6 ⊢;obtain⟨A7,S6,AS⟩:=zh3 A6 s6 b6;clear A6 hP6 s6 b6;go_wp2_with fail
 refine A7.o.mono ?_;rintro e v6 ⟨X6,col6,rfl,hX6,t6,r6⟩;have pk6:=hX6.pk;obtain⟨AT,R6,AF,N6⟩:=zh4 hX6 r6 (qzz t6 X6) (Blk.new v6 57 Tryz.zeroCells57);clear hX6 t6 r6;go_upto_region 7 with(refine qqj _ _ _ X6 N6.o pk6 ?_)
 obtain⟨W6,G6,hW6,hG6,U6,AU,AV⟩:=AF.o;rw[hW6,hG6];clear hW6 hG6 AF N6 pk6;have AW:=zh1 (((Rest.of_below AS.o).trans R6.o).trans (Rest.of_below AV.o));obtain⟨Q7,hQ7⟩:=xeq (reqv qv6 (.slice none 0 0) (.slice none 0 0));have AX:=zh1 (show Tryz.prog.built 34 [(0,.int .i64 6),(2,.int .i64 3),(3,.int .i64 1),(6,.int .i64 1)]=some Q7.toArray by rw[←hQ7];kernel_rfl);have A8:=xa0 U6.o KC_ok 1 1 rfl zdc qv6 zdc (.slice none 0 0) (.slice none 0 0) rfl rfl;rw[hQ7]at A8;have A9:=zh1 A8;clear A8 hQ7;go_wp2_with (refine qbj rfl ⟨.agg Q7.toArray,qgn 34 _ rfl _ _ AX.o (by simp[Act.eval]),?_⟩)
 refine A9.o.mono ?_;rintro e w7 ⟨rfl,s7,b7⟩;have AA:=xa1 s7 KC_ok 1 qv6 none 0 0 rfl qvc (xb5 zdc (by exact xb6 _ zdc)) ⟨rfl,fun h=>absurd h zdc⟩ (tA4 _) (by simp[maxLen]) (fun h=>absurd h zdc);obtain⟨P7,hP7⟩:=xeq (reqv (byR KC 1 qv6) (.slice none 0 0) (.slice none 0 0));rw[hP7]at AA ⊢;obtain⟨AB,S7,AY⟩:=zh3 AA s7 b7;clear AA hP7 s7 b7;go_wp2_with fail
 refine AB.o.mono ?_;rintro e v7 ⟨X7,col7,rfl,hX7,t7,r7⟩;have pk7:=hX7.pk;obtain⟨AZ,R7,AG,N7⟩:=zh4 hX7 r7 (qzz t7 X7) (Blk.new v7 57 Tryz.zeroCells57);clear hX7 t7 r7;go_upto_region 8 with(refine qqj _ _ _ X7 N7.o pk7 ?_)
 obtain⟨W7,G7,hW7,hG7,U7,B0,B1⟩:=AG.o;rw[hW7,hG7];clear hW7 hG7 AG N7 pk7;have AH:=zh1 (((Rest.of_below AY.o).trans R7.o).trans (Rest.of_below B1.o));have x4:=((AO.rest AQ.o).rest AW.o).rest AH.o;have x6:=AU.rest AH.o;have x7:=B0.o;have a0:=(x4.blk.cell 0).trans (show X4.toArray[0]? =some (.int .i64 0) by rw[tA3];exact AD.why);have a1:=(x4.blk.cell 1).trans (show X4.toArray[1]? =some (.int .u64 0) by rw[tA3];exact AD.n);have b6:=(x6.blk.cell 6).trans (show X6.toArray[6]? =some (.int .u64 1) by rw[tA3];exact AT.size.trans (by rw[qvb.2];rfl));have c0:=(x7.blk.cell 0).trans (show X7.toArray[0]? =some (.int .i64 21) by rw[tA3];exact AZ.why);clear x4 x6 x7;go_wp2_with fail
 refine(xcz U7.o).mono ?_;rintro e w8 ⟨col2,L',css',rfl,st,nw,b8,s8⟩;obtain⟨t,ht,hl⟩:=qvd;obtain⟨-,Ad,cd,Al,cl,Aq,cq,-,hcell,-⟩:=st.tree s8.ok ht;have c5:=hcell 5 _ rfl;rw[hl]at c5;have hf:=xcy K6 L' w8;obtain⟨SV,hSV⟩:=xeq (stav K6 L');rw[hSV]at hf ⊢;have BW:=zh1 (s8.below);rw[show 0*75+5=5 from rfl]at c5;clear st nw s8 b8 hcell ht hl hSV a0 a1 b6 c0;go_wp2
 go_ret
 exact⟨rfl,BW.o⟩
structure CpAt (w:World)(col cc:Col)(L:Loc)(css:List (List Value))(s:Sta):Prop where
 st:StAt 92 74 66 w cc 2 L css s
 own:∀b,cc b≠0→b<w.heap.size∧col b=0
theorem CpAt.rest {w w':World}{col col' cc:Col}{L:Loc}{css:List (List Value)}{s:Sta}(h:CpAt w col cc L css s)(hr:Rest w col w' col'):CpAt w' col' cc L css s:=by
 have K:∀i,i≠0→KeepsCol i w cc w' cc:=fun i hi=>⟨hr.size,fun b hb e=>⟨(hr.block b hb (h.own b zo).2).1,e⟩⟩
 refine⟨⟨h.st.tens.keep (K _ zdc),h.st.tres.keep (K _ zdc),h.st.gras.keep (K _ zdc),h.st.trs.keep fun i hi=>K i zo⟩,fun b hb=>?_⟩;have h1:=h.own b hb;exact⟨tB0 h1.1 hr.size,(hr.block b h1.1 h1.2).2⟩
theorem CpAt.call {w w':World}{col cc:Col}{L:Loc}{css:List (List Value)}{s:Sta}(h:CpAt w col cc L css s)(hb:Below w.heap.size w w'):CpAt w' col cc L css s:=h.rest (Rest.of_below hb)
theorem xe0 {W w:World}{col:Col}{B g gw tb:Nat}{c:Cfg}{s:Sta}(h:Sit W B w col g gw tb c s):
 Zc 16 #[.pointer (some ⟨g,0,none⟩)] w fun e w'=>∃cc L css,e=.returned (.agg (stav s L).toArray)∧CpAt w' col cc L css s∧Below w.heap.size w w'∧Sit W B w' col g gw tb c s:=by
 refine(xcz h).mono ?_;rintro e w' ⟨cc,L,css,rfl,h1,h2,h3,h4⟩;exact⟨cc,L,css,rfl,⟨h1,fun b hb=>⟨(h2 b hb).2,h.new0 (h2 b hb).1⟩⟩,h3,h4⟩
theorem CpAt.tree {w:World}{col cc:Col}{L:Loc}{css:List (List Value)}{s:Sta}(h:CpAt w col cc L css s)(hs:s.Ok){n:Nat}{t:Tre}(ht:s.tres[n]? =some t):
 ∃D Ad cd Al cl Aq cq,D=trev t (.slice Ad t.draws.length cd) (.slice Al t.leaves.length cl) (.slice Aq t.queue.length cq)∧D.length=75∧(∀u∈D,u.oneCell'=true)∧w.rangeAt L.rg (n*75) D∧
  t.leaves.length≤cl∧TextsR w Al t.leaves.length t.leaves∧t.queue.length≤cq∧TextsR w Aq t.queue.length t.queue:=by
 obtain⟨D,Ad,cd,Al,cl,Aq,cq,h1,h2,h3,h4,h5,h6,h7,h8,h9,h10⟩:=h.st.treeD hs ht;exact⟨D,Ad,cd,Al,cl,Aq,cq,h1,h2,h3,h4 w (tA5 _ _),h5,h7,h8,h10⟩
theorem CpAt.treeC {w:World}{col cc:Col}{L:Loc}{css:List (List Value)}{s:Sta}(h:CpAt w col cc L css s)(hs:s.Ok){n:Nat}{t:Tre}(ht:s.tres[n]? =some t):
 ∃D Ad cd Al cl Aq cq,D=trev t (.slice Ad t.draws.length cd) (.slice Al t.leaves.length cl) (.slice Aq t.queue.length cq)∧D.length=75∧(∀u∈D,u.oneCell'=true)∧w.rangeAt L.rg (n*75) D∧
  TextsC w cc (11+3*n) (.slice Al t.leaves.length cl) t.leaves∧TextsC w cc (12+3*n) (.slice Aq t.queue.length cq) t.queue:=by
 obtain⟨hn,Ad,cd,Al,cl,Aq,cq,h1,h2,h3,h4,h5⟩:=h.st.tree hs ht;exact⟨_,Ad,cd,Al,cl,Aq,cq,rfl,qnk _ _ _ (hs.tre ht).hd,qql _ _ _ _ rfl rfl rfl,h2,h4,h5⟩
theorem xe1 {w:World}{col cc:Col}{L:Loc}{css:List (List Value)}{s:Sta}(h:CpAt w col cc L css s){k n c:Nat}{A:Option Addr}{ls:List (List Nat)}(ht:TextsC w cc k (.slice A n c) ls){i:Nat}{bs:List Nat}(hi:ls[i]? =some bs)(hn:ls.length=n):
 ∃b o A' n' c',A=some ⟨b,o,none⟩∧i<n∧w.cell? ⟨b,o+i,none⟩=some (.slice A' n' c')∧Reads w w.heap.size 1 A' n' (byv bs)∧(0<n'→∀ad,A'=some ad→col ad.block=0):=by
 obtain⟨vs,A1,c1,e1,-,-,hrr,hv⟩:=ht.sl;obtain⟨hl,-⟩:=tA8 hi;obtain⟨u,hu,A',n',c',rfl,-,-,hrd,hcol⟩:=hv i bs hi;injection e1 with e11 e12 e13;subst e11 e13;obtain⟨b,o,rfl,-,hc⟩:=hrr.mid zo zdc;refine⟨b,o,A',n',c',rfl,by omega,hc i _ hu,hrd,fun h0 ad e=>?_⟩;obtain⟨ad',e',h5⟩:=hcol h0;rw[e]at e';injection e' with e';subst e';exact(h.own _ zo).2
theorem xe2 (run:Nat→Bool)(m:Nat):∀(D a:Nat),ahead run m a D≤D
 |0,a=>tA4 _
 |D+1,a=>by
  have h:=xe2 run m D (a+1);unfold ahead;split<;>omega
theorem xe3 {s:Sta}(hs:s.Ok){j:Nat}{t:Tre}(ht:s.tres[j]? =some t)(hj:j≠0):xdm s j=qkm t.state:=by
 rw[xdo ht];unfold qn3;cases h:qkm t.state with
 |false=>rw[if_pos (.inr (by simp[h]))];rfl
 |true=>
  rw[if_neg (by simp[h];exact hj)];have:=((hs.tre ht).live (by intro e;rw[e]at h;cases h)).1;simpa using this
theorem xe4 (s:Sta):xdm s 0=false:=by
 unfold xdm;rw[tB4,List.getElem?_mapIdx];cases h:s.tres[0]? with
 |none=>rfl
 |some t=>
  show decide (1≤qn3 0 t)=false;unfold qn3;rw[if_pos (.inl rfl)];rfl
theorem xe5 {s:Sta}(hs:s.Ok){j:Nat}{t:Tre}(ht:s.tres[j]? =some t)(hj:j≠0)(h16:j<16):ahead (xdm s) 16 0 (j+1)=ahead (xdm s) 16 0 j+if qkm t.state then 1 else 0:=by
 rw[xd7,Nat.zero_add,Nat.mod_eq_of_lt h16,xe3 hs ht hj]
theorem xe6 (s:Sta):ahead (xdm s) 16 0 1=0:=by
 show (if xdm s (0 % 16) then 1 else 0)+0=0;rw[show 0 % 16=0 from rfl,xe4];rfl
theorem xe7 {s:Sta}(hs:s.Ok){j:Nat}{t:Tre}(ht:s.tres[j]? =some t)(hj:j≠0)(h16:j<16)(hr:qkm t.state=true):1≤ahead (xdm s) 16 0 16:=by
 have h:=xdj (xdm s) (m:=16) (n:=j) (a:=0) h16 zdc (by rw[xe3 hs ht hj];exact hr);omega
theorem xe8 {c:Cfg}{s:Sta}(hs:s.Ok)(hq1:1≤c.quantum)(hq2:c.quantum≤2){n:Nat}{t0:Tre}(ht:s.tres[n]? =some t0)(hn0:n≠0)(hr:qkm t0.state=true)(hq:1≤t0.queue.length):
 ∃g T:Nat,1≤t0.weight∧t0.weight≤4∧t0.weight*c.quantum=(g:Int)∧(((t0.queue.length - 1:Nat):Int)+(g:Int)).tdiv (g:Int)=((t0.queue.length - 1+g) / g:Nat)∧(((t0.queue.length - 1+g) / g:Nat):Int)*(ahead (xdm s) 16 0 16:Nat)=(T:Int)∧
  T≤2000∧∃t,(seqN c s T).tres[n]? =some t∧t.queue=[]∧t.leaves=t0.leaves++t0.queue∧t.hd.size=t.leaves.length:=by
 have o:=hs.tre ht;have hw:1≤t0.weight:=(o.live (by intro e;rw[e]at hr;cases hr)).1;have hw4:=o.weight.2;have hp:0<t0.weight*c.quantum:=Int.mul_pos zo zo;obtain⟨g,hg⟩:∃g:Nat,t0.weight*c.quantum=(g:Int):=⟨(t0.weight*c.quantum).toNat,(Int.toNat_of_nonneg zo).symm⟩;have hg1:1≤g:=zo;have ha:=xe2 (xdm s) 16 16 0;have hd:(t0.queue.length - 1+g) / g≤64:=by
  have h64:=o.queue;refine tB1 (Nat.div_le_div_right (c:=g) (show t0.queue.length - 1+g≤63+g by omega)) ?_;rw[Nat.add_div_right _ zo];have:=Nat.div_le_self 63 g;omega
 obtain⟨t,h1⟩:=xdv (c:=c) hs ht hn0 hr (fun e=>by rw[e]at hq;simp at hq) (g:=g) (T:=(t0.queue.length - 1+g) / g*ahead (xdm s) 16 0 16) (by rw[←hg,Int.min_eq_left hw4,Int.max_eq_left hq1,Int.min_eq_left hq2]) (by rw[show t0.queue.length+g - 1=t0.queue.length - 1+g by omega];exact tA4 _);refine⟨g,(t0.queue.length - 1+g) / g*ahead (xdm s) 16 0 16,hw,hw4,hg,?_,by rw[Int.natCast_mul],?_,t,h1⟩
 · rw[←Int.natCast_add]
   exact Int.ofNat_tdiv _ _
 exact tB1 (Nat.mul_le_mul hd ha) zdc
theorem xe9 {nl2 nlv nq nm2:Nat}(h:nl2=nlv+nq)(hq:1≤nq)(h1:nlv+nq≤1024)(hm:nl2 - 1=nm2):
 IntKind.i64.wrap ((nlv:Int)+nq)=(nl2:Int)∧wrap64 ((nlv:Int)+nq)=(nl2:Int)∧IntKind.i64.wrap ((nl2:Int) - 1)=(nm2:Int)∧wrap64 ((nl2:Int) - 1)=(nm2:Int)∧IntKind.u64.wrap (nl2:Int)=(nl2:Int)∧nm2<nl2∧(nm2:Int)<nl2:=by
 have e1:(nlv:Int)+nq=(nl2:Int):=zo;have e2:(nl2:Int) - 1=(nm2:Int):=zo;have b1:(nl2:Int)≤1024:=zo;have b2:(nm2:Int)≤1024:=zo;rw[e1,e2];exact⟨tBb _ zo,IntWalk.wrap64_in _ zo,tBb _ zo,IntWalk.wrap64_in _ zo,tBa _ zo,by omega,by omega⟩
theorem xec (W:World)(hT:Tabs W)(hE:ErrT W)(cx cy:Int)(st:Nat)(A:Option Addr)(n k:Nat)(bs:List Nat)(hr:Reads W W.heap.size 1 A n (byv bs))(hx: -9223372036854775808≤cx∧cx≤9223372036854775807)(hy: -9223372036854775808≤cy∧cy≤9223372036854775807)(hst:st<4294967296)(hnk:n≤k)(hn:n≤140737488351232)(hbs:∀b∈bs,b<256)
 (l:List Stp)(Al:Option Addr)(nl kl:Nat)(hl:StpsR W Al l)(hll:l.length=nl)(h140:∀S∈l,S.raw.length≤140737488351232)(tr:Int)(ht1: -9223372036854775808≤tr)(ht2:tr≤9223372036854775807):
 Zc 4 #[.agg #[.int .i64 cx,.int .i64 cy,.int .u32 (st:Int),.slice A n k],.slice Al nl kl,.int .i64 tr] W fun e w'=>e=.returned (.bool true)∧Below W.heap.size W w':=by
 have hco:=xcn cx cy st bs hbs;obtain⟨c,hc⟩:=xeq (xcm cx cy st bs);rw[hc]at hco;obtain⟨W0,hW0⟩:=eqx (W.alloc (.cells #[.int .i64 cx,.int .i64 cy,.int .u32 (st:Int),.slice A n k] 25));have k0:Blk W0 W.heap.size 25 #[.int .i64 cx,.int .i64 cy,.int .u32 (st:Int),.slice A n k]:=by rw[hW0];exact Blk.new _ _ _
 have b0:Below W.heap.size W W0:=by rw[hW0];exact qah (tA5 _ _) _
 have CC:=xco cx cy st A n k bs W0 (hr.call b0) hx hy hst hnk hn;rw[hc]at CC;have hwi:=xdy tr 0 14 zo;obtain⟨ti,hti⟩:∃i:Nat,xdx tr 0 14=(i:Int):=⟨(xdx tr 0 14).toNat,by omega⟩;have ti14:ti≤14:=zo;have AI:=zh1 (fun w=>xdz tr 0 14 w zo zo zo ht1 ht2);rw[hti]at AI;obtain⟨AV,AW,K0,B0,HT,HE,A3,HL⟩:=zh8 CC hW0 k0 b0 hT hE hco hl;obtain⟨AJ,AB⟩:=zh2 hll h140;clear CC hW0 k0 b0 hT hE hco hl hll h140 hr hx hy hst hnk hn hbs hc hwi hti ht1 ht2;go_enter Tryz.func4,Tryz.ntmps4
 go_upto_region 1 with(fail)
 rw[←AW.o];have RK:=zh1 (qap K0.o 0 [.int .i64 cx,.int .i64 cy,.int .u32 (st:Int),.slice A n k] (fun j u h=>by simpa using h));go_wp2_with (refine qaq rfl 25 (.tmp 3) rfl W.heap.size 0 rfl [.int .i64 cx,.int .i64 cy,.int .u32 (st:Int),.slice A n k] _ RK.o Tryz.underlying25 rfl zk ?_)
 refine AV.o.mono ?_;rintro e w1 ⟨A1,n1,k1,rfl,r1,a1,b1⟩;obtain⟨K1,R1,AK,B1⟩:=zh4 (K0.below b1 K0.lt) r1 a1 b1;clear r1 a1 b1;go_upto_region 2 with(refine wpList_store_row rfl 25 (.tmp 3) (.tmp 20) rfl W.heap.size #[.int .i64 c.width,.int .i64 c.quantum,.int .u32 (c.store:Int),.slice A1 n1 k1] rfl rfl 25 _ K1.o zk zm (by simp[Value.oneCell']) ?_)
 obtain⟨W2,hW2⟩:=eqx (w1.setRow W.heap.size #[.int .i64 c.width,.int .i64 c.quantum,.int .u32 (c.store:Int),.slice A1 n1 k1]);rw[←hW2];have hg2:w1.grownBy W2 (some W.heap.size):=by rw[hW2];exact qam _ _ _
 have ne2:∀ad,A1=some ad→ad.block≠W.heap.size:=fun ad e h=>by
  have h1:=AK.o ad e;have h2:=K0.lt;omega
 have k2:Blk W2 W.heap.size 25 #[.int .i64 c.width,.int .i64 c.quantum,.int .u32 (c.store:Int),.slice A1 n1 k1]:=by rw[hW2];exact K1.setRow _
 have r2:=xcp R1.o hg2 ne2;have b2:Below W.heap.size W W2:=(B0.trans (B1.mono B0.size)).grown hg2 (tB1 B0.size B1.size) (by intro g hg;injection hg with hg;omega);have CN:=xap c A1 n1 k1 W2 A3.o r2 (HT.below b2 HT.size);obtain⟨K2,R2,B2,AX,L2,AY⟩:=zh6 k2 r2 b2 CN (show ∀ad,A1=some ad→W.heap.size<ad.block from fun ad e=>by have h1:=AK.o ad e;have h2:=K0.lt;omega) (qap k2 0 [.int .i64 c.width,.int .i64 c.quantum,.int .u32 (c.store:Int),.slice A1 n1 k1] (fun j u h=>by simpa using h));clear hW2 hg2 ne2 k2 r2 b2 CN RK K1 R1;go_wp2_with (refine qaq rfl 25 (.tmp 3) rfl W.heap.size 0 rfl [.int .i64 c.width,.int .i64 c.quantum,.int .u32 (c.store:Int),.slice A1 n1 k1] _ AY.o Tryz.underlying25 rfl zk ?_)
 refine AX.o.mono ?_;rintro e w3 ⟨g,L,css,col,rfl,m3,z3,b3⟩;have K3c:=zh1 (K2.below b3 K2.lt);have AZ:=zh1 (qap K3c.o 0 [.int .i64 c.width,.int .i64 c.quantum,.int .u32 (c.store:Int),.slice A1 n1 k1] (fun j u h=>by simpa using h));have CW:=xas c A1 n1 k1 w3 (R2.call b3);obtain⟨B4,M3,Z3,B3⟩:=zh4 CW m3 z3 b3;clear m3 z3 b3 CW;go_wp2_with (refine qaq rfl 25 (.tmp 3) rfl W.heap.size 0 rfl [.int .i64 c.width,.int .i64 c.quantum,.int .u32 (c.store:Int),.slice A1 n1 k1] _ AZ.o Tryz.underlying25 rfl zk ?_)
 refine B4.o.mono ?_;rintro e w4 ⟨gw,tb,rfl,wa4,lg,lt,b4⟩;have s4:=xcq HT.o HE.o B2.o R2.o M3.o Z3.o B3.o wa4 lg lt b4;obtain⟨B,hB⟩:=xeq w4.heap.size;obtain⟨S4,b24⟩:=zh2 s4 (B3.trans (b4.mono B3.size));obtain⟨K4,AL,LG,LT⟩:=zh4 (K2.below b24.o K2.lt) (show col W.heap.size=0 from Z3.o _ K2.lt) (show W.heap.size<gw by have:=K2.lt;have:=B3.size;omega) (show W.heap.size<tb by have:=K2.lt;have:=B3.size;omega);rw[hB]at S4;clear s4 wa4 lg lt b4 hB;have hnll:=AJ.o;go_upto_block 0 with fail
 go_cut [10] (fun s10 wx=>∃(colr:Col) (s:Sta),Hid (Sit W B wx colr g gw tb c s)∧Hid (Rest w4 col wx colr))
 case first=>
  go_wp2_with fail
  go_loopw [10] (fun i wr=>∃(j:Nat) (colr:Col),j≤nl∧j≤30∧i=.int .i64 j∧Hid (Sit W B wr colr g gw tb c (xcr c (newS c) (l.take j)))∧Hid (Rest w4 col wr colr)) (fun i _=>30 - (intOf i).toNat)
  case atStart=>exact⟨0,col,by omega,by omega,rfl,S4,zh1 ⟨rfl,rfl,rfl,tA4 _,fun _ _ h=>⟨rfl,h⟩⟩⟩
  case round=>
   obtain⟨j,colr,hj,hj20,rfl,hs,hr⟩:=hrel;by_cases h1:j<nl
   ·
    have q1:(j:Int)<nl:=zo;by_cases h2:j<30
    ·
     have q2:(j:Int)<30:=zo;obtain⟨S,hS⟩:∃S,l[j]? =some S:=⟨_,tA7 (by rw[AJ.o];exact h1)⟩;have hlr:=HL.stay hs.below.size (fun b hb=>hs.below.block b hb);obtain⟨gb,go,cs,hA,h53,hst,hrg⟩:=hlr.at_ hS;subst hA;have CS:=xcl hs.o A3.o S cs hst (AB.o S (tB2 hS));obtain⟨AC,B5,B6,HI⟩:=zh4 CS hS hrg (zI 44 h53);clear CS hS hlr hst hrg h53;go_wp2_with (refine zld B6.o zu44 HI.o ?_)
     refine AC.o.mono ?_;rintro e w5 ⟨v5,col5,rfl,-,-,s5,r5⟩;obtain⟨S5,R5⟩:=zh2 s5 (hr.trans r5);clear s5 r5;go_wp2
     go_roundw
     case rel=>
      refine⟨j+1,col5,by omega,by omega,by go_num,?_,R5⟩;rw[xcs B5.o];exact S5
     case measure=>simp[intOf];omega
    have q2:¬(j:Int)<30:=zo;go_wp2
    go_meet
    case rel=>exact⟨colr,_,hs,hr⟩
   have q1:¬(j:Int)<nl:=zo;go_wp2
   go_meet
   case rel=>exact⟨colr,_,hs,hr⟩
 case rest=>
  obtain⟨colr,s,hs,hr⟩:=hcut;obtain⟨W5,rfl⟩:=eqx wc;obtain⟨K5,C5⟩:=zh2 (hr.blk K4.o AL.o) ((hr.block _ K4.lt AL.o).2);go_wp2_with fail
  refine(AI.o W5).mono ?_;rintro e w' ⟨rfl,rfl⟩;obtain⟨tn,htn⟩:=eqx (ti+1);have q1:IntKind.i64.wrap (1+(ti:Int))=(tn:Int):=by rw[tBb _ zo];omega
  have q2:wrap64 (1+(ti:Int))=(tn:Int):=by rw[IntWalk.wrap64_in _ zo];omega
  have A2:=zh1 (show 1≤tn∧tn<16 by omega);clear htn;have CS:=xe0 hs.o;have AC:=zh1 CS;clear CS;go_wp2_with fail
  refine AC.o.mono ?_;rintro e w7 ⟨cc7,L7,css7,rfl,cp7,b7,s7⟩;have lS:=qvo s L7;have oS:=qvp s L7;obtain⟨SV,hSV⟩:=xeq (stav s L7);rw[hSV]at lS oS ⊢;have bx7:=xbu s7 49 #[.int .u64 0,.int .u32 0,.int .i64 0,.slice none 0 0,.slice none 0 0,.slice none 0 0] SV;obtain⟨N7,IS,LS,OS,AM,AN,BA,B7⟩:=zh8 (Blk.new w7 49 #[.int .u64 0,.int .u32 0,.int .i64 0,.slice none 0 0,.slice none 0 0,.slice none 0 0]) (zI 49 lS) lS oS hSV bx7 cp7 b7;clear lS oS hSV bx7 cp7 b7 s7;go_upto_region 12 with(refine zst N7.o IS.o (by simp[LS.o]) OS.o ?_)
  obtain⟨W7,hW7⟩:=eqx ((w7.alloc (.cells #[.int .u64 0,.int .u32 0,.int .i64 0,.slice none 0 0,.slice none 0 0,.slice none 0 0] 49)).setRow w7.heap.size SV.toArray);rw[←hW7];rw[←hW7]at AN;obtain⟨G7,hG7⟩:=xeq w7.heap.size;rw[hG7];obtain⟨s8,x8,b8⟩:=AN.o;rw[hG7]at x8;obtain⟨t,ht⟩:∃t,s.tres[tn]? =some t:=⟨_,tA7 (by rw[s8.ok.tresn];exact A2.o.2)⟩;have cp8:=BA.call b8;obtain⟨D,Ad,cd,Ax,clx,Aq,cq,hD,lD,oD,rD,tl,tq⟩:=cp8.treeC s8.ok ht;have e4:=(x8.blk.cell 4).trans (show SV.toArray[4]? =some (.slice (some ⟨L7.rg,0,none⟩) 16 L7.rc) by rw[tA3,←AM.o];rfl);have bx8:=xbu s8 74 Tryz.zeroCells74 D;obtain⟨N8,ID,LD,AO,OD,RD,HD,A9⟩:=zh8 (Blk.new W7 74 Tryz.zeroCells74) (zI 74 lD) lD (show Tryz.zeroCells74.size=75 by kernel_rfl) oD rD hD (s8.ok.tre ht);obtain⟨AP,TL,TQ,AQ,X8,AR,B8⟩:=zh7 ht tl tq bx8 x8 cp8 b8;have q3:¬(16:Int)≤tn:=by have:=A2.o;omega
  have q4:(tn:Int)<16:=by have:=A2.o;omega
  have q5:tn<16:=A2.o.2;clear lD oD rD hD ht tl tq bx8 x8 cp8 b8 s8 hW7 hG7 q1 q2;go_upto_region 15 with(first
   |(refine zld RD.o zu74 ID.o ?_)
   |(refine zst N8.o ID.o (AO.trans (by simp[LD.o])) OD.o ?_))
  obtain⟨W8,hW8⟩:=eqx ((W7.alloc (.cells Tryz.zeroCells74 74)).setRow W7.heap.size D.toArray);rw[←hW8];rw[←hW8]at AQ;obtain⟨G8,hG8⟩:=xeq W7.heap.size;rw[hG8];obtain⟨s9,x9,b9⟩:=AQ.o;rw[hG8]at x9;have e0:=(x9.blk.cell 0).trans (show D.toArray[0]? =some (.int .i64 t.state) by rw[tA3,HD.o];rfl);obtain⟨nq,hnq⟩:=xeq t.queue.length;have e6:=(x9.blk.cell 6).trans (show D.toArray[6]? =some (.slice Aq nq cq) by rw[tA3,HD.o,←hnq];rfl);obtain⟨S9,X9,B9,A0⟩:=zh4 s9 x9 b9 hnq;clear s9 x9 b9 hW8 hG8 hnq e4;go_wp2_with fail
  refine zca (qlt t.state W8) ?_;by_cases hd:qkm t.state=true∧1≤nq
  ·
   obtain⟨hrun,hq1⟩:=hd;have A4:=zh1 hrun;have q6:(nq==0)=false:=by simp;omega
   have q7:((nq:Int)==0)=false:=by simp;omega
   obtain⟨gg,T,tw1,tw2,tw3,tw4,tw5,tw6,t',ut1,ut2,ut3,ut4⟩:=xe8 S9.ok A3.q1 A3.q2 AP.o (by have:=A2.o;omega) A4.o (by rw[A0.o];exact hq1);have hpos:=xe7 S9.ok AP.o (by have:=A2.o;omega) A2.o.2 A4.o;have hle:=xe2 (xdm s) 16 16 0;obtain⟨U1,U2,U3,U4,TW,BB,BC⟩:=zh7 ut1 ut2 ut3 ut4 (And.intro tw3 (And.intro tw4 tw5)) (And.intro tw1 tw2) (And.intro hpos hle);clear ut1 ut2 ut3 ut4 tw1 tw2 tw3 tw4 tw5 hpos hle e0;have e4:=(X8.blk.below B9.o X8.blk.lt).cell 4 |>.trans (show SV.toArray[4]? =some (.slice (some ⟨L7.rg,0,none⟩) 16 L7.rc) by rw[tA3,←AM.o];rfl);have BF:=zh1 (AR.call B9.o);have BG:=zh1 (fun(j:Nat)(tj:Tre)(hj:s.tres[j]? =some tj)=>(show W8.cell? ⟨L7.rg,j*75,none⟩=some (.int .i64 tj.state) from by
    obtain⟨D',Ad',cd',Ax',clx',Aq',cq',hD',-,-,rD',-,-,-,-⟩:=BF.tree S9.ok hj;exact rD' 0 _ (by rw[hD'];rfl)))
   go_upto_block 2 with fail
   go_cut [13,14] (fun s13 s14 wx=>s13=.int .i64 ((ahead (xdm s) 16 0 16:Nat):Int)∧wx=W8)
   case first=>
    go_wp2_with fail
    go_loop [13,14] (fun u i=>∃j m:Nat,1≤j∧j≤16∧i=.int .i64 j∧u=.int .i64 m∧m≤j∧Hid (m=ahead (xdm s) 16 0 j)) (fun u i=>16 - (intOf i).toNat)
    case atStart=>exact⟨1,0,by omega,by omega,rfl,rfl,by omega,(xe6 s).symm⟩
    case round=>
     obtain⟨j,m,hj1,hj2,rfl,rfl,hmj,hm⟩:=hrel;by_cases hj:j<16
     ·
      have p1:(j:Int)<16:=zo;obtain⟨tj,htj⟩:∃t,s.tres[j]? =some t:=⟨_,tA7 (by rw[S9.ok.tresn];exact hj)⟩;have ej:=BG.o j tj htj;have hn:=zh1 (xe5 S9.ok htj zo hj);clear htj;go_wp2_with fail
      refine zca (qlt tj.state W8) ?_;cases hrj:qkm tj.state with
      |true=>
       have hm2:=zh1 (show m+1=ahead (xdm s) 16 0 (j+1) by rw[hn.o,hrj,←hm.o];rfl);clear hrj;go_wp2
       go_round
       case rel=>exact⟨j+1,m+1,by omega,by omega,by go_num,by go_num,by omega,hm2⟩
       case measure=>simp[intOf];omega
      |false=>
       have hm2:=zh1 (show m=ahead (xdm s) 16 0 (j+1) by rw[hn.o,hrj,←hm.o];rfl);clear hrj;go_wp2
       go_round
       case rel=>exact⟨j+1,m,by omega,by omega,by go_num,rfl,by omega,hm2⟩
       case measure=>simp[intOf];omega
     have p1:¬(j:Int)<16:=zo;obtain rfl:j=16:=zo;go_wp2
     go_meet
     case rel=>exact⟨by rw[hm.o],rfl⟩
   case rest=>
    obtain⟨rfl,rfl⟩:=hcut;obtain⟨last,hlast⟩:∃b,t.queue[nq - 1]? =some b:=⟨_,tA7 (by rw[A0.o];omega)⟩;have tq:=TQ.o;obtain⟨bq,oq,Ab,nb,cb,rfl,-,cbq,rb,ob⟩:=xe1 AR.o tq hlast rfl;rw[A0.o]at tq;have r8:=xbv ⟨rb,ob⟩ (Rest.of_below B9.o);have eL:=qai cbq B9.o;obtain⟨BH,BI⟩:=zh2 r8 hlast;obtain⟨nm,hnm⟩:=xeq (nq - 1);rw[hnm]at eL;have m1:IntKind.i64.wrap ((nq:Int) - 1)=(nm:Int):=by have:=A9.queue;have:=A0.o;rw[tBb _ zo];omega
    have m2:wrap64 ((nq:Int) - 1)=(nm:Int):=by have:=A9.queue;have:=A0.o;rw[IntWalk.wrap64_in _ zo];omega
    have m3:nm<nq:=zo;have m4:(nm:Int)<nq:=zo;have AD:=zh1 hnm;clear hlast tq cbq rb ob r8 hnm e4 q6 q7;go_upto_region 24 with(fail)
    have kq:=((K5.below B7.o K5.lt).below B8.o (K5.below B7.o K5.lt).lt).below B9.o ((K5.below B7.o K5.lt).below B8.o (K5.below B7.o K5.lt).lt).lt;have eq:=(kq.cell 1).trans (show (#[.int .i64 c.width,.int .i64 c.quantum,.int .u32 (c.store:Int),.slice A1 n1 k1]:Array Value)[1]? =some (.int .i64 c.quantum) from rfl);have ew:=(X9.blk.cell 2).trans (show D.toArray[2]? =some (.int .i64 t.weight) by rw[tA3,HD.o];rfl);obtain⟨na,hna⟩:=xeq (ahead (xdm s) 16 0 16);have hp:=BC.o;have tw:=TW.o;have hwt:=BB.o;have hq:=A9.queue;rw[hna]at hp tw;rw[A0.o]at tw hq;rw[AD.o]at tw;have CW:=xeb (nm:Int) gg t.weight c.quantum na wc zo zo hwt.1 hwt.2 A3.q1 A3.q2 zo zo tw.1 _ tw.2.1;rw[tw.2.2]at CW;have AE:=zh1 CW;rw[hna];clear hp tw hwt hq CW hna kq;go_wp2_with fail
    refine AE.o.mono ?_;rintro e w' ⟨rfl,rfl⟩;clear eq ew eL m1 m2 m3 m4;go_upto_block 4 with fail
    go_cut [17] (fun s17 wx=>∃colx:Col,Hid (Sit W B wx colx g gw tb c (seqN c s T))∧Hid (Rest wc colr wx colx))
    case first=>
     go_wp2_with fail
     go_loopw [17] (fun i wr=>∃(j:Nat) (colx:Col),j≤T∧i=.int .i64 j∧Hid (Sit W B wr colx g gw tb c (seqN c s j))∧Hid (Rest wc colr wr colx)) (fun i _=>T - (intOf i).toNat)
     case atStart=>exact⟨0,colr,by omega,rfl,S9,zh1 ⟨rfl,rfl,rfl,tA4 _,fun _ _ h=>⟨rfl,h⟩⟩⟩
     case round=>
      obtain⟨j,colx,hj,rfl,hs2,hr2⟩:=hrel;by_cases h1:j<T
      ·
       have q1:(j:Int)<T:=zo;have CQ:=qzv hs2.o A3.o;have BJ:=zh1 CQ;clear CQ;go_wp2_with fail
       refine BJ.o.mono ?_;rintro e w5 ⟨rfl,col5,s5,r5⟩;obtain⟨S5,R5⟩:=zh2 s5 (hr2.trans r5);clear s5 r5;go_wp2
       go_roundw
       case rel=>exact⟨j+1,col5,by omega,by go_num,S5,R5⟩
       case measure=>simp[intOf];omega
      have q1:¬(j:Int)<T:=zo;obtain rfl:j=T:=zo;go_wp2
      go_meet
      case rel=>exact⟨colx,hs2,hr2⟩
    case rest=>
     obtain⟨colx,s10,r10⟩:=hcut;obtain⟨BW,hW10⟩:=eqx wc;rw[←hW10]at s10 r10 ⊢;clear hW10;have AS:=xe0 s10.o;have AF:=zh1 AS;clear AS;go_wp2_with fail
     refine AF.o.mono ?_;rintro e w11 ⟨cc11,AT,css11,rfl,cp11,b11,s11⟩;have hf:=xcy (seqN c s T) AT w11;obtain⟨V2,hV2⟩:=xeq (stav (seqN c s T) AT);rw[hV2]at hf ⊢;clear hV2;obtain⟨D2,Ad2,cd2,Ax2,clx2,Aq2,cq2,hD2,lD2,oD2,rD2,tl2,tq2⟩:=cp11.treeC s11.ok U1.o;obtain⟨nlv,hnlv⟩:=xeq t.leaves.length;obtain⟨nl2,hnl2⟩:=xeq t'.leaves.length;have hsum:nl2=nlv+nq:=by rw[←hnl2,U3.o,tA6,hnlv,A0.o]
     have hlast2:t'.leaves[nl2 - 1]? =some last:=by
      rw[U3.o,tBn (by rw[hnlv];omega),hnlv,show nl2 - 1 - nlv=nm by have:=AD.o;omega,←AD.o];exact BI.o
     obtain⟨bl,ol,Ab2,nb2,cb2,rfl,-,cbl,rb2,-⟩:=xe1 cp11 tl2 hlast2 rfl;have bx11:=xbu s11 74 Tryz.zeroCells74 D2;obtain⟨BK,AU,BL,BM,BN,AG,A5,BO⟩:=zh8 (Blk.new w11 74 Tryz.zeroCells74) (zI 74 lD2) lD2 oD2 rD2 hD2 bx11 b11;obtain⟨BP,BQ,BR,A6,A7,BS⟩:=zh6 rb2 cbl hsum hnlv hnl2 r10.o;have qh:=A2.o;have p4:(tn:Int)<16:=zo;clear lD2 oD2 rD2 hD2 bx11 b11 rb2 cbl hsum hnlv hnl2 hlast2 tl2 tq2 cp11 s11 qh;go_upto_region 30 with(first
      |(refine zld BN.o zu74 AU.o ?_)
      |(refine zst BK.o AU.o (AO.trans (by simp[BL.o])) BM.o ?_))
     obtain⟨A8,hW12⟩:=eqx ((w11.alloc (.cells Tryz.zeroCells74 74)).setRow w11.heap.size D2.toArray);rw[←hW12];rw[←hW12]at A5;obtain⟨BX,hG12⟩:=xeq w11.heap.size;rw[hG12];obtain⟨s12,x12,b12⟩:=A5.o;rw[hG12]at x12;have r12:=(BS.trans (Rest.of_below BO.o)).trans (Rest.of_below b12);have x9:=X9.rest r12;have rl:=xbv BH.o r12;have rl2:=BP.call b12;have c6:=(x12.blk.cell 6).trans (show D2.toArray[6]? =some (.slice Aq2 0 cq2) by rw[tA3,AG.o,U2.o];rfl);have c5:=(x12.blk.cell 5).trans (show D2.toArray[5]? =some (.slice (some ⟨bl,ol,none⟩) nl2 clx2) by rw[tA3,AG.o,←A7.o];rfl);have d5:=(x9.blk.cell 5).trans (show D.toArray[5]? =some (.slice Ax nlv clx) by rw[tA3,HD.o,←A6.o];rfl);have d6:=(x9.blk.cell 6).trans (show D.toArray[6]? =some (.slice (some ⟨bq,oq,none⟩) nq cq) by rw[tA3,HD.o,←A0.o];rfl);have c9:=(x12.blk.cell 9).trans (show D2.toArray[9]? =some (.int .u64 (nl2:Int)) by
      rw[tA3,AG.o];refine(qul _ _ _ _ 2).trans ?_;show some (Value.int .u64 (t'.hd.size:Int))=_;rw[U4.o,A7.o])
     obtain⟨nm2,hnm2⟩:=xeq (nl2 - 1);have cl:=qai BQ.o b12;rw[hnm2]at cl;have hs2:=BR.o;have hlv:=A9.leaves;rw[A6.o,A0.o]at hlv;obtain⟨y1,y2,y3,y4,y5,y6,y7⟩:=xe9 hs2 hq1 hlv hnm2;obtain⟨C0,C1,C2,C3,C4,C7,RL,BT⟩:=zh8 c6 c5 d5 d6 cl c9 rl rl2;have BU:=zh1 s12;clear hW12 hG12 s12 x12 b12 r12 x9 rl rl2 c6 c5 d5 d6 c9 cl hs2 hlv hnm2 hf p4;obtain⟨S,HS9⟩:=zS fun w'=>Below A8.heap.size A8 w'
     refine zrs S 46 (zq 0 43 [(43,true),(44,false),(45,false)]) ((HS9.o _).mpr ((tA5 _ _).drew)) ?_;obtain⟨F0,F1,F2,F3,F4,F5,F6,F7⟩:=zh8 (zF HS9 C0.o) (zF HS9 C1.o) (zF HS9 C2.o) (zF HS9 C3.o) (zF HS9 C4.o) (fun(w':World)(h:S w')=>qe6 (n:=nb2) (c:=cb2) (BT.call ((HS9.o w').mp h))) (fun(w':World)(h:S w')=>qe6 (n:=nb) (c:=cb) (RL.o.1.call ((HS9.o w').mp h))) (zF HS9 C7.o);obtain⟨st9,hst9⟩:=xeq (bstr last);rw[hst9]at F5 F6;clear hst9;iterate 43 (refine zre rfl rfl (fun w1 hS=>by have g0:=F0.o w1 hS;have g1:=F1.o w1 hS;have g2:=F2.o w1 hS;have g3:=F3.o w1 hS;have g4:=F4.o w1 hS;have g5:=F5.o w1 hS;have g6:=F6.o w1 hS;have g7:=F7.o w1 hS;clear hS;go_simp;try rfl) ?_)
     obtain⟨Wd,hWd⟩:=eqx A8.drew;obtain⟨BD,SD⟩:=zh2 (show Below A8.heap.size A8 Wd by rw[hWd];exact(tA5 _ _).drew) (show Sit W B Wd colx g gw tb c (seqN c s T) by rw[hWd];exact BU.drew);rw[←hWd];clear hWd;have CK:=xd1 Wd SD.tabs SD.err;have AA:=zh1 CK;clear CK;refine zw ?_;go_simp;refine zcb AA.o fun w13 b13=>?_
     obtain⟨BV,BE⟩:=zh2 (BD.trans (b13.mono BD.size)) (SD.below.trans (b13.mono SD.below.size));clear b13;refine⟨(HS9.o _).mpr BV.o,zput ?_⟩;iterate 2 (refine zre rfl rfl (fun w1 hS=>by clear hS;go_simp;try rfl) ?_)
     refine qbf ?_;clear HS9 F0 F1 F2 F3 F4 F5 F6 F7;go_wp2
     go_ret
     exact⟨rfl,BE.o⟩
  have CK:=xd1 W8 S9.tabs S9.err;have AA:=zh1 CK;clear CK;cases hrun:qkm t.state with
  |false=>
   clear hd hrun;go_wp2_with fail
   refine zcb AA.o fun w10 b10=>?_
   have AH:=zh1 (S9.below.trans (b10.mono S9.below.size));clear b10;go_wp2
   go_ret
   exact⟨rfl,AH.o⟩
  |true=>
   obtain rfl:nq=0:=by
    rw[hrun]at hd;simp at hd;exact hd
   clear hd hrun;go_wp2_with fail
   refine zcb AA.o fun w10 b10=>?_
   have AH:=zh1 (S9.below.trans (b10.mono S9.below.size));clear b10;go_wp2
   go_ret
   exact⟨rfl,AH.o⟩
end Go.Proofs.YthomgopipiomhaaGreatDoor

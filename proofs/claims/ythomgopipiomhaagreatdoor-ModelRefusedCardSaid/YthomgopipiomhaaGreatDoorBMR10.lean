/- Lemmas. -/
import Derived.Test.YthomgopipiomhaaGreatDoorBMR09
namespace Go.Proofs.YthomgopipiomhaaGreatDoor
open Go.RowKit
set_option linter.unusedVariables false
set_option linter.unusedSimpArgs false
set_option maxRecDepth 100000
set_option maxHeartbeats 32000000
variable {bs:List Nat}{B B' g i n:Nat}{w:World}
theorem Wri.base(h:Wri w B g bs)(hb:B'≤B):Wri w B' g bs:=by
 obtain⟨v,h1,h2,h3⟩:=h;exact⟨v,h1,tB1 hb h2,qdf h3 hb⟩
def tenN (x:Ten):List Nat:=[x.rate,x.burst,x.tok,x.store,x.used]
theorem xeu{x:Ten}(h:x.Ok):∀n∈tenN x,n<4294967296:=by
 obtain⟨h1,h2,h3,h4,h5⟩:=h;intro n hn;simp only[tenN,List.mem_cons,List.not_mem_nil,or_false]at hn;rcases hn with rfl|rfl|rfl|rfl|rfl<;>omega
theorem xev{l:List Nat}(h:l[i]? =some n):(drwv l)[i]? =some (.int .u32 (n:Int)):=by
 rw[drwv,tBj,h];rfl
theorem xew{l:List Nat}(h:l[i]? =some n):(drwv l).toArray[i]? =some (.int .u32 (n:Int)):=by
 rw[tA3,drwv,tBj,h];rfl
theorem xex(s:Sta)(L:Loc)(col:Col)(k:Nat)(css:List (List Value))(w:World)(hs:s.Ok)(hst:StAt 92 74 66 w col k L css s):
 Zc 42 #[.agg (stav s L).toArray] w fun e w'=>∃v,e=.returned v∧OwnB w' w.heap.size v (encS s)∧Below w.heap.size w w':=by
 have hmf:=zmf;obtain⟨SV,hSV⟩:=xeq (stav s L);rw[hSV];obtain⟨W0,hW0⟩:=eqx (w.alloc (.cells SV.toArray 49));obtain⟨A0,B0,A6,A4,HS,A1⟩:=zh6 (show Blk W0 w.heap.size 49 SV.toArray by rw[hW0];exact Blk.new _ _ _) (show Below w.heap.size w W0 by rw[hW0];exact qah (tA5 _ _) _) hW0 hst hs hSV;clear hW0 hst hs hSV;go_enter Tryz.func42,Tryz.ntmps42
 go_wp2_with fail
 rw[←A6.o];refine(qd3 W0).mono ?_;rintro e w1 ⟨rfl,h1,b1⟩;obtain⟨H1,B1⟩:=zh2 h1 b1;clear h1 b1;go_upto_region 3 with(fail)
 have hAl:=A0.lt;obtain⟨gs,hgs⟩:=xeq w.heap.size;obtain⟨g,hg⟩:=xeq W0.heap.size;obtain⟨gp,hgp⟩:=xeq w1.heap.size;obtain⟨W2,hW2⟩:=eqx (w1.alloc (.cells #[.pointer (some ⟨W0.heap.size,0,none⟩)] 184));have b2:=zMa hW2;have y2:=zNa hW2;have l1:g<gp:=by
  obtain⟨v,hv,-,-⟩:=H1.o;have:=hv.lt;omega
 have e0:Enc w g [(gp,184,#[.pointer (some ⟨g,0,none⟩)]),(gs,49,SV.toArray)] 0 W2 []:=by
  have h1:=(H1.base (B':=w.heap.size) B0.size).kept_call b2;have h2:=(A0.below B1.o A0.lt).below b2 (A0.below B1.o A0.lt).lt;have h3:=(B0.trans (B1.mono B0.size)).trans (b2.mono (tB1 B0.size B1.size));rw[hg]at h1 y2;rw[hgs]at h2;rw[hgp]at y2;exact Enc.cons (Enc.cons ⟨h1,by simp,fun p hp=>(nomatch hp),h3⟩ h2 zo zdc) y2 zo zdc
 rw[←hW2,hg,hgp];have E0:=zh1 e0;have lane:=HS.lane;have hdr:=HS.draw;have hgn:=HS.grasn;obtain⟨ng,hng⟩:=xeq s.gras.length;rw[hng]at hgn;obtain⟨S0,S1,S2,S3,S4,S5⟩:=zh6 (show SV.toArray[0]? =some (.int .u64 (s.clock:Int)) by rw[←A1.o];rfl) (show SV.toArray[1]? =some (.int .u32 (s.draw:Int)) by rw[←A1.o];rfl) (show SV.toArray[2]? =some (.int .i64 s.lane) by rw[←A1.o];rfl) (show SV.toArray[3]? =some (.slice (some ⟨L.tg,0,none⟩) 16 L.tc) by rw[←A1.o];rfl) (show SV.toArray[4]? =some (.slice (some ⟨L.rg,0,none⟩) 16 L.rc) by rw[←A1.o];rfl) (show SV.toArray[5]? =some (.slice (some ⟨L.gg,0,none⟩) ng L.gc) by rw[←A1.o,←hng];rfl);have q1:IntKind.u64.wrap (s.draw:Int)=(s.draw:Int):=tBa _ zo;have q2:IntKind.u64.wrap s.lane=s.lane:=tBa _ zo;have q3:IntKind.u64.wrap (ng:Int)=(ng:Int):=tBa _ zo;have A5:=zh1 hng;clear b2 y2 l1 e0 hW2 hg hgp H1 B1 A0 B0 hAl hng A6;have c0:(W2).cell? ⟨gp,0,none⟩=some (.pointer (some ⟨g,0,none⟩)):=E0.at0.cell 0;have c1:=(E0.at1.cell 0).trans S0.o;have HC:=zh1 (E0.num s.clock _ rfl 8 8 zdc HS.clock zo);go_wp2_with fail
 refine zcb HC.o fun w3 e9=>?_
 have E3:=zh1 e9;clear e9;clear c0 c1 HC;have c0:(w3).cell? ⟨gp,0,none⟩=some (.pointer (some ⟨g,0,none⟩)):=E3.at0.cell 0;have c1:=(E3.at1.cell 1).trans S1.o;have HC:=zh1 (E3.num s.draw _ rfl 4 4 zdc zo zo);go_wp2_with fail
 refine zcb HC.o fun w4 e9=>?_
 have E4:=zh1 e9;clear e9;clear c0 c1 HC;have c0:(w4).cell? ⟨gp,0,none⟩=some (.pointer (some ⟨g,0,none⟩)):=E4.at0.cell 0;have c1:=(E4.at1.cell 2).trans S2.o;have HC:=zh1 (E4.num s.lane.toNat s.lane zo 4 4 zdc zo zo);go_wp2_with fail
 refine zcb HC.o fun w5 e9=>?_
 have E5:=zh1 e9;clear e9;clear c0 c1 HC;have c0:(w5).cell? ⟨gp,0,none⟩=some (.pointer (some ⟨g,0,none⟩)):=E5.at0.cell 0;have c1:=(E5.at1.cell 3).trans S3.o;have HC:=zh1 (E5.num 16 16 rfl 2 2 zdc zdc zo);go_wp2_with fail
 refine zcb HC.o fun w6 e9=>?_
 have E6:=zh1 e9;clear e9;clear c0 c1 HC;have c0:(w6).cell? ⟨gp,0,none⟩=some (.pointer (some ⟨g,0,none⟩)):=E6.at0.cell 0;have c1:=(E6.at1.cell 4).trans S4.o;have HC:=zh1 (E6.num 16 16 rfl 2 2 zdc zdc zo);go_wp2_with fail
 refine zcb HC.o fun w7 e9=>?_
 have E7:=zh1 e9;clear e9;clear c0 c1 HC;have c0:(w7).cell? ⟨gp,0,none⟩=some (.pointer (some ⟨g,0,none⟩)):=E7.at0.cell 0;have c1:=(E7.at1.cell 5).trans S5.o;have HC:=zh1 (E7.num ng ng rfl 2 2 zdc zo zo);go_wp2_with fail
 refine zcb HC.o fun w8 e9=>?_
 have E8:=zh1 e9;clear e9;clear c0 c1 HC;clear q1 q2 q3 E0 E3 E4 E5 E6 E7 S0 S1 S2 lane hdr;have e8:Enc w g [(gp,184,#[.pointer (some ⟨g,0,none⟩)]),(gs,49,SV.toArray)] 100 w8 (xeo s):=by
  have h:=E8.mono (k:=100) zo;rw[List.nil_append,←A5.o]at h;exact h
 have E9:=zh1 e8;have c3:=(e8.at1.cell 3).trans S3.o;clear e8 E8;go_wp2_with fail
 clear c3;go_loopw [53] (fun i wr=>∃j:Nat,j≤16∧i=.int .i64 j∧Hid (Enc w g [(gp,184,#[.pointer (some ⟨g,0,none⟩)]),(gs,49,SV.toArray)] (100+j*50) wr (xeo s++(s.tens.take j).flatMap xel))) (fun i _=>16 - (intOf i).toNat)
 case atStart=>exact⟨0,by omega,rfl,zh1 (by simpa using E9.o)⟩
 case round=>
  obtain⟨j,hj,rfl,he⟩:=hrel;by_cases hlt:j<16
  ·
   have p1:(j:Int)<16:=zo;have p0:(0:Int)≤j:=zo;obtain⟨x,hx⟩:∃x,s.tens[j]? =some x:=⟨_,tA7 (by rw[HS.tensn];exact hlt)⟩;have hr:wr.rangeAt L.tg (j*6) (tenv x):=fun i v hv=>qai (A4.tens.cell ((qo4 hx (by obtain⟨h,_⟩:=tA8 hv;exact h)).trans hv)) he.below
   have x0:(tenv x).toArray[0]? =some (.bool x.on):=rfl;have x1:(tenv x).toArray[1]? =some (.int .u32 (x.rate:Int)):=rfl;have x2:(tenv x).toArray[2]? =some (.int .u32 (x.burst:Int)):=rfl;have x3:(tenv x).toArray[3]? =some (.int .u32 (x.tok:Int)):=rfl;have x4:(tenv x).toArray[4]? =some (.int .u32 (x.store:Int)):=rfl;have x5:(tenv x).toArray[5]? =some (.int .u32 (x.used:Int)):=rfl;have lX:(tenv x).length=6:=rfl;have oX:∀u∈tenv x,u.oneCell'=true:=by
    intro u hu;simp only[tenv,List.mem_cons,List.not_mem_nil,or_false]at hu;rcases hu with rfl|rfl|rfl|rfl|rfl|rfl<;>rfl
   have hok:=HS.tens x (tB2 hx);have hnl:=xeu hok;obtain⟨X,hX⟩:=xeq (tenv x);rw[hX]at hr x0 x1 x2 x3 x4 x5 lX oX;obtain⟨HR,X0,X1,X2,X3,X4,X5,LX⟩:=zh8 hr x0 x1 x2 x3 x4 x5 lX;obtain⟨OX,HX,A9,IX⟩:=zh4 oX hx hnl (zI 92 lX);clear hr x0 x1 x2 x3 x4 x5 lX oX hX hx hok hnl;have Y0:=zh1 (Blk.new wr 92 #[.bool false,.int .u32 0,.int .u32 0,.int .u32 0,.int .u32 0,.int .u32 0]);go_upto_region 12 with(first
    |(refine zld HR.o zu92 IX.o ?_)
    |(refine zst Y0.o IX.o (by simp[LX.o]) OX.o ?_))
   obtain⟨W1,q,hW1,hq,E1⟩:=he.boxed (Z:=#[.bool false,.int .u32 0,.int .u32 0,.int .u32 0,.int .u32 0,.int .u32 0]) 92 X.toArray;rw[hW1,hq];have HC:=zh1 (xer E1.o x.on zo);have c0:W1.cell? ⟨gp,0,none⟩=some (.pointer (some ⟨g,0,none⟩)):=E1.at1.cell 0;have c1:=(E1.at0.cell 0).trans X0.o;clear hW1 hq Y0 HR X0 he;go_wp2_with fail
   refine zcb HC.o fun w2 e9=>?_
   have E2:=zh1 e9;clear e9;clear HC c0 c1;have c1:=(E2.at0.cell 1).trans X1.o;have c2:=(E2.at0.cell 2).trans X2.o;have c3:=(E2.at0.cell 3).trans X3.o;have c4:=(E2.at0.cell 4).trans X4.o;have c5:=(E2.at0.cell 5).trans X5.o;go_wp2_with (refine xes ?_)
   clear c1 c2 c3 c4 c5 X1 X2 X3 X4 X5;obtain⟨W3,hW3⟩:=eqx (w2.alloc (.cells #[.int .u32 (x.rate:Int),.int .u32 (x.burst:Int),.int .u32 (x.tok:Int),.int .u32 (x.store:Int),.int .u32 (x.used:Int)] 22));have y3:Blk W3 w2.heap.size 22 (drwv (tenN x)).toArray:=by rw[hW3];exact Blk.new _ _ _
   have e3:=(E2.call (w':=W3) (by rw[hW3];exact qah (tA5 _ _) _)).tail.cons y3 (by obtain⟨v,hv,-,-⟩:=E2.wri;have:=hv.lt;omega) zdc;obtain⟨q,hq⟩:=xeq w2.heap.size;rw[hq]at e3;rw[←hW3,hq];have E3:=zh1 e3;clear hW3 y3 e3 hq E2 E1;go_loopw [76] (fun i wi=>∃m:Nat,m≤5∧i=.int .i64 m∧Hid (Enc w g ((q,22,(drwv (tenN x)).toArray)::[(gp,184,#[.pointer (some ⟨g,0,none⟩)]),(gs,49,SV.toArray)]) (100+j*50+8+m*8) wi (xeo s++(s.tens.take j).flatMap xel++be (if x.on then 1 else 0) 1++((tenN x).take m).flatMap fun n=>be n 4))) (fun i _=>5 - (intOf i).toNat)
   case atStart=>exact⟨0,by omega,rfl,zh1 (by simpa using E3.o)⟩
   case round=>
    obtain⟨m,hm,rfl,hi⟩:=hrel;by_cases hm5:m<5
    ·
     have r1:(m:Int)<5:=zo;have r0:(0:Int)≤m:=zo;obtain⟨v,hv⟩:∃v,(tenN x)[m]? =some v:=⟨_,tA7 hm5⟩;have hvl:=A9.o v (tB2 hv);have c1:=(hi.at0.cell m).trans (xew hv);have c0:wr.cell? ⟨gp,0,none⟩=some (.pointer (some ⟨g,0,none⟩)):=hi.at1.cell 0;have u1:IntKind.u64.wrap (v:Int)=(v:Int):=tBa _ zo;obtain⟨HC,HV⟩:=zh2 (hi.num v v rfl 4 4 zdc zo zo) hv;clear hvl hv;go_wp2_with fail
     refine zcb HC.o fun w4 e9=>?_
     have E4:=zh1 e9;clear e9;clear c0 c1 u1 HC;go_wp2
     go_roundw
     case rel=>exact⟨m+1,by omega,by go_num,zh1 (by rw[xep (fun n=>be n 4) HV.o];exact E4.mono zo)⟩
     case measure=>simp[intOf];omega
    have r1:¬(m:Int)<5:=zo;obtain rfl:m=5:=zo;have h:=hi.tail.mono (k:=100+(j+1)*50) zo;rw[List.append_assoc,show be (if x.on then 1 else 0) 1++(((tenN x).take 5).flatMap fun n=>be n 4)=xel x from rfl,←xep xel HX.o]at h;have H:=zh1 h;clear h hi;go_wp2
    go_roundw
    case rel=>exact⟨j+1,by omega,by go_num,H⟩
    case measure=>simp[intOf];omega
  have p1:¬(j:Int)<16:=zo;obtain rfl:j=16:=zo;have h:=he.mono (k:=1000) zo;rw[x_q xel (by rw[HS.tensn];exact tA4 _)]at h;have HE:=zh1 h;obtain⟨P1,hP1⟩:=xeq (xeo s++s.tens.flatMap xel);rw[hP1]at HE;have AA:=zh1 hP1;have c4:=(h.at1.cell 4).trans S4.o;clear h he hP1 E9;go_wp2_with fail
  clear c4;go_loopw [89] (fun i wr=>∃j:Nat,j≤16∧i=.int .i64 j∧Hid (Enc w g [(gp,184,#[.pointer (some ⟨g,0,none⟩)]),(gs,49,SV.toArray)] (1000+j*1000000) wr (P1++(s.tres.take j).flatMap xem))) (fun i _=>16 - (intOf i).toNat)
  case atStart=>exact⟨0,by omega,rfl,zh1 (by simpa using HE.o)⟩
  case round=>
   obtain⟨j,hj,rfl,he⟩:=hrel;by_cases hlt:j<16
   ·
    have p1:(j:Int)<16:=zo;have p0:(0:Int)≤j:=zo;obtain⟨t,ht⟩:∃x,s.tres[j]? =some x:=⟨_,tA7 (by rw[HS.tresn];exact hlt)⟩;obtain⟨-,Ad,cd,Al,cl,Aq,cq,-,hrg,hrd,hrl,hrq⟩:=A4.tree HS.o ht;obtain⟨A',c',ev,-,-,DR,-⟩:=hrd.sl;injection ev with ev1 _ ev3;subst ev1 ev3;obtain⟨A',c',ev,-,-,LR⟩:=hrl.reads;injection ev with ev1 _ ev3;subst ev1 ev3;obtain⟨A',c',ev,-,-,QR⟩:=hrq.reads;injection ev with ev1 _ ev3;subst ev1 ev3;have hto:=HS.tre ht;obtain⟨X,hX⟩:=xeq (trev t (.slice Ad t.draws.length cd) (.slice Al t.leaves.length cl) (.slice Aq t.queue.length cq));have hr:wr.rangeAt L.rg (j*75) X:=fun i v hv=>qai (hrg i v (by rw[hX];exact hv)) he.below
    have lX:X.length=75:=by rw[←hX];exact qo3 _ _ _ hto.hd
    have oX:∀u∈X,u.oneCell'=true:=by rw[←hX];exact qrd t _ _ _ rfl rfl rfl
    have xh:∀i u,(qm3 t.hd)[i]? =some u→X[7+i]? =some u:=fun i u hu=>by
     rw[Nat.add_comm,←hX];show (hdv t.hd)[i]? =some u;rw[qm4,tBm (by obtain⟨h,_⟩:=tA8 hu;exact h)];exact hu
    have xt:∀i u,(byv t.hd.tag)[i]? =some u→X[43+i]? =some u:=fun i u hu=>by
     rw[show 43+i=(36+i)+7 by omega,←hX];show (hdv t.hd)[36+i]? =some u;rw[qm4,tBn (by rw[qm5 _ hto.hd.rootl];omega),qm5 _ hto.hd.rootl,Nat.add_sub_cancel_left];exact hu
    have x0:X.toArray[0]? =some (.int .i64 t.state):=by rw[←hX];rfl
    have x1:X.toArray[1]? =some (.int .i64 t.tenant):=by rw[←hX];rfl
    have x2:X.toArray[2]? =some (.int .i64 t.weight):=by rw[←hX];rfl
    have x3:X.toArray[3]? =some (.int .i64 t.deficit):=by rw[←hX];rfl
    have x4:X.toArray[4]? =some (.slice Ad t.draws.length cd):=by rw[←hX];rfl
    have x5:X.toArray[5]? =some (.slice Al t.leaves.length cl):=by rw[←hX];rfl
    have x6:X.toArray[6]? =some (.slice Aq t.queue.length cq):=by rw[←hX];rfl
    obtain⟨nd,hnd⟩:=xeq t.draws.length;obtain⟨nl,hnl⟩:=xeq t.leaves.length;obtain⟨nq,hnq⟩:=xeq t.queue.length;have b1:=hto.draws;have b2:=hto.leaves;have b3:=hto.queue;rw[hnd]at x4 DR b1;rw[hnl]at x5 LR b2;rw[hnq]at x6 QR b2 b3;obtain⟨a0,ha0⟩:∃n:Nat,t.state=(n:Int):=⟨t.state.toNat,by have:=hto.state;omega⟩;obtain⟨a1,ha1⟩:∃n:Nat,t.tenant=(n:Int):=⟨t.tenant.toNat,by have:=hto.tenant;omega⟩;obtain⟨a2,ha2⟩:∃n:Nat,t.weight=(n:Int):=⟨t.weight.toNat,by have:=hto.weight;omega⟩;obtain⟨a3,ha3⟩:∃n:Nat,t.deficit=(n:Int):=⟨t.deficit.toNat,by have:=hto.deficit;omega⟩;obtain⟨a4,ha4⟩:∃n:Nat,t.hd.tree=(n:Int):=⟨t.hd.tree.toNat,by have:=hto.hdt;omega⟩;obtain⟨a5,ha5⟩:∃n:Nat,t.hd.epoch=(n:Int):=⟨t.hd.epoch.toNat,by have:=hto.hde;omega⟩;have w0:a0<1000∧a1<1000∧a2<1000∧a3<1000∧a4<1000∧a5<1000:=by
     have z0:=hto.state;have z1:=hto.tenant;have z2:=hto.weight;have z3:=hto.deficit;have z4:=hto.hdt;have z5:=hto.hde;omega
    rw[ha0]at x0;rw[ha1]at x1;rw[ha2]at x2;rw[ha3]at x3;have hET:xem t=be a0 1++be a1 1++be a2 1++be a3 4++be nd 2++(t.draws.flatMap fun n=>be n 4)++xek t.leaves++xek t.queue++be a4 1++be a5 4++be t.hd.size 8++be t.hd.clock 8++t.hd.root++t.hd.tag:=by
     rw[xem,ha0,ha1,ha2,ha3,ha4,ha5,hnd];rfl
    have lH:=qm5 t.hd hto.hd.rootl;have oH:∀u∈qm3 t.hd,u.oneCell'=true:=fun u hu=>qmr t.hd u (by rw[qm4];exact List.mem_append_left _ hu)
    have h0:(qm3 t.hd).toArray[0]? =some (.int .i64 t.hd.tree):=rfl;have h1:(qm3 t.hd).toArray[1]? =some (.int .i64 t.hd.epoch):=rfl;have h2:(qm3 t.hd).toArray[2]? =some (.int .u64 (t.hd.size:Int)):=rfl;have h3:(qm3 t.hd).toArray[3]? =some (.int .u64 (t.hd.clock:Int)):=rfl;have h4:∀i u,(byv t.hd.root)[i]? =some u→(qm3 t.hd)[4+i]? =some u:=fun i u hu=>by
     rw[Nat.add_comm];exact hu
    rw[ha4]at h0;rw[ha5]at h1;obtain⟨HV,hHV⟩:=xeq (qm3 t.hd);rw[hHV]at lH oH h0 h1 h2 h3 h4 xh;obtain⟨R1,hR1⟩:=xeq t.hd.root;obtain⟨R2,hR2⟩:=xeq t.hd.tag;have r1:=hto.hd.rootl;have r2:=hto.hd.tagl;rw[hR1]at h4 r1 hET;rw[hR2]at xt r2 hET;obtain⟨hs1,hhs1⟩:=xeq t.hd.size;obtain⟨hs2,hhs2⟩:=xeq t.hd.clock;have r3:=hto.hd.size;have r4:=hto.hd.clock;rw[hhs1]at h2 r3 hET;rw[hhs2]at h3 r4 hET;obtain⟨AB,AC,AD,HB,A3,WB,AE,HR⟩:=zh8 hto.leafb hto.queueb hto.drawb (And.intro b1 (And.intro b2 b3)) (And.intro r1 (And.intro r2 (And.intro r3 r4))) w0 hET hr;obtain⟨XH,XT,X0,X1,X2,X3,X4,X5⟩:=zh8 xh xt x0 x1 x2 x3 x4 x5;obtain⟨X6,H0,H1,H2,H3,H4,LX,OX⟩:=zh8 x6 h0 h1 h2 h3 h4 lX oX;obtain⟨LH,OH,HT,A7,AF,AG,AH,IX⟩:=zh8 lH oH ht hnd DR LR QR (zI 74 lX);obtain⟨IH,AI,AJ,HZ,Y0⟩:=zh5 (zI 53 lH) (show (Tryz.prog.info? 29).map (·.size)=some (byv R1).length by rw[qat,r1];kernel_rfl) (show (Tryz.prog.info? 29).map (·.size)=some (byv R2).length by rw[qat,r2];kernel_rfl) (show Tryz.zeroCells74.size=75 by kernel_rfl) (Blk.new wr 74 Tryz.zeroCells74);obtain⟨PJ,hPJ⟩:=xeq (P1++(s.tres.take j).flatMap xem);rw[hPJ]at he;have AK:=zh1 hPJ;clear hr lX oX xh xt x0 x1 x2 x3 x4 x5 x6 hX ht hnd hnl hnq DR LR QR hto hrg hrd hrl hrq hPJ w0 ha0 ha1 ha2 ha3 ha4 ha5 hET lH oH h0 h1 h2 h3 h4 hHV hR1 hR2 hhs1 hhs2 r1 r2 r3 r4 b1 b2 b3;go_upto_region 22 with(first
     |(refine zld HR.o zu74 IX.o ?_)
     |(refine zst Y0.o IX.o (by simp[LX.o,HZ.o]) OX.o ?_))
    obtain⟨W1,q,hW1,hq,E1⟩:=he.boxed (Z:=Tryz.zeroCells74) 74 X.toArray;rw[hW1,hq];have wb:=WB.o;have u0:IntKind.u64.wrap (a0:Int)=(a0:Int):=tBa _ zo;have u1:IntKind.u64.wrap (a1:Int)=(a1:Int):=tBa _ zo;have u2:IntKind.u64.wrap (a2:Int)=(a2:Int):=tBa _ zo;have u3:IntKind.u64.wrap (a3:Int)=(a3:Int):=tBa _ zo;clear hW1 hq Y0 HR he;have c0:(W1).cell? ⟨gp,0,none⟩=some (.pointer (some ⟨g,0,none⟩)):=E1.at1.cell 0;have c1:=(E1.at0.cell 0).trans X0.o;have HC:=zh1 (E1.num a0 a0 rfl 1 1 zdc zo zo);go_wp2_with fail
    refine zcb HC.o fun w2 e9=>?_
    have E2:=zh1 e9;clear e9;clear c0 c1 HC;have c0:(w2).cell? ⟨gp,0,none⟩=some (.pointer (some ⟨g,0,none⟩)):=E2.at1.cell 0;have c1:=(E2.at0.cell 1).trans X1.o;have HC:=zh1 (E2.num a1 a1 rfl 1 1 zdc zo zo);go_wp2_with fail
    refine zcb HC.o fun w3 e9=>?_
    have E3:=zh1 e9;clear e9;clear c0 c1 HC;have c0:(w3).cell? ⟨gp,0,none⟩=some (.pointer (some ⟨g,0,none⟩)):=E3.at1.cell 0;have c1:=(E3.at0.cell 2).trans X2.o;have HC:=zh1 (E3.num a2 a2 rfl 1 1 zdc zo zo);go_wp2_with fail
    refine zcb HC.o fun w4 e9=>?_
    have E4:=zh1 e9;clear e9;clear c0 c1 HC;have c0:(w4).cell? ⟨gp,0,none⟩=some (.pointer (some ⟨g,0,none⟩)):=E4.at1.cell 0;have c1:=(E4.at0.cell 3).trans X3.o;have HC:=zh1 (E4.num a3 a3 rfl 4 4 zdc zo zo);go_wp2_with fail
    refine zcb HC.o fun w5 e9=>?_
    have E5:=zh1 e9;clear e9;clear c0 c1 HC;clear u0 u1 u2 u3 E1 E2 E3 E4 X0 X1 X2 X3;have hb:=HB.o;have u4:IntKind.u64.wrap (nd:Int)=(nd:Int):=tBa _ zo;have c0:(w5).cell? ⟨gp,0,none⟩=some (.pointer (some ⟨g,0,none⟩)):=E5.at1.cell 0;have c1:=(E5.at0.cell 4).trans X4.o;have HC:=zh1 (E5.num nd nd rfl 2 2 zdc zo zo);go_wp2_with fail
    refine zcb HC.o fun w6 e9=>?_
    have E6:=zh1 e9;clear e9;clear c0 c1 HC;have c4:=(E6.at0.cell 4).trans X4.o;go_wp2_with fail
    clear c4 u4 E5 X4;go_loopw [122] (fun i wi=>∃m:Nat,m≤nd∧i=.int .i64 m∧Hid (Enc w g ((q,74,X.toArray)::[(gp,184,#[.pointer (some ⟨g,0,none⟩)]),(gs,49,SV.toArray)]) (1000+j*1000000+40+m*8) wi (PJ++be a0 1++be a1 1++be a2 1++be a3 4++be nd 2++(t.draws.take m).flatMap fun n=>be n 4))) (fun i _=>nd - (intOf i).toNat)
    case atStart=>exact⟨0,by omega,rfl,zh1 (by simpa using E6.o)⟩
    case round=>
     obtain⟨m,hm,rfl,hi⟩:=hrel;by_cases hml:m<nd
     ·
      have r1:(m:Int)<nd:=zo;have r0:(0:Int)≤m:=zo;obtain⟨v,hv⟩:∃v,t.draws[m]? =some v:=⟨_,tA7 (by rw[A7.o];exact hml)⟩;have hvl:=AD.o v (tB2 hv);obtain⟨b,o,rfl,hbl,hc⟩:=AF.mid zo zdc;have c1:=(hi.below.cell (p:=⟨b,o+m,none⟩) hbl).trans (hc m _ (xev hv));have c0:wr.cell? ⟨gp,0,none⟩=some (.pointer (some ⟨g,0,none⟩)):=hi.at1.cell 0;have u1:IntKind.u64.wrap (v:Int)=(v:Int):=tBa _ zo;obtain⟨HC,HV'⟩:=zh2 (hi.num v v rfl 4 4 zdc zo zo) hv;clear hvl hv hc hbl;go_wp2_with fail
      refine zcb HC.o fun w7 e9=>?_
      have E7:=zh1 e9;clear e9;clear c0 c1 u1 HC;go_wp2
      go_roundw
      case rel=>exact⟨m+1,by omega,by go_num,zh1 (by rw[xep (fun n=>be n 4) HV'.o];exact E7.mono zo)⟩
      case measure=>simp[intOf];omega
     have r1:¬(m:Int)<nd:=zo;obtain rfl:m=nd:=zo;have h:=hi.mono (k:=1000+j*1000000+400) zo;rw[x_q (fun n=>be n 4) (by rw[A7.o];exact tA4 _)]at h;have E7:=zh1 h;have CT:=xet (gp:=gp) h zm zo Al nl cl t.leaves AG.o zo (fun b hb=>(AB.o b hb).1);have A2:=zh1 CT;have c5:=(h.at0.cell 5).trans X5.o;clear h hi CT E6;go_wp2_with fail
     refine zcb A2.o fun w8 e9=>?_
     have E8:=zh1 e9;clear e9;clear c5 A2 X5 E7;have CT:=xet (gp:=gp) E8.o zm zo Aq nq cq t.queue AH.o zo (fun b hb=>(AC.o b hb).1);have A2:=zh1 CT;have c6:=(E8.at0.cell 6).trans X6.o;clear CT;go_wp2_with fail
     refine zcb A2.o fun w9 e9=>?_
     have E9:=zh1 e9;clear e9;clear c6 A2 X6 E8;have e9:=E9.mono (k:=1000+j*1000000+900000) zo;obtain⟨RH,EA⟩:=zh2 (qap e9.at0 7 HV (fun i u h=>by simpa using XH.o i u h)) e9;obtain⟨ZH,hZH⟩:∃x:Array Value,x=zLS:=⟨_,rfl⟩;unfold zLS at hZH;obtain⟨AL,AM⟩:=zh2 (show ZH.size=36 by rw[hZH];rfl) hZH;clear hZH;have Y9:=zh1 (Blk.new w9 53 ZH);clear e9 E9;go_upto_region 35 with(first
      |(refine zld RH.o zu53 IH.o ?_)
      |(rw[←AM.o];refine zst Y9.o IH.o (by simp[LH.o,AL.o]) OH.o ?_))
     obtain⟨W2,q2,hW2,hq2,EB⟩:=EA.boxed (Z:=ZH) 53 HV.toArray;rw[hW2,hq2];have u4:IntKind.u64.wrap (a4:Int)=(a4:Int):=tBa _ zo;have u5:IntKind.u64.wrap (a5:Int)=(a5:Int):=tBa _ zo;clear hW2 hq2 Y9 RH EA;have c0:(W2).cell? ⟨gp,0,none⟩=some (.pointer (some ⟨g,0,none⟩)):=EB.at2.cell 0;have c1:=(EB.at0.cell 0).trans H0.o;have HC:=zh1 (EB.num a4 a4 rfl 1 1 zdc zo zo);go_wp2_with fail
     refine zcb HC.o fun w10 e9=>?_
     have EC:=zh1 e9;clear e9;clear c0 c1 HC;have c0:(w10).cell? ⟨gp,0,none⟩=some (.pointer (some ⟨g,0,none⟩)):=EC.at2.cell 0;have c1:=(EC.at0.cell 1).trans H1.o;have HC:=zh1 (EC.num a5 a5 rfl 4 4 zdc zo zo);go_wp2_with fail
     refine zcb HC.o fun w11 e9=>?_
     have ED:=zh1 e9;clear e9;clear c0 c1 HC;have c0:(w11).cell? ⟨gp,0,none⟩=some (.pointer (some ⟨g,0,none⟩)):=ED.at2.cell 0;have c1:=(ED.at0.cell 2).trans H2.o;have HC:=zh1 (ED.num hs1 hs1 rfl 8 8 zdc A3.o.2.2.1 zo);go_wp2_with fail
     refine zcb HC.o fun w12 e9=>?_
     have EE:=zh1 e9;clear e9;clear c0 c1 HC;have c0:(w12).cell? ⟨gp,0,none⟩=some (.pointer (some ⟨g,0,none⟩)):=EE.at2.cell 0;have c1:=(EE.at0.cell 3).trans H3.o;have HC:=zh1 (EE.num hs2 hs2 rfl 8 8 zdc A3.o.2.2.2 zo);go_wp2_with fail
     refine zcb HC.o fun w13 e9=>?_
     have EF:=zh1 e9;clear e9;clear c0 c1 HC;clear u4 u5 EB EC ED EE H0 H1 H2 H3;have c0:w13.cell? ⟨gp,0,none⟩=some (.pointer (some ⟨g,0,none⟩)):=EF.at2.cell 0;obtain⟨RD,HC⟩:=zh2 (qap EF.at0 4 (byv R1) (fun i u h=>by simpa using H4.o i u h)) (EF.dig R1 A3.o.1 zo);go_wp2_with (refine zld RD.o zu29 AI.o ?_)
     refine zcb HC.o fun w14 e9=>?_
     have EG:=zh1 e9;clear e9;clear c0 RD HC EF;have c0:w14.cell? ⟨gp,0,none⟩=some (.pointer (some ⟨g,0,none⟩)):=EG.at2.cell 0;obtain⟨RD,HC⟩:=zh2 (qap EG.at1 43 (byv R2) (fun i u h=>by simpa using XT.o i u h)) (EG.dig R2 A3.o.2.1 zo);go_wp2_with (refine zld RD.o zu29 AJ.o ?_)
     refine zcb HC.o fun w15 e9=>?_
     have EI:=zh1 e9;clear e9;clear c0 RD HC EG;have H:=zh1 ((EI.tail.tail.mono (k:=1000+(j+1)*1000000) zo).cast (cs:=P1++(s.tres.take (j+1)).flatMap xem) (by rw[xep xem HT.o,AK.o,AE.o];simp only[List.append_assoc]));clear EI;go_wp2
     go_roundw
     case rel=>exact⟨j+1,by omega,by go_num,H⟩
     case measure=>simp[intOf];omega
   have p1:¬(j:Int)<16:=zo;obtain rfl:j=16:=zo;have h:=he.mono (k:=17000000) zo;rw[x_q xem (by rw[HS.tresn];exact tA4 _)]at h;obtain⟨P2,hP2⟩:=xeq (P1++s.tres.flatMap xem);rw[hP2]at h;obtain⟨A8,AN⟩:=zh2 h hP2;have c5:=(h.at1.cell 5).trans S5.o;clear h he hP2 HE;go_wp2_with fail
   clear c5;go_loopw [173] (fun i wr=>∃j:Nat,j≤ng∧i=.int .i64 j∧Hid (Enc w g [(gp,184,#[.pointer (some ⟨g,0,none⟩)]),(gs,49,SV.toArray)] (17000000+j*50) wr (P2++(s.gras.take j).flatMap xen))) (fun i _=>ng - (intOf i).toNat)
   case atStart=>exact⟨0,by omega,rfl,zh1 (by simpa using A8.o)⟩
   case round=>
    obtain⟨j,hj,rfl,he⟩:=hrel;by_cases hlt:j<ng
    ·
     have p1:(j:Int)<ng:=zo;have p0:(0:Int)≤j:=zo;obtain⟨x,hx⟩:∃x,s.gras[j]? =some x:=⟨_,tA7 (by rw[A5.o];exact hlt)⟩;have hr:wr.rangeAt L.gg (j*4) (grav x):=fun i v hv=>qai (A4.gras.cell ((qo5 hx (by obtain⟨h,_⟩:=tA8 hv;exact h)).trans hv)) he.below
     have hok:=HS.gras x (tB2 hx);obtain⟨a0,ha0⟩:∃n:Nat,x.tenant=(n:Int):=⟨x.tenant.toNat,by have:=hok.tenant;omega⟩;obtain⟨a1,ha1⟩:∃n:Nat,x.role=(n:Int):=⟨x.role.toNat,by have:=hok.role;omega⟩;have w0:a0<1000∧a1<1000∧x.expires<18446744073709551616:=by
      have z0:=hok.tenant;have z1:=hok.role;have z2:=hok.expires;omega
     have x0:(grav x).toArray[0]? =some (.int .i64 x.tenant):=rfl;have x1:(grav x).toArray[1]? =some (.int .i64 x.role):=rfl;have x2:(grav x).toArray[2]? =some (.int .u64 (x.expires:Int)):=rfl;have x3:(grav x).toArray[3]? =some (.bool x.revoked):=rfl;rw[ha0]at x0;rw[ha1]at x1;have hEG:xen x=be a0 1++be a1 1++be x.expires 8++be (if x.revoked then 1 else 0) 1:=by
      rw[xen,ha0,ha1];rfl
     have lX:(grav x).length=4:=rfl;have oX:∀u∈grav x,u.oneCell'=true:=by
      intro u hu;simp only[grav,List.mem_cons,List.not_mem_nil,or_false]at hu;rcases hu with rfl|rfl|rfl|rfl<;>rfl
     obtain⟨X,hX⟩:=xeq (grav x);rw[hX]at hr x0 x1 x2 x3 lX oX;obtain⟨HR,X0,X1,X2,X3,LX,OX,HX⟩:=zh8 hr x0 x1 x2 x3 lX oX hx;obtain⟨AO,WB,IX,Y0⟩:=zh4 hEG w0 (zI 66 lX) (Blk.new wr 66 #[.int .i64 0,.int .i64 0,.int .u64 0,.bool false]);clear hr x0 x1 x2 x3 lX oX hX hx hok ha0 ha1 w0 hEG;go_upto_region 45 with(first
      |(refine zld HR.o zu66 IX.o ?_)
      |(refine zst Y0.o IX.o (by simp[LX.o]) OX.o ?_))
     obtain⟨W1,q,hW1,hq,E1⟩:=he.boxed (Z:=#[.int .i64 0,.int .i64 0,.int .u64 0,.bool false]) 66 X.toArray;rw[hW1,hq];have wb:=WB.o;have u0:IntKind.u64.wrap (a0:Int)=(a0:Int):=tBa _ zo;have u1:IntKind.u64.wrap (a1:Int)=(a1:Int):=tBa _ zo;clear hW1 hq Y0 HR he;have c0:(W1).cell? ⟨gp,0,none⟩=some (.pointer (some ⟨g,0,none⟩)):=E1.at1.cell 0;have c1:=(E1.at0.cell 0).trans X0.o;have HC:=zh1 (E1.num a0 a0 rfl 1 1 zdc zo zo);go_wp2_with fail
     refine zcb HC.o fun w2 e9=>?_
     have E2:=zh1 e9;clear e9;clear c0 c1 HC;have c0:(w2).cell? ⟨gp,0,none⟩=some (.pointer (some ⟨g,0,none⟩)):=E2.at1.cell 0;have c1:=(E2.at0.cell 1).trans X1.o;have HC:=zh1 (E2.num a1 a1 rfl 1 1 zdc zo zo);go_wp2_with fail
     refine zcb HC.o fun w3 e9=>?_
     have E3:=zh1 e9;clear e9;clear c0 c1 HC;have c0:(w3).cell? ⟨gp,0,none⟩=some (.pointer (some ⟨g,0,none⟩)):=E3.at1.cell 0;have c1:=(E3.at0.cell 2).trans X2.o;have HC:=zh1 (E3.num x.expires _ rfl 8 8 zdc wb.2.2 zo);go_wp2_with fail
     refine zcb HC.o fun w4 e9=>?_
     have E4:=zh1 e9;clear e9;clear c0 c1 HC;have c0:w4.cell? ⟨gp,0,none⟩=some (.pointer (some ⟨g,0,none⟩)):=E4.at1.cell 0;have c1:=(E4.at0.cell 3).trans X3.o;have HC:=zh1 (xer E4.o x.revoked zo);go_wp2_with fail
     refine zcb HC.o fun w5 e9=>?_
     have E5:=zh1 e9;clear e9;have H:=zh1 ((E5.tail.mono (k:=17000000+(j+1)*50) zo).cast (cs:=P2++(s.gras.take (j+1)).flatMap xen) (by rw[xep xen HX.o,AO.o];simp only[List.append_assoc]));clear c0 c1 HC u0 u1 E1 E2 E3 E4 E5;go_wp2
     go_roundw
     case rel=>exact⟨j+1,by omega,by go_num,H⟩
     case measure=>simp[intOf];omega
    have p1:¬(j:Int)<ng:=zo;obtain rfl:j=ng:=zo;have h:=he.mono (k:=18000000) zo;rw[x_q xen (by rw[A5.o];exact tA4 _),←AN.o,←AA.o,show xeo s++s.tens.flatMap xel++s.tres.flatMap xem++s.gras.flatMap xen=encS s from rfl]at h;have c0:wr.cell? ⟨gp,0,none⟩=some (.pointer (some ⟨g,0,none⟩)):=h.at0.cell 0;obtain⟨HC,HF⟩:=zh2 (qd5 w.heap.size g (encS s) wr h.wri (by have:=h.len;omega)) h;clear h he A8;go_wp2_with fail
    refine HC.o.mono ?_;rintro e wf ⟨v,rfl,ho,hb⟩;obtain⟨HO,HB⟩:=zh2 ho hb;clear ho hb c0 HC;go_wp2
    go_ret
    exact⟨v,rfl,qdf HO.o HF.below.size,HF.below.trans (HB.mono HF.below.size)⟩
theorem xfe(W:World)(hT:Tabs W)(hE:ErrT W)(cx cy:Int)(st:Nat)(A:Option Addr)(n k:Nat)(bs:List Nat)(hr:Reads W W.heap.size 1 A n (byv bs))(hx: -9223372036854775808≤cx∧cx≤9223372036854775807)(hy: -9223372036854775808≤cy∧cy≤9223372036854775807)(hst:st<4294967296)(hnk:n≤k)(hn:n≤140737488351232)(hbs:∀b∈bs,b<256)
 (l:List Stp)(Al:Option Addr)(nl kl:Nat)(hl:StpsR W Al l)(hll:l.length=nl)(h140:∀S∈l,S.raw.length≤140737488351232):
 Zc 11 #[.agg #[.int .i64 cx,.int .i64 cy,.int .u32 (st:Int),.slice A n k],.slice Al nl kl] W fun e w'=>e=.returned (.bool true)∧Zb W w':=by
 have hco:=xdr cx cy st bs hbs;obtain⟨c,hc⟩:=xeq (xdq cx cy st bs);rw[hc]at hco;obtain⟨W0,hW0⟩:=eqx (W.alloc (.cells #[.int .i64 cx,.int .i64 cy,.int .u32 (st:Int),.slice A n k] 25));have k0:=zNa hW0;have b0:=zMa hW0;have CC:=xds cx cy st A n k bs W0 (hr.call b0) hx hy hst hnk hn;rw[hc]at CC;obtain⟨AX,AY,K0,B0,HT,HE,AF,HL⟩:=zh8 CC hW0 k0 b0 hT hE hco hl;obtain⟨AG,AB⟩:=zh2 hll h140;clear CC hW0 k0 b0 hT hE hco hl hll h140 hr hx hy hst hnk hn hbs hc;go_enter Tryz.func11,Tryz.ntmps11
 go_upto_region 1 with(fail)
 rw[←AY.o];have RK:=zh1 (qap K0.o 0 [.int .i64 cx,.int .i64 cy,.int .u32 (st:Int),.slice A n k] zjq);go_wp2_with (refine qaq rfl 25 (.tmp 2) rfl W.heap.size 0 rfl [.int .i64 cx,.int .i64 cy,.int .u32 (st:Int),.slice A n k] _ RK.o Tryz.underlying25 rfl zk ?_)
 refine AX.o.mono ?_;rintro e w1 ⟨A1,n1,k1,rfl,r1,a1,b1⟩;obtain⟨K1,R1,AH,B1⟩:=zh4 (K0.below b1 K0.lt) r1 a1 b1;clear r1 a1 b1;go_upto_region 2 with(refine wpList_store_row rfl 25 (.tmp 2) (.tmp 14) rfl W.heap.size #[.int .i64 c.width,.int .i64 c.quantum,.int .u32 (c.store:Int),.slice A1 n1 k1] rfl rfl 25 _ K1.o zk zm (by simp[Value.oneCell']) ?_)
 obtain⟨W2,hW2⟩:=eqx (w1.setRow W.heap.size #[.int .i64 c.width,.int .i64 c.quantum,.int .u32 (c.store:Int),.slice A1 n1 k1]);rw[←hW2];have hg2:w1.grownBy W2 (some W.heap.size):=by rw[hW2];exact qam _ _ _
 have ne2:∀ad,A1=some ad→ad.block≠W.heap.size:=fun ad e h=>by
  have h1:=AH.o ad e;have h2:=K0.lt;omega
 have k2:Blk W2 W.heap.size 25 #[.int .i64 c.width,.int .i64 c.quantum,.int .u32 (c.store:Int),.slice A1 n1 k1]:=by rw[hW2];exact K1.setRow _
 have r2:=xdt R1.o hg2 ne2;have b2:Zb W W2:=(B0.trans (B1.mono B0.size)).grown hg2 (tB1 B0.size B1.size) (by intro g hg;injection hg with hg;omega);have CN:=xbo c A1 n1 k1 W2 AF.o r2 (HT.below b2 HT.size);obtain⟨K2,R2,B2,AZ,L2,B4⟩:=zh6 k2 r2 b2 CN (show ∀ad,A1=some ad→W.heap.size<ad.block from fun ad e=>by have h1:=AH.o ad e;have h2:=K0.lt;omega) (qap k2 0 [.int .i64 c.width,.int .i64 c.quantum,.int .u32 (c.store:Int),.slice A1 n1 k1] zjq);clear hW2 hg2 ne2 k2 r2 b2 CN RK K1 R1;go_wp2_with (refine qaq rfl 25 (.tmp 2) rfl W.heap.size 0 rfl [.int .i64 c.width,.int .i64 c.quantum,.int .u32 (c.store:Int),.slice A1 n1 k1] _ B4.o Tryz.underlying25 rfl zk ?_)
 refine AZ.o.mono ?_;rintro e w3 ⟨g,L,css,col,rfl,m3,z3,b3⟩;have K3c:=zh1 (K2.below b3 K2.lt);have B5:=zh1 (qap K3c.o 0 [.int .i64 c.width,.int .i64 c.quantum,.int .u32 (c.store:Int),.slice A1 n1 k1] zjq);have CW:=xbr c A1 n1 k1 w3 (R2.call b3);obtain⟨B6,M3,Z3,B3⟩:=zh4 CW m3 z3 b3;clear m3 z3 b3 CW;go_wp2_with (refine qaq rfl 25 (.tmp 2) rfl W.heap.size 0 rfl [.int .i64 c.width,.int .i64 c.quantum,.int .u32 (c.store:Int),.slice A1 n1 k1] _ B5.o Tryz.underlying25 rfl zk ?_)
 refine B6.o.mono ?_;rintro e w4 ⟨gw,tb,rfl,wa4,lg,lt,b4⟩;have s4:=xdu HT.o HE.o B2.o R2.o M3.o Z3.o B3.o wa4 lg lt b4;obtain⟨B,hB⟩:=xeq w4.heap.size;obtain⟨S4,b24⟩:=zh2 s4 (B3.trans (b4.mono B3.size));obtain⟨K4,BE,LG,LT⟩:=zh4 (K2.below b24.o K2.lt) (show col W.heap.size=0 from Z3.o _ K2.lt) (show W.heap.size<gw by have:=K2.lt;have:=B3.size;omega) (show W.heap.size<tb by have:=K2.lt;have:=B3.size;omega);rw[hB]at S4;clear s4 wa4 lg lt b4 hB;have hnll:=AG.o;go_upto_block 0 with fail
 go_cut [8] (fun s8 wx=>∃(colr:Col) (s:Sta),Hid (Sit W B wx colr g gw tb c s))
 case first=>
  go_wp2_with fail
  go_loopw [8] (fun i wr=>∃(j:Nat) (colr:Col),j≤nl∧j≤30∧i=.int .i64 j∧Hid (Sit W B wr colr g gw tb c (xdv c (newS c) (l.take j)))) (fun i _=>30 - (intOf i).toNat)
  case atStart=>exact⟨0,col,by omega,by omega,rfl,S4⟩
  case round=>
   obtain⟨j,colr,hj,hj30,rfl,hs⟩:=hrel;by_cases h1:j<nl
   ·
    have q1:(j:Int)<nl:=zo;by_cases h2:j<30
    ·
     have q2:(j:Int)<30:=zo;obtain⟨S,hS⟩:∃S,l[j]? =some S:=⟨_,tA7 (by rw[AG.o];exact h1)⟩;have hst:=xdw (c:=c) (s:=newS c) hS;obtain⟨s,hs0⟩:=xeq (xdv c (newS c) (l.take j));rw[hs0]at hs hst;obtain⟨AI,B7,A4⟩:=zh3 hS hst (xdx hs.o);clear hS hst hs0;go_wp2_with fail
     refine A4.o.mono ?_;rintro e v1 ⟨cc1,L1,css1,rfl,cp1,b1,s1⟩;have CE:=xex s L1 cc1 2 css1 v1 s1.ok cp1.st;obtain⟨SV,hSV⟩:=xeq (stav s L1);rw[hSV]at CE ⊢;obtain⟨A6,S1⟩:=zh2 CE s1;clear CE cp1 b1 s1 hSV A4;go_wp2_with fail
     refine A6.o.mono ?_;rintro e v2 ⟨ev,rfl,o2,b2⟩;obtain⟨A2,n2,c2,rfl,-,-,rd2⟩:=OwnB.sl o2;have low2:∀ad,A2=some ad→colr ad.block=0:=fun ad e=>S1.new0 (by
      subst e;rcases o2.2 with⟨e,_⟩|⟨g',cap,cur,e,hg',_⟩
      · injection e with e;cases e
      injection e with e;injection e with e;subst e;exact hg')
     have s2:=S1.call b2;have hlr:=HL.stay s2.below.size (fun b hb=>s2.below.block b hb);obtain⟨gb,go,cs,hA,h53,hstp,hrg⟩:=hlr.at_ AI.o;subst hA;have CS:=xdp s2 AF.o S cs hstp (AB.o S (tB2 AI.o));have hgd:S.r.Good∧(∀x∈S.cavs,x.2<4294967296)∧(∀x∈S.cavs,(Lit.int .i64 x.1).wf=true)∧∀b∈S.raw,b<256:=by
      obtain⟨Ac,cc,Al,cl,Ak,ck,Ar,cr,-,hg,h1,h2,⟨k1,k2,k3,k4,k5⟩,⟨hr1,hr2,hr3,hr4⟩,h5,h6,h7⟩:=hstp;exact⟨hg,k4,k5,hr4⟩
     have hrf:=fun h=>xej (c:=c) (s:=s) (S:=S) s2.ok hgd.1 hgd.2.1 hgd.2.2.1 hgd.2.2.2 h
     obtain⟨⟨s',ab⟩,hx⟩:∃x,xck c s S=x:=⟨_,rfl⟩;rw[hx]at CS hrf;dsimp only at CS hrf;obtain⟨A4,HX,AJ,AC,A0,AK,HI⟩:=zh7 CS hx hrf rd2 low2 hrg (zI 44 h53);clear CS hrf hx rd2 low2 hlr hstp hrg h53 hgd o2 b2 s2 A6 S1 hs;go_wp2_with (refine zld AK.o zu44 HI.o ?_)
     refine A4.o.mono ?_;rintro e w5 ⟨v5,col5,rfl,o5,l5,s5,r5⟩;have rd5:=r5.reads AC.o (fun _=>A0.o);obtain⟨A5,n5,c5,rfl,-,-,rb5⟩:=OwnB.sl o5;have l5':∀ad,A2=some ad→0<n2→col5 ad.block=0:=fun ad e h0=>by
      obtain⟨ad',e',hlt,-⟩:=AC.o.2 h0;rw[e]at e';injection e' with e';subst e';exact(r5.block _ hlt (A0.o ad e)).2
     have hn5:=qb5 rb5;obtain⟨S5,AL,AM⟩:=zh3 s5 rd5 rb5;clear s5 rd5 rb5 r5 o5 l5 l5' A4 AK AC A0 HI;have hstt:=B7.o;rw[HX.o]at hstt;have A3:=zh1 hstt;clear hstt;by_cases hn0:n5=0
     · have q5:(n5:Int)=0:=zo
       clear hn5;go_wp2
       go_roundw
       case rel=>exact⟨j+1,col5,by omega,by omega,by go_num,by rw[A3.o];exact S5⟩
       case measure=>simp[intOf];omega
     have q5:¬(n5:Int)=0:=zo;obtain⟨a,aok,han,href⟩:=AJ.o (by rintro rfl;exact hn0 (by simpa using hn5.symm));obtain⟨hlt,hln⟩:=xei aok han;have CR:=xf7 ab A5 n5 c5 w5 AM.o zo hlt S5.err;rw[xeb a ab aok han]at CR;obtain⟨A8,AN,A7⟩:=zh3 CR aok href;clear CR han hlt hln aok href hn5 AJ;go_wp2_with fail
     refine A8.o.mono ?_;rintro e w6 ⟨bv,hv,cav,r,rfl,ob,od,oc,re,b6⟩;obtain rfl:r=.nilIface:=re;obtain⟨Ab,nb,cb,rfl,-,-,rb⟩:=OwnB.sl ob;obtain⟨Ah,nh,ch,rfl,hnh,-,-,rh⟩:=OwnD.sl od;obtain⟨Ac,nc,cc,rfl,hnc,-,-,rc⟩:=OwnC.sl oc;have x0:(rspv a (.slice Ab nb cb) (.slice Ah nh ch) (.slice Ac nc cc))[0]? =some (.int .i64 a.why):=rfl;have pk:RspK (rspv a (.slice Ab nb cb) (.slice Ah nh ch) (.slice Ac nc cc)):=⟨qqj a _ _ _ (qo2 AN.hd) AN.tok.2.2.1,qqk a _ _ _ rfl rfl rfl⟩;obtain⟨X,hX⟩:=xeq (rspv a (.slice Ab nb cb) (.slice Ah nh ch) (.slice Ac nc cc));rw[hX]at x0 pk ⊢;have s6:=S5.call b6;obtain⟨PB,N6,AO,X0,PK,AP,RB,RH⟩:=zh8 (xay s6 X) (Blk.new w6 57 Tryz.zeroCells57) (AL.call b6) x0 pk hX rb rh;obtain⟨RC,AQ⟩:=zh2 rc (And.intro hnh hnc);clear ob od oc rb rh rc hnh hnc x0 pk hX s6 b6 A8 AL AM S5;go_upto_region 13 with(refine qrb _ _ _ X N6.o PK.o ?_)
     obtain⟨W7,G,hW7,hG,S7,AD,D7⟩:=PB.o;rw[hW7,hG];obtain⟨BA,AR,AS,AT⟩:=zh4 (AO.call D7.o) (RB.call D7.o) (RH.call D7.o) (RC.call D7.o);have e0:=(AD.blk.cell 0).trans (show X.toArray[0]? =some (.int .i64 a.why) by rw[tA3];exact X0.o);have E0:=zh1 e0;clear hW7 hG PB N6 AO RB RH RC D7 X0 e0;go_upto_region 15 with(fail)
     by_cases hw:a.why=0
     ·
      have E0':=zh1 (show W7.cell? ⟨G,0,none⟩=some (.int .i64 0) by rw[←hw];exact E0.o);clear hw E0;obtain⟨S,HS9⟩:=zS fun w'=>Zb W7 w'
      refine zrs S 20 (zq 0 5 ((8,false)::(9,false)::(5,true)::(6,true)::(7,true)::zq 10 6 ((16,true)::zq 17 3 []))) ((HS9.o _).mpr ((tA5 _ _).drew)) ?_;obtain⟨F0,BD⟩:=zh2 (zF HS9 E0'.o) (show Zb W7 W7.drew from(tA5 _ _).drew);iterate 7 (first|refine zsk ?_|refine zr1 ?_)
      refine qrt rfl rfl ⟨(HS9.o _).mpr BD.o,?_⟩;refine zP ?_;refine qrt rfl rfl ⟨(HS9.o _).mpr BD.o,?_⟩;refine zP ?_;refine qrt rfl rfl ⟨(HS9.o _).mpr BD.o,?_⟩;refine zP ?_;iterate 6 (refine zsk ?_)
      refine qrt rfl rfl ⟨(HS9.o _).mpr BD.o,?_⟩;refine zP ?_;iterate 2 (refine zsk ?_)
      iterate 1 (refine qbh rfl rfl ⟨?_,fun w1 hS=>?_,?_⟩;rotate_left;(focus(go_simp;try rfl));simp only[Act.put,tA0,tA1,tA2])
      refine qbg ?_;have S8:=zh1 (S7.call BD.o);clear HS9 F0 BD;go_wp2
      go_roundw
      case rel=>exact⟨j+1,col5,by omega,by omega,by go_num,by rw[A3.o];exact S8⟩
      case measure=>simp[intOf];omega
     obtain⟨hss,y,hy⟩:=A7.o hw;have hyw:a.why=(y:Int):=by rw[hy];rfl
     obtain⟨WY,hWY⟩:=xeq a.why;have E0':=zh1 (show W7.cell? ⟨G,0,none⟩=some (.int .i64 WY) by rw[←hWY];exact E0.o);have qw:¬WY=0:=by rw[←hWY];exact hw
     have bT:Tryz.prog.built 57 [(0,.int .i64 WY)]=some (qr1 (rWhy y)).toArray:=by rw[←hWY,hyw];exact qr0 _
     have lX9:(qr1 (rWhy y)).length=106:=qr2 _ Hd.zero_Ok (by simp[rWhy,qj2,qgu]);subst hss;have hx7:=AP.o;have nhc:=AQ.o;have rb:=AR.o;have rh:=AS.o;have rc:=AT.o;rw[hy]at hx7 nhc rb rh rc;obtain rfl:nb=0:=(qb5 rb).symm;obtain⟨rfl,rfl⟩:nh=0∧nc=0:=nhc;have AA:=fun(w:World)(hb:Zb W7 w)=>xfd (rWhy y) Ab none 0 cb 0 Ah none 0 ch 0 Ac none 0 cc 0 w (xal y) (rb.call hb) Reads.none_ zdc (rh.call hb) Reads.none_ zdc (rc.call hb) Reads.none_ zdc
     rw[hx7]at AA;obtain⟨X9,hX9⟩:=xeq (qr1 (rWhy y));rw[show rspv (rWhy y) (.slice none 0 0) (.slice none 0 0) (.slice none 0 0)=X9 from hX9]at AA;rw[hX9]at bT lX9;obtain⟨AE,BT,BG⟩:=zh3 AA bT lX9;clear hw hy hyw hWY E0 bT lX9 hx7 rb rh rc AA hX9 AR AS AT AP AQ A7;obtain⟨ES,hES⟩:=xeq (bstr (encS s'));have AU:=zh1 hES;clear hES;obtain⟨S,HS9⟩:=zS fun w'=>Zb W7 w'
     refine zrs S 20 (zq 0 5 ((8,false)::(9,false)::(5,true)::(6,true)::(7,true)::zq 10 6 ((16,true)::zq 17 3 []))) ((HS9.o _).mpr ((tA5 _ _).drew)) ?_;obtain⟨F0,F1,FX,IX⟩:=zh4 (zF HS9 E0'.o) (fun(w':World)(h:S w')=>(qea (c:=c2) (BA.call ((HS9.o w').mp h))).trans (by rw[AU.o])) (fun(w':World)(h:S w')=>qap (AD.blk.below ((HS9.o w').mp h) AD.blk.lt) 0 X zjq) PK.info;iterate 2 (refine zr1 ?_)
     refine qbh rfl rfl ⟨.bool true,fun w1 hS=>by go_simp,?_⟩;refine zP ?_;iterate 4 (refine zr2 ?_)
     obtain⟨Wd,hWd,BD⟩:=zdr W7;rw[←hWd];clear hWd;have AV:=zh1 (xdx (S7.call BD.o));refine zw ?_;go_simp;refine AV.o.mono ?_;rintro e w8 ⟨cc8,L8,css8,rfl,cp8,b8,s8⟩;have CE:=xex s' L8 cc8 2 css8 w8 s8.ok cp8.st;obtain⟨BH,hSV8⟩:=xeq (stav s' L8);rw[hSV8]at CE ⊢;obtain⟨A6,B8⟩:=zh2 CE (BD.trans (b8.mono BD.size));clear CE cp8 b8 s8 hSV8 AV;refine⟨(HS9.o _).mpr B8.o,zput ?_⟩;refine zw ?_;go_simp;refine A6.o.mono ?_;rintro e w9 ⟨ev,rfl,o9,b9⟩;obtain⟨A9,n9,c9,rfl,-,-,rd9⟩:=OwnB.sl o9;have B9:=zh1 (B8.trans (b9.mono B8.size));have q7:=qea (c:=c9) rd9;rw[AU.o]at q7;clear o9 b9 rd9 A6;refine⟨(HS9.o _).mpr B9.o,zput ?_⟩;refine zw ?_;go_simp;clear q7;refine⟨(HS9.o _).mpr B9.o,zput ?_⟩;refine qbh rfl rfl ⟨.bool false,fun w1 hS=>by go_simp,?_⟩;refine zP ?_;iterate 1 (refine qbh rfl rfl ⟨?_,fun w1 hS=>?_,?_⟩;rotate_left;(focus(go_simp;try rfl));simp only[Act.put,tA0,tA1,tA2])
     refine qos rfl rfl 57 (.tmp 11) rfl G 0 rfl X _ FX.o Tryz.underlying57 rfl IX.o ?_;refine zP ?_;iterate 2 (refine zr1 ?_)
     refine qbh rfl rfl ⟨.agg X9.toArray,fun w1 hS=>qgr 57 _ rfl _ _ BT.o (by simp[Act.eval]),?_⟩;refine zP ?_;have A8:=zh1 (AE.o w9 B9.o);refine zw ?_;go_simp;refine zcb A8.o fun w10 b10=>?_
     have AW:=zh1 (B9.trans (b10.mono B9.size));clear b10;refine⟨(HS9.o _).mpr AW.o,zput ?_⟩;iterate 3 (refine qbh rfl rfl ⟨?_,fun w1 hS=>?_,?_⟩;rotate_left;(focus(go_simp;try rfl));simp only[Act.put,tA0,tA1,tA2])
     refine qbg ?_;have BB:=zh1 (S7.call AW.o);clear HS9 F0 F1 FX;go_wp2
     go_roundw
     case rel=>exact⟨j+1,col5,by omega,by omega,by go_num,by rw[A3.o];exact BB⟩
     case measure=>simp[intOf];omega
    have q2:¬(j:Int)<30:=zo;go_wp2
    go_meet
    case rel=>exact⟨colr,_,hs⟩
   have q1:¬(j:Int)<nl:=zo;go_wp2
   go_meet
   case rel=>exact⟨colr,_,hs⟩
 case rest=>
  obtain⟨colr,s,hs⟩:=hcut;have BC:=zh1 (xcd wc hs.tabs hs.err);go_wp2_with fail
  refine zcb BC.o fun wf bf=>?_
  have BF:=zh1 (hs.below.trans (bf.mono hs.below.size));clear bf;go_wp2
  go_ret
  exact⟨rfl,BF.o⟩
end Go.Proofs.YthomgopipiomhaaGreatDoor

/- Lemmas. -/
import Derived.Test.YthomgopipiomhaaGreatDoorBMF05
import Derived.Test.YthomgopipiomhaaGreatDoorBMF09
import Derived.Lib.SmallJoins
namespace Go.Proofs.YthomgopipiomhaaGreatDoor
open Go.RowKit
set_option linter.unusedVariables false
set_option linter.unusedSimpArgs false
set_option maxRecDepth 100000
set_option maxHeartbeats 32000000
variable {xs cs vs2 vs X vsj:List Value}{g size n k base G j kk gw tb b B sz by_ tg rg gg dg id:Nat}{e:TypeId}{col col':Col}{w w' W w0 w2 w1:World}{A:Option Addr}{v v' vd vl vq va vr vg u:Value}{P:Program}{Q:Exit→Act→World→Prop}{K:Act→World→Prop}{a:Act}{o:Oper}{t:Tre}{css:List (List Value)}{L:Loc}{s s':Sta}{c:Cfg}{R:Req}{bs:List Nat}
theorem qwh{c:Nat}(h:TopAt w col k e g c size n xs)(hb:base≤g):w.ownsRow base e size (.slice (some ⟨g,0,none⟩) n c) n xs:=by
 obtain⟨_,sp,hk,h1,h2,h3,h4⟩:=h;refine⟨h1,.inr ⟨g,c,(xs++sp).toArray,rfl,hb,hk,h2,h3,?_,?_⟩⟩
 · rw[tB6,tA6]
   exact h4
 rw[←h1];simp
theorem qwi:∀{l:List LaneI} {k:Nat} {x:LaneI} (y:LaneI),l[k]? =some x→y.1=x.1→qw3 (l.set k y)=((qw3 l).set (k*3+1) (.int .i64 y.2.1)).set (k*3+2) (.int .i64 y.2.2)
 |[],k,x,y,h,_=>by simp at h
 |a::l,0,x,y,h,e=>by
  simp only[List.getElem?_cons_zero,Option.some.injEq]at h;subst h;show qw2 y++qw3 l=((qw2 a++qw3 l).set 1 _).set 2 _;unfold qw2;rw[e];rfl
 |a::l,k+1,x,y,h,e=>by
  rw[tBc]at h;show qw2 a++qw3 (l.set k y)=((qw2 a++qw3 l).set ((k+1)*3+1) _).set ((k+1)*3+2) _;rw[qwi y h e,show (k+1)*3+1=k*3+1+1+1+1 by omega,show (k+1)*3+2=k*3+2+1+1+1 by omega];rfl
theorem TopAt.row{c:Nat}(h:TopAt w col k e g c size n xs)(hne:g≠G)(X:Array Value):TopAt (w.setRow G X) col k e g c size n xs:=by
 obtain⟨hc,sp,hb,h1⟩:=h;exact⟨hc,sp,((qam w G X).block g hb.lt (by intro e;injection e with e;exact hne e)).trans hb,h1⟩
theorem qwj(l:List LaneI)(a q:Nat)(A:Option Addr)(c:Nat)(w:World)(hr:Reads w w.heap.size 3 A l.length (qw3 l))(hl:LanesOk l)(hn:l.length≤1000)(ha:a<l.length)(hq:1≤q∧q≤2)(hc:l.length≤c):
 Zc 63 #[.slice A l.length c,.int .i64 (a:Int),.int .i64 (q:Int)] w fun e w'=>∃v,e=.returned (.tuple #[.agg #[.int .i64 (qw9 l a q).1.1,.int .i64 (qw9 l a q).1.2.1,.int .i64 (qw9 l a q).1.2.2],v])∧w'.ownsRow w.heap.size 136 3 v l.length (qw3 (qw9 l a q).2)∧Zb w w':=by
 obtain⟨S1,hS1⟩:=xeq (qw9 l a q);rw[hS1];obtain⟨⟨r0,r1,r2⟩,lo⟩:=S1;dsimp only;obtain⟨n,hln⟩:=xeq l.length;rw[hln]at hr hn ha hc ⊢;obtain⟨b0,o0,eA,-,hc0⟩:=hr.mid zo zdc;subst eA;obtain⟨W0,hW0⟩:=eqx (w.alloc (.cells #[.int .i64 0,.int .i64 0,.int .i64 0] 138));have z0:=zNa hW0;obtain⟨B0,A3,A0,HL,Z0⟩:=zh5 (show Zb w W0 by rw[hW0];exact qah (tA5 _ _) _) hS1 hln hl z0;obtain⟨CL,A5⟩:=zh2 (qrn (some ⟨b0,o0,none⟩) n c (qw3 l) W0 (hr.call B0.o) zo (qw6 l)) (show ∀w',Zb w w'→∀j u,(qw3 l)[j]? =some u→w'.cell? ⟨b0,o0+j,none⟩=some u from fun w' hb j u hu=>qai (hc0 j u hu) hb);clear hS1 hln hl z0 hr hc0;have qa:(a:Int)<n:=zo;have qa0:¬(a:Int)<0:=zo;have qan:¬(n:Int)≤a:=zo;have A6:=zh1 (show ∀(j:Nat) (x:LaneI),l[j]? =some x→(0≤x.1∧x.1≤4)∧(0≤x.2.1∧x.2.1≤1048576)∧(0≤x.2.2∧x.2.2≤1048576) from fun j x h=>HL.o x (tB2 h));go_enter Tryz.func63,Tryz.ntmps63
 go_upto_region 1 with(fail)
 rw[←hW0];clear hW0;go_step3
 go_wp2_with ((with_reducible refine CL.o.mono ?_);rintro e w1 ⟨v1,rfl,o1,b1⟩;obtain⟨g1,c1,hv1,t1,t2,⟨tcs,t3⟩,t4⟩:=quq o1 zo;subst hv1)
 obtain⟨B1,Z1,T1,GS⟩:=zh4 (B0.trans (b1.mono B0.size)) (Z0.below b1 Z0.lt) (t4 (fun b=>if b=g1 then 1 else 0) 1 zm) (tB1 (show w.heap.size+1≤W0.heap.size from Nat.succ_le_of_lt Z0.lt) t1);clear o1 b1 t2 t3 t4 t1 CL;go_step3
 go_wp2_with fail
 go_loopw [9,27] (fun v i wr=>∃j:Nat,j≤n∧i=.int .i64 j∧v=.int .i64 (-1)∧Hid (∀m,m<j→(l.map (·.1)).getD ((a+m) % n) 0<1)∧wr=w1) (fun v i _=>n - (intOf i).toNat)
 case atStart=>exact⟨0,by omega,rfl,rfl,zh1 fun m hm=>absurd hm zo,rfl⟩
 case round=>
  obtain⟨j,hj,rfl,rfl,hb,rfl⟩:=hrel;by_cases hjn:j<n
  ·
   have qj:(j:Int)<n:=zo;obtain⟨k,hk⟩:=xeq ((a+j) % n);have hkn:k<n:=by rw[←hk];exact Nat.mod_lt _ zo
   have qm:((a:Int)+j).tmod n=(k:Int):=by
    rw[←hk,Int.tmod_eq_emod_of_nonneg zo];simp
   have qk:(k:Int)<n:=zo;obtain⟨⟨wt,qu,de⟩,hx⟩:∃x,l[k]? =some x:=⟨_,tA7 (by rw[A0.o];exact hkn)⟩;have c0:wr.cell? ⟨b0,o0+k*3,none⟩=some (.int .i64 wt):=by
    have:=A5.o wr B1.o (k*3+0) (.int .i64 wt) ((qw5 hx zo).trans rfl);rwa[Nat.add_zero]at this
   obtain⟨HX,HK⟩:=zh2 hx hk;clear hx hk;by_cases hw1:wt<1
   ·
    go_wp2
    go_roundw
    case rel=>exact⟨j+1,by omega,by go_num,rfl,zh1 fun m hm=>(by
     rcases Nat.lt_or_ge m j with h|h
     · exact hb.o m h
     obtain rfl:m=j:=zo;rw[HK.o,tB4,tBj,HX.o];exact hw1),trivial⟩
    case measure=>simp[intOf];omega
   have hlo:qn5 (l.map (·.1)) a=some k:=by
    have:=qw7 (ws:=l.map (·.1)) (a:=a) (k:=j) (by rw[tBl,A0.o];exact hjn) (by rw[tBl,A0.o];exact hb.o) (by
     rw[tBl,A0.o,HK.o,tB4,tBj,HX.o];show 1≤wt;omega)
    rwa[tBl,A0.o,HK.o]at this
   have hsv:=qwb (q:=(q:Int)) hlo HX.o;rw[A3.o]at hsv;dsimp only at hsv;obtain⟨⟨w0,w4⟩,⟨q0,q1⟩,⟨d0,d1⟩⟩:=A6.o k (wt,qu,de) HX.o;dsimp only at w0 w4 q0 q1 d0 d1;have A7:=zh1 hsv;clear hlo hsv;have qk0:¬(k:Int)<0:=zo;have e0:wr.cell? ⟨g1,k*3,none⟩=some (.int .i64 wt):=by
    have:=T1.cell (i:=k*3+0) ((qw5 HX.o zo).trans rfl);rwa[Nat.add_zero]at this
   have e1:wr.cell? ⟨g1,k*3+1,none⟩=some (.int .i64 qu):=T1.cell ((qw5 HX.o zo).trans rfl);have e2:wr.cell? ⟨g1,k*3+2,none⟩=some (.int .i64 de):=T1.cell ((qw5 HX.o zo).trans rfl);go_upto_region 16 with(fail)
   obtain⟨D,hD⟩:∃D:Int,min wt 4*min (max (q:Int) 1) 2=D:=⟨_,rfl⟩;have hD8:0≤D∧D≤8:=by
    rw[←hD];rcases(by omega:q=1∨q=2) with h|h
    · subst h
      rw[show min (max ((1:Nat):Int) 1) 2=1 by decide];omega
    subst h;rw[show min (max ((2:Nat):Int) 1) 2=2 by decide];omega
   obtain⟨D0,D8⟩:=hD8;obtain⟨tk,htk⟩:∃tk:Int,max (min (de+D) qu) 0=tk:=⟨_,rfl⟩;have htk3:0≤tk∧tk≤qu∧tk≤de+D:=zo;obtain⟨tk0,tk1,tk2⟩:=htk3;rw[hD,show wrap64 D=D from IntWalk.wrap64_in _ zo];have hs2:=A7.o;rw[hD,htk,A0.o]at hs2;injection hs2 with h1 h2;injection h1 with h3 h4;injection h4 with h4 h5;obtain⟨A4,A8⟩:=zh2 h2 htk;have h4:=h4.symm;subst h3 h4 h5;have q16:¬(9223372036854775807 - D<de):=zo;have f2:=T1.frozen (k*3+2);have hl3:(qw3 l).length=n*3:=by rw[qw4,A0.o]
   have A1:=zh1 hl3;clear hD h2 htk hl3;go_upto_region 19 with(fail)
   obtain⟨W2,hW2⟩:=eqx (wr.setCell ⟨g1,k*3+2,none⟩ (.int .i64 (de+D)));rw[←hW2];obtain⟨B2,Z2,T2⟩:=zh3 (show Zb w W2 by rw[hW2];exact B1.setCell (by have:=GS.o;show w.heap.size≤g1;omega) _) (show Blk W2 w.heap.size 138 #[.int .i64 0,.int .i64 0,.int .i64 0] by rw[hW2];exact Z1.far (by have:=GS.o;show w.heap.size≠g1;omega) _) (show TopAt W2 _ _ _ _ _ _ _ _ by rw[hW2];exact T1.set1 (o:=k*3+2) (.int .i64 (de+D)) (by rw[A1.o];omega));clear hW2 f2 e0 e1 e2;have e1:W2.cell? ⟨g1,k*3+1,none⟩=some (.int .i64 qu):=T2.cell (by rw[List.getElem?_set_ne zo];exact(qw5 HX.o zo).trans rfl);have e2:W2.cell? ⟨g1,k*3+2,none⟩=some (.int .i64 (de+D)):=T2.cell (by rw[List.getElem?_set_self (by rw[A1.o];omega)]);obtain⟨S,HS9⟩:=zS fun w'=>w'.cell? ⟨g1,k*3+2,none⟩=some (.int .i64 (de+D))∧w'.cell? ⟨g1,k*3+1,none⟩=some (.int .i64 qu)
   refine zrs S 11 (zq 0 11 []) ((HS9.o _).mpr (⟨e2,e1⟩)) ?_;have F0:=zh1 (fun(w':World)(h:S w')=>(HS9.o w').mp h);repeat(refine zre rfl rfl (fun w1 hS=>by have g0:=(F0.o w1 hS).1;have g3:=(F0.o w1 hS).2;clear hS;go_simp;try rfl) ?_)
   refine qbf ?_;rw[A8.o];clear F0 HS9;obtain⟨W3,hW3⟩:=eqx W2.drew;rw[←hW3];have bd:Zb W2 W3:=by rw[hW3];exact(tA5 _ _).drew
   obtain⟨B3,Z3,T3⟩:=zh3 (B2.trans (bd.mono B2.size)) (Z2.below bd Z2.lt) (T2.keep ((Turns.of_below (fun _=>false) bd).keeps rfl));clear hW3 bd e1 e2;have e1:W3.cell? ⟨g1,k*3+1,none⟩=some (.int .i64 qu):=T3.cell (by rw[List.getElem?_set_ne zo];exact(qw5 HX.o zo).trans rfl);have e2:W3.cell? ⟨g1,k*3+2,none⟩=some (.int .i64 (de+D)):=T3.cell (by rw[List.getElem?_set_self (by rw[A1.o];omega)]);have f2:=T3.frozen (k*3+2);go_upto_region 21 with(fail)
   obtain⟨W4,hW4⟩:=eqx (W3.setCell ⟨g1,k*3+2,none⟩ (.int .i64 (de+D - tk)));rw[←hW4];obtain⟨B4,Z4,T4⟩:=zh3 (show Zb w W4 by rw[hW4];exact B3.setCell (by have:=GS.o;show w.heap.size≤g1;omega) _) (show Blk W4 w.heap.size 138 #[.int .i64 0,.int .i64 0,.int .i64 0] by rw[hW4];exact Z3.far (by have:=GS.o;show w.heap.size≠g1;omega) _) (show TopAt W4 (fun b=>if b=g1 then 1 else 0) 1 136 g1 c1 3 n ((qw3 l).set (k*3+2) (.int .i64 (de+D - tk))) by rw[hW4,←List.set_set (a:=Value.int .i64 (de+D))];exact T3.set1 (o:=k*3+2) (.int .i64 (de+D - tk)) (by rw[List.length_set,A1.o];omega));clear hW4 f2 e1 e2;have e1:W4.cell? ⟨g1,k*3+1,none⟩=some (.int .i64 qu):=T4.cell (by rw[List.getElem?_set_ne zo];exact(qw5 HX.o zo).trans rfl);have f1:=T4.frozen (k*3+1);go_upto_region 22 with(fail)
   obtain⟨W5,hW5⟩:=eqx (W4.setCell ⟨g1,k*3+1,none⟩ (.int .i64 (qu - tk)));rw[←hW5];obtain⟨B5,Z5,T5⟩:=zh3 (show Zb w W5 by rw[hW5];exact B4.setCell (by have:=GS.o;show w.heap.size≤g1;omega) _) (show Blk W5 w.heap.size 138 #[.int .i64 0,.int .i64 0,.int .i64 0] by rw[hW5];exact Z4.far (by have:=GS.o;show w.heap.size≠g1;omega) _) (show TopAt W5 (fun b=>if b=g1 then 1 else 0) 1 136 g1 c1 3 n (((qw3 l).set (k*3+1) (.int .i64 (qu - tk))).set (k*3+2) (.int .i64 (de+D - tk))) by rw[hW5,List.set_comm _ _ zo];exact T4.set1 (o:=k*3+1) (.int .i64 (qu - tk)) (by rw[List.length_set,A1.o];omega));clear hW5 f1 e1;have e1:W5.cell? ⟨g1,k*3+1,none⟩=some (.int .i64 (qu - tk)):=T5.cell (by rw[List.getElem?_set_ne zo,List.getElem?_set_self (by rw[A1.o];omega)]);have f2:=T5.frozen (k*3+2);have e2:W5.cell? ⟨g1,k*3+2,none⟩=some (.int .i64 (de+D - tk)):=T5.cell (by rw[List.getElem?_set_self (by rw[List.length_set,A1.o];omega)]);have qm2:((k:Int)+1).tmod n=(((k+1) % n:Nat):Int):=by
    rw[Int.tmod_eq_emod_of_nonneg zo];simp
   by_cases hz:qu - tk=0
   ·
    have hlo:qw3 lo=((qw3 l).set (k*3+1) (.int .i64 (qu - tk))).set (k*3+2) (.int .i64 0):=by
     rw[A4.o,qwi (wt,qu - tk,if qu - tk=0 then 0 else de+D - tk) HX.o rfl];dsimp only;rw[if_pos hz]
    have A9:=zh1 hlo;clear hlo;rw[hz]at e1;go_upto_region 24 with(fail)
    obtain⟨W6,hW6⟩:=eqx (W5.setCell ⟨g1,k*3+2,none⟩ (.int .i64 0));rw[←hW6];obtain⟨B6,Z6,T6⟩:=zh3 (show Zb w W6 by rw[hW6];exact B5.setCell (by have:=GS.o;show w.heap.size≤g1;omega) _) (show Blk W6 w.heap.size 138 #[.int .i64 0,.int .i64 0,.int .i64 0] by rw[hW6];exact Z5.far (by have:=GS.o;show w.heap.size≠g1;omega) _) (show TopAt W6 (fun b=>if b=g1 then 1 else 0) 1 136 g1 c1 3 n (qw3 lo) by rw[hW6,A9.o,←List.set_set (a:=Value.int .i64 (de+D - tk))];exact T5.set1 (o:=k*3+2) (.int .i64 0) (by rw[List.length_set,List.length_set,A1.o];omega));clear hW6 f2 e1 e2 hz;go_wp2_with (refine wpList_store_row rfl 138 (.tmp 6) (.tmp 120) rfl w.heap.size #[.int .i64 (k:Int),.int .i64 tk,.int .i64 (((k+1) % n:Nat):Int)] rfl rfl 138 _ Z6.o zk zm (by simp[Value.oneCell']) ?_)
    try rw[Exit.noGoto_ret]
    have A2:=qap (Z6.setRow #[.int .i64 (k:Int),.int .i64 tk,.int .i64 (((k+1) % n:Nat):Int)]) 0 [.int .i64 (k:Int),.int .i64 tk,.int .i64 (((k+1) % n:Nat):Int)] zjq;refine bodyPost_ret (qgu rfl rfl (run_loadVar_mid _ _ 0 _ [.int .i64 (k:Int),.int .i64 tk,.int .i64 (((k+1) % n:Nat):Int)] _ A2 Tryz.underlying138 rfl zk)) rfl ⟨_,rfl,qwh (T6.row (by have:=GS.o;omega) _) (by have:=GS.o;omega),below_setRow B6.o (tA4 _) _⟩
   have hlo:qw3 lo=((qw3 l).set (k*3+1) (.int .i64 (qu - tk))).set (k*3+2) (.int .i64 (de+D - tk)):=by
    rw[A4.o,qwi (wt,qu - tk,if qu - tk=0 then 0 else de+D - tk) HX.o rfl];dsimp only;rw[if_neg hz]
   rw[←hlo]at T5;clear hlo f2 e2;go_wp2_with (refine wpList_store_row rfl 138 (.tmp 6) (.tmp 120) rfl w.heap.size #[.int .i64 (k:Int),.int .i64 tk,.int .i64 (((k+1) % n:Nat):Int)] rfl rfl 138 _ Z5.o zk zm (by simp[Value.oneCell']) ?_)
   try rw[Exit.noGoto_ret]
   have A2:=qap (Z5.setRow #[.int .i64 (k:Int),.int .i64 tk,.int .i64 (((k+1) % n:Nat):Int)]) 0 [.int .i64 (k:Int),.int .i64 tk,.int .i64 (((k+1) % n:Nat):Int)] zjq;refine bodyPost_ret (qgu rfl rfl (run_loadVar_mid _ _ 0 _ [.int .i64 (k:Int),.int .i64 tk,.int .i64 (((k+1) % n:Nat):Int)] _ A2 Tryz.underlying138 rfl zk)) rfl ⟨_,rfl,qwh (T5.row (by have:=GS.o;omega) _) (by have:=GS.o;omega),below_setRow B5.o (tA4 _) _⟩
  have hlo:qn5 (l.map (·.1)) a=none:=qw8 (by
   rw[tBl,A0.o];intro m hm;exact hb.o m zo)
  have hsv:=qwa (q:=(q:Int)) hlo;rw[A3.o]at hsv;injection hsv with h1 h2;injection h1 with h3 h4;injection h4 with h4 h5;subst h2 h3 h4 h5;clear hlo;obtain rfl:j=n:=zo;go_wp2_with (refine wpList_store_row rfl 138 (.tmp 6) (.tmp 47) rfl w.heap.size #[.int .i64 (-1),.int .i64 0,.int .i64 (a:Int)] rfl rfl 138 _ Z1.o zk zm (by simp[Value.oneCell']) ?_)
  try rw[Exit.noGoto_ret]
  have A2:=qap (Z1.setRow #[.int .i64 (-1),.int .i64 0,.int .i64 (a:Int)]) 0 [.int .i64 (-1),.int .i64 0,.int .i64 (a:Int)] zjq;refine bodyPost_ret (qgu rfl rfl (run_loadVar_mid _ _ 0 _ [.int .i64 (-1),.int .i64 0,.int .i64 (a:Int)] _ A2 Tryz.underlying138 rfl zk)) rfl ⟨_,rfl,qwh (T1.row (by have:=GS.o;omega) _) (by have:=GS.o;omega),below_setRow B1.o (tA4 _) _⟩
theorem RowC.clip{c:Nat}(h:RowC w col k (.slice A n c) e size n xs):RowC w col k (.slice A n n) e size n xs:=by
 refine⟨h.1,?_⟩;rcases h.2 with⟨rfl,h0|⟨g,o,h0⟩⟩|⟨g,o,c',cur,hv,hk,hb,hn,hc,hl,ht⟩
 · injection h0 with h1 h2 h3
   subst h1;exact .inl ⟨rfl,.inl rfl⟩
 · injection h0 with h1 h2 h3
   subst h1;exact .inl ⟨rfl,.inr ⟨g,o,rfl⟩⟩
 injection hv with h1 h2 h3;subst h1 h3;exact .inr ⟨g,o,n,cur,rfl,hk,hb,tA4 _,by omega,by have:=Nat.mul_le_mul_right size hn;omega,ht⟩
theorem qwl(ho:w'.ownsRow base e size v n xs)(hb:w.heap.size≤base)(hs:w.heap.size≤w'.heap.size)(hf:Fin_ col w):
 ∃col1:Col,(∀b,b<base→col1 b=col b)∧RowC w' col1 k v e size n xs∧Fin_ col1 w':=by
 refine⟨fun b=>if v.ownBlock=some b then k else col b,fun b hb'=>?_,RowC.of_own ho fun g hg=>?_,fun b hb'=>?_⟩
 · show (if v.ownBlock=some b then k else col b)=col b
   rw[if_neg];intro e;have:=(World.ownsRow.lt ho b e).1;omega
 · simp[hg]
 by_cases e:v.ownBlock=some b
 · exact(World.ownsRow.lt ho b e).2
 change (if v.ownBlock=some b then k else col b)≠0 at hb';rw[if_neg e]at hb';exact tB0 (hf b hb') hs
theorem qwm(w:World)(col:Col)(k:Nat)(t tx ty e:TypeId)(i:TypeInfo)(z:Value)(size bytes:Nat)(ht:P.underlying t=some (.slice e))(hi:P.info? e=some i)(hz:i.zero=some z)
 (hsize:i.size=size)(hby:i.bytes=bytes)(hzs:z.cells.size=size)
 (A:Option Addr)(n:Nat)(xs:List Value)(hrow:RowC w col k (.slice A n n) e size n xs)(x:Value)(m:Nat)(news:List Value)(hsrc:Src P size tx x m news w)
 (h63:n+m≤maxLen)(hbytes:(n+m)*bytes≤140737488355328)(hf:Fin_ col w):
 ∃v' w' col',(Builtin.append_ #[t,tx] ty #[.slice A n n,x]).run P w=.ok v' w'∧RowC w' col' k v' e size (n+m) (xs++news)∧Turns (fun _=>false) w col w' col'∧Fin_ col' w'∧Zb w w':=by
 have hl:=hsrc.newsLen;subst hsize;subst hby;by_cases hm:m=0
 ·
  subst hm;have hn:news=[]:=tB8 (by simpa using hl);subst hn;have hr0:RowC w col k (.slice A n n) e i.size (n+0) (xs++[]):=by simpa using hrow
  rcases hrow.2 with⟨rfl,h0|⟨g,o,h0⟩⟩|⟨g,o,c',cur,hv,hk,hb,hn,hc,hol,htk⟩
  · injection h0 with h1
    subst h1;refine⟨_,w,col,?_,hr0,Turns.refl _ _ _,hf,tA5 _ _⟩;have hc:=hsrc.cells;have hlo:=hsrc.len w;rcases hsrc.kind with⟨e',hk⟩|hk<;>simp[Builtin.append_,run_underlying ht,run_underlying hk,sizeOf,typeInfo,hi,hlo,hc,storeCells]
  · injection h0 with h1
    subst h1;exact⟨_,w,col,run_append_room_src (P:=P) w t tx ty e i ht hi g o 0 0 x 0 [] hsrc zo (fun j hj=>absurd hj zm) (fun j hj=>absurd hj zm),hr0,Turns.refl _ _ _,hf,tA5 _ _⟩
  injection hv with h1 h2 h3;subst h1;exact⟨_,w,col,run_append_room_src (P:=P) w t tx ty e i ht hi g o n n x 0 [] hsrc zo (fun j hj=>absurd hj zm) (fun j hj=>absurd hj zm),hr0,Turns.refl _ _ _,hf,tA5 _ _⟩
 have hge:=grownCap_ge w (n+m) n e;have hcm:grownCap w (n+m) n e≤maxLen:=grownCap_le_maxLen w (n+m) n e h63;have hlen:(xs++news).length=(n+m)*i.size:=by rw[tA6,hrow.1,hl,Nat.add_mul]
 have old:(Builtin.firstCells i.size n (.slice A n n)).run P w.drew=.ok xs.toArray w.drew:=by
  rcases hrow.2 with⟨rfl,h0|⟨g,o,h0⟩⟩|⟨g,o,c',cur,hv,hk,hb,hn,hc,hol,htk⟩
  · injection h0 with h1
    subst h1;have hx:xs=[]:=tB8 (by simpa using hrow.1);subst hx;exact run_firstCells_none w.drew i.size 0 0 0
  · injection h0 with h1
    subst h1;have hx:xs=[]:=tB8 (by simpa using hrow.1);subst hx;exact run_firstCells_some w.drew i.size 0 ⟨g,o,none⟩ 0 0 [] zm (fun j u hu=>by simp at hu)
  injection hv with h1 h2 h3;subst h1;refine run_firstCells_some w.drew i.size n ⟨g,o,none⟩ n n xs hrow.1 (fun j u hu=>?_);rw[World.cell?_drew,Addr.add_mid,hb.cell,tA3];rw[←htk,List.getElem?_take]at hu;split at hu
  · rwa[List.getElem?_drop]at hu
  cases hu
 have hr:=run_append_grow_src (P:=P) w t tx ty e i z ht hi hz A n n xs old x m news hsrc zo (by simp only[maxLen]at h63;omega) (growslice_fits zo hbytes);obtain⟨Z,hZ⟩:∃Z:List Value,Z.toArray=Builtin.zeroCells z.cells (grownCap w (n+m) n e - (n+m)):=⟨_,Array.toArray_toList⟩;have hZl:Z.length=(grownCap w (n+m) n e - (n+m))*i.size:=by
  have:=congrArg Array.size hZ;rw[size_zeroCells,hzs,tB6]at this;exact this
 rw[←hZ,List.append_toArray]at hr;have hcl:(xs++news++Z).length=grownCap w (n+m) n e*i.size:=by
  rw[tA6,hlen,hZl,←Nat.add_mul];congr 1
  omega
 have htk:(xs++news++Z).take ((n+m)*i.size)=xs++news:=by rw[←hlen];exact List.take_left
 have hb:Zb w (w.drew.alloc (.cells (xs++news++Z).toArray e)):=⟨rfl,rfl,rfl,by simp,fun b hb=>Below.heap_alloc w.drew _ b hb⟩;have ho:(w.drew.alloc (.cells (xs++news++Z).toArray e)).ownsRow w.heap.size e i.size (.slice (some ⟨w.heap.size,0,none⟩) (n+m) (grownCap w (n+m) n e)) (n+m) (xs++news):=by
  refine⟨hlen,.inr ⟨w.heap.size,_,(xs++news++Z).toArray,rfl,tA4 _,heap_alloc_new _ _,hge,hcm,by rw[tB6];exact hcl,by simpa using htk⟩⟩
 obtain⟨col1,h1,h2,h3⟩:=qwl (w:=w) (col:=col) (k:=k) ho (tA4 _) hb.size hf;exact⟨_,_,col1,hr,h2,(Turns.of_below _ hb).recolour h1,h3,hb⟩
theorem qwn(w:World)(s x:Operand)(t tx:TypeId)
 (ho:o.op=.call {callee:=.builtin .append,args:=#[s,x],argTypes:=#[t,tx]})
 (col:Col)(k:Nat)(e:TypeId)(i:TypeInfo)(z:Value)(size bytes:Nat)(ht:P.underlying t=some (.slice e))(hi:P.info? e=some i)(hz:i.zero=some z)
 (hsize:i.size=size)(hby:i.bytes=bytes)(hzs:z.cells.size=size)
 (A:Option Addr)(n:Nat)(xs:List Value)(hs:a.eval s=.slice A n n)(hrow:RowC w col k (.slice A n n) e size n xs)(xv:Value)(m:Nat)(news:List Value)(hx:a.eval x=xv)(hsrc:Src P size tx xv m news w)
 (h63:n+m≤maxLen)(hbytes:(n+m)*bytes≤140737488355328)(hf:Fin_ col w)
 (h:∀v' w' col',RowC w' col' k v' e size (n+m) (xs++news)→Turns (fun _=>false) w col w' col'→Fin_ col' w'→Zb w w'→K (a.put o.dst v') w'):o.wp P a w K Q:=by
 obtain⟨v',w',col',hrun,h2,h3,h4,h5⟩:=qwm (P:=P) w col k t tx o.type e i z size bytes ht hi hz hsize hby hzs A n xs hrow xv m news hsrc h63 hbytes hf;unfold Oper.wp execOp;simp only[ho,resolve,invoke,builtin,Sem.run_bind,Sem.run_pure,Result.andThen_ok,List.map_toArray,List.map_cons,List.map_nil,hs,hx,hrun];exact h v' w' col' h2 h3 h4 h5
theorem Mdl.treRowW(h:Mdl w col k g c s L css)(hk:Kind k)(h16:s.tres.length=16)(hh:∀t∈s.tres,t.hd.Ok)(ht:s.tres[n]? =some t)(hcs:css[n]? =some cs)(hkk:kk=10+3*n∨kk=11+3*n∨kk=12+3*n)
 (hT:Turns (· ==kk) w col w' col')(hf:Fin_ col' w')(f:Tre→Tre)(v':Value)(hj:j<75)(hold:TreAt w' col' n cs t)(hnew:TreAt w' col' n (cs.set j v') (f t)):
 Mdl (w'.setCell ⟨L.rg,n*75+j,none⟩ v') col' k g c (s.setT n f) L (css.modify n fun x=>x.set j v')∧TrsAt (w'.setCell ⟨L.rg,n*75+j,none⟩ v') col' css s.tres∧Turns (inP k) w col (w'.setCell ⟨L.rg,n*75+j,none⟩ v') col':=by
 have hn:n<s.tres.length:=by obtain⟨h,_⟩:=tA8 ht;exact h
 have hn16:n<16:=by rw[←h16];exact hn
 have hlen:=h.st.trs.lens (fun t ht=>hh t ht);have hcl:css.length=16:=by rw[h.st.trs.1,h16]
 have hfl:css.flatten.length=1200:=by rw[qnh hlen,hcl]
 have keepA:∀i,i≠kk→KeepsCol i w col w' col':=fun i hi=>hT.keeps (by simpa using hi)
 have mA:Mdl w' col' k g c s L css:=by
  refine⟨(hT.block g h.blk.lt (by rw[h.own];simp;omega)).trans h.blk,(hT.same g h.blk.lt).trans h.own,⟨tB1 h.base.1 hT.size,fun b hb=>(hT.same b (tB0 hb h.base.1)).trans (h.base.2 b hb)⟩,hf,h.seed.keep (keepA 5 zo),?_⟩;refine⟨h.st.tens.keep (keepA k (by rcases hk with rfl|rfl<;>omega)),h.st.tres.keep (keepA (k+1) (by rcases hk with rfl|rfl<;>omega)),h.st.gras.keep (keepA (k+2) (by rcases hk with rfl|rfl<;>omega)),h.st.trs.1,fun i t' ht'=>?_⟩;by_cases e:n=i
  · subst e
    rw[ht]at ht';injection ht' with ht';subst ht';exact⟨cs,hcs,hold⟩
  obtain⟨c0,h1,vd,vl,vq,e1,r1,r2,r3⟩:=h.st.trs.2 i t' ht';exact⟨c0,h1,vd,vl,vq,e1,r1.keep (keepA _ zo),r2.keep (keepA _ zo) (keepA 5 zo),r3.keep (keepA _ zo) (keepA 5 zo)⟩
 have hT2:Turns (· ==k+1) w' col' (w'.setCell ⟨L.rg,n*75+j,none⟩ v') col':=Turns.setCell v' (by simp[mA.st.tres.1]);have keepB:∀i,i≠k+1→KeepsCol i w' col' (w'.setCell ⟨L.rg,n*75+j,none⟩ v') col':=fun i hi=>hT2.keeps (by simpa using hi)
 have hbig:∀i,i=5∨10≤i→i≠k+1:=fun i hi=>by rcases hk with rfl|rfl<;>omega
 have hne:g≠L.rg:=by
  intro e;have a:=mA.own;rw[e,mA.st.tres.1]at a;rcases hk with rfl|rfl<;>cases a
 refine⟨⟨?_,mA.own,⟨tB1 mA.base.1 hT2.size,mA.base.2⟩,mA.fin.mono hT2.size,mA.seed.keep (keepB 5 (hbig 5 (.inl rfl))),?_⟩,mA.st.trs.keep fun i hi=>keepB i (hbig i hi),?_⟩
 · exact(mA.blk.far (p:=⟨L.rg,n*75+j,none⟩) hne v')
 ·
  refine⟨mA.st.tens.keep (keepB k zo),?_,mA.st.gras.keep (keepB (k+2) zo),?_⟩
  · have h1:=mA.st.tres.set1 (o:=n*75+j) v' (by rw[hfl];omega)
    rw[←qnj _ _ _ (by rw[hfl];omega),qni [v'] hlen (by rw[hcl];exact hn16) (by simp;omega)]at h1;have e:(css.modify n fun x=>over x j [v'])=css.modify n fun x=>x.set j v':=qrb fun x hx=>qnj x j v' (by rw[hlen x (tB2 hx)];exact hj)
    rwa[e]at h1
  refine⟨by rw[List.length_modify,h.st.trs.1];simp[Sta.setT],fun i t' ht'=>?_⟩;by_cases e:n=i
  · subst e
    rw[show (s.setT n f).tres=s.tres.modify n f from rfl,qo9 f ht]at ht';injection ht' with ht';subst ht';exact⟨cs.set j v',qo9 _ hcs,hnew.keep fun i hi=>keepB i (hbig i hi)⟩
  rw[show (s.setT n f).tres=s.tres.modify n f from rfl,qoa _ f e]at ht';obtain⟨c0,h1,h2⟩:=mA.st.trs.2 i t' ht';exact⟨c0,by rw[qoa _ _ e];exact h1,h2.keep fun i hi=>keepB i (hbig i hi)⟩
 refine(hT.mono (q:=inP k) fun i hi=>?_).trans (hT2.mono (q:=inP k) fun i hi=>?_)
 · obtain rfl:i=kk:=by simpa using hi
   unfold inP;simp;omega
 obtain rfl:i=k+1:=by simpa using hi
 unfold inP;simp
theorem qwo{l2:List (List Nat)}(hr:RowC w' col' k v' 23 1 l2.length vs2)
 (h2:∀(i:Nat) (bs:List Nat),l2[i]? =some bs→∃u,vs2[i]? =some u∧TextC w col u bs)(h5:KeepsCol 5 w col w' col'):TextsC w' col' k v' l2:=
 ⟨vs2,hr,fun i bs hi=>by
  obtain⟨u,hu,ht⟩:=h2 i bs hi;exact⟨u,hu,ht.keep h5⟩⟩
theorem qwp{ls l2:List (List Nat)}(hvl:vs.length=ls.length)
 (h1:∀(i:Nat) (bs:List Nat),ls[i]? =some bs→∃u,vs[i]? =some u∧TextC w col u bs)(h2:∀(i:Nat) (bs:List Nat),l2[i]? =some bs→∃u,vs2[i]? =some u∧TextC w col u bs):
 ∀(i:Nat) (bs:List Nat),(ls++l2)[i]? =some bs→∃u,(vs++vs2)[i]? =some u∧TextC w col u bs:=by
 intro i bs hi;rw[List.getElem?_append]at hi;split at hi
 · obtain⟨u,hu,ht⟩:=h1 i bs hi
   exact⟨u,by rw[tBm zo];exact hu,ht⟩
 rename_i hge
 obtain⟨u,hu,ht⟩:=h2 (i - ls.length) bs hi;exact⟨u,by rw[tBn zo,hvl];exact hu,ht⟩
theorem qwq{ls:List (List Nat)}(k:Nat)(h1:∀(i:Nat) (bs:List Nat),ls[i]? =some bs→∃u,vs[i]? =some u∧TextC w col u bs):
 ∀(i:Nat) (bs:List Nat),(ls.take k)[i]? =some bs→∃u,(vs.take k)[i]? =some u∧TextC w col u bs:=by
 intro i bs hi;rw[List.getElem?_take]at hi;split at hi
 · rename_i hk
   obtain⟨u,hu,ht⟩:=h1 i bs hi;exact⟨u,by rw[List.getElem?_take,if_pos hk];exact hu,ht⟩
 cases hi
theorem qwr{ls:List (List Nat)}(k:Nat)(h1:∀(i:Nat) (bs:List Nat),ls[i]? =some bs→∃u,vs[i]? =some u∧TextC w col u bs):
 ∀(i:Nat) (bs:List Nat),(ls.drop k)[i]? =some bs→∃u,(vs.drop k)[i]? =some u∧TextC w col u bs:=by
 intro i bs hi;rw[List.getElem?_drop]at hi;obtain⟨u,hu,ht⟩:=h1 _ bs hi;exact⟨u,by rw[List.getElem?_drop];exact hu,ht⟩
theorem Mdl.leavesNew(h:Mdl w col k g c s L css)(hk:Kind k)(h16:s.tres.length=16)(hh:∀t∈s.tres,t.hd.Ok)(ht:s.tres[n]? =some t)(hcs:css[n]? =some (trev t vd vl vq))
 (hT:Turns (fun _=>false) w col w' col')(hf:Fin_ col' w'){ls:List (List Nat)}(hl:TextsC w' col' (11+3*n) v' ls):
 ∃css',css'[n]? =some (trev {t with leaves:=ls} vd v' vq)∧Mdl (w'.setCell ⟨L.rg,n*75+5,none⟩ v') col' k g c (s.setT n fun t=>{t with leaves:=ls}) L css'∧Turns (inP k) w col (w'.setCell ⟨L.rg,n*75+5,none⟩ v') col':=by
 obtain⟨r1,r2,r3⟩:=h.rows ht hcs;have kp:∀i,KeepsCol i w col w' col':=fun i=>hT.keeps rfl
 obtain⟨m,-,tt⟩:=h.treRowW (j:=5) hk h16 hh ht hcs (.inr (.inl rfl)) (hT.mono fun i h=>by cases h) hf (fun t=>{t with leaves:=ls}) v' zo
  ⟨vd,vl,vq,rfl,r1.keep (kp _),r2.keep (kp _) (kp 5),r3.keep (kp _) (kp 5)⟩
  ⟨vd,v',vq,rfl,r1.keep (kp _),hl,r3.keep (kp _) (kp 5)⟩
 exact⟨_,(qo9 (fun x=>x.set 5 v') hcs).trans rfl,m,tt⟩
theorem Mdl.queueNew(h:Mdl w col k g c s L css)(hk:Kind k)(h16:s.tres.length=16)(hh:∀t∈s.tres,t.hd.Ok)(ht:s.tres[n]? =some t)(hcs:css[n]? =some (trev t vd vl vq))
 (hT:Turns (fun _=>false) w col w' col')(hf:Fin_ col' w'){ls:List (List Nat)}(hl:TextsC w' col' (12+3*n) v' ls):
 ∃css',Mdl (w'.setCell ⟨L.rg,n*75+6,none⟩ v') col' k g c (s.setT n fun t=>{t with queue:=ls}) L css'∧Turns (inP k) w col (w'.setCell ⟨L.rg,n*75+6,none⟩ v') col':=by
 obtain⟨r1,r2,r3⟩:=h.rows ht hcs;have kp:∀i,KeepsCol i w col w' col':=fun i=>hT.keeps rfl
 obtain⟨m,-,tt⟩:=h.treRowW (j:=6) hk h16 hh ht hcs (.inr (.inr rfl)) (hT.mono fun i h=>by cases h) hf (fun t=>{t with queue:=ls}) v' zo
  ⟨vd,vl,vq,rfl,r1.keep (kp _),r2.keep (kp _) (kp 5),r3.keep (kp _) (kp 5)⟩
  ⟨vd,vl,v',rfl,r1.keep (kp _),r2.keep (kp _) (kp 5),hl⟩
 exact⟨_,m,tt⟩
theorem Tryz.lane_info:(Tryz.prog.info? 136).map (fun i=>(i.zero,i.size,i.bytes))=some (some (.agg #[.int .i64 0,.int .i64 0,.int .i64 0]),3,24):=by kernel_rfl
theorem qws(l:List LaneI)(x:LaneI):qw3 (l++[x])=qw3 l++qw2 x:=by simp[qw3]
theorem qwt{ops:Array Oper}{rest:List Oper}(hgd:o.guard=none)(s x:Operand)
 (ho:o.op=.call {callee:=.builtin .append,args:=#[s,x],argTypes:=#[134,134]})
 (base:Nat)(v:Value)(n:Nat)(l:List LaneI)(hs:a.eval s=v)(hown:w.ownsRow base 136 3 v n (qw3 l))(A:Option Addr)(c:Nat)(y:LaneI)(hx:a.eval x=.slice A 1 c)(hr:Reads w w.heap.size 3 A 1 (qw2 y))
 (hlen:n≤65536)(hbase:base≤w.heap.size)
 (h:∀v' w',w'.ownsRow base 136 3 v' (n+1) (qw3 (l++[y]))→Below base w w'→wpList Tryz.prog ops Q rest (a.put o.dst v') w'):wpList Tryz.prog ops Q (o::rest) a w:=by
 obtain⟨i0,hi0,hz0,hz1,hz2⟩:=info_parts Tryz.lane_info;refine qa7 (P:=Tryz.prog) w hgd s x _ ho base 136 i0 _ 3 24 Tryz.underlying134 hi0 hz0 hz1 hz2 rfl zo v n (qw3 l) hs hown w.heap.size A 1 c (qw2 y) hx hr (by unfold qw2;simp[Value.oneCell']) (by simp only[maxLen];omega) zo hbase ?_;intro v' w' h1 h2 h3;refine h v' w' ?_ ?_
 · rw[qws]
   exact h1
 exact qae (tA5 _ _) hown h2 (tA4 _) hbase
theorem qwu(h:s.tres[n]? =some t):(qwc s).take (n+1)=(qwc s).take n++[(qn6 n t,(t.queue.length:Int),t.deficit)]:=by
 have:=qwe h;obtain⟨h1,h2⟩:=tA8 this;rw[List.take_succ_eq_append_getElem h1,h2]
theorem qwv{ls:List (List Nat)}(hl:vs.length=ls.length)(h:∀(i:Nat) (bs:List Nat),ls[i]? =some bs→∃u,vs[i]? =some u∧TextC w col u bs):∀u∈vs,u.oneCell'=true:=by
 intro u hu;obtain⟨i,hi,rfl⟩:=List.getElem_of_mem hu;obtain⟨u',hu',ht⟩:=h i (ls[i]'zo) (tA7 _);rw[tA7 hi]at hu';injection hu' with hu';rw[hu'];exact ht.one
theorem qww(ht:s.tres[k]? =some t){f:Tre→Tre}(hf:f t=t):s.setT k f=s:=by
 unfold Sta.setT;have:s.tres.modify k f=s.tres:=by
  apply List.ext_getElem?;intro i;rw[List.getElem?_modify];by_cases e:k=i
  · subst e
    simp[ht,hf]
  simp[e]
 rw[this]
theorem qwx(c:Cfg)(s:Sta)(L:Loc)(col:Col)(g:Nat)(css:List (List Value))(w:World)(hc:c.Ok)(hs:s.Ok)(h:Mdl w col 2 g c s L css)(hT:Tabs w):
 Zc 26 #[.pointer (some ⟨g,0,none⟩)] w fun e w'=>e=.returned (.tuple #[])∧∃col' css',Mdl w' col' 2 g c (seqS c s) L css'∧Rest w col w' col':=by
 obtain⟨S1,hS1⟩:=xeq (seqS c s);rw[hS1];obtain⟨AR,BG,HS,HC,H,BH⟩:=zh6 hS1 h.st hs hc h hT;have c8:=h.c8;clear hS1 hs hc h hT;go_enter Tryz.func26,Tryz.ntmps26
 go_wp2_with fail
 clear c8;go_loopw [2,14] (fun v i wr=>∃n:Nat,n≤16∧i=.int .i64 n∧Hid (wr.ownsRow w.heap.size 136 3 v n (qw3 ((qwc s).take n))∧Below w.heap.size w wr)) (fun v i _=>16 - (intOf i).toNat)
 case atStart=>exact⟨0,by omega,rfl,zh1 ⟨by simpa [qw3] using World.ownsRow_nil ..,tA5 _ _⟩⟩
 case round=>
  obtain⟨n,hn,rfl,hl⟩:=hrel;by_cases hn16:n<16
  ·
   have qn:(n:Int)<16:=zo;have qn0:(0:Int)≤n:=zo;obtain⟨t,ht⟩:∃t,s.tres[n]? =some t:=⟨_,tA7 (by rw[HS.tresn];exact hn16)⟩;obtain⟨D,Ad,cd,Al,cl,Aq,cq,hD,lD,oD,hrg,l1,l2,l3,q1,q2,q3⟩:=BG.treeD HS.o ht;obtain⟨AS,AT,BI,BJ⟩:=zh4 (show D[0]? =some (.int .i64 t.state) by rw[hD];rfl) (show D[2]? =some (.int .i64 t.weight) by rw[hD];rfl) (show D[3]? =some (.int .i64 t.deficit) by rw[hD];rfl) (show D[6]? =some (.slice Aq t.queue.length cq) by rw[hD];rfl);have hb:=hl.o.2;obtain⟨BK,Y0,HI,OD,LD,HZ,HT⟩:=zh7 (hrg wr hb) (Blk.new wr 74 Tryz.zeroCells74) (zI 74 lD) oD lD (show Tryz.zeroCells74.size=75 by kernel_rfl) ht;clear hD lD oD hrg l1 l2 l3 q1 q2 q3 ht;go_upto_region 4 with(first
    |(refine zld BK.o zu74 HI.o ?_)
    |(refine zst Y0.o HI.o (by simp[LD.o,HZ.o]) OD.o ?_))
   obtain⟨W1,hW1⟩:=eqx ((wr.alloc (.cells Tryz.zeroCells74 74)).setRow wr.heap.size D.toArray);rw[←hW1];obtain⟨G,hG⟩:=eqx wr.heap.size;rw[←hG];have y1:Blk W1 G 74 D.toArray:=by rw[hW1,hG];exact Y0.setRow _
   have b1:Below wr.heap.size wr W1:=by rw[hW1];exact below_setRow ((tA5 _ _).alloc (tA4 _) _) (tA4 _) _
   obtain⟨Y1,B1,HB,GE⟩:=zh4 y1 b1 hb (show wr.heap.size≤G by omega);have e0:=(y1.cell 0).trans (show D.toArray[0]? =some (.int .i64 t.state) by rw[tA3];exact AS.o);have e2:=(y1.cell 2).trans (show D.toArray[2]? =some (.int .i64 t.weight) by rw[tA3];exact AT.o);have e3:=(y1.cell 3).trans (show D.toArray[3]? =some (.int .i64 t.deficit) by rw[tA3];exact BI.o);have e6:=(y1.cell 6).trans (show D.toArray[6]? =some (.slice Aq t.queue.length cq) by rw[tA3];exact BJ.o);clear hW1 hG y1 b1 hb;go_upto_region 5 with(fail)
   obtain⟨P,hP⟩:=eqx W1.heap.size;obtain⟨W2,hW2⟩:=eqx (W1.alloc (.cells #[.int .i64 0,.int .i64 (t.queue.length:Int),.int .i64 t.deficit] 136));rw[←hW2,←hP];have z2:Blk W2 P 136 #[.int .i64 0,.int .i64 (t.queue.length:Int),.int .i64 t.deficit]:=by rw[hW2,hP];exact Blk.new _ _ _
   have b2:=zMa hW2;have b3:Below wr.heap.size wr W2:=B1.trans (b2.mono B1.size);obtain⟨Z2,PG,B2,O2⟩:=zh4 z2 (show wr.heap.size≤P by have:=B1.size;omega) b3 (qr8 hl.o.1 b3);have e0:=(Y1.below b2 Y1.lt).cell 0 |>.trans (show D.toArray[0]? =some (.int .i64 t.state) by rw[tA3];exact AS.o);have e2:=(Y1.below b2 Y1.lt).cell 2 |>.trans (show D.toArray[2]? =some (.int .i64 t.weight) by rw[tA3];exact AT.o);clear hP hW2 z2 b2 b3 e3 e6;obtain⟨AG,BM⟩:=zh2 (HB.trans (B2.mono HB.size)) HB.size;obtain⟨rb,hrb⟩:=xeq (qkq t.state);have AU:=zh1 hrb;by_cases h0:n=0
   ·
    have qz:¬(0:Int)<n:=zo;have A7:=zh1 (show qn6 n t=0 by unfold qn6;rw[if_pos (.inl h0)]);clear h0 hrb hl;go_upto_region 7 with(fail)
    clear e0 e2;have own7:=zh1 ((O2.o).alloc (.cells #[.int .i64 (0),.int .i64 (t.queue.length:Int),.int .i64 t.deficit] 136));have rd7:Reads ((W2).alloc (.cells #[.int .i64 (0),.int .i64 (t.queue.length:Int),.int .i64 t.deficit] 136)) ((W2).alloc (.cells #[.int .i64 (0),.int .i64 (t.queue.length:Int),.int .i64 t.deficit] 136)).heap.size 3 (some ⟨(W2).heap.size,0,none⟩) 1 (qw2 (0,(t.queue.length:Int),t.deficit)):=by
     have:=Reads.new (W2) 136 (qw2 (0,(t.queue.length:Int),t.deficit)) 3 1 rfl;rwa[qar]
    obtain⟨AA,B7,A1⟩:=zh3 rd7 (qah (AG.o) (.cells #[.int .i64 (0),.int .i64 (t.queue.length:Int),.int .i64 t.deficit] 136)) (show (qwc s).take (n+1)=(qwc s).take n++[(0,(t.queue.length:Int),t.deficit)] by rw[qwu HT.o,A7.o]);have p0:=(Z2.o).cell 0;have p1:=(Z2.o).cell 1;have p2:=(Z2.o).cell 2;simp only[tA3,List.getElem?_cons_zero,tBc]at p0 p1 p2;clear rd7;go_wp2_with (at_builtin;refine qwt rfl (.tmp 35) (.tmp 37) rfl w.heap.size u2 n ((qwc s).take n) rfl own7.o (some ⟨(W2).heap.size,0,none⟩) 1 (0,(t.queue.length:Int),t.deficit) rfl AA.o zo B7.size ?_)
    intro v' w7 own8 b8;go_wp2
    go_roundw
    case rel=>exact⟨n+1,by omega,by go_num,zh1 ⟨by rw[A1.o];exact own8,B7.trans b8⟩⟩
    case measure=>simp[intOf];omega
   have qz:(0:Int)<n:=zo;have BN:=zh1 h0;have hl0:=hl;clear h0 hl;cases rb with
   |false=>
    have A7:=zh1 (show qn6 n t=0 by unfold qn6;rw[if_pos (.inr (by rw[hrb];rfl))]);clear hrb;go_upto_region 7 with((with_reducible refine(qky t.state _).mono ?_);rintro e w5 ⟨rfl,rfl⟩;rw[AU.o])
    clear e0 e2;have own7:=zh1 ((O2.o).alloc (.cells #[.int .i64 (0),.int .i64 (t.queue.length:Int),.int .i64 t.deficit] 136));have rd7:Reads ((W2).alloc (.cells #[.int .i64 (0),.int .i64 (t.queue.length:Int),.int .i64 t.deficit] 136)) ((W2).alloc (.cells #[.int .i64 (0),.int .i64 (t.queue.length:Int),.int .i64 t.deficit] 136)).heap.size 3 (some ⟨(W2).heap.size,0,none⟩) 1 (qw2 (0,(t.queue.length:Int),t.deficit)):=by
     have:=Reads.new (W2) 136 (qw2 (0,(t.queue.length:Int),t.deficit)) 3 1 rfl;rwa[qar]
    obtain⟨AA,B7,A1⟩:=zh3 rd7 (qah (AG.o) (.cells #[.int .i64 (0),.int .i64 (t.queue.length:Int),.int .i64 t.deficit] 136)) (show (qwc s).take (n+1)=(qwc s).take n++[(0,(t.queue.length:Int),t.deficit)] by rw[qwu HT.o,A7.o]);have p0:=(Z2.o).cell 0;have p1:=(Z2.o).cell 1;have p2:=(Z2.o).cell 2;simp only[tA3,List.getElem?_cons_zero,tBc]at p0 p1 p2;clear rd7;go_wp2_with (at_builtin;refine qwt rfl (.tmp 35) (.tmp 37) rfl w.heap.size u2 n ((qwc s).take n) rfl own7.o (some ⟨(W2).heap.size,0,none⟩) 1 (0,(t.queue.length:Int),t.deficit) rfl AA.o zo B7.size ?_)
    intro v' w7 own8 b8;go_wp2
    go_roundw
    case rel=>exact⟨n+1,by omega,by go_num,zh1 ⟨by rw[A1.o];exact own8,B7.trans b8⟩⟩
    case measure=>simp[intOf];omega
   |true=>
    have A7:=zh1 (show qn6 n t=t.weight by unfold qn6;rw[if_neg (by rw[hrb];simp;exact BN.o)]);clear hrb;have f0:=Z2.frozen 0;have p0:=Z2.cell 0;simp only[tA3,List.getElem?_cons_zero,tBc]at p0;go_upto_region 7 with((with_reducible refine(qky t.state _).mono ?_);rintro e w5 ⟨rfl,rfl⟩;rw[AU.o])
    obtain⟨W3,hW3⟩:=eqx (W2.setCell ⟨P,0,none⟩ (.int .i64 t.weight));rw[←hW3];have Z3:=zh1 (show Blk W3 P 136 #[.int .i64 t.weight,.int .i64 (t.queue.length:Int),.int .i64 t.deficit] by rw[hW3];exact Z2.set_ 0 _);have O3:=zh1 (show W3.ownsRow w.heap.size 136 3 u2 n (qw3 ((qwc s).take n)) by
     rw[hW3];exact qal O2.o (fun e=>by have:=(World.ownsRow.lt hl0.o.1 P e).2;have:=PG.o;omega) _)
    have BO:=zh1 (show Below w.heap.size w W3 by rw[hW3];exact AG.setCell (by have:=PG.o;have:=BM.o;show w.heap.size≤P;omega) _);clear hW3 e0 e2 p0 f0;have own7:=zh1 ((O3.o).alloc (.cells #[.int .i64 (t.weight),.int .i64 (t.queue.length:Int),.int .i64 t.deficit] 136));have rd7:Reads ((W3).alloc (.cells #[.int .i64 (t.weight),.int .i64 (t.queue.length:Int),.int .i64 t.deficit] 136)) ((W3).alloc (.cells #[.int .i64 (t.weight),.int .i64 (t.queue.length:Int),.int .i64 t.deficit] 136)).heap.size 3 (some ⟨(W3).heap.size,0,none⟩) 1 (qw2 (t.weight,(t.queue.length:Int),t.deficit)):=by
     have:=Reads.new (W3) 136 (qw2 (t.weight,(t.queue.length:Int),t.deficit)) 3 1 rfl;rwa[qar]
    obtain⟨AA,B7,A1⟩:=zh3 rd7 (qah (BO.o) (.cells #[.int .i64 (t.weight),.int .i64 (t.queue.length:Int),.int .i64 t.deficit] 136)) (show (qwc s).take (n+1)=(qwc s).take n++[(t.weight,(t.queue.length:Int),t.deficit)] by rw[qwu HT.o,A7.o]);have p0:=(Z3.o).cell 0;have p1:=(Z3.o).cell 1;have p2:=(Z3.o).cell 2;simp only[tA3,List.getElem?_cons_zero,tBc]at p0 p1 p2;clear rd7;go_wp2_with (at_builtin;refine qwt rfl (.tmp 35) (.tmp 37) rfl w.heap.size u2 n ((qwc s).take n) rfl own7.o (some ⟨(W3).heap.size,0,none⟩) 1 (t.weight,(t.queue.length:Int),t.deficit) rfl AA.o zo B7.size ?_)
    intro v' w7 own8 b8;go_wp2
    go_roundw
    case rel=>exact⟨n+1,by omega,by go_num,zh1 ⟨by rw[A1.o];exact own8,B7.trans b8⟩⟩
    case measure=>simp[intOf];omega
  have qn:¬(n:Int)<16:=zo;obtain rfl:n=16:=zo;have hown:=hl.o.1;rw[tB5 (by unfold qwc;rw[List.length_mapIdx,HS.tresn];omega)]at hown;obtain⟨OL,BL⟩:=zh2 hown hl.o.2;clear hown hl;go_upto_region 9 with(fail)
  obtain⟨A,cc,hv2,hcc,hcm,hrd⟩:=qaf OL.o;subst hv2;have hso:=HS.o;obtain⟨a,ha⟩:∃a:Nat,s.lane=a:=⟨s.lane.toNat,by have:=hso.lane;omega⟩;obtain⟨q,hq⟩:∃q:Nat,c.quantum=q:=⟨c.quantum.toNat,by have:=HC.q1;omega⟩;have hlen:(qwc s).length=16:=by unfold qwc;rw[List.length_mapIdx,hso.tresn]
  obtain⟨⟨⟨r0,r1,r2⟩,lo⟩,hsv⟩:∃x,qw9 (qwc s) a q=x:=⟨_,rfl⟩;have AH:=fun w1 (b:Below wr.heap.size wr w1)=>qwj (qwc s) a q A cc w1 (by rw[hlen];exact hrd.call b) (qwf hso) (by rw[hlen];omega) (by rw[hlen];have:=hso.lane;omega) (by have:=HC.q1;have:=HC.q2;omega) (by rw[hlen];exact hcc)
  simp only[hlen,hsv]at AH;have M0:=H.call BL.o;have c6:=M0.c6;have c1:=M0.c1;rw[ha]at c6;rw[hq]at c1;obtain⟨BP,AB,AV,HA,HQ,C6,C1⟩:=zh7 M0 AH hsv ha hq c6 c1;clear hso ha hq hlen hsv AH M0 c6 c1 hrd;obtain⟨S,HS9⟩:=zS fun w'=>Below wr.heap.size wr w'
  refine qjn S 18 [52,40,53,54,6] [(0,false),(1,false),(2,false),(3,false),(4,false),(5,false),(6,false),(7,false),(8,false),(9,false),(10,false)] 5 (.two 11 (.read 12 (.read 13 (.read 14 (.one 15 .done)))) 15 (.one 11 (.read 12 (.read 13 (.read 14 .done))))) [(16,true),(17,false)] #[true,true,true,true,true,true,true,true,true,true,true,false,false,false,false,false,false,false] #[true,true,true,true,true,true,true,true,true,true,true,true,true,true,true,true,false,false] zk rfl zk zk zk zk zk (fun _ _ d _ _ h=>by cases d<;>exact h) ((HS9.o _).mpr ((tA5 _ _).drew)) ?_;obtain⟨F0,F1⟩:=zh2 (zF HS9 C6.o) (zF HS9 C1.o);iterate 11 (refine qju rfl rfl ⟨?_,fun w1 hS=>?_,?_⟩;rotate_left;(focus(have g0:=F0.o w1 hS;have g1:=F1.o w1 hS;clear hS;go_simp;try rfl));simp only[Act.put,tA0,tA1,tA2])
  refine qjt ?_;obtain⟨Wd,hWd,BD⟩:=zdr wr;rw[←hWd];clear hWd;refine⟨fun vs w'=>∃g9 v,vs=[.tuple #[.agg #[.int .i64 r0,.int .i64 r1,.int .i64 r2],v],.tuple #[.agg #[.int .i64 r0,.int .i64 r1,.int .i64 r2],v],.agg #[.int .i64 r0,.int .i64 r1,.int .i64 r2],v,.pointer (some ⟨g9,0,none⟩)]∧Blk w' g9 138 #[.int .i64 0,.int .i64 0,.int .i64 0]∧wr.heap.size≤g9∧w'.ownsRow wr.heap.size 136 3 v 16 (qw3 lo)∧Below wr.heap.size wr w',?_,?_⟩
  ·
   refine qjs rfl rfl rfl rfl ?_ ?_
   ·
    go_simp;refine(AB.o Wd BD.o).mono ?_;rintro e w2 ⟨v,rfl,o2,b2⟩;obtain⟨B2,O2⟩:=zh2 (BD.trans (b2.mono BD.size)) (qde o2 BD.size);clear b2 o2;refine⟨(HS9.o _).mpr B2.o,?_⟩;refine zP ?_;iterate 3 (refine ztr ?_)
    refine qjr rfl rfl ?_;go_simp;refine⟨(HS9.o _).mpr (B2.alloc B2.size _),qjo ⟨[_,_,_,_,_],rfl,w2.heap.size,v,rfl,Blk.new _ _ _,B2.size,qr8 O2.o (qah (tA5 _ _) _),B2.alloc B2.size _⟩⟩
   go_simp;obtain⟨w2,hw2⟩:=eqx (Wd.alloc (.cells #[.int .i64 0,.int .i64 0,.int .i64 0] 138));rw[←hw2];obtain⟨Z2,B2⟩:=zh2 (show Blk w2 Wd.heap.size 138 #[.int .i64 0,.int .i64 0,.int .i64 0] by rw[hw2];exact Blk.new _ _ _) (show Below wr.heap.size wr w2 by rw[hw2];exact BD.alloc BD.size _);clear hw2;refine⟨(HS9.o _).mpr B2.o,?_⟩;refine zP ?_;refine qjr rfl rfl ?_;go_simp;refine(AB.o w2 B2.o).mono ?_;rintro e w3 ⟨v,rfl,o3,b3⟩;obtain⟨B3,O3,Z3⟩:=zh3 (B2.trans (b3.mono B2.size)) (qde o3 B2.size) (Z2.below b3 Z2.lt);clear b3 o3;refine⟨(HS9.o _).mpr B3.o,?_⟩;refine zP ?_;iterate 3 (refine ztr ?_)
   refine qjo ⟨[_,_,_,_,_],rfl,Wd.heap.size,v,rfl,Z3.o,BD.size,O3.o,B3.o⟩
  rintro vs w4 - ⟨g9,v,rfl,z4,l4,o4,b4⟩;simp only[puts,Act.put,tA0,tA1,tA2];refine qbi rfl rfl ?_;refine wp_store_row 138 (.tmp 6) (.tmp 53) rfl g9 #[.int .i64 r0,.int .i64 r1,.int .i64 r2] rfl rfl 138 _ z4 zk zm (by simp[Value.oneCell']) ?_;obtain⟨W5,hW5⟩:=eqx (w4.setRow g9 #[.int .i64 r0,.int .i64 r1,.int .i64 r2]);rw[←hW5];obtain⟨H5,B5,O5,BQ⟩:=zh4 (show Blk W5 g9 138 #[.int .i64 r0,.int .i64 r1,.int .i64 r2] by rw[hW5];exact z4.setRow _) (show Below wr.heap.size wr W5 by rw[hW5];exact below_setRow b4 l4 _) (show W5.ownsRow wr.heap.size 136 3 v 16 (qw3 lo) by rw[hW5];exact tB3 o4 (qam _ _ _) (.inr (qa3 o4 z4 zdc))) l4;clear hW5 z4 l4 o4 b4;refine⟨fun _=>(HS9.o _).mpr B5.o,?_⟩;refine zP ?_;iterate 1 (refine zrb ?_)
  refine qbf ?_;clear HS9 F0 F1;obtain⟨g7,c7,hv7,t1,t2,-,t4⟩:=quq O5.o zo;subst hv7;obtain⟨T7,BR⟩:=zh2 (t4 (fun b=>if b=g7 then 1 else 0) 1 zm) t1;clear t1 t2 t4;have M5:=BP.call B5.o;have c6:=M5.c6;have f6:=M5.blk.frozen 6;rw[HA.o]at c6;have h90:=H5.cell 0;have h92:=H5.cell 2;simp only[tA3,List.getElem?_cons_zero,tBc]at h90 h92;have m6:=M5.own1 (.inl rfl) 6 (.int .i64 r2) (s':={s with lane:=r2}) rfl rfl rfl rfl;have t6:Turns (· ==1) W5 col (W5.setCell ⟨g,6,none⟩ (.int .i64 r2)) col:=Turns.setCell _ (by simp[M5.own]);have r6:=((Rest.of_below (col:=col) BL.o).trans (Rest.of_below B5.o)).step t6 rfl;obtain⟨A6,AI,AJ⟩:=zh3 m6 r6 M5.blk.lt;clear M5 m6 r6 t6;go_upto_region 11 with(fail)
  clear c6 f6 h90 h92;obtain⟨W6,hW6⟩:=eqx (W5.setCell ⟨g,6,none⟩ (.int .i64 r2));rw[←hW6]at A6 AI ⊢;have hgw:=H.blk.lt;have hws:=BL.size;obtain⟨H6,T6,C7⟩:=zh3 (show Blk W6 g9 138 #[.int .i64 r0,.int .i64 r1,.int .i64 r2] by rw[hW6];exact H5.far (by have:=BQ.o;show g9≠g;omega) _) (show TopAt W6 (fun b=>if b=g7 then 1 else 0) 1 136 g7 c7 3 16 (qw3 lo) by rw[hW6];exact T7.far (by have:=BR.o;show g7≠g;omega) _) hws;clear hW6 hgw hws;rcases hl:qn5 (s.tres.mapIdx fun i t=>qn6 i t) s.lane.toNat with _|k
  ·
   have h1:=qwa (q:=c.quantum) (l:=qwc s) (a:=s.lane.toNat) (by rw[qwd];exact hl);rw[HA.o,HQ.o,tBe,AV.o]at h1;injection h1 with h1 h2;injection h1 with h3 h4;injection h4 with h4 h5;subst h3 h4 h5;have hS:S1=s:=by rw[←AR.o];exact qu3 HS.o hl
   have hs6:({s with lane:=(a:Int)}:Sta)=s:=by rw[←HA.o]
   rw[hs6]at A6;have AC:=zh1 hS;have h90:=H6.cell 0;simp only[tA3,List.getElem?_cons_zero,tBc]at h90;clear hS hs6 hl h2;go_wp2_with fail
   refine bodyPost_ret (results_none rfl _ _ _) rfl ?_;exact⟨rfl,col,⟨css,by rw[AC.o];exact A6.o⟩,AI.o⟩
  obtain⟨hk0,t,ht,hrun,hwt⟩:=qu0 hl;have hS2:=qu5 (c:=c) HS.o hl ht;rw[AR.o]at hS2;have h1:=qwg (c:=c) HS.o hl ht;rw[HA.o,HQ.o,tBe,AV.o]at h1;have hto:=HS.tre ht;have hle:takeN c t≤t.queue.length:=by unfold takeN;omega
  have hqo:(seqT c t).Ok:=qu1 hto (q:=c.quantum) _ _ rfl rfl;have hdf:=hqo.deficit;obtain⟨tk,htk⟩:=xeq (takeN c t);have hsq:seqT c t={t with deficit:=0,leaves:=t.leaves++t.queue.take tk,queue:=t.queue.drop tk}:=by
   have e:seqT c t={t with deficit:=(seqT c t).deficit,leaves:=t.leaves++t.queue.take (takeN c t),queue:=t.queue.drop (takeN c t)}:=rfl;rw[hdf,htk]at e;exact e
  rw[htk,hdf]at h1;rw[htk]at hS2 hle;injection h1 with h1 h2;injection h1 with h3 h4;injection h4 with h4 h5;subst h3 h4 h5;have hk16:k<16:=by obtain⟨h,_⟩:=tA8 ht;rw[HS.tresn]at h;exact h
  have hll:(qwc s).length=16:=by unfold qwc;rw[List.length_mapIdx,HS.tresn]
  have hlo:(qw3 lo)[k*3+2]? =some (.int .i64 0):=by
   rw[h2];exact(qw5 (x:=(qn6 k t,(t.queue.length:Int) - tk,0)) (by rw[List.getElem?_set_self zo]) zo).trans rfl
  have hl1:(0:Int)≤(((k+1) % 16:Nat):Int)∧(((k+1) % 16:Nat):Int)<16:=zo;obtain⟨s6,hs6⟩:=eqx ({s with lane:=(((k+1) % 16:Nat):Int)}:Sta);rw[←hs6]at A6 hS2;have s6ok:s6.Ok:=by rw[hs6];exact {HS.o with lane:=hl1}
  have ht6:s6.tres[k]? =some t:=by rw[hs6];exact ht
  have qk:(k:Int)<16:=zo;have qk0:(0:Int)≤k:=zo;obtain⟨A3,A4,AD,BS,BT,BU,BV,BW⟩:=zh8 s6ok ht6 hto hlo hS2 hsq hqo hle;obtain⟨BX,AK⟩:=zh2 hk0 hrun;have h90:=H6.cell 0;simp only[tA3,List.getElem?_cons_zero,tBc]at h90;clear hk0 ht hrun hwt hS2 hto hle hqo hdf htk hsq h2 hl hll hlo hl1 hs6 s6ok ht6;go_upto_region 12 with(fail)
  have c8:=A6.c8;obtain⟨S,HS9⟩:=zS fun w'=>w'.cell? ⟨g9,0,none⟩=some (.int .i64 (k:Int))∧w'.cell? ⟨g,8,none⟩=some (.slice (some ⟨L.rg,0,none⟩) 16 L.rc)
  refine zrs S 9 (zq 0 9 []) ((HS9.o _).mpr (⟨h90,c8⟩)) ?_;have F0:=zh1 (fun(w':World)(h:S w')=>(HS9.o w').mp h);repeat(refine zre rfl rfl (fun w1 hS=>by have g0:=(F0.o w1 hS).1;have g1:=(F0.o w1 hS).2;clear hS;go_simp;try rfl) ?_)
  refine qbf ?_;clear F0 HS9 c8 h90;obtain⟨W7,hW7⟩:=eqx W6.drew;rw[←hW7];have b7:Below W6.heap.size W6 W7:=by rw[hW7];exact(tA5 _ _).drew
  obtain⟨H7,T7b⟩:=zh2 (H6.below b7 H6.lt) (T6.keep ((Turns.of_below (fun _=>false) b7).keeps rfl));have M7:=A6.call b7;have R7:=zh1 (AI.trans (Rest.of_below b7));clear hW7 b7;obtain⟨-,Ad,cd,Al,cl,Aq,cq,hcs,hcell,hrd,hrl,hrq⟩:=M7.st.tree A3.o A4.o;have e3:=hcell 3 (.int .i64 t.deficit) rfl;have f3:=M7.st.tres.frozen (k*75+3);have l3:W7.cell? ⟨g7,k*3+2,none⟩=some (.int .i64 0):=T7b.cell BS.o;have h90:=H7.cell 0;simp only[tA3,List.getElem?_cons_zero,tBc]at h90;have m8:=M7.deficit1 (.inl rfl) A3.o A4.o 0;rw[qww A4.o (show ({t with deficit:=0}:Tre)=t by have:=AD.deficit;rw[←this])]at m8;have t8:Turns (· ==3) W7 col (W7.setCell ⟨L.rg,k*75+3,none⟩ (.int .i64 0)) col:=Turns.setCell _ (by simp[M7.st.tres.1]);have hgL:g9≠L.rg:=by
   intro e;have h1:=H7.o;obtain⟨-,sp,h2,-⟩:=M7.st.tres;rw[←e]at h2;unfold Blk at h1 h2;rw[h1]at h2;injection h2 with h2;injection h2 with _ h2;revert h2
   decide
  obtain⟨AL,AW,AJ,H8⟩:=zh4 m8 t8 hgL (H7.far (p:=⟨L.rg,k*75+3,none⟩) hgL (.int .i64 0));clear hcs hcell hrd hrl hrq M7 m8 t8 hgL;go_upto_region 14 with(fail)
  clear e3 f3 l3 h90;obtain⟨W8,hW8⟩:=eqx (W7.setCell ⟨L.rg,k*75+3,none⟩ (.int .i64 0));rw[←hW8]at AL AW H8 ⊢;clear hW8;obtain⟨-,Ad,cd,Al,cl,Aq,cq,hcs,hcell,hrd,hrl,hrq⟩:=AL.st.tree A3.o A4.o;obtain⟨nl,hnl⟩:=xeq t.leaves.length;obtain⟨nq,hnq⟩:=xeq t.queue.length;have hb1:=AD.leaves;have hb2:=AD.queue;have hle:=BW.o;rw[hnl,hnq]at hb1;rw[hnq]at hb2 hle;rw[hnl,hnq]at hcell;obtain⟨vs,hrow1,htx1⟩:=hrl;obtain⟨vs2,hrow2,htx2⟩:=hrq;rw[hnl]at hrow1;rw[hnq]at hrow2;obtain⟨A0,c0,ev,hlc,hlm,-,-⟩:=hrow1.sl;injection ev with ev1 _ ev3;subst ev1 ev3;obtain⟨A0,c0,ev,hqc,hqm,hrd2,-⟩:=hrow2.sl;injection ev with ev1 _ ev3;subst ev1 ev3;have e5:=hcell 5 (.slice Al nl cl) rfl;have e6:=hcell 6 (.slice Aq nq cq) rfl;have h91:=H8.cell 1;simp only[tA3,List.getElem?_cons_zero,tBc]at h91;have qt0:(0:Int)≤tk:=zo;have qt1:(tk:Int)≤nq:=zo;have qt2:(tk:Int)≤cq:=zo;have qn2:(nq:Int)≤cq:=zo;obtain⟨BY,AX,BZ,C0,AY,AZ,AE,AM⟩:=zh8 hcs hrow1 hrow2 htx1 htx2 hnl hnq hrd2;obtain⟨E6,C2⟩:=zh2 e6 hlc;clear hcs hcell hrd hrow1 hrow2 htx1 htx2 hnl hnq hrd2 hlc;obtain⟨S,HS9⟩:=zS fun w'=>w'.cell? ⟨L.rg,k*75+5,none⟩=some (.slice Al nl cl)∧w'.cell? ⟨L.rg,k*75+6,none⟩=some (.slice Aq nq cq)∧w'.cell? ⟨g9,1,none⟩=some (.int .i64 (tk:Int))
  refine zrs S 16 (zq 0 5 (zq 6 7 [(5,true),(13,true),(14,false),(15,false),(16,true)])) ((HS9.o _).mpr (⟨e5,e6,h91⟩)) ?_;obtain⟨F0,C5,B0⟩:=zh3 (fun(w':World)(h:S w')=>(HS9.o w').mp h) e5 h91;clear e5 e6 h91;iterate 12 (refine zre rfl rfl (fun w1 hS=>by have g0:=(F0.o w1 hS).1;have g1:=(F0.o w1 hS).2.1;have g2:=(F0.o w1 hS).2.2;clear hS;go_simp;try rfl) ?_)
  obtain⟨Wd,hWd,BD⟩:=zdr W8;rw[←hWd];clear hWd;obtain⟨MD,HD⟩:=zh2 (AL.call BD.o) (H8.below BD.o H8.lt);refine qbi rfl rfl ?_;go_simp;refine(qwk Al nl cl Wd C2.o zo).mono ?_;rintro e w1 ⟨rfl,rfl⟩;refine⟨(HS9.o _).mpr ⟨qai C5.o BD.o,qai E6.o BD.o,qai B0.o BD.o⟩,?_⟩;refine zP ?_;obtain⟨i0,hi0,hz0,hz1,hz2⟩:=info_parts Tryz.madd_info;have hv2:vs2.length=t.queue.length:=by have:=BZ.o.1;have:=AE.o;omega
  have hv1:vs.length=t.leaves.length:=by have:=AX.o.1;have:=AZ.o;omega
  refine qbi rfl rfl ?_;refine qwn Wd (.tmp 86) (.tmp 93) _ _ rfl col (11+3*k) 23 i0 _ 1 24 Tryz.underlying72 hi0 hz0 hz1 hz2 rfl Al nl vs rfl ((AX.call BD.o).clip) (.slice Aq tk cq) tk (vs2.take tk) rfl (Src.reads Wd Tryz.underlying72 ((AM.call BD.o).pre hle) (fun u hu=>qwv hv2 AY.o u (tB7 hu)) zdc) (by simp only[maxLen];omega) zo MD.fin ?_;intro v' wC col2 r2 t2 f2 b2;obtain⟨A9,c9,rfl,-,-,-,-⟩:=r2.sl;have BC:=zh1 (BD.trans (b2.mono BD.size));have KD:=(Turns.of_below (col:=col) (fun _=>false) BD.o).keeps (k:=5) rfl;have hX1d:∀(i:Nat) (bs:List Nat),t.leaves[i]? =some bs→∃u,vs[i]? =some u∧TextC Wd col u bs:=fun i bs h=>by
   obtain⟨u,h1,h2⟩:=C0.o i bs h;exact⟨u,h1,h2.keep KD⟩
  have hX2d:∀(i:Nat) (bs:List Nat),t.queue[i]? =some bs→∃u,vs2[i]? =some u∧TextC Wd col u bs:=fun i bs h=>by
   obtain⟨u,h1,h2⟩:=AY.o i bs h;exact⟨u,h1,h2.keep KD⟩
  have hlt:(t.leaves++t.queue.take tk).length=nl+tk:=by rw[tA6,tBd,AZ.o,AE.o];omega
  have htx:=qwo (l2:=t.leaves++t.queue.take tk) (by rw[hlt];exact r2) (qwp hv1 hX1d (qwq tk hX2d)) (t2.keeps rfl);have hh:∀t∈s6.tres,t.hd.Ok:=fun t ht=>(A3.tres t ht).hd
  obtain⟨css9,hcs9,m9,t9⟩:=MD.leavesNew (.inl rfl) A3.tresn hh A4.o BY.o t2 f2 htx;obtain⟨AF,AN,B4,C8⟩:=zh4 hcs9 m9 (((R7.step AW.o rfl).trans (Rest.of_below BD.o)).step t9 (qr6 (.inl rfl))) f2;have c5w:=qai C5.o BC.o;have f5w:=(MD.st.tres.keep (t2.keeps rfl)).frozen (k*75+5);clear hv1 hX1d hX2d hlt htx hh hcs9 m9 t9 f2 KD r2 b2 t2;refine⟨fun _=>(HS9.o _).mpr ⟨c5w,qai E6.o BC.o,qai B0.o BC.o⟩,?_⟩;refine zP ?_;iterate 2 (refine zrb ?_)
  refine qbi rfl rfl ?_;go_simp;refine qbf ?_;obtain⟨W9,hW9⟩:=eqx (wC.setCell ⟨L.rg,k*75+5,none⟩ (.slice A9 (nl+tk) c9));rw[←hW9]at AN B4 ⊢;have H9:=zh1 (show Blk W9 g9 138 #[.int .i64 (k:Int),.int .i64 (tk:Int),.int .i64 (((k+1) % 16:Nat):Int)] by rw[hW9];exact(H8.below BC.o H8.lt).far (p:=⟨L.rg,k*75+5,none⟩) AJ.o _);have e6:W9.cell? ⟨L.rg,k*75+6,none⟩=some (.slice Aq nq cq):=by
   rw[hW9];exact(World.cell?_setCell_other wC _ _ _ (by intro e;injection e with e1 e2;omega)).trans (qai E6.o BC.o)
  clear hW9 c5w f5w;have h91:=H9.cell 1;simp only[tA3,List.getElem?_cons_zero,tBc]at h91;have C9:=zh1 hv2;have ht9:(s6.setT k fun y=>{y with leaves:=t.leaves++t.queue.take tk}).tres[k]? =some {t with leaves:=t.leaves++t.queue.take tk}:=qo9 _ A4.o;have hr9:=(AN.rows ht9 AF.o).2.2;obtain⟨vs3,hr3,hx3⟩:=hr9;obtain⟨HT9b,E6b,C91b⟩:=zh3 ht9 e6 h91;clear ht9;change RowC W9 col2 (12+3*k) (.slice Aq t.queue.length cq) 23 1 t.queue.length vs3 at hr3;change ∀(i:Nat) (bs:List Nat),t.queue[i]? =some bs→_ at hx3;rw[AE.o]at hr3;obtain⟨A0,c0,ev,-,-,hrd3,-⟩:=hr3.sl;injection ev with ev1 _ ev3;subst ev1 ev3;obtain⟨C3,AO,B6⟩:=zh3 (show vs3.length=t.queue.length by have:=hr3.1;have:=AE.o;omega) hrd3 hx3;clear hr3 hx3 hrd3 hv2;go_upto_region 15 with(fail)
  obtain⟨S,HS9⟩:=zS fun w'=>w'.cell? ⟨L.rg,k*75+6,none⟩=some (.slice Aq nq cq)∧w'.cell? ⟨g9,1,none⟩=some (.int .i64 (tk:Int))
  refine zrs S 11 (zq 0 8 [(8,true),(9,false),(10,false),(11,true)]) ((HS9.o _).mpr (⟨E6b.o,C91b.o⟩)) ?_;have F0:=zh1 (fun(w':World)(h:S w')=>(HS9.o w').mp h);clear e6 h91;iterate 8 (refine zre rfl rfl (fun w1 hS=>by have g0:=(F0.o w1 hS).1;have g1:=(F0.o w1 hS).2;clear hS;go_simp;try rfl) ?_)
  obtain⟨We,hWe,BE⟩:=zdr W9;rw[←hWe];clear hWe;refine qbi rfl rfl ?_;go_simp;have rd8:Reads We We.heap.size 1 (if cq=tk then Aq else Option.map (fun x=>x.add tk) Aq) (nq - tk) (vs3.drop tk):=by
   have:=(AO.call BE.o).cut (k:=tk) (cap:=cq) hle zo;simpa using this
  obtain⟨A8,hA8⟩:∃x,(if cq=tk then Aq else Option.map (fun x=>x.add tk) Aq)=x:=⟨_,rfl⟩;rw[hA8]at rd8 ⊢;obtain⟨C4,ME⟩:=zh2 rd8 (AN.call BE.o);clear hA8 rd8;refine(qrj A8 (nq - tk) (cq - tk) (vs3.drop tk) We C4.o zo (fun u hu=>qwv C3.o B6.o u (List.mem_of_mem_drop hu))).mono ?_;rintro e w1 ⟨vA,rfl,oA,bA⟩;obtain⟨A9',c9',hvA,-,-,-⟩:=qaf oA;obtain⟨col3,hc3,r3,f3⟩:=qwl (w:=We) (col:=col2) (k:=12+3*k) oA (tA4 _) bA.size ME.fin;subst hvA;have t3:Turns (fun _=>false) We col2 w1 col3:=(Turns.of_below _ bA).recolour hc3;have KE:=(Turns.of_below (col:=col2) (fun _=>false) BE.o).keeps (k:=5) rfl;have hX3e:∀(i:Nat) (bs:List Nat),t.queue[i]? =some bs→∃u,vs3[i]? =some u∧TextC We col2 u bs:=fun i bs h=>by
   obtain⟨u,h1,h2⟩:=B6.o i bs h;exact⟨u,h1,h2.keep KE⟩
  have htx3:=qwo (l2:=t.queue.drop tk) (by rw[tBk,AE.o];exact r3) (qwr tk hX3e) (t3.keeps rfl);have hh:∀t∈s6.tres,t.hd.Ok:=fun t ht=>(A3.tres t ht).hd
  obtain⟨css10,m10,t10⟩:=ME.queueNew (.inl rfl) (by simp[Sta.setT,A3.tresn]) (qo4 (P:=fun t:Tre=>t.hd.Ok) hh (fun y _ o=>o)) HT9b.o AF.o t3 f3 htx3;have hst:((s6.setT k fun y=>{y with leaves:=t.leaves++t.queue.take tk}).setT k fun y=>{y with queue:=t.queue.drop tk})=s6.setT k fun _=>seqT c t:=by
   unfold Sta.setT;dsimp only;rw[qrq,qrb (g:=fun _=>seqT c t) (fun y hy=>by
    rw[A4.o]at hy;injection hy with hy;subst hy;rw[BU.o];have:=AD.deficit;rw[←this])]
  rw[hst]at m10;obtain⟨A5,A2,BF⟩:=zh3 m10 ((B4.trans (Rest.of_below BE.o)).step t10 (qr6 (.inl rfl))) (BE.trans (bA.mono BE.size));have e6w:=qai E6b.o BF.o;have f6w:=(ME.st.tres.keep (t3.keeps rfl)).frozen (k*75+6);clear hst m10 t10 hh htx3 hX3e KE t3 hc3 r3 f3 oA bA;refine⟨(HS9.o _).mpr ⟨e6w,qai C91b.o BF.o⟩,?_⟩;refine zP ?_;iterate 2 (refine zrb ?_)
  refine qbi rfl rfl ?_;go_simp;refine qbf ?_;obtain⟨B8,hW10⟩:=eqx (w1.setCell ⟨L.rg,k*75+6,none⟩ (.slice A9' (nq - tk) c9'));rw[←hW10]at A5 A2 ⊢;have B9:=zh1 (show Blk B8 g9 138 #[.int .i64 (k:Int),.int .i64 (tk:Int),.int .i64 (((k+1) % 16:Nat):Int)] by rw[hW10];exact(H9.below BF.o H9.lt).far (p:=⟨L.rg,k*75+6,none⟩) AJ.o _);clear hW10 e6w f6w;have h90:=B9.cell 0;have h91:=B9.cell 1;simp only[tA3,List.getElem?_cons_zero,tBc]at h90 h91;have hS:=BT.o;by_cases h0:tk=0
  ·
   have qz:¬(0:Int)<tk:=zo;rw[if_pos h0]at hS;have AC:=zh1 hS;clear hS h0 hle hb1 hb2;go_wp2
   go_end0
   exact⟨rfl,col3,⟨css10,by rw[AC.o];exact A5.o⟩,A2.o⟩
  have qz:(0:Int)<tk:=zo;rw[if_neg h0]at hS;have AC:=zh1 hS;have sok:(s6.setT k fun _=>seqT c t).Ok:=A3.setT (fun y hy o=>BV.o) (fun e=>absurd e BX.o);have CP:=zh1 (qpn c _ L col3 2 g css10 k (seqT c t) B8 (.inl rfl) HC.o sok A5.o (qo9 (fun _=>seqT c t) A4.o) ((AD.live (fun e=>by have h:=AK.o;rw[e]at h;revert h;decide)).2) (BH.rest A2.o H.base));clear hS h0 hle hb1 hb2 sok;go_wp2_with fail
  refine CP.o.mono ?_;rintro e W11 ⟨rfl,⟨css11,BA⟩,BB⟩;obtain⟨AP,AQ⟩:=zh2 BA (A2.step BB rfl);clear BA BB;go_wp2
  go_end0
  exact⟨rfl,col3,css11,by rw[AC.o];exact AP.o,AQ.o⟩
structure WldAt (w:World)(gw tb:Nat)(c:Cfg)(A:Option Addr)(n k:Nat):Prop where
 blk:Blk w gw 63 #[.pointer (some ⟨tb,0,none⟩),.int .i64 c.width,.int .i64 c.quantum,.int .u32 (c.store:Int),.slice A n k]
 tab:RTab w tb
 seed:Reads w w.heap.size 1 A n (byv c.seed)
theorem WldAt.call(h:WldAt w gw tb c A n k)(hb:Zb w w'):WldAt w' gw tb c A n k:=
 ⟨h.blk.below hb h.blk.lt,Blk.below h.tab hb (Blk.lt h.tab),h.seed.call hb⟩
theorem qzj(gw tb:Nat)(c:Cfg)(A:Option Addr)(n k:Nat)(w:World)(h:WldAt w gw tb c A n k)(hs:∀x∈c.seed,x<256)(hn:c.seed.length≤64):
 Zc 20 #[.pointer (some ⟨gw,0,none⟩)] w fun e w'=>e=.returned (.agg (byv (qmg c.seed)).toArray)∧Zb w w':=by
 have ln:=qb4 h.seed;obtain⟨W0,hW0⟩:=eqx (w.alloc (.cells zLD 29));have z0:Blk W0 w.heap.size 29 (byv (List.replicate 32 0)).toArray:=by rw[hW0];exact Blk.new w _ _
 have b0:=zMa hW0;obtain⟨H,HS,A2,Z0,B0,HN⟩:=zh6 h hs hW0 z0 b0 (show n≤64 by omega);clear h hs hW0 z0 b0 ln hn;go_enter Tryz.func20,Tryz.ntmps20
 go_upto_region 1 with(fail)
 rw[←A2.o];obtain⟨S,HS9⟩:=zS fun w'=>Zb W0 w'
 refine zrs S 11 (zq 0 9 [(9,true),(10,true),(11,true),(12,true)]) ((HS9.o _).mpr ((tA5 _ _).drew)) ?_;obtain⟨F0,F4⟩:=zh2 (fun(w':World)(h:S w')=>((((H.call B0.o).call ((HS9.o w').mp h)).blk).cell 0).trans (show (#[.pointer (some ⟨tb,0,none⟩),.int .i64 c.width,.int .i64 c.quantum,.int .u32 (c.store:Int),.slice A n k]:Array Value)[0]? =some (.pointer (some ⟨tb,0,none⟩)) from rfl)) (fun(w':World)(h:S w')=>((((H.call B0.o).call ((HS9.o w').mp h)).blk).cell 4).trans (show (#[.pointer (some ⟨tb,0,none⟩),.int .i64 c.width,.int .i64 c.quantum,.int .u32 (c.store:Int),.slice A n k]:Array Value)[4]? =some (.slice A n k) from rfl));iterate 9 (refine zre rfl rfl (fun w1 hS=>by have g0:=F0.o w1 hS;have g4:=F4.o w1 hS;clear hS;go_simp;try rfl) ?_)
 obtain⟨Wd,hWd,BD⟩:=zdr W0;rw[←hWd];clear hWd;obtain⟨w1,hw1⟩:=eqx (Wd.alloc (.cells (byv qmd).toArray 5));have e1:w1.heap[Wd.heap.size]? =some (.cells (byv qmd).toArray 5 (0,0)):=by rw[hw1];exact heap_alloc_new Wd _
 have b1:=zMa hw1;have s1:w1.heap.size=Wd.heap.size+1:=by rw[hw1,qar]
 obtain⟨E1,S1⟩:=zh2 hw1 s1;clear hw1 s1;refine zw ?_;go_simp;refine⟨(HS9.o _).mpr ?_,?_⟩
 · show Zb W0 (Wd.alloc (.cells (byv qmd).toArray 5))
   exact BD.alloc BD.size _
 change qb9 _ _ _ _ _ _ _ (Wd.alloc (.cells (byv qmd).toArray 5));rw[←E1.o];refine zP ?_;refine zw ?_;refine qk3 (.tmp 12) rfl Wd.heap.size 4 4 rfl _ e1 ?_;intro w2 g2 l2;have b2:Zb Wd w2:=b1.grown g2 (by have:=S1.o;omega) (by intro g hg;injection hg with hg;omega);have B2:=zh1 (BD.trans (b2.mono BD.size));have r2:=l2.reads;have H2:=(H.call B0.o).call B2.o;have M2:=qzd tb n k 4 4 A _ c.seed qmd w2 H2.tab H2.seed r2 HS.o qoe HN.o zdc;have A3:=zh1 M2;clear M2 r2 H2 b2 b1 e1 g2 l2;refine⟨fun _=>(HS9.o _).mpr B2.o,zput ?_⟩;refine zw ?_;go_simp;refine zcb A3.o fun w9 b9=>?_
 have B9:=zh1 (B2.trans (b9.mono B2.size));obtain⟨Z9,BB⟩:=zh2 (Z0.below B9.o Z0.lt) (B0.trans (B9.mono B0.size));clear b9;refine zP ?_;obtain⟨X9,hX9⟩:=xeq (byv (mac c.seed qmd));have lX9:X9.length=32:=by rw[←hX9,qat];exact qjz _ _
 have oX9:∀u∈X9,u.oneCell'=true:=by rw[←hX9];exact qau _
 rw[hX9];have A4:=zh1 hX9;have A0:(Tryz.prog.info? 29).map (·.size)=some X9.length:=by rw[lX9];exact Tryz.dig_info
 refine zw ?_;refine wp_store_row 29 (.tmp 2) (.tmp 14) rfl (w.heap.size) X9.toArray rfl rfl 29 _ Z9.o (by simpa using A0) (by simp[lX9,qat]) (by simpa using oX9) ?_;refine⟨fun h=>absurd h zdc,zput ?_⟩;refine qbf ?_;have z9:=Z9.setRow X9.toArray;have A1:=qap z9 0 X9 zjq;obtain⟨A5,A6⟩:=zh2 A1 A0;clear hX9 lX9 oX9 A0 z9 A1;go_wp2_with fail
 exact zrt A5.o zu29 A6.o ⟨(by rw[←A4.o];try rfl),below_setRow BB.o (by first|omega|exact tA4 _) _⟩
theorem qzk(R:Req)(c:Cfg)(id:Nat)(cav leafv:Value)(ht:R.tag.length=32):over (reqv R cav leafv) 1 (tokv id (.slice none 0 0) (qjy (qmg c.seed) id))=reqv (byR c id R) (.slice none 0 0) leafv:=by
 have l1:=qdf R.tid cav R.tag ht;have l2:=qdf id (.slice none 0 0) (qjy (qmg c.seed) id) (qjz _ _);unfold over reqv;rw[l2];simp only[List.cons_append,List.take_succ_cons,List.take_zero,List.nil_append];rw[show 1+34=34+1 by rfl,List.drop_succ_cons,←l1,List.drop_left];rfl
theorem qzl(gw tb:Nat)(c:Cfg)(A:Option Addr)(n k:Nat)(id:Nat)(R:Req)(cav leafv:Value)(w:World)(h:WldAt w gw tb c A n k)(hs:∀x∈c.seed,x<256)(hn:c.seed.length≤64)(hid:id<4294967296)(ht:R.tag.length=32)(h1:cav.oneCell'=true)(h2:leafv.oneCell'=true):
 Zc 28 #[.pointer (some ⟨gw,0,none⟩),.int .u32 (id:Int),.agg (reqv R cav leafv).toArray] w fun e w'=>e=.returned (.agg (reqv (byR c id R) (.slice none 0 0) leafv).toArray)∧Zb w w':=by
 have hby:=qzk R c id cav leafv ht;have lQ:=qix R cav leafv ht;have lP:=qix (byR c id R) (.slice none 0 0) leafv (qjz _ _);have oP:=qzh (byR c id R) (.slice none 0 0) leafv rfl h2;obtain⟨Q,hQ⟩:=xeq (reqv R cav leafv);obtain⟨P,hP⟩:=xeq (reqv (byR c id R) (.slice none 0 0) leafv);rw[hQ,hP]at hby;rw[hQ]at lQ;rw[hP]at lP oP;rw[hQ,hP];obtain⟨W0,hW0⟩:=eqx ((w.alloc (.cells Q.toArray 34)).alloc (.cells zLQ 34));have q0:=zNb hW0;have z0:=zNc hW0;have b0:=zMb hW0;obtain⟨H,A3,Q0,Z0,B0,A1,LQ,LP⟩:=zh8 h hW0 q0 z0 b0 hby lQ lP;obtain⟨OP,HS,HN⟩:=zh3 oP hs hn;clear h hW0 q0 z0 b0 hby lQ lP oP hs hn hQ hP h1 h2 ht;go_enter Tryz.func28,Tryz.ntmps28
 go_upto_region 1 with(fail)
 rw[←A3.o];obtain⟨S,HS9⟩:=zS fun w'=>Zb W0 w'
 refine zrs S 9 (zq 0 5 [(6,false),(5,true),(7,true),(8,false),(9,true)]) ((HS9.o _).mpr ((tA5 _ _).drew)) ?_;have F0:=zh1 (fun(w':World)(h:S w')=>((((H.call B0.o).call ((HS9.o w').mp h)).blk).cell 0).trans (show (#[.pointer (some ⟨tb,0,none⟩),.int .i64 c.width,.int .i64 c.quantum,.int .u32 (c.store:Int),.slice A n k]:Array Value)[0]? =some (.pointer (some ⟨tb,0,none⟩)) from rfl));iterate 6 (refine zr1 ?_)
 obtain⟨Wd,hWd,BD⟩:=zdr W0;rw[←hWd];clear hWd;refine zw ?_;go_simp;refine zcb (qzj gw tb c A n k Wd ((H.call B0.o).call BD.o) HS.o HN.o) fun w1 b1=>?_
 have B1:=zh1 (BD.trans (b1.mono BD.size));clear b1;refine⟨(HS9.o _).mpr B1.o,zput ?_⟩;refine zw ?_;go_simp;refine zcb (qze tb (qmg c.seed) id w1 (qjz _ _) (qk1 _ _) hid ((H.call B0.o).call B1.o).tab) fun w2 b2=>?_
 have B2:=zh1 (B1.trans (b2.mono B1.size));clear b2;obtain⟨T,hT⟩:=xeq (tokv id (.slice none 0 0) (qjy (qmg c.seed) id));have lT:T.length=34:=by rw[←hT];exact qdf _ _ _ (qjz _ _)
 have oT:∀u∈T,u.oneCell'=true:=by rw[←hT];exact qeg _ _ rfl _
 rw[hT]at A1 ⊢;obtain⟨Q2,Z2,LT,OT⟩:=zh4 (Q0.below B2.o Q0.lt) (Z0.below B2.o Z0.lt) lT oT;clear hT lT oT;refine⟨(HS9.o _).mpr B2.o,zput ?_⟩;iterate 1 (refine zrb ?_)
 refine zw ?_;refine wp_store_mid 31 (.tmp 15) (.tmp 14) rfl w.heap.size 1 T.toArray rfl rfl (fun j hj=>⟨by rw[Q2.cell,tA3,tA7 (by have h0:T.toArray.size=34:=List.size_toArray.trans LT.o;rw[LQ.o];omega)];simp,Q2.frozen _⟩) (by rw[tB6,LT.o];kernel_rfl) (by simpa using OT.o) ?_;have q3:=qn8 T 1 w2 Q Q2.o (by rw[LQ.o,LT.o];decide);rw[A1.o]at q3;have g3:=qn9 w.heap.size T 1 w2;have z3:=Z2.grown g3 (by intro e;injection e with e;omega);have b3:Zb w (w2.setCells w.heap.size 1 T):=(B0.trans (B2.mono B0.size)).grown g3 (tB1 B0.size B2.size) (by intro g hg;injection hg with hg;omega);obtain⟨Q3,Z3,B3⟩:=zh3 q3 z3 b3;clear q3 g3 z3 b3;refine⟨fun h=>absurd h zdc,zput ?_⟩;refine qbf ?_;clear HS9 F0;obtain⟨W3,hW3⟩:=eqx (w2.setCells w.heap.size 1 T);obtain⟨A2,A0⟩:=zh2 (qap Q3.o 0 P zjq) (zI 34 LP.o);rw[←hW3]at A2 Q3 Z3 B3 ⊢;clear hW3;go_wp2_with (first
  |(refine zld A2.o zu34 A0.o ?_)
  |(refine zst Z3.o A0.o (by simp[LP.o]) OP.o ?_))
 have A4:=qap (Z3.setRow P.toArray) 0 P zjq;exact zrt A4 zu34 A0.o ⟨rfl,below_setRow B3.o zo _⟩
theorem qzm(n:Nat):(rWhy n).Ok:=⟨by show (0:Nat)<18446744073709551616;omega,fun x h=>(nomatch h),fun x h=>(nomatch h),Hd.zero_Ok,qit⟩
theorem qzn(h:n<18446744073709551616):(qmo n).Ok:=⟨h,fun x h=>(nomatch h),fun x h=>(nomatch h),Hd.zero_Ok,qit⟩
theorem qzo{l:List (List Nat)}{b:List Nat}(h:qmp l b=some k):k<l.length:=by
 unfold qmp at h;obtain⟨h1,_⟩:=List.findIdx?_eq_some_iff_getElem.1 h;exact h1
theorem qzp{x:Int}(h:(Lit.int .i64 x).wf=true):x.toNat<18446744073709551616:=by
 have:=(Go.Lit.wf_int_iff _ _).1 h;rw[IntKind.min_i64,IntKind.max_i64]at this;omega
theorem qzq(o:t.Ok)(hr:R.Good):(qmr c s R t).Ok:=by
 have h1:=hr.lo;have h2:=hr.hi;unfold qmr;split
 · exact⟨by show (0:Nat)<_;omega,fun x h=>(nomatch h),fun x h=>(nomatch h),o.hd,qit⟩
 split
 · split
   · exact qzm _
   rename_i b hb
   exact⟨h1,fun x hx=>(o.leafb b (tB2 hb)).bs.2 x hx,fun x h=>(nomatch h),Hd.zero_Ok,qit⟩
 split
 · split
   · exact qzm _
   exact⟨h2,fun x h=>(nomatch h),(qry _ (qfo c.width).2 _ _ _ (tA4 _)).2,Hd.zero_Ok,qit⟩
 split
 · exact qzm _
 exact⟨h2,fun x h=>(nomatch h),(qrz _ (qfo c.width).2 _ _ _ _ (tA4 _)).2,Hd.zero_Ok,qit⟩
theorem qzr(hs:s.Ok)(hr:R.Good):(qmz c s R).2.Ok:=by
 have w1:=qzp hr.tree;have w2:=qzp hr.tenant;have w3:=qzp hr.state;have w4:=qzp hr.weight;have w5:=hr.id;have hg:=hs.grasn;unfold qmz;split
 · unfold qms
   repeat' split
   all_goals first|exact qzm _|exact qzn zo
 split
 · unfold qmw
   repeat' split
   all_goals first
    |exact qzm _
    |exact⟨by show s.gras.length<_;omega,fun x h=>(nomatch h),fun x h=>(nomatch h),Hd.zero_Ok,⟨by show s.gras.length<_;omega,fun x h=>(nomatch h),qjz _ _,qk1 _ _⟩⟩
 split
 · unfold qmx
   repeat' split
   all_goals first|exact qzm _|exact qzn zo
 split
 · unfold qmy
   repeat' split
   all_goals first|exact qzm _|exact qzn zo
 split
 · exact qzm _
 rename_i t ht
 have o:t.Ok:=by
  obtain⟨_,h,_⟩:=Sta.tree_some ht;exact hs.tre h
 have ol:=o.leaves;have od:=o.draws;split
 ·
  unfold qmq;split
  · exact qzm _
  split
  · rename_i k hk
    exact qzn (by have:=qzo hk;omega)
  split
  · rename_i k hk
    exact qzn (by have:=qzo hk;omega)
  split
  · exact qzm _
  split
  · exact qzm _
  split
  · exact qzm _
  exact qzn zo
 split
 · unfold qmt
   split
   · exact qzm _
   exact qzn w3
 split
 ·
  unfold qmu;split
  · exact qzm _
  split
  · exact qzm _
  exact qzn w4
 split
 · unfold qmv
   split
   · exact qzm _
   exact qzn zo
 exact qzq (s:=s) o hr
theorem qzs(hs:s.Ok)(n:Nat):(s.tres[n]?.getD Tre.zero).hd.Ok:=by
 cases h:s.tres[n]? with
 |none=>exact Hd.zero_Ok
 |some t=>exact(hs.tre h).hd
theorem qzt(hs:s.Ok)(hr:R.Good):(doS c s R).2.Ok:=by
 have h1:=qzr (c:=c) hs hr;have h2:=qtt (c:=c) hs hr;unfold doS at h2 ⊢;dsimp only at h2 ⊢;split
 · exact qzm _
 rename_i e1
 rw[if_neg e1]at h2;split
 · exact qzm _
 rename_i e2
 rw[if_neg e2]at h2;split
 · exact qzm _
 rename_i e3
 rw[if_neg e3]at h2;split
 · exact qzm _
 rename_i e4
 rw[if_neg e4]at h2;split
 ·
  rename_i e5
  rw[if_pos e5]at h2;dsimp only at h2 ⊢;split
  · exact⟨h1.n,h1.bytes,h1.hashes,qzs h2 _,h1.tok⟩
  exact h1
 exact h1
abbrev ErrT (w:World):Prop:=w.cell? ⟨0,0,none⟩=some (.iface 327 (.agg #[.pointer (some ⟨3,81,none⟩)]))
structure Sit (W:World)(B:Nat)(w:World)(col:Col)(g gw tb:Nat)(c:Cfg)(s:Sta):Prop where
 ok:s.Ok
 mdl:∃L css,Mdl w col 2 g c s L css
 wld:∃A n k,WldAt w gw tb c A n k∧(0<n→∀ad,A=some ad→col ad.block=0∧ad.block<B)
 gws:col gw=0∧gw<B
 tbs:col tb=0∧tb<B
 tabs:Tabs w
 err:ErrT w
 low:∀b,b<W.heap.size→col b=0
 base:3≤W.heap.size∧W.heap.size≤B∧B≤w.heap.size
 below:Zb W w
section
variable {W w w' : World} {col col' : Col} {B g gw tb : Nat} {c : Cfg} {s s' : Sta}
theorem Sit.next(h:Sit W B w col g gw tb c s)(hr:Rest w col w' col')(hs:s'.Ok)(hm:∃L css,Mdl w' col' 2 g c s' L css):Sit W B w' col' g gw tb c s':=by
 obtain⟨L,css,h2⟩:=h.mdl;obtain⟨A,n,k,hw,hA⟩:=h.wld;have hb:=hr.below h.low h.below.size;have h3:=hr.below (B:=3) h2.base.2 h2.base.1;refine⟨hs,hm,⟨A,n,k,⟨hr.blk hw.blk h.gws.1,Rest.blk hr hw.tab h.tbs.1,hr.reads hw.seed (fun hn ad e=>(hA hn ad e).1)⟩,fun hn ad e=>⟨?_,(hA hn ad e).2⟩⟩,⟨(hr.block gw hw.blk.lt h.gws.1).2,h.gws.2⟩,⟨(hr.block tb (Blk.lt hw.tab) h.tbs.1).2,h.tbs.2⟩,h.tabs.below h3.1 (tA4 _),?_,hb.2,⟨h.base.1,h.base.2.1,tB1 h.base.2.2 hr.size⟩,h.below.trans hb.1⟩
 · obtain⟨ad',e',hlt,_⟩:=hw.seed.2 hn
   rw[e]at e';injection e' with e';subst e';exact(hr.block _ hlt (hA hn ad e).1).2
 exact(h3.1.cell (p:=⟨0,0,none⟩) (by show (0:Nat)<3;decide)).trans h.err
theorem Sit.call(h:Sit W B w col g gw tb c s)(hb:Zb w w'):Sit W B w' col g gw tb c s:=by
 obtain⟨L,css,h2⟩:=h.mdl;exact h.next (Rest.of_below hb) h.ok ⟨L,css,h2.call hb⟩
theorem Sit.alloc(h:Sit W B w col g gw tb c s)(o:Obj):Sit W B (w.alloc o) col g gw tb c s:=h.call ((tA5 _ _).alloc (tA4 _) o)
theorem Sit.drew(h:Sit W B w col g gw tb c s):Sit W B w.drew col g gw tb c s:=h.call (tA5 _ _).drew
theorem Sit.new0(h:Sit W B w col g gw tb c s)(hb:w.heap.size≤b):col b=0:=by
 obtain⟨L,css,h2⟩:=h.mdl;by_cases e:col b=0
 · exact e
 have:=h2.fin b e;omega
theorem Sit.grown(h:Sit W B w col g gw tb c s)(hg:w.grownBy w' (some b))(h0:col b=0)(hb:B≤b):Sit W B w' col g gw tb c s:=by
 obtain⟨L,css,h2⟩:=h.mdl;obtain⟨A,n,k,hw,hA⟩:=h.wld;obtain⟨h3,h4,h5⟩:=h.base;have hT:Turns (· ==0) w col w' col:=Turns.of_grown hg (fun k e=>by injection e with e;rw[←e,h0];rfl) (fun _ _=>rfl);have hB:Below B w w':=⟨hg.os,hg.tape,hg.output,hg.size,fun k hk=>hg.block k zo (fun e=>by injection e with e;omega)⟩;refine⟨h.ok,⟨L,css,h2.keep hT rfl rfl rfl rfl rfl (fun i hi=>by simp;omega) (h2.fin.mono hg.size)⟩,⟨A,n,k,⟨hw.blk.below hB h.gws.2,Blk.below hw.tab hB h.tbs.2,⟨hw.seed.1,fun hn=>?_⟩⟩,hA⟩,h.gws,h.tbs,h.tabs.below hB zo,?_,h.low,⟨h3,h4,tB1 h5 hg.size⟩,h.below.trans (hB.mono h4)⟩
 · obtain⟨ad,e,hlt,hc⟩:=hw.seed.2 hn
   refine⟨ad,e,tB0 hlt hg.size,fun j u hu=>?_⟩;refine(World.cell?_of_block ?_).trans (hc j u hu);rw[qa1];exact hB.block _ (hA hn ad e).2
 exact(hB.cell (p:=⟨0,0,none⟩) (by show (0:Nat)<B;exact tB0 (show (0:Nat)<3 from by decide) (tB1 h3 h4))).trans h.err
end
theorem qzu(h:Sit W B w col g gw tb c s)(hc:c.Ok)(R:Req)(Ac:Option Addr)(cc:Nat)(Al:Option Addr)(cl:Nat)(hA:Asked w col R Ac cc Al cl):
 Zc 17 #[.pointer (some ⟨g,0,none⟩),.agg (reqv R (.slice Ac R.cavs.length cc) (.slice Al R.leaf.length cl)).toArray] w fun e w'=>∃v col',e=.returned v∧RspV w' col' w.heap.size v (doS c s R).2∧Sit W B w' col' g gw tb c (doS c s R).1∧Rest w col w' col':=by
 obtain⟨L,css,h2⟩:=h.mdl;refine(qvt c s L col g css R Ac cc Al cl w hc h.ok h2 hA h.tabs h.err).mono ?_;rintro e w' ⟨v,col',L',css',rfl,h3,h4,h5⟩;exact⟨v,col',rfl,h3,h.next h5 (qtt h.ok hA.good) ⟨L',css',h4⟩,h5⟩
theorem qzv(h:Sit W B w col g gw tb c s)(hc:c.Ok):
 Zc 26 #[.pointer (some ⟨g,0,none⟩)] w fun e w'=>e=.returned (.tuple #[])∧∃col',Sit W B w' col' g gw tb c (seqS c s)∧Rest w col w' col':=by
 obtain⟨L,css,h2⟩:=h.mdl;refine(qwx c s L col g css w hc h.ok h2 h.tabs).mono ?_;rintro e w' ⟨rfl,col',css',h4,h5⟩;exact⟨rfl,col',h.next h5 (qu6 h.ok) ⟨L,css',h4⟩,h5⟩
theorem qzw(h:Sit W B w col g gw tb c s):
 Zc 34 #[.pointer (some ⟨g,0,none⟩)] w fun e w'=>e=.returned (.tuple #[])∧Sit W B w' col g gw tb c (qn3 s)∧Rest w col w' col:=by
 obtain⟨L,css,h2⟩:=h.mdl;refine(qw1 c s L col g css w h.ok h2).mono ?_;rintro e w' ⟨rfl,h4,h5⟩;exact⟨rfl,h.next h5 (qty h.ok) ⟨L,css,h4⟩,h5⟩
theorem qzx(h:Sit W B w col g gw tb c s)(n:Nat)(hn:n<4294967296):
 Zc 49 #[.pointer (some ⟨g,0,none⟩),.int .u32 (n:Int)] w fun e w'=>e=.returned (.tuple #[])∧Sit W B w' col g gw tb c (qn4 s n)∧Rest w col w' col:=by
 obtain⟨L,css,h2⟩:=h.mdl;refine(qqm n c s L col 2 g css w (.inl rfl) h2).mono ?_;rintro e w' ⟨rfl,h4,h5⟩;have hr:=Rest.of_turns h5 rfl;exact⟨rfl,h.next hr (qtx h.ok hn) ⟨L,css,h4⟩,hr⟩
structure RspX (X:List Value)(a:Rsp):Prop where
 len:X.length=106
 one:∀u∈X,u.oneCell'=true
 why:X[0]? =some (.int .i64 a.why)
 n:X[1]? =some (.int .u64 (a.n:Int))
 hashes:∃A k,X[3]? =some (.slice A a.hashes.length k)
 size:X[6]? =some (.int .u64 (a.hd.size:Int))
theorem RspV.x{a:Rsp}(h:RspV W col base v a)(hs:a.Shape):∃X:List Value,v=.agg X.toArray∧RspX X a:=by
 obtain⟨bv,hv,cav,e,h1,h2,h3,-⟩:=h;obtain⟨A1,n1,c1,rfl,-⟩:=h1.sl;obtain⟨A2,c2,rfl,-⟩:=qaf h2.2;obtain⟨A3,n3,c3,rfl,-⟩:=h3.sl;exact⟨_,e,qq0 _ _ _ _ (qnm hs.1) hs.2,qq1 _ _ _ _ rfl rfl rfl,rfl,rfl,⟨_,_,rfl⟩,rfl⟩
structure BoxAt (w:World)(col:Col)(B b:Nat)(X:List Value):Prop where
 blk:Blk w b 57 X.toArray
 col:col b=0
 low:B≤b
theorem BoxAt.rest(h:BoxAt w col B b X)(hr:Rest w col w' col'):BoxAt w' col' B b X:=⟨hr.blk h.blk h.col,(hr.block b h.blk.lt h.col).2,h.low⟩
theorem qzy{v:World}(h:Sit W B v col g gw tb c s)(cs:Array Value)(X:List Value):
 Sit W B ((v.alloc (.cells cs 57)).setRow v.heap.size X.toArray) col g gw tb c s∧BoxAt ((v.alloc (.cells cs 57)).setRow v.heap.size X.toArray) col B v.heap.size X∧Zb v ((v.alloc (.cells cs 57)).setRow v.heap.size X.toArray):=by
 have hb:Zb v ((v.alloc (.cells cs 57)).setRow v.heap.size X.toArray):=below_setRow ((tA5 _ _).alloc (tA4 _) _) (tA4 _) _;obtain⟨L,css,h2⟩:=h.mdl;refine⟨h.call hb,⟨(Blk.new _ _ _).setRow _,?_,h.base.2.2⟩,hb⟩;by_cases e:col v.heap.size=0
 · exact e
 have:=h2.fin _ e;omega
theorem RspX.pk{a:Rsp}(h:RspX X a):RspK X:=⟨h.len,h.one⟩
theorem qzz{v:World}(h:Sit W B v col g gw tb c s)(X:List Value):∃W' G,(v.alloc (.cells Tryz.zeroCells57 57)).setRow v.heap.size X.toArray=W'∧v.heap.size=G∧Hid (Sit W B W' col g gw tb c s)∧Hid (BoxAt W' col B G X)∧Hid (Zb v W'):=by
 obtain⟨h1,h2,h3⟩:=qzy h Tryz.zeroCells57 X;exact⟨_,_,rfl,rfl,h1,h2,h3⟩
theorem xa0(h:Sit W B w col g gw tb c s)(hc:c.Ok)(id:Nat)(ii:Int)(hii:ii=(id:Int))(hid:id<4294967296)(R:Req)(ht:R.tag.length=32)(cav leafv:Value)(h1:cav.oneCell'=true)(h2:leafv.oneCell'=true):
 Zc 28 #[.pointer (some ⟨gw,0,none⟩),.int .u32 ii,.agg (reqv R cav leafv).toArray] w fun e w'=>e=.returned (.agg (reqv (byR c id R) (.slice none 0 0) leafv).toArray)∧Sit W B w' col g gw tb c s∧Zb w w':=by
 obtain⟨A,n,k,hw,-⟩:=h.wld;subst hii;refine zcb (qzl gw tb c A n k id R cav leafv w hw hc.seedb hc.seed hid ht h1 h2) fun w' b=>?_
 exact⟨rfl,h.call b,b⟩
theorem xa1{a:Rsp}(h:Sit W B w col g gw tb c s)(hc:c.Ok)(id:Nat)(R:Req)(Al:Option Addr)(n cl:Nat)(hn:R.leaf.length=n)(hdo:doS c s (byR c id R)=(s',a))(hg:(byR c id R).Good)
 (hl:Reads w w.heap.size 1 Al n (byv R.leaf))(hnc:n≤cl)(hcm:cl≤maxLen)(h0:0<n→∀ad,Al=some ad→col ad.block=0):
 Zc 17 #[.pointer (some ⟨g,0,none⟩),.agg (reqv (byR c id R) (.slice none 0 0) (.slice Al n cl)).toArray] w fun e w'=>∃X col',e=.returned (.agg X.toArray)∧RspX X a∧Sit W B w' col' g gw tb c s'∧Rest w col w' col':=by
 subst hn;have hA:Asked w col (byR c id R) none 0 Al cl:=⟨hg,hl,hnc,hcm,⟨rfl,fun h=>absurd h (by show ¬0<0;omega)⟩,tA4 _,by simp[maxLen],h0,fun h=>absurd h (by show ¬0<0;omega)⟩;have hr:=qzt (c:=c) h.ok hg;have CD:=qzu h hc (byR c id R) none 0 Al cl hA;rw[hdo]at CD hr;refine CD.mono ?_;rintro e w' ⟨v,col',rfl,h3,h4,h5⟩;obtain⟨X,rfl,hX⟩:=h3.x ⟨hr.hd,hr.tok.2.2.1⟩;exact⟨X,col',rfl,hX,h4,h5⟩
def OwnTexts (w:World)(base:Nat)(v:Value)(ls:List (List Nat)):Prop:=
 ∃vs:List Value,w.ownsRow base 23 1 v ls.length vs∧∀(i:Nat) (bs:List Nat),ls[i]? =some bs→∃u,vs[i]? =some u∧OwnB w base u bs
def Col.ext (col:Col)(base size:Nat)(g:Option Nat)(k k':Nat):Col:=fun b=>if base≤b∧b<size then(if g=some b then k else k') else col b
section
variable {w w' : World} {col : Col} {base size k k' : Nat} {g : Option Nat} {v : Value} {ls : List (List Nat)}
theorem Col.ext_old(h:b<base):col.ext base size g k k' b=col b:=by unfold Col.ext;rw[if_neg zo]
theorem Col.ext_at(h:base≤b)(h':b<size)(e:g=some b):col.ext base size g k k' b=k:=by unfold Col.ext;rw[if_pos ⟨h,h'⟩,if_pos e]
theorem Col.ext_in(h:base≤b)(h':b<size)(e:g≠some b):col.ext base size g k k' b=k':=by unfold Col.ext;rw[if_pos ⟨h,h'⟩,if_neg e]
theorem Col.ext_new{lo:Nat}(h:∀b,col b≠0→lo≤b∧b<base)(hl:lo≤base)(hs:base≤size)(hb:col.ext base size g k k' b≠0):lo≤b∧b<size:=by
 unfold Col.ext at hb;by_cases e:base≤b∧b<size
 · omega
 rw[if_neg e]at hb;have:=h b hb;omega
theorem xa2(h:w.ownsRow base e sz v n xs){g:Nat}(hg:v.ownBlock=some g):base≤g∧g<w.heap.size:=by
 rcases h.2 with⟨rfl,_⟩|⟨g',cap,cur,rfl,hb,hh,_⟩
 · cases hg
 obtain rfl:g'=g:=by simpa [Value.ownBlock] using hg
 exact⟨hb,Blk.lt (show Blk w g' e cur from hh)⟩
theorem xa3(h:w.ownsRow base e sz v n xs)(k':Nat):RowC w (col.ext base w.heap.size v.ownBlock k k') k v e sz n xs:=
 RowC.of_own h fun g hg=>Col.ext_at (xa2 h hg).1 (xa2 h hg).2 hg
theorem OwnTexts.textsC(h:OwnTexts w base v ls):TextsC w (col.ext base w.heap.size v.ownBlock k 5) k v ls:=by
 obtain⟨vs,h1,h2⟩:=h;refine⟨vs,xa3 h1 5,fun i bs hi=>?_⟩;obtain⟨u,hu,ho⟩:=h2 i bs hi;refine⟨u,hu,TextC.own ho fun g hg=>?_⟩;have hb:=xa2 ho hg;refine Col.ext_in hb.1 hb.2 fun e=>?_
 rcases qrx ho h1 zdc with h0|h0
 · rw[h0]at hg;cases hg
 exact h0 (hg.trans e.symm)
theorem xa4(h:w.ownsRow base e sz v n xs)(hn:0<n):∃g c,v=.slice (some ⟨g,0,none⟩) n c∧base≤g∧g<w.heap.size∧∀(col:Col) (k:Nat),col g=k→TopAt w col k e g c sz n xs:=by
 rcases h.2 with⟨_,h0⟩|⟨g,cap,cur,rfl,hb,hh,hnc,hc,hsz,ht⟩
 · omega
 have hlt:=Blk.lt (show Blk w g e cur from hh);refine⟨g,cap,rfl,hb,hlt,fun col k hk=>⟨hk,cur.toList.drop (n*sz),?_,h.1,hnc,hc,?_⟩⟩
 · rw[←ht,List.take_append_drop]
   exact hh
 rw[h.1,tBk,Array.length_toList,hsz];have:n*sz≤cap*sz:=Nat.mul_le_mul_right _ hnc;omega
end
structure Cpy (w0:World)(lo:Nat)(w:World)(col:Col)(L:Loc)(css0 css:List (List Value))(j:Nat)(s:Sta):Prop where
 tens:TopAt w col 2 92 L.tg L.tc 6 16 (s.tens.flatMap tenv)
 tres:TopAt w col 3 74 L.rg L.rc 75 16 css.flatten
 gras:TopAt w col 4 66 L.gg L.gc 4 s.gras.length (s.gras.flatMap grav)
 len:css.length=16
 lens:∀c∈css,c.length=75
 done_:∀i t,i<j→s.tres[i]? =some t→∃cs,css[i]? =some cs∧TreAt w col i cs t
 rest:∀i,j≤i→css[i]? =css0[i]?
 new:∀b,col b≠0→lo≤b∧b<w.heap.size
 low:w0.heap.size≤lo∧lo≤w.heap.size
 below:Zb w0 w
section
variable {w0 w w' w1 w2 w3 : World} {col : Col} {L : Loc} {css0 css : List (List Value)} {j lo : Nat} {s : Sta}
theorem Cpy.keeps(h:Cpy w0 lo w col L css0 css j s)(ht:Turns (fun _=>false) w col w' col')(hn:∀b,col' b≠0→lo≤b∧b<w'.heap.size):Cpy w0 lo w' col' L css0 css j s:=
 ⟨h.tens.keep (ht.keeps rfl),h.tres.keep (ht.keeps rfl),h.gras.keep (ht.keeps rfl),h.len,h.lens,fun i t hi h1=>by
  obtain⟨cs,h2,h3⟩:=h.done_ i t hi h1;exact⟨cs,h2,h3.keep fun k _=>ht.keeps rfl⟩,h.rest,hn,⟨h.low.1,tB1 h.low.2 ht.size⟩,h.below.trans (ht.below (B:=w0.heap.size) (fun _ _=>rfl) h.below.size)⟩
theorem Cpy.call(h:Cpy w0 lo w col L css0 css j s)(hb:Zb w w'):Cpy w0 lo w' col L css0 css j s:=
 h.keeps (Turns.of_below _ hb) fun b hb'=>⟨(h.new b hb').1,tB0 (h.new b hb').2 hb.size⟩
theorem Cpy.ext(h:Cpy w0 lo w col L css0 css j s)(hb:Zb w w')(g:Option Nat)(k k':Nat):Cpy w0 lo w' (col.ext w.heap.size w'.heap.size g k k') L css0 css j s:=
 h.keeps ((Turns.of_below _ hb).recolour fun b hb'=>Col.ext_old hb') fun b hb'=>Col.ext_new h.new h.low.2 hb.size hb'
theorem xa5(t:Tre)(a b c a' b' c':Value):over (trev t a b c) 4 [a',b',c']=trev t a' b' c':=by
 unfold over trev;simp
theorem Cpy.step(h:Cpy w0 lo w col L css0 css j s)(ht:s.tres[j]? =some t)(hs:s.tres.length=16){a b c:Value}(h0:css0[j]? =some (trev t a b c))
 (hd:w1.ownsRow w.heap.size 22 1 vd t.draws.length (drwv t.draws))(b1:Zb w w1)(hl:OwnTexts w2 w1.heap.size vl t.leaves)(b2:Zb w1 w2)(hq:OwnTexts w3 w2.heap.size vq t.queue)(b3:Zb w2 w3):
 ∃col',Cpy w0 lo (w3.setCells L.rg (j*75+4) [vd,vl,vq]) col' L css0 (css.modify j fun x=>over x 4 [vd,vl,vq]) (j+1) s:=by
 obtain⟨hj,_⟩:=tA8 ht;have c1:=h.ext b1 vd.ownBlock (10+3*j) 0;have c2:=c1.ext b2 vl.ownBlock (11+3*j) 5;have c3:=c2.ext b3 vq.ownBlock (12+3*j) 5;have r1:RowC w1 (col.ext w.heap.size w1.heap.size vd.ownBlock (10+3*j) 0) (10+3*j) vd _ _ _ _:=xa3 hd 0;have r2:TextsC w2 ((col.ext w.heap.size w1.heap.size vd.ownBlock (10+3*j) 0).ext w1.heap.size w2.heap.size vl.ownBlock (11+3*j) 5) (11+3*j) vl t.leaves:=hl.textsC;have r3:TextsC w3 (((col.ext w.heap.size w1.heap.size vd.ownBlock (10+3*j) 0).ext w1.heap.size w2.heap.size vl.ownBlock (11+3*j) 5).ext w2.heap.size w3.heap.size vq.ownBlock (12+3*j) 5) (12+3*j) vq t.queue:=hq.textsC;obtain⟨C1,hC1⟩:=eqx (col.ext w.heap.size w1.heap.size vd.ownBlock (10+3*j) 0);rw[←hC1]at c1 c2 c3 r1 r2 r3;obtain⟨C2,hC2⟩:=eqx (C1.ext w1.heap.size w2.heap.size vl.ownBlock (11+3*j) 5);rw[←hC2]at c2 c3 r2 r3;obtain⟨C3,hC3⟩:=eqx (C2.ext w2.heap.size w3.heap.size vq.ownBlock (12+3*j) 5);rw[←hC3]at c3 r3;have t2:Turns (fun _=>false) w1 C1 w2 C2:=(Turns.of_below _ b2).recolour fun b hb=>by rw[hC2];exact Col.ext_old hb
 have t3:Turns (fun _=>false) w2 C2 w3 C3:=(Turns.of_below _ b3).recolour fun b hb=>by rw[hC3];exact Col.ext_old hb
 have r1':=r1.keep ((t2.trans t3).keeps rfl);have r2':=r2.keep (t3.keeps rfl) (t3.keeps rfl);have hT:Turns (· ==3) w3 C3 (w3.setCells L.rg (j*75+4) [vd,vl,vq]) C3:=Turns.setCells _ (by simp[c3.tres.1]);have k1:∀i,i≠3→KeepsCol i w3 C3 (w3.setCells L.rg (j*75+4) [vd,vl,vq]) C3:=fun i hi=>hT.keeps (by simpa using hi)
 have hcj:css[j]? =some (trev t a b c):=(h.rest j (tA4 _)).trans h0;have hfl:css.flatten.length=1200:=by rw[qnh h.lens,h.len]
 refine⟨C3,c3.tens.keep (k1 2 zdc),?_,c3.gras.keep (k1 4 zdc),by rw[List.length_modify];exact h.len,?_,?_,?_,fun b hb=>⟨(c3.new b hb).1,tB0 (c3.new b hb).2 hT.size⟩,⟨c3.low.1,tB1 c3.low.2 hT.size⟩,c3.below.trans (hT.below (B:=w0.heap.size) (fun b hb=>?_) c3.below.size)⟩
 · have:=c3.tres.over (o:=j*75+4) (cs:=[vd,vl,vq]) (by rw[hfl];simp only[tBi,List.length_nil];omega)
   rwa[qni _ h.lens (by rw[h.len];omega) zm]at this
 · intro x hx
   rcases qo3 hx with h1|⟨y,h1,rfl⟩
   · exact h.lens x h1
   rw[qn7 (by rw[h.lens y (tB2 h1)];simp)];exact h.lens y (tB2 h1)
 ·
  intro i t' hi ht';by_cases e:j=i
  · subst e
    rw[ht]at ht';injection ht' with ht';subst ht';refine⟨_,qo9 _ hcj,vd,vl,vq,xa5 ..,r1'.keep (k1 _ zo),r2'.keep (k1 _ zo) (k1 5 zdc),r3.keep (k1 _ zo) (k1 5 zdc)⟩
  obtain⟨cs,h1,h2⟩:=c3.done_ i t' zo ht';exact⟨cs,by rw[qoa _ _ e];exact h1,h2.keep fun k hk=>k1 k zo⟩
 · intro i hi
   rw[qoa _ _ zo];exact h.rest i zo
 by_cases e:C3 b=0
 · rw[e];rfl
 have:=(c3.new b e).1;have:=c3.low.1;omega
theorem Cpy.box(h:Cpy w0 lo w col L css0 css j s)(hg:w.grownBy w' (some b))(h1:w0.heap.size≤b)(h2:b<lo):Cpy w0 lo w' col L css0 css j s:=by
 have h0:col b=0:=by
  by_cases e:col b=0
  · exact e
  have:=(h.new b e).1;omega
 have ht:Turns (· ==0) w col w' col:=Turns.of_grown hg (fun k e=>by injection e with e;subst e;simp[h0]) (fun _ _=>rfl);exact⟨h.tens.keep (ht.keeps rfl),h.tres.keep (ht.keeps rfl),h.gras.keep (ht.keeps rfl),h.len,h.lens,fun i t hi h1=>by
  obtain⟨cs,h2,h3⟩:=h.done_ i t hi h1;exact⟨cs,h2,h3.keep fun k hk=>ht.keeps (by simp;omega)⟩,h.rest,fun b hb=>⟨(h.new b hb).1,tB0 (h.new b hb).2 hg.size⟩,⟨h.low.1,tB1 h.low.2 hg.size⟩,h.below.grown hg h.below.size (fun k e=>by injection e with e;omega)⟩
theorem Cpy.start{css:List (List Value)}(hs:s.Ok)(hl:css.length=16)(h75:∀c∈css,c.length=75)(ha:w.ownsRow lo 92 6 va 16 (s.tens.flatMap tenv))(hr:w.ownsRow lo 74 75 vr 16 css.flatten)(hg:w.ownsRow lo 66 4 vg s.gras.length (s.gras.flatMap grav))
 (h0:w0.heap.size≤lo)(h1:lo≤w.heap.size)(hb:Zb w0 w):
 ∃col L,va=.slice (some ⟨L.tg,0,none⟩) 16 L.tc∧vr=.slice (some ⟨L.rg,0,none⟩) 16 L.rc∧vg=.slice (some ⟨L.gg,0,none⟩) s.gras.length L.gc∧Cpy w0 lo w col L css css 0 s:=by
 have sg:0<s.gras.length:=by obtain⟨h,_⟩:=tA8 hs.owner;exact h
 have n1:=qrx ha hr zdc;have n2:=qrx ha hg zdc;have n3:=qrx hr hg zdc;obtain⟨tg,tc,rfl,t1,t2,tt⟩:=xa4 ha zdc;obtain⟨rg,rc,rfl,r1,r2,rt⟩:=xa4 hr zdc;obtain⟨gg,gc,rfl,g1,g2,gt⟩:=xa4 hg sg;simp only[Value.ownBlock,Option.some.injEq,reduceCtorEq,false_or,ne_eq]at n1 n2 n3;refine⟨fun b=>if b=tg then 2 else if b=rg then 3 else if b=gg then 4 else 0,⟨tg,tc,rg,rc,gg,gc,none,0,0⟩,rfl,rfl,rfl,tt _ _ zm,rt _ _ ?_,gt _ _ ?_,hl,h75,fun i t hi=>absurd hi zo,fun _ _=>rfl,fun b hb=>?_,⟨h0,h1⟩,hb⟩
 · rw[if_neg (fun e=>n1 e.symm),if_pos rfl]
 · rw[if_neg (fun e=>n2 e.symm),if_neg (fun e=>n3 e.symm),if_pos rfl]
 by_cases e1:b=tg
 · omega
 by_cases e2:b=rg
 · omega
 by_cases e3:b=gg
 · omega
 rw[if_neg e1,if_neg e2,if_neg e3]at hb;exact absurd rfl hb
theorem Cpy.stAt(h:Cpy w0 lo w col L css0 css 16 s)(hs:s.tres.length=16):StAt 92 74 66 w col 2 L css s:=
 ⟨h.tens,h.tres,h.gras,h.len.trans hs.symm,fun i t ht=>h.done_ i t (by obtain⟨hi,_⟩:=tA8 ht;omega) ht⟩
end
structure CpT (w0 w:World)(base:Nat)(v:Value)(n:Nat)(vs vsj:List Value)(ls:List (List Nat))(j:Nat):Prop where
 row:w.ownsRow base 23 1 v n vsj
 done_:∀(i:Nat) (bs:List Nat),i<j→ls[i]? =some bs→∃u,vsj[i]? =some u∧OwnB w base u bs
 rest:∀i,j≤i→vsj[i]? =vs[i]?
 low:base≤w.heap.size
 below:Below base w0 w
theorem xa6{c:Nat}(h:w.ownsRow base e 1 (.slice (some ⟨g,0,none⟩) n c) n xs)(u:Value):(w.setCell ⟨g,j,none⟩ u).ownsRow base e 1 (.slice (some ⟨g,0,none⟩) n c) n (xs.set j u):=by
 refine⟨by rw[List.length_set];exact h.1,?_⟩;rcases h.2 with⟨e0,_⟩|⟨g',cap,cur,e0,hb,hh,hnc,hc,hsz,ht⟩
 · cases e0
 injection e0 with e1 e2 e3;injection e1 with e1;injection e1 with e1;subst e1 e3;have h2:=Blk.set_ (show Blk w g e cur from hh) j u;refine .inr ⟨g,c,cur.setIfInBounds j u,rfl,hb,h2,hnc,hc,by rw[Array.size_setIfInBounds];exact hsz,?_⟩;rw[Array.toList_setIfInBounds,List.take_set,ht]
theorem CpT.step{c:Nat}{ls:List (List Nat)}(h:CpT w0 w base (.slice (some ⟨g,0,none⟩) n c) n vs vsj ls j)(hj:ls[j]? =some bs)(hjn:j<n)(hn:vsj.length=n)
 (b2:Zb w w2)(ho:OwnB w2 w.heap.size u bs)(hg:base≤g):CpT w0 (w2.setCell ⟨g,j,none⟩ u) base (.slice (some ⟨g,0,none⟩) n c) n vs (vsj.set j u) ls (j+1):=by
 have h2:=qr8 h.row b2;have far:∀{x:Value} {l:List Nat} {b:Nat},OwnB w2 b x l→OwnB (w2.setCell ⟨g,j,none⟩ u) b x l:=fun hx=>hx.far (by
  rcases qrx hx h2 zdc with e|e
  · rw[e];simp
  exact e) u
 refine⟨xa6 h2 u,fun i b hi hb=>?_,fun i hi=>?_,?_,?_⟩
 ·
  by_cases e:j=i
  · subst e
    rw[hj]at hb;injection hb with hb;subst hb;exact⟨u,by rw[List.getElem?_set_self zo],far (ho.mono h.low)⟩
  obtain⟨x,h3,h4⟩:=h.done_ i b zo hb;exact⟨x,by rw[List.getElem?_set_ne e];exact h3,far (h4.kept b2)⟩
 · rw[List.getElem?_set_ne zo]
   exact h.rest i zo
 · exact tB1 h.low (tB1 b2.size (qab (tB9 w2 (some g)) (p:=⟨g,j,none⟩) (.inl rfl) u).size)
 refine h.below.trans ((b2.mono h.low).grown (qab (tB9 w2 (some g)) (p:=⟨g,j,none⟩) (.inl rfl) u) ?_ ?_)
 · exact tB1 h.low b2.size
 intro k hk;injection hk with hk;omega
theorem xa7(z:List Value)(n sz:Nat)(hz:z.length=sz)(h0:0<sz):madeCells z.toArray (n*sz)=(List.replicate n z).flatten.toArray:=by
 apply Array.ext';apply List.ext_getElem?;intro i;by_cases hi:i<n*sz
 ·
  have hq:i / sz<n:=Nat.div_lt_of_lt_mul (by rwa[Nat.mul_comm]at hi);have hr:i % sz<sz:=Nat.mod_lt _ h0;have e:=qng (sz:=sz) (L:=List.replicate n z) (n:=i / sz) (j:=i % sz) (c:=z) (fun c hc=>by rw[List.eq_of_mem_replicate hc];exact hz) (by rw[List.getElem?_replicate,if_pos hq]) hr;rw[Nat.div_add_mod' i sz]at e;have e2:(madeCells z.toArray (n*sz)).toList[i]? =some (z.toArray[i % z.toArray.size]!):=by
   simp[madeCells,hi]
  rw[e2];show _=(List.replicate n z).flatten[i]?;rw[e,tB6,hz,List.getElem!_toArray,List.getElem!_eq_getElem?_getD];rw[tA7 zo];rfl
 have e1:(madeCells z.toArray (n*sz)).toList.length=n*sz:=by rw[Array.length_toList,size_madeCells]
 have e2:(List.replicate n z).flatten.length=n*sz:=by rw[qnh (sz:=sz) (fun c hc=>by rw[List.eq_of_mem_replicate hc];exact hz),List.length_replicate]
 rw[List.getElem?_eq_none zo];exact(List.getElem?_eq_none (by show (List.replicate n z).flatten.length≤i;omega)).symm
theorem xa8:((Tryz.prog.info? 92).bind fun i=>i.zero.map fun z=>(z.cells,i.size,i.bytes))=some ((tenv Ten.zero).toArray,6,24):=by kernel_rfl
theorem xa9:((Tryz.prog.info? 74).bind fun i=>i.zero.map fun z=>(z.cells,i.size,i.bytes))=some ((trev Tre.zero (.slice none 0 0) (.slice none 0 0) (.slice none 0 0)).toArray,75,200):=by kernel_rfl
theorem xaa{C:Array Value}(h:((Tryz.prog.info? e).bind fun i=>i.zero.map fun z=>(z.cells,i.size,i.bytes))=some (C,sz,by_)):∃i z,Tryz.prog.info? e=some i∧i.zero=some z∧z.cells=C∧i.size=sz∧i.bytes=by_:=by
 rcases h1:Tryz.prog.info? e with _|i
 · rw[h1]at h;cases h
 rcases h2:i.zero with _|z
 · rw[h1]at h;simp[h2]at h
 rw[h1]at h;simp[h2]at h;exact⟨i,z,rfl,h2,h.1,h.2.1,h.2.2⟩
def zTen:List Value:=(List.replicate 16 (tenv Ten.zero)).flatten
def zTre:List Value:=(List.replicate 16 (trev Tre.zero (.slice none 0 0) (.slice none 0 0) (.slice none 0 0))).flatten
theorem xab:(trev Tre.zero (.slice none 0 0) (.slice none 0 0) (.slice none 0 0)).length=75:=by decide
theorem xac(w:World):(Instr.makeSlice 45 (.int .i64 16) (.int .i64 16)).run Tryz.prog w=.ok (.slice (some ⟨w.heap.size,0,none⟩) 16 16) (w.alloc (.cells zTen.toArray 92)):=by
 obtain⟨i,z,hi,hz,hc,hs,hb⟩:=xaa xa8;have h:=run_make (P:=Tryz.prog) w 45 92 i z Tryz.underlying45 hi hz .i64 .i64 16 16 zdc zdc (by rw[hb];decide) zdc;rw[h,hc,hs,show (16:Int).toNat=16 from rfl,xa7 _ 16 6 rfl zdc];rfl
theorem xad(w:World):(Instr.makeSlice 46 (.int .i64 16) (.int .i64 16)).run Tryz.prog w=.ok (.slice (some ⟨w.heap.size,0,none⟩) 16 16) (w.alloc (.cells zTre.toArray 74)):=by
 obtain⟨i,z,hi,hz,hc,hs,hb⟩:=xaa xa9;have h:=run_make (P:=Tryz.prog) w 46 74 i z Tryz.underlying46 hi hz .i64 .i64 16 16 zdc zdc (by rw[hb];decide) zdc;rw[h,hc,hs,show (16:Int).toNat=16 from rfl,xa7 _ 16 75 xab zdc];rfl
def tre0 (h:Hd):Tre:={Tre.zero with state:=1,weight:=1,draws:=[0],hd:=h}
def ten0:Ten:=⟨true,1048576,1048576,1048576,32768,0⟩
def newH (h:Hd):Sta:=⟨0,0,0,ten0::List.replicate 15 Ten.zero,tre0 h::List.replicate 15 Tre.zero,[⟨0,4,18446744073709551615,false⟩]⟩
theorem xae(c:Cfg):newS c=newH (pubT c 0 0 (tre0 Hd.zero)):=rfl
theorem xaf:(newH Hd.zero).Ok:={
 clock:=by decide
 draw:=by decide
 lane:=by decide
 tensn:=rfl
 tresn:=rfl
 grasn:=by decide
 tens:=fun x hx=>by
  rcases List.mem_cons.1 hx with rfl|h
  · exact⟨by decide,by decide,by decide,by decide,by decide⟩
  rw[List.eq_of_mem_replicate h];exact Ten.zero_ok
 tres:=fun x hx=>by
  rcases List.mem_cons.1 hx with rfl|h
  · exact {Tre.zero_ok with state:=by show (0:Int)≤1∧(1:Int)≤4;decide,weight:=by show (0:Int)≤1∧(1:Int)≤4;decide,live:=fun _=>⟨by show (1:Int)≤1;decide,by simp[tre0]⟩,draws:=by simp[tre0],drawb:=fun x hx=>by obtain rfl:=List.mem_singleton.1 hx;decide}
  rw[List.eq_of_mem_replicate h];exact Tre.zero_ok
 gras:=fun x hx=>by
  obtain rfl:=List.mem_singleton.1 hx;exact⟨by decide,by decide,by decide⟩
 owner:=rfl
 first:=⟨_,rfl,rfl,rfl⟩}
def z75:List Value:=trev Tre.zero (.slice none 0 0) (.slice none 0 0) (.slice none 0 0)
def cssH (dg:Nat)(h:Hd):List (List Value):=trev (tre0 h) (.slice (some ⟨dg,0,none⟩) 1 1) (.slice none 0 0) (.slice none 0 0)::List.replicate 15 z75
theorem xag(dg:Nat){h:Hd}(ho:h.Ok):∀c∈cssH dg h,c.length=75:=by
 intro c hc;rcases List.mem_cons.1 hc with rfl|hc
 · exact qnn _ _ _ ho
 rw[List.eq_of_mem_replicate hc];exact xab
theorem xah(z r cs:List Value)(h:cs.length=z.length):over (z++r) 0 cs=cs++r:=by
 unfold over;rw[List.take_zero,List.nil_append,Nat.zero_add,h,List.drop_left]
theorem xai(h:Hd):over zTen 0 (tenv ten0)=(newH h).tens.flatMap tenv:=by
 have e:zTen=tenv Ten.zero++(List.replicate 15 (tenv Ten.zero)).flatten:=rfl;rw[e];exact(xah (tenv Ten.zero) _ (tenv ten0) rfl).trans rfl
theorem xaj(dg:Nat):over zTre 0 (trev (tre0 Hd.zero) (.slice (some ⟨dg,0,none⟩) 1 1) (.slice none 0 0) (.slice none 0 0))=(cssH dg Hd.zero).flatten:=by
 have e:zTre=z75++(List.replicate 15 z75).flatten:=rfl;rw[e];exact(xah z75 _ (trev (tre0 Hd.zero) (.slice (some ⟨dg,0,none⟩) 1 1) (.slice none 0 0) (.slice none 0 0)) ((qnn _ _ _ Hd.zero_Ok).trans xab.symm)).trans rfl
theorem xak(dg:Nat){h:Hd}(ho:h.Ok):over (cssH dg Hd.zero).flatten 7 (hdv h)=(cssH dg h).flatten:=by
 have e:=qni (sz:=75) (L:=cssH dg Hd.zero) (n:=0) (j:=7) (hdv h) (xag dg Hd.zero_Ok) (by simp[cssH]) (by rw[qnm ho];decide);rw[show 0*75+7=7 from rfl]at e;rw[e];unfold cssH;rw[List.modify_zero_cons,qpm _ _ _ _ _ Hd.zero_Ok ho];rfl
theorem xal{c:Nat}(h:Blk w g e xs.toArray)(hc:col g=k)(hl:xs.length=c*size)(hm:c≤maxLen):TopAt w col k e g c size c xs:=
 ⟨hc,[],by rw[List.append_nil];exact h,hl,tA4 _,hm,by simpa using hl⟩
theorem xam{h:Hd}(ho:h.Ok)(ht:Blk w tg 92 ((newH h).tens.flatMap tenv).toArray)(hr:Blk w rg 74 (cssH dg h).flatten.toArray)
 (hg:Blk w gg 66 #[.int .i64 0,.int .i64 4,.int .u64 18446744073709551615,.bool false])(hd:Blk w dg 22 #[.int .u32 0])(h1:B≤tg)(h2:B≤rg)(h3:B≤gg)(h4:B≤dg):
 ∃col,StAt 92 74 66 w col 2 ⟨tg,16,rg,16,gg,1,none,0,0⟩ (cssH dg h) (newH h)∧∀b,col b≠0→B≤b∧b<w.heap.size:=by
 have n1:tg≠rg:=ht.ne_ hr zdc;have n2:tg≠gg:=ht.ne_ hg zdc;have n3:rg≠gg:=hr.ne_ hg zdc;have n4:tg≠dg:=ht.ne_ hd zdc;have n5:rg≠dg:=hr.ne_ hd zdc;have n6:gg≠dg:=hg.ne_ hd zdc;have z1:(fun b=>if b=tg then 2 else if b=rg then 3 else if b=gg then 4 else if b=dg then 10 else 0:Col) tg=2:=by simp
 have z2:(fun b=>if b=tg then 2 else if b=rg then 3 else if b=gg then 4 else if b=dg then 10 else 0:Col) rg=3:=by simp[n1.symm]
 have z3:(fun b=>if b=tg then 2 else if b=rg then 3 else if b=gg then 4 else if b=dg then 10 else 0:Col) gg=4:=by simp[n2.symm,n3.symm]
 have z4:(fun b=>if b=tg then 2 else if b=rg then 3 else if b=gg then 4 else if b=dg then 10 else 0:Col) dg=10:=by simp[n4.symm,n5.symm,n6.symm]
 have l1:=ht.lt;have l2:=hr.lt;have l3:=hg.lt;have l4:=hd.lt;refine⟨fun b=>if b=tg then 2 else if b=rg then 3 else if b=gg then 4 else if b=dg then 10 else 0,⟨xal ht z1 (by rw[qnq];rfl) (by simp[maxLen]),xal hr z2 (by rw[qnh (xag dg ho)];rfl) (by simp[maxLen]),xal (c:=1) hg z3 rfl (by simp[maxLen]),?_⟩,?_⟩
 ·
  refine⟨rfl,fun i t hi=>?_⟩;match i,hi with
  |0,hi=>
   injection hi with hi;subst hi;refine⟨_,rfl,_,_,_,rfl,⟨rfl,.inr ⟨dg,0,1,[.int .u32 0],rfl,z4,hd,tA4 _,by simp[maxLen],by simp,rfl⟩⟩,TextsC.nil _ _ _,TextsC.nil _ _ _⟩
  |i+1,hi=>
   have hi':(List.replicate 15 Tre.zero)[i]? =some t:=hi;rw[List.getElem?_replicate]at hi';split at hi'
   · rename_i hlt
     injection hi' with hi';subst hi';refine⟨z75,?_,.slice none 0 0,.slice none 0 0,.slice none 0 0,rfl,RowC.nil _ _ _ _ _,TextsC.nil _ _ _,TextsC.nil _ _ _⟩;show (List.replicate 15 z75)[i]? =some z75;rw[List.getElem?_replicate,if_pos hlt]
   cases hi'
 intro b hb;by_cases e1:b=tg
 · omega
 by_cases e2:b=rg
 · omega
 by_cases e3:b=gg
 · omega
 by_cases e4:b=dg
 · omega
 simp[e1,e2,e3,e4]at hb
structure NewI (B:Nat)(w:World)(d1 d2 d3 d4 d5:Bool)(v1 v2 v3 v4 v5:Value):Prop where
 tens:d1=true→∃g,v1=.slice (some ⟨g,0,none⟩) 16 16∧B≤g∧Blk w g 92 zTen.toArray
 tres:d2=true→∃g,v2=.slice (some ⟨g,0,none⟩) 16 16∧B≤g∧Blk w g 74 zTre.toArray
 gras:d3=true→∃g,v3=.slice (some ⟨g,0,none⟩) 1 1∧B≤g∧Blk w g 66 #[.int .i64 0,.int .i64 4,.int .u64 18446744073709551615,.bool false]
 box:d4=true→∃g,v4=.pointer (some ⟨g,0,none⟩)∧B≤g∧Blk w g 49 #[.int .u64 0,.int .u32 0,.int .i64 0,.slice none 0 0,.slice none 0 0,.slice none 0 0]
 sv:d5=true→d1=true∧d2=true∧d3=true∧v5=.agg #[.int .u64 0,.int .u32 0,.int .i64 0,v1,v2,v3]
 low:B≤w.heap.size
section
variable {B : Nat} {w : World} {d1 d2 d3 d4 d5 : Bool} {v1 v2 v3 v4 v5 : Value}
theorem NewI.a1(h:NewI B w d1 d2 d3 d4 d5 v1 v2 v3 v4 v5)(hd:d1=false)(d:Bool):NewI B (w.alloc (.cells zTen.toArray 92)) d d2 d3 d4 d5 (.slice (some ⟨w.heap.size,0,none⟩) 16 16) v2 v3 v4 v5:=
 ⟨fun _=>⟨_,rfl,h.low,Blk.new _ _ _⟩,fun e=>by obtain⟨g,h1,h2,h3⟩:=h.tres e;exact⟨g,h1,h2,h3.alloc _⟩,fun e=>by obtain⟨g,h1,h2,h3⟩:=h.gras e;exact⟨g,h1,h2,h3.alloc _⟩,fun e=>by obtain⟨g,h1,h2,h3⟩:=h.box e;exact⟨g,h1,h2,h3.alloc _⟩,fun e=>absurd ((h.sv e).1) (by rw[hd];decide),by rw[qar];exact Nat.le_succ_of_le h.low⟩
theorem NewI.a2(h:NewI B w d1 d2 d3 d4 d5 v1 v2 v3 v4 v5)(hd:d2=false)(d:Bool):NewI B (w.alloc (.cells zTre.toArray 74)) d1 d d3 d4 d5 v1 (.slice (some ⟨w.heap.size,0,none⟩) 16 16) v3 v4 v5:=
 ⟨fun e=>by obtain⟨g,h1,h2,h3⟩:=h.tens e;exact⟨g,h1,h2,h3.alloc _⟩,fun _=>⟨_,rfl,h.low,Blk.new _ _ _⟩,fun e=>by obtain⟨g,h1,h2,h3⟩:=h.gras e;exact⟨g,h1,h2,h3.alloc _⟩,fun e=>by obtain⟨g,h1,h2,h3⟩:=h.box e;exact⟨g,h1,h2,h3.alloc _⟩,fun e=>absurd ((h.sv e).2.1) (by rw[hd];decide),by rw[qar];exact Nat.le_succ_of_le h.low⟩
theorem NewI.a3(h:NewI B w d1 d2 d3 d4 d5 v1 v2 v3 v4 v5)(hd:d3=false)(d:Bool):NewI B (w.alloc (.cells #[.int .i64 0,.int .i64 4,.int .u64 18446744073709551615,.bool false] 66)) d1 d2 d d4 d5 v1 v2 (.slice (some ⟨w.heap.size,0,none⟩) 1 1) v4 v5:=
 ⟨fun e=>by obtain⟨g,h1,h2,h3⟩:=h.tens e;exact⟨g,h1,h2,h3.alloc _⟩,fun e=>by obtain⟨g,h1,h2,h3⟩:=h.tres e;exact⟨g,h1,h2,h3.alloc _⟩,fun _=>⟨_,rfl,h.low,Blk.new _ _ _⟩,fun e=>by obtain⟨g,h1,h2,h3⟩:=h.box e;exact⟨g,h1,h2,h3.alloc _⟩,fun e=>absurd ((h.sv e).2.2.1) (by rw[hd];decide),by rw[qar];exact Nat.le_succ_of_le h.low⟩
theorem NewI.a4(h:NewI B w d1 d2 d3 d4 d5 v1 v2 v3 v4 v5)(d:Bool):NewI B (w.alloc (.cells #[.int .u64 0,.int .u32 0,.int .i64 0,.slice none 0 0,.slice none 0 0,.slice none 0 0] 49)) d1 d2 d3 d d5 v1 v2 v3 (.pointer (some ⟨w.heap.size,0,none⟩)) v5:=
 ⟨fun e=>by obtain⟨g,h1,h2,h3⟩:=h.tens e;exact⟨g,h1,h2,h3.alloc _⟩,fun e=>by obtain⟨g,h1,h2,h3⟩:=h.tres e;exact⟨g,h1,h2,h3.alloc _⟩,fun e=>by obtain⟨g,h1,h2,h3⟩:=h.gras e;exact⟨g,h1,h2,h3.alloc _⟩,fun _=>⟨_,rfl,h.low,Blk.new _ _ _⟩,h.sv,by rw[qar];exact Nat.le_succ_of_le h.low⟩
theorem NewI.a5(h:NewI B w d1 d2 d3 d4 d5 v1 v2 v3 v4 v5)(h1:d1=true)(h2:d2=true)(h3:d3=true)(d:Bool):NewI B w d1 d2 d3 d4 d v1 v2 v3 v4 (.agg #[.int .u64 0,.int .u32 0,.int .i64 0,v1,v2,v3]):=
 ⟨h.tens,h.tres,h.gras,h.box,fun _=>⟨h1,h2,h3,rfl⟩,h.low⟩
end
theorem xan(c:Cfg)(As:Option Addr)(ns cs:Nat)(w:World)(hc:c.Ok)(hr:Reads w w.heap.size 1 As ns (byv c.seed))(hT:Tabs w):
 Zc 46 #[.agg #[.int .i64 c.width,.int .i64 c.quantum,.int .u32 (c.store:Int),.slice As ns cs]] w fun e w'=>∃col L css,e=.returned (.tuple #[.agg (stav (newS c) L).toArray,.int .i64 0])∧StAt 92 74 66 w' col 2 L css (newS c)∧(∀b,col b≠0→w.heap.size≤b∧b<w'.heap.size)∧Below w.heap.size w w':=by
 obtain⟨W0,hW0⟩:=eqx ((w.alloc (.cells #[.int .i64 c.width,.int .i64 c.quantum,.int .u32 (c.store:Int),.slice As ns cs] 25)).alloc (.cells #[.int .u64 0,.int .u32 0,.int .i64 0,.slice none 0 0,.slice none 0 0,.slice none 0 0] 49));have k0:=zNb hW0;have z0:=zNc hW0;have b0:=zMb hW0;have hn:=qb4 hr;have hs64:=hc.seed;have q1:¬c.width<1:=by have:=hc.w1;omega
 have q2:¬(32:Int)<c.width:=by have:=hc.w2;omega
 have q3:¬c.quantum<1:=by have:=hc.q1;omega
 have q4:¬(2:Int)<c.quantum:=by have:=hc.q2;omega
 have q5:¬(32768:Int)<(c.store:Int):=by have:=hc.store;omega
 have q6:¬(64:Int)<(ns:Int):=zo;obtain⟨AE,K0,Z0,B0,HC,HR,HT,A3⟩:=zh8 hW0 k0 z0 b0 hc hr hT (show W0.heap.size=w.heap.size+1+1 by rw[hW0,qar,qar]);clear hW0 k0 z0 b0 hc hr hT hn hs64;go_enter Tryz.func46,Tryz.ntmps46
 go_upto_region 3 with(fail)
 rw[←AE.o];clear q1 q2 q3 q4 q5 q6;obtain⟨S,HS⟩:=zS fun w'=>Below W0.heap.size W0 w'
 refine qp0 S 6 [37,38,40,41,4] [(2,false)] 5 [(0,[]),(1,[]),(3,[]),(4,[0,1,3]),(5,[])] [(6,true)] #[false,false,true,false,false,false,false] #[true,true,true,true,true,true,false] zk rfl zk zk zk zk zk zk (fun _ _ d _ _ h=>by cases d<;>exact h) ((HS.o _).mpr (tA5 _ W0).drew) ?_;refine qju rfl rfl ⟨?_,fun w1 hS=>?_,?_⟩;rotate_left
 · go_simp
   try rfl
 refine zP ?_;refine qjt ?_;have keepS:∀w' o,S w'→W0.heap.size≤w'.heap.size→S (w'.alloc o):=fun w' o h hl=>by
  rw[HS.o]at h ⊢;exact h.alloc hl _
 refine⟨fun Dn vs w'=>∃v1 v2 v3 v5 v4,vs=[v1,v2,v3,v5,v4]∧NewI W0.heap.size w' (Dn 0) (Dn 1) (Dn 3) (Dn 5) (Dn 4) v1 v2 v3 v4 v5,⟨[_,_,_,_,_],rfl,_,_,_,_,_,rfl,?_⟩,⟨?_,?_,?_,?_,?_,trivial⟩,?_⟩
 · exact⟨fun h=>(nomatch h),fun h=>(nomatch h),fun h=>(nomatch h),fun h=>(nomatch h),fun h=>(nomatch h),tA4 _⟩
 ·
  rintro Dn vs w' hS ⟨v1,v2,v3,v5,v4,rfl,hI⟩ hD hd;simp only[puts,Act.put,tA0,tA1,tA2];have hm:=xac w';refine qp3 fun K hK=>qjq rfl rfl ?_
  go_simp;exact hK _ _ ⟨keepS _ _ hS hI.low,[_,_,_,_,_],rfl,_,_,_,_,_,rfl,by simpa using hI.a1 hD true⟩
 ·
  rintro Dn vs w' hS ⟨v1,v2,v3,v5,v4,rfl,hI⟩ hD hd;simp only[puts,Act.put,tA0,tA1,tA2];have hm:=xad w';refine qp3 fun K hK=>qjq rfl rfl ?_
  go_simp;exact hK _ _ ⟨keepS _ _ hS hI.low,[_,_,_,_,_],rfl,_,_,_,_,_,rfl,by simpa using hI.a2 hD true⟩
 · rintro Dn vs w' hS ⟨v1,v2,v3,v5,v4,rfl,hI⟩ hD hd
   simp only[puts,Act.put,tA0,tA1,tA2];refine qp3 fun K hK=>qjq rfl rfl ?_
   go_simp;exact hK _ _ ⟨keepS _ _ hS hI.low,[_,_,_,_,_],rfl,_,_,_,_,_,rfl,by simpa using hI.a3 hD true⟩
 ·
  rintro Dn vs w' hS ⟨v1,v2,v3,v5,v4,rfl,hI⟩ hD hd;simp only[puts,Act.put,tA0,tA1,tA2];have d0:=hd 0 zm;have d1:=hd 1 zm;have d3:=hd 3 zm;obtain⟨g1,rfl,-⟩:=hI.tens d0;obtain⟨g2,rfl,-⟩:=hI.tres d1;obtain⟨g3,rfl,-⟩:=hI.gras d3;refine qp3 fun K hK=>qjq rfl rfl ?_
  go_simp;exact hK _ _ ⟨hS,[_,_,_,_,_],rfl,_,_,_,_,_,rfl,by simpa [d0,d1,d3] using hI.a5 d0 d1 d3 true⟩
 · rintro Dn vs w' hS ⟨v1,v2,v3,v5,v4,rfl,hI⟩ hD hd
   simp only[puts,Act.put,tA0,tA1,tA2];refine qp3 fun K hK=>qjq rfl rfl ?_
   go_simp;exact hK _ _ ⟨keepS _ _ hS hI.low,[_,_,_,_,_],rfl,_,_,_,_,_,rfl,by simpa using hI.a4 true⟩
 rintro vs w5 hS5 ⟨v1,v2,v3,v5,v4,rfl,hI⟩;simp only[puts,Act.put,tA0,tA1,tA2];obtain⟨tg,rfl,lt,bt⟩:=hI.tens rfl;obtain⟨rg,rfl,lr,br⟩:=hI.tres rfl;obtain⟨gg,rfl,lg,bg⟩:=hI.gras rfl;obtain⟨sg,rfl,ls,bs⟩:=hI.box rfl;obtain⟨-,-,-,rfl⟩:=hI.sv rfl;rw[HS.o]at hS5;have b5:=hS5;clear hI keepS hS5 HS;obtain⟨SV,hSV⟩:∃SV:List Value,[.int .u64 0,.int .u32 0,.int .i64 0,.slice (some ⟨tg,0,none⟩) 16 16,.slice (some ⟨rg,0,none⟩) 16 16,.slice (some ⟨gg,0,none⟩) 1 1]=SV:=⟨_,rfl⟩;refine qbi rfl rfl ?_;refine wp_store_row 49 (.tmp 4) (.tmp 41) rfl sg #[.int .u64 0,.int .u32 0,.int .i64 0,.slice (some ⟨tg,0,none⟩) 16 16,.slice (some ⟨rg,0,none⟩) 16 16,.slice (some ⟨gg,0,none⟩) 1 1] rfl rfl 49 _ bs zk zm (by simp[Value.oneCell']) ?_;refine⟨fun h=>absurd h zdc,?_⟩;obtain⟨W1,hW1⟩:=eqx (w5.setRow sg #[.int .u64 0,.int .u32 0,.int .i64 0,.slice (some ⟨tg,0,none⟩) 16 16,.slice (some ⟨rg,0,none⟩) 16 16,.slice (some ⟨gg,0,none⟩) 1 1]);rw[←hW1];obtain⟨S1,A4,A5,A6,B1,LT,LR,LG⟩:=zh8 (show Blk W1 sg 49 #[.int .u64 0,.int .u32 0,.int .i64 0,.slice (some ⟨tg,0,none⟩) 16 16,.slice (some ⟨rg,0,none⟩) 16 16,.slice (some ⟨gg,0,none⟩) 1 1] by rw[hW1];exact bs.setRow _) (show Blk W1 tg 92 zTen.toArray by rw[hW1];exact bt.setRow_far (bt.ne_ bs zdc) _) (show Blk W1 rg 74 zTre.toArray by rw[hW1];exact br.setRow_far (br.ne_ bs zdc) _) (show Blk W1 gg 66 #[.int .i64 0,.int .i64 4,.int .u64 18446744073709551615,.bool false] by rw[hW1];exact bg.setRow_far (bg.ne_ bs zdc) _) (show Below W0.heap.size W0 W1 by rw[hW1];exact below_setRow b5 ls _) lt lr lg;have LS:=zh1 ls;clear hW1 bt br bg bs b5 lt lr lg ls hSV;refine zP ?_;refine qbf ?_;go_wp2_with fail
 refine zcb (qq7 1048576 1048576 W1 zo zo) fun w2 b2=>?_
 go_upto_region 5 with(fail)
 obtain⟨W3,hW3⟩:=eqx (w2.alloc (.cells #[.int .u32 1048576,.int .u32 1048576,.int .u32 1048576] 90));obtain⟨bg,hbg⟩:=eqx w2.heap.size;try rw[←hW3]
 rw[←hbg];have b13:Below W1.heap.size W1 W3:=by rw[hW3];exact b2.alloc b2.size _
 have q3:Blk W3 bg 90 #[.int .u32 1048576,.int .u32 1048576,.int .u32 1048576]:=by rw[hW3,hbg];exact Blk.new _ _ _
 obtain⟨B3,S3,A0,A7,A8,Q3⟩:=zh6 (B1.trans (b13.mono B1.size)) (S1.below b13 S1.lt) (A4.below b13 A4.lt) (A5.below b13 A5.lt) (A6.below b13 A6.lt) q3;have s3:=S3.cell 3;have p0:=Q3.cell 0;have p1:=Q3.cell 1;have p2:=Q3.cell 2;have hth:=qek A0.o 0 6 zdc;clear hW3 hbg b13 q3 b2;go_upto_region 6 with(refine wpList_store_mid rfl 92 (.tmp 50) (.tmp 49) rfl tg 0 #[.bool true,.int .u32 1048576,.int .u32 1048576,.int .u32 1048576,.int .u32 32768,.int .u32 0] rfl rfl hth zk (by simp[Value.oneCell']) ?_)
 obtain⟨W4,hW4⟩:=eqx (W3.setCells tg 0 (tenv ten0));change Code.wp _ _ _ _ (W3.setCells tg 0 (tenv ten0));rw[←hW4];have g34:W3.grownBy W4 (some tg):=by rw[hW4];exact qn9 tg _ 0 W3
 have t4:=qn8 (tenv ten0) 0 W3 zTen A0.o zdc;rw[←hW4]at t4;have A9:=zh1 t4;have NT:∀{x:Nat} {t:TypeId} {cs:Array Value},Blk W3 x t cs→92≠t→some x≠some tg:=fun hb hne e=>by injection e with e;exact A0.ne_ hb hne e.symm
 obtain⟨S4,A1,AA,B4⟩:=zh4 (S3.grown g34 (NT S3.o zdc)) (A7.grown g34 (NT A7.o zdc)) (A8.grown g34 (NT A8.o zdc)) (B3.grown g34 B3.size (fun k e=>by injection e with e;have:=LT.o;omega));have s4:=S4.cell 4;clear hW4 g34 t4 NT s3 p0 p1 p2 hth;obtain⟨DV,hDV⟩:=xeq (trev (tre0 Hd.zero) (.slice (some ⟨W4.heap.size,0,none⟩) 1 1) (.slice none 0 0) (.slice none 0 0));obtain⟨BT,LD,OD⟩:=zh3 (show Tryz.prog.built 74 [(0,.int .i64 1),(2,.int .i64 1),(4,.slice (some ⟨W4.heap.size,0,none⟩) 1 1)]=some DV.toArray by rw[←hDV];kernel_rfl) (show DV.length=75 by rw[←hDV];exact qnn _ _ _ Hd.zero_Ok) (show ∀u∈DV,u.oneCell'=true by rw[←hDV];exact qqp _ _ _ _ rfl rfl rfl);obtain⟨HI,AF⟩:=zh2 (zI 74 LD.o) hDV;have hth:=qek (A1.alloc (.cells #[.int .u32 0] 22)) 0 75 (by rw[show zTre.length=1200 from by rw[show zTre=(List.replicate 16 z75).flatten from rfl,qnh (sz:=75) (fun c hc=>by rw[List.eq_of_mem_replicate hc];exact xab)];rfl];omega);rw[←LD.o]at hth;have AG:=zh1 hth;clear hDV hth;go_upto_region 7 with(first
  |(refine qbj rfl ⟨.agg DV.toArray,qgq 74 _ rfl _ _ BT.o (by simp[Act.eval]),?_⟩)
  |(refine wpList_store_mid rfl 74 (.tmp 55) (.tmp 54) rfl rg 0 DV.toArray rfl rfl (by rw[tB6];exact AG.o) (by rw[tB6];exact HI.o) (all_oneCell_toArray OD.o) ?_))
 simp only[Act.put];obtain⟨W5,hW5⟩:=eqx ((W4.alloc (.cells #[.int .u32 0] 22)).setCells rg 0 DV);rw[←hW5];have hgr:(W4.alloc (.cells #[.int .u32 0] 22)).grownBy W5 (some rg):=by rw[hW5];exact qn9 rg _ 0 _
 obtain⟨dg,hdg⟩:=xeq W4.heap.size;have NR:∀{x:Nat} {t:TypeId} {cs:Array Value},Blk (W4.alloc (.cells #[.int .u32 0] 22)) x t cs→74≠t→some x≠some rg:=fun hb hne e=>by injection e with e;exact(A1.alloc _).ne_ hb hne e.symm
 have d5:Blk W5 dg 22 #[.int .u32 0]:=by rw[←hdg];exact(Blk.new W4 _ _).grown hgr (NR (Blk.new W4 _ _) zdc)
 have r5:Blk W5 rg 74 (cssH dg Hd.zero).flatten.toArray:=by
  have h:=qn8 DV 0 _ zTre (A1.alloc (.cells #[.int .u32 0] 22)) (by rw[LD.o,show zTre=(List.replicate 16 z75).flatten from rfl,qnh (sz:=75) (fun c hc=>by rw[List.eq_of_mem_replicate hc];exact xab),List.length_replicate];omega);rw[←hW5,←AF.o,hdg,xaj]at h;exact h
 have t5:Blk W5 tg 92 ((newH Hd.zero).tens.flatMap tenv).toArray:=by
  have h:=(A9.alloc (.cells #[.int .u32 0] 22)).grown hgr (NR (A9.alloc _) zdc);rw[xai Hd.zero]at h;exact h
 have g5:=(AA.alloc (.cells #[.int .u32 0] 22)).grown hgr (NR (AA.alloc _) zdc);have s5:=(S4.alloc (.cells #[.int .u32 0] 22)).grown hgr (NR (S4.alloc _) zdc);have b5:Below W0.heap.size W0 W5:=(B4.alloc B4.size _).grown hgr (by have:=B4.size;rw[qar];omega) (fun k e=>by injection e with e;have:=LR.o;omega);have ldg:W0.heap.size≤dg:=by rw[←hdg];exact B4.size
 obtain⟨col0,st0,-⟩:=xam Hd.zero_Ok t5 r5 g5 d5 LT.o LR.o LG.o ldg;obtain⟨hd,hhd⟩:=xeq (pubT c 0 0 (tre0 Hd.zero));have hdok:hd.Ok:=by rw[←hhd];exact qo8 c 0 0 (tre0 Hd.zero) zdc zdc
 obtain⟨HV,hHV⟩:=xeq (hdv hd);have CP:∀w',Below W5.heap.size W5 w'→Zc 121 #[.agg #[.int .i64 c.width,.int .i64 c.quantum,.int .u32 (c.store:Int),.slice As ns cs],.agg #[.int .u64 0,.int .u32 0,.int .i64 0,.slice (some ⟨tg,0,none⟩) 16 16,.slice (some ⟨rg,0,none⟩) 16 16,.slice (some ⟨gg,0,none⟩) 1 1],.int .i64 0] w' fun e w''=>e=.returned (.tuple #[.agg HV.toArray,.int .i64 0])∧Below w'.heap.size w' w'':=fun w' hb=>by
  have h:=qpl c (newH Hd.zero) ⟨tg,16,rg,16,gg,1,none,0,0⟩ col0 2 (cssH dg Hd.zero) 0 (tre0 Hd.zero) As ns cs w' HC.o xaf (HR.call (B0.trans ((b5.trans (hb.mono b5.size)).mono B0.size))) (st0.keep ((Turns.of_below (fun _=>false) hb).keeps rfl) ((Turns.of_below (fun _=>false) hb).keeps rfl) ((Turns.of_below (fun _=>false) hb).keeps rfl) (fun k _=>(Turns.of_below (fun _=>false) hb).keeps rfl)) rfl (by simp[tre0]) (HT.below (B0.trans ((b5.trans (hb.mono b5.size)).mono B0.size)) HT.size);rw[show (newH Hd.zero).clock=0 from rfl,hhd,hHV]at h;exact h
 obtain⟨AH,K5,Z5,D5,R5,T5,G5,S5⟩:=zh8 CP (K0.below b5 K0.lt) (Z0.below b5 Z0.lt) d5 r5 t5 g5 s5;obtain⟨B5,AI,AB,AC,AD,A2,AJ⟩:=zh7 b5 ldg hhd hdok hHV (show HV.length=68 by rw[←hHV];exact qnm hdok) (show ∀u∈HV,u.oneCell'=true by rw[←hHV];exact qmb _);clear hW5 hgr NR d5 r5 t5 g5 s5 b5 ldg st0 CP hhd hdok hHV s4 hdg;obtain⟨S,HS9⟩:=zS fun w'=>Blk w' w.heap.size 25 #[.int .i64 c.width,.int .i64 c.quantum,.int .u32 (c.store:Int),.slice As ns cs]∧Blk w' sg 49 #[.int .u64 0,.int .u32 0,.int .i64 0,.slice (some ⟨tg,0,none⟩) 16 16,.slice (some ⟨rg,0,none⟩) 16 16,.slice (some ⟨gg,0,none⟩) 1 1]
 refine zrs S 11 (zq 0 4 ((4,true)::zq 5 5 [(10,true)])) ((HS9.o _).mpr (⟨K5.o,S5.o⟩)) ?_;obtain⟨F4,FK,FS⟩:=zh3 (fun(w':World)(h:S w')=>((((HS9.o w').mp h).2.cell 4).trans (show (#[.int .u64 0,.int .u32 0,.int .i64 0,.slice (some ⟨tg,0,none⟩) 16 16,.slice (some ⟨rg,0,none⟩) 16 16,.slice (some ⟨gg,0,none⟩) 1 1]:Array Value)[4]? =some (.slice (some ⟨rg,0,none⟩) 16 16) from rfl))) (fun(w':World)(h:S w')=>qap ((HS9.o w').mp h).1 0 [.int .i64 c.width,.int .i64 c.quantum,.int .u32 (c.store:Int),.slice As ns cs] zjq) (fun(w':World)(h:S w')=>qap ((HS9.o w').mp h).2 0 [.int .u64 0,.int .u32 0,.int .i64 0,.slice (some ⟨tg,0,none⟩) 16 16,.slice (some ⟨rg,0,none⟩) 16 16,.slice (some ⟨gg,0,none⟩) 1 1] zjq);iterate 2 (refine zre rfl rfl (fun w1 hS=>by have g4:=F4.o w1 hS;clear hS;go_simp;try rfl) ?_)
 refine qoc rfl rfl 25 (.tmp 1) rfl w.heap.size 0 rfl [.int .i64 c.width,.int .i64 c.quantum,.int .u32 (c.store:Int),.slice As ns cs] _ FK.o Tryz.underlying25 rfl zk ?_;refine zP ?_;refine qoc rfl rfl 49 (.tmp 4) rfl sg 0 rfl [.int .u64 0,.int .u32 0,.int .i64 0,.slice (some ⟨tg,0,none⟩) 16 16,.slice (some ⟨rg,0,none⟩) 16 16,.slice (some ⟨gg,0,none⟩) 1 1] _ FS.o Tryz.underlying49 rfl zk ?_;refine zP ?_;obtain⟨Wd,hWd,BD⟩:=zdr W5;rw[←hWd];clear hWd;refine qbi rfl rfl ?_;go_simp;refine zcb (AH.o Wd BD.o) fun w6 b6=>?_
 have B6:=zh1 (BD.trans (b6.mono BD.size));clear b6;refine⟨(HS9.o _).mpr ⟨K5.below B6.o K5.lt,S5.below B6.o S5.lt⟩,?_⟩;refine zP ?_;iterate 5 (refine zrb ?_)
 have r6:=R5.below B6.o R5.lt;have l75:=xag dg Hd.zero_Ok;have hfl:(cssH dg Hd.zero).flatten.length=1200:=by rw[qnh l75];rfl
 have hth:=qek r6 7 HV.toArray.size (by rw[tB6,A2.o,hfl];decide);have r7:=qn8 HV 7 w6 _ r6 (by rw[A2.o,hfl];decide);rw[←AD.o,xak dg AC.o]at r7;rw[AD.o]at r7;refine qbi rfl rfl ?_;refine wp_store_mid 55 (.tmp 65) (.tmp 62) rfl rg 7 HV.toArray rfl rfl hth (by rw[tB6,A2.o];kernel_rfl) (all_oneCell_toArray AJ.o) ?_;obtain⟨W7,hW7⟩:=eqx (w6.setCells rg 7 HV);change _∧qb9 _ _ _ _ _ _ _ (w6.setCells rg 7 HV);rw[←hW7]at r7 ⊢;have g67:w6.grownBy W7 (some rg):=by rw[hW7];exact qn9 rg _ 7 w6
 have NR:∀{x:Nat} {t:TypeId} {cs:Array Value},Blk w6 x t cs→74≠t→some x≠some rg:=fun hb hne e=>by injection e with e;exact r6.ne_ hb hne e.symm
 have mv:∀{x:Nat} {t:TypeId} {cs:Array Value},Blk W5 x t cs→74≠t→Blk W7 x t cs:=fun hb hne=>(hb.below B6.o hb.lt).grown g67 (NR (hb.below B6.o hb.lt) hne)
 have k7:=mv K5.o zdc;have s7:=mv S5.o zdc;have z7:=mv Z5.o zdc;have t7:Blk W7 tg 92 ((newH hd).tens.flatMap tenv).toArray:=mv T5.o zdc;have g7:=mv G5.o zdc;have d7:=mv D5.o zdc;have b7:Below W0.heap.size W0 W7:=(B5.trans (B6.mono B5.size)).grown g67 (tB1 B5.size B6.size) (fun k e=>by injection e with e;have:=LR.o;omega);refine⟨fun _=>(HS9.o _).mpr ⟨k7,s7⟩,?_⟩;obtain⟨col,st,nw⟩:=xam AC.o t7 r7 g7 d7 LT.o LR.o LG.o AI.o;obtain⟨ST,NW,B7,Z7,AK⟩:=zh5 st nw b7 z7 (qap s7 0 [.int .u64 0,.int .u32 0,.int .i64 0,.slice (some ⟨tg,0,none⟩) 16 16,.slice (some ⟨rg,0,none⟩) 16 16,.slice (some ⟨gg,0,none⟩) 1 1] zjq);clear hW7 g67 NR mv k7 s7 z7 t7 g7 d7 b7 st nw r6 r7 l75 hfl hth;refine zP ?_;refine qbf ?_;clear HS9 F4 FK FS;go_wp2_with (first
  |(refine qaq rfl 49 (.tmp 4) rfl sg 0 rfl [.int .u64 0,.int .u32 0,.int .i64 0,.slice (some ⟨tg,0,none⟩) 16 16,.slice (some ⟨rg,0,none⟩) 16 16,.slice (some ⟨gg,0,none⟩) 1 1] _ AK.o Tryz.underlying49 rfl zk ?_)
  |(refine wpList_store_row rfl 49 (.tmp 2) (.tmp 66) rfl (w.heap.size+1) #[.int .u64 0,.int .u32 0,.int .i64 0,.slice (some ⟨tg,0,none⟩) 16 16,.slice (some ⟨rg,0,none⟩) 16 16,.slice (some ⟨gg,0,none⟩) 1 1] rfl rfl 49 _ Z7.o zk zm (by simp[Value.oneCell']) ?_))
 have z9:=Z7.setRow #[.int .u64 0,.int .u32 0,.int .i64 0,.slice (some ⟨tg,0,none⟩) 16 16,.slice (some ⟨rg,0,none⟩) 16 16,.slice (some ⟨gg,0,none⟩) 1 1];have AL:=qap z9 0 [.int .u64 0,.int .u32 0,.int .i64 0,.slice (some ⟨tg,0,none⟩) 16 16,.slice (some ⟨rg,0,none⟩) 16 16,.slice (some ⟨gg,0,none⟩) 1 1] zjq;refine bodyPost_ret (qgu rfl rfl (run_loadVar_mid _ _ 0 _ [.int .u64 0,.int .u32 0,.int .i64 0,.slice (some ⟨tg,0,none⟩) 16 16,.slice (some ⟨rg,0,none⟩) 16 16,.slice (some ⟨gg,0,none⟩) 1 1] _ AL Tryz.underlying49 rfl zk)) rfl ⟨col,⟨tg,16,rg,16,gg,1,none,0,0⟩,cssH dg hd,?_,?_,?_,?_⟩
 · rw[xae,AB.o]
   rfl
 ·
  rw[xae,AB.o];have h9:Turns (· ==0) W7 col (W7.setRow (w.heap.size+1) #[.int .u64 0,.int .u32 0,.int .i64 0,.slice (some ⟨tg,0,none⟩) 16 16,.slice (some ⟨rg,0,none⟩) 16 16,.slice (some ⟨gg,0,none⟩) 1 1]) col:=Turns.of_grown (qam W7 (w.heap.size+1) _) (fun k e=>by
   injection e with e;by_cases h0:col k=0
   · rw[h0];rfl
   have:=(NW.o k h0).1;have:=A3.o;omega) (fun _ _=>rfl)
  exact ST.keep (h9.keeps rfl) (h9.keeps rfl) (h9.keeps rfl) (fun k hk=>h9.keeps (by simp;omega))
 · intro b hb
   have h1:=NW.o b hb;have h2:=A3.o;have h3:=(qam W7 (w.heap.size+1) #[.int .u64 0,.int .u32 0,.int .i64 0,.slice (some ⟨tg,0,none⟩) 16 16,.slice (some ⟨rg,0,none⟩) 16 16,.slice (some ⟨gg,0,none⟩) 1 1]).size;omega
 exact below_setRow (B0.trans (B7.mono B0.size)) zo _
theorem xao(hst:StAt 92 74 66 w col 2 L css s)(nw:∀b,col b≠0→b<w.heap.size)(t0:Turns (· ==0) w col w1 col)(ho:OwnB w1 w.heap.size (.slice A n k) c.seed)
 (b2:Zb w1 w2)(hg:Blk w2 g 117 (mdlv c s {L with sa:=A,sn:=n,sc:=k}))(hg1:w1.heap.size≤g)(h3:3≤w.heap.size∧∀b,b<3→col b=0):
 Mdl w2 ((col.ext w.heap.size w1.heap.size (Value.ownBlock (.slice A n k)) 5 0).put g 1) 2 g c s {L with sa:=A,sn:=n,sc:=k} css:=by
 obtain⟨C1,hC1⟩:=eqx (col.ext w.heap.size w1.heap.size (Value.ownBlock (.slice A n k)) 5 0);have t1:Turns (· ==0) w col w1 C1:=t0.recolour fun b hb=>by rw[hC1];exact Col.ext_old hb
 have t2:Turns (· ==0) w1 C1 w2 (C1.put g 1):=(Turns.of_below _ b2).recolour fun b hb=>Col.put_old _ _ zo
 have t12:=t1.trans t2;have f1:∀b,C1 b≠0→b<w1.heap.size:=fun b hb=>by
  rw[hC1]at hb;exact(Col.ext_new (lo:=0) (fun b hb=>⟨Nat.zero_le _,nw b hb⟩) (Nat.zero_le _) t0.size hb).2
 have sd:TextC w1 C1 (.slice A n k) c.seed:=TextC.own ho fun b hb=>by
  have:=xa2 ho hb;rw[hC1];exact Col.ext_at this.1 this.2 hb
 rw[←hC1];refine⟨hg,Col.put_at _ _ _,⟨tB1 h3.1 t12.size,fun b hb=>(t12.same b zo).trans (h3.2 b hb)⟩,fun b hb=>?_,sd.keep (t2.keeps rfl),?_⟩
 · by_cases e:b=g
   · subst e;exact hg.lt
   rw[Col.put_ne _ _ e]at hb;exact tB0 (f1 b hb) b2.size
 have h:=hst.keep (t12.keeps rfl) (t12.keeps rfl) (t12.keeps rfl) (fun k hk=>t12.keeps (by simp;omega));exact⟨h.tens,h.tres,h.gras,h.trs⟩
theorem xap(c:Cfg)(A:Option Addr)(n k:Nat)(w:World)(hc:c.Ok)(hr:Reads w w.heap.size 1 A n (byv c.seed))(hT:Tabs w):
 Zc 13 #[.agg #[.int .i64 c.width,.int .i64 c.quantum,.int .u32 (c.store:Int),.slice A n k]] w fun e w'=>∃g L css col,e=.returned (.tuple #[.pointer (some ⟨g,0,none⟩),.int .i64 0])∧Mdl w' col 2 g c (newS c) L css∧(∀b,b<w.heap.size→col b=0)∧Below w.heap.size w w':=by
 obtain⟨W0,hW0⟩:=eqx (w.alloc (.cells #[.int .i64 c.width,.int .i64 c.quantum,.int .u32 (c.store:Int),.slice A n k] 25));have k0:=zNa hW0;have b0:=zMa hW0;have CN:=xan c A n k W0 hc (hr.call b0) (hT.below b0 hT.size);have hn:=qb4 hr;obtain⟨s,hs⟩:=xeq (newS c);rw[hs]at CN ⊢;obtain⟨A4,A5,K0,B0,HC,HR,HT,HN⟩:=zh8 CN hW0 k0 b0 hc hr hT hn;clear CN hW0 k0 b0 hc hr hT hn hs;go_enter Tryz.func13,Tryz.ntmps13
 go_upto_region 1 with(fail)
 rw[←A5.o];have k0:=K0.o;go_wp2_with (refine qaq rfl 25 (.tmp 1) rfl w.heap.size 0 rfl [.int .i64 c.width,.int .i64 c.quantum,.int .u32 (c.store:Int),.slice A n k] _ (qap K0.o 0 [.int .i64 c.width,.int .i64 c.quantum,.int .u32 (c.store:Int),.slice A n k] zjq) Tryz.underlying25 rfl zk ?_)
 refine A4.o.mono ?_;rintro e w1 ⟨col,L,css,rfl,st,nw,b1⟩;obtain⟨SV,hSV⟩:=xeq (stav s L);have lSV:SV.length=6:=by rw[←hSV];rfl
 have oSV:∀u∈SV,u.oneCell'=true:=by rw[←hSV];exact qvp s L
 rw[hSV];obtain⟨ST,NW,B1,A6,A7,A8,A2,SN⟩:=zh8 st nw b1 hSV lSV oSV (zI 49 lSV) (Blk.new w1 49 #[.int .u64 0,.int .u32 0,.int .i64 0,.slice none 0 0,.slice none 0 0,.slice none 0 0]);clear st nw b1 hSV lSV oSV k0;go_upto_region 2 with(refine zst SN.o A2.o (by simp[A7.o]) A8.o ?_)
 obtain⟨W2,hW2⟩:=eqx ((w1.alloc (.cells #[.int .u64 0,.int .u32 0,.int .i64 0,.slice none 0 0,.slice none 0 0,.slice none 0 0] 49)).setRow w1.heap.size SV.toArray);rw[←hW2];obtain⟨sg,hsg⟩:=eqx w1.heap.size;rw[←hsg];have b12:Below w1.heap.size w1 W2:=by rw[hW2];exact below_setRow ((tA5 _ _).alloc (tA4 _) _) (tA4 _) _
 obtain⟨S2,A0⟩:=zh2 (show Blk W2 sg 49 SV.toArray by rw[hW2,hsg];exact(Blk.new _ _ _).setRow _) (show Below W0.heap.size W0 W2 from B1.trans (b12.mono B1.size));obtain⟨K2,A1,A9⟩:=zh3 (K0.below A0.o K0.lt) b12 (show W0.heap.size≤sg by rw[hsg];exact B1.size);clear hW2 hsg b12;have k3:=K2.cell 3;go_upto_region 4 with(fail)
 go_wp2_with fail
 refine(qrh A n k (byv c.seed) W2 (HR.call (B0.trans (A0.mono B0.size))) (by have:=HN.o;have:=HC.seed;omega) (qau _)).mono ?_;rintro e w3 ⟨v3,rfl,o3,b3⟩;have o3':OwnB w3 W2.heap.size v3 c.seed:=by
  have e:=HN.o;subst e;exact o3
 obtain⟨A3,n3,c3,rfl,-,-,-⟩:=o3'.sl;have kk3:=K2.below b3 K2.lt;have k3':=kk3.cell 3;have f3:=kk3.frozen 3;obtain⟨O3,B3,K3,S3⟩:=zh4 o3' b3 kk3 (S2.below b3 S2.lt);clear o3 o3' b3 kk3 k3;go_upto_region 5 with(fail)
 obtain⟨W4,hW4⟩:=eqx (w3.setCell ⟨w.heap.size,3,none⟩ (.slice A3 n3 c3));rw[←hW4];have z0:∀b,b<W0.heap.size→col b=0:=fun b hb=>by
  by_cases e:col b=0
  · exact e
  have:=(NW.o b e).1;omega
 have k4:Blk W4 w.heap.size 25 #[.int .i64 c.width,.int .i64 c.quantum,.int .u32 (c.store:Int),.slice A3 n3 c3]:=by
  have h:=K3.set_ 3 (.slice A3 n3 c3);rw[←hW4]at h;exact h
 have s4:Blk W4 sg 49 SV.toArray:=by rw[hW4];exact S3.far (p:=⟨w.heap.size,3,none⟩) (by have:=A9.o;have:=K0.lt;show sg≠w.heap.size;omega) _
 have o4:OwnB W4 W2.heap.size (.slice A3 n3 c3) c.seed:=by rw[hW4];exact O3.far (p:=⟨w.heap.size,3,none⟩) (O3.blk_ne K3.o zdc) _
 have t4:Turns (· ==0) W2 col W4 col:=by rw[hW4];exact(Turns.of_below _ B3.o).trans (Turns.setCell _ (by rw[z0 _ K0.lt];rfl))
 have b4:Below w.heap.size w W4:=by rw[hW4];exact((B0.trans ((A0.trans (B3.mono A0.size)).mono B0.size))).setCell (p:=⟨w.heap.size,3,none⟩) (tA4 _) _
 have bt:Tryz.prog.built 117 [(0,.agg #[.int .i64 c.width,.int .i64 c.quantum,.int .u32 (c.store:Int),.slice A3 n3 c3]),(1,.agg SV.toArray)]=some (mdlv c s {L with sa:=A3,sn:=n3,sc:=c3}):=by rw[←A6.o];kernel_rfl
 obtain⟨ML,hML⟩:∃ML:List Value,ML.toArray=mdlv c s {L with sa:=A3,sn:=n3,sc:=c3}:=⟨_,Array.toArray_toList⟩;rw[←hML]at bt;have oML:∀u∈ML,u.oneCell'=true:=by
  intro u hu;have h:u∈(mdlv c s {L with sa:=A3,sn:=n3,sc:=c3}):=by rw[←hML];simpa using hu
  unfold mdlv at h;simp only[List.mem_toArray,List.mem_cons,List.not_mem_nil,or_false]at h;rcases h with rfl|rfl|rfl|rfl|rfl|rfl|rfl|rfl|rfl|rfl<;>rfl
 have lML:ML.length=10:=by rw[←tB6,hML];rfl
 obtain⟨BT,AA,RK,RS,O4,T4,B4,Z0⟩:=zh8 bt hML (qap k4 0 [.int .i64 c.width,.int .i64 c.quantum,.int .u32 (c.store:Int),.slice A3 n3 c3] zjq) (qap s4 0 SV zjq) o4 t4 b4 z0;obtain⟨AB,AC,AD⟩:=zh3 (show StAt 92 74 66 W2 col 2 L css s from ST.keep ((Turns.of_below (fun _=>false) A1.o).keeps rfl) ((Turns.of_below (fun _=>false) A1.o).keeps rfl) ((Turns.of_below (fun _=>false) A1.o).keeps rfl) (fun k _=>(Turns.of_below (fun _=>false) A1.o).keeps rfl)) oML lML;clear hW4 z0 k4 s4 o4 t4 b4 bt hML oML lML k3' f3;go_wp2_with (first
  |(refine qaq rfl 25 (.tmp 1) rfl w.heap.size 0 rfl [.int .i64 c.width,.int .i64 c.quantum,.int .u32 (c.store:Int),.slice A3 n3 c3] _ RK.o Tryz.underlying25 rfl zk ?_)
  |(refine zld RS.o zu49 A2.o ?_)
  |(refine qbj rfl ⟨.agg ML.toArray,qgq 117 _ rfl _ _ BT.o (by simp[Act.eval,Act.put]),?_⟩))
 go_ret2
 refine⟨W4.heap.size,_,css,_,rfl,xao AB.o (fun b hb=>tB0 (NW.o b hb).2 A1.size) T4.o O4.o ((tA5 _ _).alloc (tA4 _) _) ?_ (tA4 _) ⟨?_,?_⟩,?_,?_⟩
 · rw[←AA.o]
   exact Blk.new _ _ _
 · have:=HT.size
   have:=B0.size;have:=A0.size;omega
 · intro b hb
   exact Z0.o b (by have:=HT.size;have:=B0.size;omega)
 ·
  intro b hb;have h1:=B0.size;have h2:=A0.size;have h3:=T4.size;rw[Col.put_old _ _ zo,Col.ext_old zo];exact Z0.o b zo
 exact B4.alloc B4.size _
theorem xaq(w:World)(b:Nat)(fr:Nat × Nat):Reads (w.alloc (.cells #[.int .u8 (b:Int)] 5 fr)) (w.alloc (.cells #[.int .u8 (b:Int)] 5 fr)).heap.size 1 (some ⟨w.heap.size,0,none⟩) 1 (byv [b]):=by
 refine⟨rfl,fun _=>⟨_,rfl,by simp,fun j u hu=>?_⟩⟩;rw[Addr.add_mid,Joins.cell_alloc_mark_at w _ _ _ _ _ rfl];simpa [byv] using hu
theorem xar(w:World):
 Zc 67 #[] w fun e w'=>∃A c,e=.returned (.agg #[.int .i64 32,.int .i64 1,.int .u32 32768,.slice A 1 c])∧Reads w' w'.heap.size 1 A 1 (byv [115])∧(∀ad,A=some ad→w.heap.size≤ad.block)∧1≤c∧c≤maxLen∧Zb w w':=by
 have hcv:=fun(w:World)(C:Array Value)(n c:Nat)=>Lib.run_convert_bytes_const (P:=Tryz.prog) w 23 5 C n c Tryz.underlying23 Tryz.underlying5
 have h1:=hcv (w.alloc (.cells #[.int .i64 0,.int .i64 0,.int .u32 0,.slice none 0 0] 25)) #[.int .u8 115] 1 1;rw[qar]at h1;clear hcv;go_enter Tryz.func67,Tryz.ntmps67
 go_wp2_with fail
 have hb:Blk ((w.alloc (.cells #[.int .i64 32,.int .i64 1,.int .u32 32768,.slice (some ⟨w.heap.size+1,0,none⟩) 1 1] 25)).alloc (.cells #[.int .u8 115] 5 (1,2))) w.heap.size 25 #[.int .i64 32,.int .i64 1,.int .u32 32768,.slice (some ⟨w.heap.size+1,0,none⟩) 1 1]:=(Blk.new w _ _).alloc _;have HR:=qap hb 0 [.int .i64 32,.int .i64 1,.int .u32 32768,.slice (some ⟨w.heap.size+1,0,none⟩) 1 1] zjq;have hr:=xaq (w.alloc (.cells #[.int .i64 32,.int .i64 1,.int .u32 32768,.slice (some ⟨w.heap.size+1,0,none⟩) 1 1] 25)) 115 (1,2);rw[qar w]at hr;refine bodyPost_ret (qao rfl rfl (run_loadVar_mid _ _ 0 _ [.int .i64 32,.int .i64 1,.int .u32 32768,.slice (some ⟨w.heap.size+1,0,none⟩) 1 1] _ HR Tryz.underlying25 rfl zk)) rfl ⟨some ⟨w.heap.size+1,0,none⟩,1,rfl,hr,fun ad e=>?_,tA4 _,by simp[maxLen],((tA5 _ _).alloc (tA4 _) _).alloc zm _⟩;injection e with e;subst e;show w.heap.size≤w.heap.size+1;omega
theorem xas(c:Cfg)(A:Option Addr)(n k:Nat)(w:World)(hr:Reads w w.heap.size 1 A n (byv c.seed)):
 Zc 14 #[.agg #[.int .i64 c.width,.int .i64 c.quantum,.int .u32 (c.store:Int),.slice A n k]] w fun e w'=>∃gw tb,e=.returned (.pointer (some ⟨gw,0,none⟩))∧WldAt w' gw tb c A n k∧w.heap.size≤gw∧w.heap.size≤tb∧Zb w w':=by
 have HR:=zh1 hr;clear hr;go_enter Tryz.func14,Tryz.ntmps14
 go_upto_region 1 with(fail)
 obtain⟨W1,hW1⟩:=eqx (w.alloc (.cells #[.int .i64 c.width,.int .i64 c.quantum,.int .u32 (c.store:Int),.slice A n k] 25));rw[←hW1];obtain⟨Z1,B1⟩:=zh2 (show Blk W1 w.heap.size 25 #[.int .i64 c.width,.int .i64 c.quantum,.int .u32 (c.store:Int),.slice A n k] by rw[hW1];exact Blk.new _ _ _) (show Zb w W1 by rw[hW1];exact qah (tA5 _ _) _);clear hW1;obtain⟨S,HS9⟩:=zS fun w'=>Zb W1 w'
 refine zrs S 5 [(1,false),(0,true),(2,false),(3,true),(4,false)] ((HS9.o _).mpr ((tA5 _ _).drew)) ?_;have A0:=zh1 (fun(w':World)(h:S w')=>qap (Z1.below ((HS9.o w').mp h) Z1.lt) 0 [.int .i64 c.width,.int .i64 c.quantum,.int .u32 (c.store:Int),.slice A n k] zjq);refine qoc rfl rfl 25 (.tmp 1) rfl w.heap.size 0 rfl [.int .i64 c.width,.int .i64 c.quantum,.int .u32 (c.store:Int),.slice A n k] _ A0.o Tryz.underlying25 rfl zk ?_;refine zP ?_;obtain⟨W2,hW2,B2⟩:=zdr W1;rw[←hW2];clear hW2;refine zw ?_;go_simp;refine(qyq W2).mono ?_;rintro e w3 ⟨rfl,t3,b3⟩;obtain⟨B3,T3⟩:=zh2 (B2.trans (b3.mono B2.size)) t3;clear t3 b3;refine⟨(HS9.o _).mpr B3.o,zput ?_⟩;iterate 1 (refine zrb ?_)
 refine zw ?_;go_simp;obtain⟨W4,hW4⟩:=eqx (w3.alloc (.cells #[.pointer (some ⟨W2.heap.size,0,none⟩),.int .i64 c.width,.int .i64 c.quantum,.int .u32 (c.store:Int),.slice A n k] 63));rw[←hW4];have b4:=zMa hW4;obtain⟨Z4,T4,B4⟩:=zh3 (show Blk W4 w3.heap.size 63 #[.pointer (some ⟨W2.heap.size,0,none⟩),.int .i64 c.width,.int .i64 c.quantum,.int .u32 (c.store:Int),.slice A n k] by rw[hW4];exact Blk.new _ _ _) (show RTab W4 W2.heap.size from Blk.below T3.o b4 (Blk.lt T3.o)) (B3.trans (b4.mono B3.size));clear hW4 b4;refine⟨(HS9.o _).mpr B4.o,zput ?_⟩;iterate 1 (refine zrb ?_)
 refine qbf ?_;clear HS9 A0;have BW:=zh1 (B1.trans (B4.mono B1.size));have s1:=B1.size;have s2:=B2.size;have s3:=B3.size;go_wp2
 go_ret
 exact⟨w3.heap.size,W2.heap.size,rfl,⟨Z4.o,T4.o,HR.call BW.o⟩,by omega,by omega,BW.o⟩
theorem Sit.make(hs:s.Ok)(hm:Mdl w col 2 g c s L css)(hb:Zb w w')(hw:WldAt w' gw tb c A n k)(h1:w.heap.size≤gw)(h2:w.heap.size≤tb)(h3:0<n→∀ad,A=some ad→col ad.block=0)
 (hT:Tabs W)(hE:ErrT W)(low:∀b,b<W.heap.size→col b=0)(hW:Zb W w):Sit W w'.heap.size w' col g gw tb c s:=by
 have z:∀b,w.heap.size≤b→col b=0:=fun b hb=>by
  by_cases e:col b=0
  · exact e
  have:=hm.fin b e;omega
 have hW':=hW.trans (hb.mono hW.size);refine⟨hs,⟨L,css,hm.call hb⟩,⟨A,n,k,hw,fun hn ad e=>⟨h3 hn ad e,?_⟩⟩,⟨z gw h1,hw.blk.lt⟩,⟨z tb h2,Blk.lt hw.tab⟩,hT.below hW' hT.size,qai hE hW',low,⟨hT.size,hW'.size,tA4 _⟩,hW'⟩;obtain⟨ad',e',hlt,_⟩:=hw.seed.2 hn;rw[e]at e';injection e' with e';subst e';exact hlt
theorem xb5(hid:id<4294967296)(hg:R.Good):(byR c id R).Good:=
 {hg with tag:=qjz _ _,tagb:=qk1 _ _,tid:=hid,cavn:=fun x hx=>(nomatch hx),cavk:=fun x hx=>(nomatch hx)}
def Req.goodB (R:Req):Bool:=
 decide (R.tag.length=32)&&R.tag.all (fun b=>decide (b<256))&&decide (R.tid<4294967296)&&R.cavs.isEmpty&&(Lit.int .i64 R.op).wf&&(Lit.int .i64 R.tree).wf&&(Lit.int .i64 R.tenant).wf&&(Lit.int .i64 R.role).wf&&(Lit.int .i64 R.state).wf&&(Lit.int .i64 R.weight).wf&&decide (R.id<4294967296)&&decide (R.lo<18446744073709551616)&&decide (R.hi<18446744073709551616)&&decide (R.rate<4294967296)&&decide (R.burst<4294967296)&&decide (R.store<4294967296)&&decide (R.expires<18446744073709551616)&&R.leaf.all (fun b=>decide (b<256))
theorem xb6(R:Req)(h:R.goodB=true):R.Good:=by
 simp only[Req.goodB,Bool.and_eq_true,decide_eq_true_eq,List.all_eq_true,List.isEmpty_iff]at h;obtain⟨⟨⟨⟨⟨⟨⟨⟨⟨⟨⟨⟨⟨⟨⟨⟨⟨h1,h2⟩,h3⟩,h4⟩,h5⟩,h6⟩,h7⟩,h8⟩,h9⟩,h10⟩,h11⟩,h12⟩,h13⟩,h14⟩,h15⟩,h16⟩,h17⟩,h18⟩:=h;exact⟨h1,h2,h3,(by rw[h4];intro x hx;cases hx),(by rw[h4];intro x hx;cases hx),h5,h6,h7,h8,h9,h10,h11,h12,h13,h14,h15,h16,h17,h18⟩
theorem xb7(W:World)(hT:Tabs W)(hE:ErrT W):Zc 27 #[] W fun e w'=>∃g gw tb B col,e=.returned (.tuple #[.pointer (some ⟨g,0,none⟩),.pointer (some ⟨gw,0,none⟩),.bool true])∧Sit W B w' col g gw tb KC K3:=by
 obtain⟨HT,HE⟩:=zh2 hT hE;clear hT hE;go_enter Tryz.func27,Tryz.ntmps27
 go_wp2_with fail
 refine(xar W).mono ?_;rintro e w1 ⟨A1,c1,rfl,r1,l1,-,-,b1⟩;have B1:=zh1 b1;have CN:=xap KC A1 1 c1 w1 KC_ok r1 (HT.below b1 HT.size);have AL:=zh1 CN;clear b1 r1 l1 CN;go_wp2_with fail
 refine AL.o.mono ?_;rintro e w2 ⟨g,L,css,col,rfl,m2,z2,b2⟩;obtain⟨M2,Z2,B2⟩:=zh3 m2 z2 b2;clear m2 z2 b2;go_wp2_with fail
 refine(xar w2).mono ?_;rintro e w3 ⟨A3,c3,rfl,r3,l3,-,-,b3⟩;have CW:=xas KC A3 1 c3 w3 r3;obtain⟨AM,B3,L3⟩:=zh3 CW b3 l3;clear CW r3 l3 b3;go_wp2_with fail
 refine AM.o.mono ?_;rintro e w4 ⟨gw,tb,rfl,wa4,lg,lt,b4⟩;have st4:Sit W w4.heap.size w4 col g gw tb KC (newS KC):=by
  have b24:=B3.trans (b4.mono B3.size);refine Sit.make qu7 M2.o b24 wa4 (tB1 B3.size lg) (tB1 B3.size lt) (fun _ ad e=>?_) HT.o HE.o (fun b hb=>Z2.o b (tB0 hb B1.size)) (B1.trans (B2.mono B1.size));by_cases e0:col ad.block=0
  · exact e0
  have h1:=M2.fin _ e0;have h2:=L3.o ad e;omega
 obtain⟨B,hB⟩:=xeq w4.heap.size;rw[hB]at st4;have S4:=zh1 st4;clear st4 wa4 lg lt b4 hB;go_upto_region 5 with(fail)
 obtain⟨Q5,hQ5⟩:=xeq (reqv qv4 (.slice none 0 0) (.slice none 0 0));have AN:=zh1 (show Tryz.prog.built 34 [(0,.int .i64 12),(3,.int .i64 1),(10,.int .u32 9),(11,.int .u32 9),(12,.int .u32 999)]=some Q5.toArray by rw[←hQ5];kernel_rfl);have A0:=xa0 S4.o KC_ok 0 0 rfl zdc qv4 zdc (.slice none 0 0) (.slice none 0 0) rfl rfl;rw[hQ5]at A0;have A2:=zh1 A0;clear A0 hQ5;go_wp2_with (refine qbj rfl ⟨.agg Q5.toArray,qgq 34 _ rfl _ _ AN.o (by simp[Act.eval]),?_⟩)
 refine A2.o.mono ?_;rintro e w5 ⟨rfl,s5,b5⟩;have A4:=xa1 s5 KC_ok 0 qv4 none 0 0 rfl qv9 (xb5 zdc (by exact xb6 _ zdc)) ⟨rfl,fun h=>absurd h zdc⟩ (tA4 _) (by simp[maxLen]) (fun h=>absurd h zdc);obtain⟨P5,hP5⟩:=xeq (reqv (byR KC 0 qv4) (.slice none 0 0) (.slice none 0 0));rw[hP5]at A4 ⊢;obtain⟨A5,S5,AO⟩:=zh3 A4 s5 b5;clear A4 hP5 s5 b5;go_wp2_with fail
 refine A5.o.mono ?_;rintro e v5 ⟨X5,col5,rfl,hX5,t5,r5⟩;have pk5:=hX5.pk;obtain⟨AE,R5,AF,N5⟩:=zh4 hX5 r5 (qzz t5 X5) (Blk.new v5 57 Tryz.zeroCells57);clear hX5 t5 r5;go_upto_region 6 with(refine qqn _ _ _ X5 N5.o pk5 ?_)
 obtain⟨W5,G5,hW5,hG5,U5,AP,AQ⟩:=AF.o;rw[hW5,hG5];clear hW5 hG5 AF N5 pk5;have B0:=zh1 (((Rest.of_below AO.o).trans R5.o).trans (Rest.of_below AQ.o));obtain⟨Q6,hQ6⟩:=xeq (reqv qv5 (.slice none 0 0) (.slice none 0 0));have AR:=zh1 (show Tryz.prog.built 34 [(0,.int .i64 6),(2,.int .i64 1),(3,.int .i64 1),(6,.int .i64 1)]=some Q6.toArray by rw[←hQ6];kernel_rfl);have A6:=xa0 U5.o KC_ok 0 0 rfl zdc qv5 zdc (.slice none 0 0) (.slice none 0 0) rfl rfl;rw[hQ6]at A6;have A7:=zh1 A6;clear A6 hQ6;go_wp2_with (refine qbj rfl ⟨.agg Q6.toArray,qgq 34 _ rfl _ _ AR.o (by simp[Act.eval]),?_⟩)
 refine A7.o.mono ?_;rintro e w6 ⟨rfl,s6,b6⟩;have A8:=xa1 s6 KC_ok 0 qv5 none 0 0 rfl qva (xb5 zdc (by exact xb6 _ zdc)) ⟨rfl,fun h=>absurd h zdc⟩ (tA4 _) (by simp[maxLen]) (fun h=>absurd h zdc);obtain⟨P6,hP6⟩:=xeq (reqv (byR KC 0 qv5) (.slice none 0 0) (.slice none 0 0));rw[hP6]at A8 ⊢;obtain⟨A9,S6,AS⟩:=zh3 A8 s6 b6;clear A8 hP6 s6 b6;go_wp2_with fail
 refine A9.o.mono ?_;rintro e v6 ⟨X6,col6,rfl,hX6,t6,r6⟩;have pk6:=hX6.pk;obtain⟨AG,R6,AH,N6⟩:=zh4 hX6 r6 (qzz t6 X6) (Blk.new v6 57 Tryz.zeroCells57);clear hX6 t6 r6;go_upto_region 7 with(refine qqn _ _ _ X6 N6.o pk6 ?_)
 obtain⟨W6,G6,hW6,hG6,U6,AT,AU⟩:=AH.o;rw[hW6,hG6];clear hW6 hG6 AH N6 pk6;have AV:=zh1 (((Rest.of_below AS.o).trans R6.o).trans (Rest.of_below AU.o));obtain⟨Q7,hQ7⟩:=xeq (reqv qv6 (.slice none 0 0) (.slice none 0 0));have AW:=zh1 (show Tryz.prog.built 34 [(0,.int .i64 10),(3,.int .i64 1),(4,.int .i64 2),(13,.int .u64 99)]=some Q7.toArray by rw[←hQ7];kernel_rfl);have AA:=xa0 U6.o KC_ok 0 0 rfl zdc qv6 zdc (.slice none 0 0) (.slice none 0 0) rfl rfl;rw[hQ7]at AA;have AB:=zh1 AA;clear AA hQ7;go_wp2_with (refine qbj rfl ⟨.agg Q7.toArray,qgq 34 _ rfl _ _ AW.o (by simp[Act.eval]),?_⟩)
 refine AB.o.mono ?_;rintro e w7 ⟨rfl,s7,b7⟩;have AC:=xa1 s7 KC_ok 0 qv6 none 0 0 rfl qvb (xb5 zdc (by exact xb6 _ zdc)) ⟨rfl,fun h=>absurd h zdc⟩ (tA4 _) (by simp[maxLen]) (fun h=>absurd h zdc);obtain⟨P7,hP7⟩:=xeq (reqv (byR KC 0 qv6) (.slice none 0 0) (.slice none 0 0));rw[hP7]at AC ⊢;obtain⟨AD,S7,AX⟩:=zh3 AC s7 b7;clear AC hP7 s7 b7;go_wp2_with fail
 refine AD.o.mono ?_;rintro e v7 ⟨X7,col7,rfl,hX7,t7,r7⟩;have pk7:=hX7.pk;obtain⟨AI,R7,AJ,N7⟩:=zh4 hX7 r7 (qzz t7 X7) (Blk.new v7 57 Tryz.zeroCells57);clear hX7 t7 r7;go_upto_region 8 with(refine qqn _ _ _ X7 N7.o pk7 ?_)
 obtain⟨W7,G7,hW7,hG7,U7,AY,AZ⟩:=AJ.o;rw[hW7,hG7];clear hW7 hG7 AJ N7 pk7;have AK:=zh1 (((Rest.of_below AX.o).trans R7.o).trans (Rest.of_below AZ.o));have x5:=(AP.rest AV.o).rest AK.o;have x6:=AT.rest AK.o;have x7:=AY.o;have a0:=(x5.blk.cell 0).trans (show X5.toArray[0]? =some (.int .i64 0) by rw[tA3];exact AE.why);have a1:=(x5.blk.cell 1).trans (show X5.toArray[1]? =some (.int .u64 1) by rw[tA3];exact AE.n);have b0:=(x6.blk.cell 0).trans (show X6.toArray[0]? =some (.int .i64 0) by rw[tA3];exact AG.why);have b1:=(x6.blk.cell 1).trans (show X6.toArray[1]? =some (.int .u64 1) by rw[tA3];exact AG.n);have c0:=(x7.blk.cell 0).trans (show X7.toArray[0]? =some (.int .i64 0) by rw[tA3];exact AI.why);have c1:=(x7.blk.cell 1).trans (show X7.toArray[1]? =some (.int .u64 1) by rw[tA3];exact AI.n);clear x5 x6 x7;obtain⟨S,HS9⟩:=zS fun w'=>(w'.cell? ⟨G5,0,none⟩=some (.int .i64 0)∧w'.cell? ⟨G5,1,none⟩=some (.int .u64 1))∧(w'.cell? ⟨G6,0,none⟩=some (.int .i64 0)∧w'.cell? ⟨G6,1,none⟩=some (.int .u64 1))∧(w'.cell? ⟨G7,0,none⟩=some (.int .i64 0)∧w'.cell? ⟨G7,1,none⟩=some (.int .u64 1))
 refine xb0 S [0,1,2,3,4,5,6,7,8,9,10,11,12,13,14,15,16,17,18,19,20,21,22,23,24,25,26,27,28,29,30,31,32] [(0,none),(1,none),(2,none),(3,some false),(4,none),(5,none),(6,none),(7,some false),(8,none),(9,none),(10,none),(11,none),(12,some false),(13,none),(14,none),(15,none),(16,none),(17,some false),(18,none),(19,none),(20,none),(21,none),(22,some false),(23,none),(24,none),(25,none),(26,none),(27,some false),(28,none),(29,none),(30,none),(31,none),(32,none)] zk rfl zk zk (fun _ _ d _ _ h=>by cases d<;>exact h) ((HS9.o _).mpr (⟨⟨a0,a1⟩,⟨b0,b1⟩,⟨c0,c1⟩⟩)) ?_;have F0:=zh1 (fun(w':World)(h:S w')=>(HS9.o w').mp h);clear a0 a1 b0 b1 c0 c1;iterate 33 (first
  |(refine xb2 rfl rfl ⟨?_,fun w1=>?_,?_⟩;rotate_left;(focus(go_simp;try rfl));simp only[Act.put,tA0,tA1,tA2])
  |(refine xb3 rfl rfl ⟨?_,fun w1 hS=>?_,?_⟩;rotate_left;(focus(obtain⟨⟨a0,a1⟩,⟨b0,b1⟩,⟨c0,c1⟩⟩:=F0.o w1 hS;clear hS;go_simp;try rfl));simp only[Act.put,tA0,tA1,tA2]))
 refine xb1 ?_;clear HS9 F0;go_wp2_with fail
 go_ret3
 exact⟨g,gw,tb,B,col7,rfl,U7.drew⟩
theorem xb8(A:Option Addr)(n c:Nat)(ls:List (List Nat))(w:World)(hr:TextsR w A n ls)(hn:n≤1024)(hl:∀b∈ls,b.length≤400):
 Zc 87 #[.slice A n c] w fun e w'=>∃v,e=.returned v∧OwnTexts w' w.heap.size v ls∧Zb w w':=by
 obtain⟨hln,vs,hrd,htx⟩:=hr;have hvl:vs.length=n:=by have:=hrd.1;omega
 have hone:∀u∈vs,u.oneCell'=true:=by
  intro u hu;obtain⟨i,hi,rfl⟩:=List.getElem_of_mem hu;obtain⟨A',n',c',h,_⟩:=htx i (ls[i]'zo) (tA7 zo);rw[tA7 hi]at h;injection h with h;rw[h];rfl
 obtain⟨A4,A6,A7,AB,A5,HL,HN⟩:=zh7 hln hrd htx hvl hone hl hn;clear hln hrd htx hvl hone hl hn;go_enter Tryz.func87,Tryz.ntmps87
 go_wp2_with fail
 refine(qrj A n c vs w A6.o (by have:=HN.o;omega) A5.o).mono ?_;rintro e w1 ⟨v1,rfl,o1,b1⟩;obtain⟨A1,c1,rfl,hc1,hm1,-⟩:=qaf o1;have T1:=zh1 (show CpT w w1 w.heap.size (.slice A1 n c1) n vs vs ls 0 from⟨o1,fun i b hi _=>absurd hi zo,fun _ _=>rfl,b1.size,b1⟩);clear o1 b1;go_wp2_with fail
 go_loopw [9] (fun i wr=>∃j:Nat,j≤n∧i=.int .i64 j∧Hid (∃vsj,CpT w wr w.heap.size (.slice A1 n c1) n vs vsj ls j)) (fun i _=>n - (intOf i).toNat)
 case atStart=>exact⟨0,by omega,rfl,zh1 ⟨vs,T1.o⟩⟩
 case round=>
  obtain⟨j,hj,rfl,hlp⟩:=hrel;have hn24:=HN.o;by_cases hjn:j<n
  ·
   have qj:(j:Int)<n:=zo;have qj0:(0:Int)≤j:=zo;obtain⟨vsj,tj⟩:=hlp.o;have hvj:vsj.length=n:=by have:=tj.row.1;omega
   obtain⟨bs,hbs⟩:∃bs,ls[j]? =some bs:=⟨_,tA7 (by have:=A4.o;omega)⟩;obtain⟨A2,n2,c2,hv2,hnc2,hcm2,hrd2⟩:=A7.o j bs hbs;have hvj2:=(tj.rest j (tA4 _)).trans hv2;have hlb:=HL.o bs (tB2 hbs);have hn2:=qb4 hrd2;obtain⟨g,cap,cur,e0,hg,hh,-,-,-,ht⟩:∃g cap cur,(Value.slice A1 n c1)=.slice (some ⟨g,0,none⟩) n cap∧w.heap.size≤g∧wr.heap[g]? =some (.cells cur 23 (0,0))∧n≤cap∧cap≤maxLen∧cur.size=cap*1∧cur.toList.take (n*1)=vsj:=by
    rcases tj.row.2 with⟨_,h0⟩|h
    · omega
    exact h
   injection e0 with e1 e2 e3;subst e1 e3;have blk:Blk wr g 23 cur:=hh;have cj:wr.cell? ⟨g,j,none⟩=some (.slice A2 n2 c2):=by
    rw[blk.cell];rw[←ht,List.getElem?_take_of_lt zo]at hvj2;simpa using hvj2
   obtain⟨TJ,A8,A0,A9,BK,HG,AA⟩:=zh7 tj hbs (hrd2.call tj.below) (show n2≤400 by omega) blk hg hvj;clear tj hbs hrd2 hn2 blk hg hvj hlb hv2 hnc2 hcm2 hvj2 hh ht hlp;go_wp2_with fail
   refine(qrh A2 n2 c2 (byv bs) wr A0.o (by have:=A9.o;omega) (qau _)).mono ?_;rintro e w2 ⟨v2,rfl,o2,b2⟩;have o2':OwnB w2 wr.heap.size v2 bs:=by
    have e:n2=bs.length:=by have:=qb4 A0.o;omega
    rw[e]at o2;exact o2
   obtain⟨A3,n3,c3,rfl,-,-,-⟩:=o2'.sl;have bk2:=BK.below b2 BK.lt;have cj2:=qai cj b2;have f2:=bk2.frozen j;obtain⟨O2,B2⟩:=zh2 o2' b2;clear o2 o2' b2 bk2 cj;go_wp2
   go_roundw
   case rel=>exact⟨j+1,by omega,by go_num,zh1 ⟨_,TJ.step A8.o hjn AA.o B2.o O2.o HG.o⟩⟩
   case measure=>simp[intOf];omega
  have qj:¬(j:Int)<n:=zo;obtain rfl:j=n:=zo;go_wp2_with fail
  obtain⟨vsj,tj⟩:=hlp.o;go_ret
  exact⟨_,rfl,⟨vsj,by rw[A4.o];exact tj.row,fun i b hb=>tj.done_ i b (by obtain⟨hi,_⟩:=tA8 hb;have:=A4.o;omega) hb⟩,tj.below⟩
end Go.Proofs.YthomgopipiomhaaGreatDoor

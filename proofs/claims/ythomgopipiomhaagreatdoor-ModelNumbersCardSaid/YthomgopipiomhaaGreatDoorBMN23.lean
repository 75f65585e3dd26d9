/-
  Lemmas for ModelNumbers, shortened by program.
-/
import Derived.Test.YthomgopipiomhaaGreatDoorBMN22
namespace Go.Proofs.YthomgopipiomhaaGreatDoor
set_option linter.unusedVariables false
set_option linter.unusedSimpArgs false
set_option maxRecDepth 100000
set_option maxHeartbeats 32000000
section
open Go.RowKit
theorem qv3 {w:World}{col:Col}{k base:Nat}{e:TypeId}{g c size n:Nat}{xs:List Value}(h:TopAt w col k e g c size n xs)(hb:base≤g):w.ownsRow base e size (.slice (some ⟨g,0,none⟩) n c) n xs:=by
 obtain⟨_,sp,hk,h1,h2,h3,h4⟩:=h;refine⟨h1,.inr ⟨g,c,(xs++sp).toArray,rfl,hb,hk,h2,h3,?_,?_⟩⟩
 · rw[List.size_toArray,tA6]
   exact h4
 rw[←h1];simp
theorem qv4:∀{l:List LaneI} {k:Nat} {x:LaneI} (y:LaneI),l[k]? =some x→y.1=x.1→qup (l.set k y)=((qup l).set (k*3+1) (.int .i64 y.2.1)).set (k*3+2) (.int .i64 y.2.2)
 |[],k,x,y,h,_=>by simp at h
 |a::l,0,x,y,h,e=>by
  simp only[List.getElem?_cons_zero,Option.some.injEq]at h;subst h;show quo y++qup l=((quo a++qup l).set 1 _).set 2 _;unfold quo;rw[e];rfl
 |a::l,k+1,x,y,h,e=>by
  rw[List.getElem?_cons_succ]at h;show quo a++qup (l.set k y)=((quo a++qup l).set ((k+1)*3+1) _).set ((k+1)*3+2) _;rw[qv4 y h e,show (k+1)*3+1=k*3+1+1+1+1 by omega,show (k+1)*3+2=k*3+2+1+1+1 by omega];rfl
theorem TopAt.row {w:World}{col:Col}{k:Nat}{e:TypeId}{g c size n:Nat}{xs:List Value}(h:TopAt w col k e g c size n xs){G:Nat}(hne:g≠G)(X:Array Value):TopAt (w.setRow G X) col k e g c size n xs:=by
 obtain⟨hc,sp,hb,h1⟩:=h;exact⟨hc,sp,((qam w G X).block g hb.lt (by intro e;injection e with e;exact hne e)).trans hb,h1⟩
theorem qv5 (l:List LaneI)(a q:Nat)(A:Option Addr)(c:Nat)(w:World)(hr:Reads w w.heap.size 3 A l.length (qup l))(hl:LanesOk l)(hn:l.length≤1000)(ha:a<l.length)(hq:1≤q∧q≤2)(hc:l.length≤c):
 Calls Tryz.prog 63 #[.slice A l.length c,.int .i64 (a:Int),.int .i64 (q:Int)] w fun e w'=>∃v,e=.returned (.tuple #[.agg #[.int .i64 (quv l a q).1.1,.int .i64 (quv l a q).1.2.1,.int .i64 (quv l a q).1.2.2],v])∧w'.ownsRow w.heap.size 136 3 v l.length (qup (quv l a q).2)∧Below w.heap.size w w':=by
 obtain⟨S1,hS1⟩:=xeq (quv l a q);rw[hS1];obtain⟨⟨r0,r1,r2⟩,lo⟩:=S1;dsimp only;obtain⟨n,hln⟩:=xeq l.length;rw[hln]at hr hn ha hc ⊢;obtain⟨b0,o0,eA,-,hc0⟩:=hr.mid (by omega) (by decide);subst eA;obtain⟨W0,hW0⟩:=eqx (w.alloc (.cells #[.int .i64 0,.int .i64 0,.int .i64 0] 138));have z0:Blk W0 w.heap.size 138 #[.int .i64 0,.int .i64 0,.int .i64 0]:=by rw[hW0];exact Blk.new _ _ _
 obtain⟨B0,A4,A0,HL,Z0⟩:=zh5 (show Below w.heap.size w W0 by rw[hW0];exact qah (tA5 _ _) _) hS1 hln hl z0;obtain⟨CL,A6⟩:=zh2 (qqk (some ⟨b0,o0,none⟩) n c (qup l) W0 (hr.call B0.out) (by omega) (qus l)) (show ∀w',Below w.heap.size w w'→∀j u,(qup l)[j]? =some u→w'.cell? ⟨b0,o0+j,none⟩=some u from fun w' hb j u hu=>qai (hc0 j u hu) hb);clear hS1 hln hl z0 hr hc0;have qa:(a:Int)<n:=by omega
 have qa0:¬(a:Int)<0:=by omega
 have qan:¬(n:Int)≤a:=by omega
 have A7:=zh1 (show ∀(j:Nat) (x:LaneI),l[j]? =some x→(0≤x.1∧x.1≤4)∧(0≤x.2.1∧x.2.1≤1048576)∧(0≤x.2.2∧x.2.2≤1048576) from fun j x h=>HL.out x (List.mem_of_getElem? h));go_enter Tryz.func63,Tryz.ntmps63
 go_upto_region 1 with(fail)
 rw[←hW0];clear hW0;go_step3
 go_wp2_with ((with_reducible refine CL.out.mono ?_);rintro e w1 ⟨v1,rfl,o1,b1⟩;obtain⟨g1,c1,hv1,t1,t2,⟨tcs,t3⟩,t4⟩:=qtl o1 (by omega);subst hv1)
 obtain⟨B1,Z1,T1,GS⟩:=zh4 (B0.out.trans (b1.mono B0.out.size)) (Z0.out.below b1 Z0.out.lt) (t4 (fun b=>if b=g1 then 1 else 0) 1 (by simp)) (Nat.le_trans (show w.heap.size+1≤W0.heap.size from Nat.succ_le_of_lt Z0.out.lt) t1);clear o1 b1 t2 t3 t4 t1 CL;go_step3
 go_wp2_with fail
 go_loopw [9,27] (fun v i wr=>∃j:Nat,j≤n∧i=.int .i64 j∧v=.int .i64 (-1)∧Hid (∀m,m<j→(l.map (·.1)).getD ((a+m) % n) 0<1)∧wr=w1) (fun v i _=>n - (intOf i).toNat)
 case atStart=>exact⟨0,by omega,rfl,rfl,zh1 fun m hm=>absurd hm (by omega),rfl⟩
 case round=>
  obtain⟨j,hj,rfl,rfl,hb,rfl⟩:=hrel;by_cases hjn:j<n
  ·
   have qj:(j:Int)<n:=by omega
   obtain⟨k,hk⟩:=xeq ((a+j) % n);have hkn:k<n:=by rw[←hk];exact Nat.mod_lt _ (by omega)
   have qm:((a:Int)+j).tmod n=(k:Int):=by
    rw[←hk,Int.tmod_eq_emod_of_nonneg (by omega)];simp
   have qk:(k:Int)<n:=by omega
   obtain⟨⟨wt,qu,de⟩,hx⟩:∃x,l[k]? =some x:=⟨_,tA7 (by rw[A0.out];exact hkn)⟩;have c0:wr.cell? ⟨b0,o0+k*3,none⟩=some (.int .i64 wt):=by
    have:=A6.out wr B1.out (k*3+0) (.int .i64 wt) ((qur hx (by omega)).trans rfl);rwa[Nat.add_zero]at this
   obtain⟨HX,HK⟩:=zh2 hx hk;clear hx hk;by_cases hw1:wt<1
   ·
    go_wp2_with fail
    go_roundw
    case rel=>exact⟨j+1,by omega,by go_num,rfl,zh1 fun m hm=>(by
     rcases Nat.lt_or_ge m j with h|h
     · exact hb.out m h
     obtain rfl:m=j:=by omega
     rw[HK.out,List.getD_eq_getElem?_getD,List.getElem?_map,HX.out];exact hw1),trivial⟩
    case measure=>simp[intOf];omega
   have hlo:qmf (l.map (·.1)) a=some k:=by
    have:=qut (ws:=l.map (·.1)) (a:=a) (k:=j) (by rw[List.length_map,A0.out];exact hjn) (by rw[List.length_map,A0.out];exact hb.out) (by
     rw[List.length_map,A0.out,HK.out,List.getD_eq_getElem?_getD,List.getElem?_map,HX.out];show 1≤wt;omega)
    rwa[List.length_map,A0.out,HK.out]at this
   have hsv:=qux (q:=(q:Int)) hlo HX.out;rw[A4.out]at hsv;dsimp only at hsv;obtain⟨⟨w0,w4⟩,⟨q0,q1⟩,⟨d0,d1⟩⟩:=A7.out k (wt,qu,de) HX.out;dsimp only at w0 w4 q0 q1 d0 d1;have A8:=zh1 hsv;clear hlo hsv;have qk0:¬(k:Int)<0:=by omega
   have e0:wr.cell? ⟨g1,k*3,none⟩=some (.int .i64 wt):=by
    have:=T1.out.cell (i:=k*3+0) ((qur HX.out (by omega)).trans rfl);rwa[Nat.add_zero]at this
   have e1:wr.cell? ⟨g1,k*3+1,none⟩=some (.int .i64 qu):=T1.out.cell ((qur HX.out (by omega)).trans rfl);have e2:wr.cell? ⟨g1,k*3+2,none⟩=some (.int .i64 de):=T1.out.cell ((qur HX.out (by omega)).trans rfl);go_upto_region 16 with(fail)
   obtain⟨D,hD⟩:∃D:Int,min wt 4*min (max (q:Int) 1) 2=D:=⟨_,rfl⟩;have hD8:0≤D∧D≤8:=by
    rw[←hD];rcases(by omega:q=1∨q=2) with h|h
    · subst h
      rw[show min (max ((1:Nat):Int) 1) 2=1 by decide];omega
    subst h;rw[show min (max ((2:Nat):Int) 1) 2=2 by decide];omega
   obtain⟨D0,D8⟩:=hD8;obtain⟨tk,htk⟩:∃tk:Int,max (min (de+D) qu) 0=tk:=⟨_,rfl⟩;have htk3:0≤tk∧tk≤qu∧tk≤de+D:=by omega
   obtain⟨tk0,tk1,tk2⟩:=htk3;rw[hD,show wrap64 D=D from IntWalk.wrap64_in _ (by omega)];have hs2:=A8.out;rw[hD,htk,A0.out]at hs2;injection hs2 with h1 h2;injection h1 with h3 h4;injection h4 with h4 h5;obtain⟨A5,A9⟩:=zh2 h2 htk;have h4:=h4.symm;subst h3 h4 h5;have q16:¬(9223372036854775807 - D<de):=by omega
   have f2:=T1.out.frozen (k*3+2);have hl3:(qup l).length=n*3:=by rw[quq,A0.out]
   have A1:=zh1 hl3;clear hD h2 htk hl3;go_upto_region 19 with(fail)
   obtain⟨W2,hW2⟩:=eqx (wr.setCell ⟨g1,k*3+2,none⟩ (.int .i64 (de+D)));rw[←hW2];obtain⟨B2,Z2,T2⟩:=zh3 (show Below w.heap.size w W2 by rw[hW2];exact B1.out.setCell (by have:=GS.out;show w.heap.size≤g1;omega) _) (show Blk W2 w.heap.size 138 #[.int .i64 0,.int .i64 0,.int .i64 0] by rw[hW2];exact Z1.out.far (by have:=GS.out;show w.heap.size≠g1;omega) _) (show TopAt W2 _ _ _ _ _ _ _ _ by rw[hW2];exact T1.out.set1 (o:=k*3+2) (.int .i64 (de+D)) (by rw[A1.out];omega));clear hW2 f2 e0 e1 e2;have e1:W2.cell? ⟨g1,k*3+1,none⟩=some (.int .i64 qu):=T2.out.cell (by rw[List.getElem?_set_ne (by omega)];exact(qur HX.out (by omega)).trans rfl);have e2:W2.cell? ⟨g1,k*3+2,none⟩=some (.int .i64 (de+D)):=T2.out.cell (by rw[List.getElem?_set_self (by rw[A1.out];omega)]);obtain⟨S,A3⟩:∃S:World→Prop,Hid (∀w',S w'=(w'.cell? ⟨g1,k*3+2,none⟩=some (.int .i64 (de+D))∧w'.cell? ⟨g1,k*3+1,none⟩=some (.int .i64 qu))):=⟨_,fun _=>rfl⟩;refine zrs S 11 [(0,false),(1,false),(2,false),(3,false),(4,false),(5,false),(6,false),(7,false),(8,false),(9,false),(10,false)] ((A3.out _).mpr (⟨e2,e1⟩)) ?_;have F0:=zh1 (fun(w':World)(h:S w')=>(A3.out w').mp h);repeat(refine zrd rfl rfl (fun w1 hS=>by have g0:=(F0.out w1 hS).1;have g3:=(F0.out w1 hS).2;clear hS;go_simp;try rfl) ?_;simp only[Act.put,tA0,tA1,tA2])
   refine qbg ?_;rw[A9.out];clear F0 A3;obtain⟨W3,hW3⟩:=eqx W2.drew;rw[←hW3];have bd:Below W2.heap.size W2 W3:=by rw[hW3];exact(tA5 _ _).drew
   obtain⟨B3,Z3,T3⟩:=zh3 (B2.out.trans (bd.mono B2.out.size)) (Z2.out.below bd Z2.out.lt) (T2.out.keep ((Turns.of_below (fun _=>false) bd).keeps rfl));clear hW3 bd e1 e2;have e1:W3.cell? ⟨g1,k*3+1,none⟩=some (.int .i64 qu):=T3.out.cell (by rw[List.getElem?_set_ne (by omega)];exact(qur HX.out (by omega)).trans rfl);have e2:W3.cell? ⟨g1,k*3+2,none⟩=some (.int .i64 (de+D)):=T3.out.cell (by rw[List.getElem?_set_self (by rw[A1.out];omega)]);have f2:=T3.out.frozen (k*3+2);go_upto_region 21 with(fail)
   obtain⟨W4,hW4⟩:=eqx (W3.setCell ⟨g1,k*3+2,none⟩ (.int .i64 (de+D - tk)));rw[←hW4];obtain⟨B4,Z4,T4⟩:=zh3 (show Below w.heap.size w W4 by rw[hW4];exact B3.out.setCell (by have:=GS.out;show w.heap.size≤g1;omega) _) (show Blk W4 w.heap.size 138 #[.int .i64 0,.int .i64 0,.int .i64 0] by rw[hW4];exact Z3.out.far (by have:=GS.out;show w.heap.size≠g1;omega) _) (show TopAt W4 (fun b=>if b=g1 then 1 else 0) 1 136 g1 c1 3 n ((qup l).set (k*3+2) (.int .i64 (de+D - tk))) by rw[hW4,←List.set_set (a:=Value.int .i64 (de+D))];exact T3.out.set1 (o:=k*3+2) (.int .i64 (de+D - tk)) (by rw[List.length_set,A1.out];omega));clear hW4 f2 e1 e2;have e1:W4.cell? ⟨g1,k*3+1,none⟩=some (.int .i64 qu):=T4.out.cell (by rw[List.getElem?_set_ne (by omega)];exact(qur HX.out (by omega)).trans rfl);have f1:=T4.out.frozen (k*3+1);go_upto_region 22 with(fail)
   obtain⟨W5,hW5⟩:=eqx (W4.setCell ⟨g1,k*3+1,none⟩ (.int .i64 (qu - tk)));rw[←hW5];obtain⟨B5,Z5,T5⟩:=zh3 (show Below w.heap.size w W5 by rw[hW5];exact B4.out.setCell (by have:=GS.out;show w.heap.size≤g1;omega) _) (show Blk W5 w.heap.size 138 #[.int .i64 0,.int .i64 0,.int .i64 0] by rw[hW5];exact Z4.out.far (by have:=GS.out;show w.heap.size≠g1;omega) _) (show TopAt W5 (fun b=>if b=g1 then 1 else 0) 1 136 g1 c1 3 n (((qup l).set (k*3+1) (.int .i64 (qu - tk))).set (k*3+2) (.int .i64 (de+D - tk))) by rw[hW5,List.set_comm _ _ (by omega)];exact T4.out.set1 (o:=k*3+1) (.int .i64 (qu - tk)) (by rw[List.length_set,A1.out];omega));clear hW5 f1 e1;have e1:W5.cell? ⟨g1,k*3+1,none⟩=some (.int .i64 (qu - tk)):=T5.out.cell (by rw[List.getElem?_set_ne (by omega),List.getElem?_set_self (by rw[A1.out];omega)]);have f2:=T5.out.frozen (k*3+2);have e2:W5.cell? ⟨g1,k*3+2,none⟩=some (.int .i64 (de+D - tk)):=T5.out.cell (by rw[List.getElem?_set_self (by rw[List.length_set,A1.out];omega)]);have qm2:((k:Int)+1).tmod n=(((k+1) % n:Nat):Int):=by
    rw[Int.tmod_eq_emod_of_nonneg (by omega)];simp
   by_cases hz:qu - tk=0
   ·
    have hlo:qup lo=((qup l).set (k*3+1) (.int .i64 (qu - tk))).set (k*3+2) (.int .i64 0):=by
     rw[A5.out,qv4 (wt,qu - tk,if qu - tk=0 then 0 else de+D - tk) HX.out rfl];dsimp only;rw[if_pos hz]
    have AA:=zh1 hlo;clear hlo;rw[hz]at e1;go_upto_region 24 with(fail)
    obtain⟨W6,hW6⟩:=eqx (W5.setCell ⟨g1,k*3+2,none⟩ (.int .i64 0));rw[←hW6];obtain⟨B6,Z6,T6⟩:=zh3 (show Below w.heap.size w W6 by rw[hW6];exact B5.out.setCell (by have:=GS.out;show w.heap.size≤g1;omega) _) (show Blk W6 w.heap.size 138 #[.int .i64 0,.int .i64 0,.int .i64 0] by rw[hW6];exact Z5.out.far (by have:=GS.out;show w.heap.size≠g1;omega) _) (show TopAt W6 (fun b=>if b=g1 then 1 else 0) 1 136 g1 c1 3 n (qup lo) by rw[hW6,AA.out,←List.set_set (a:=Value.int .i64 (de+D - tk))];exact T5.out.set1 (o:=k*3+2) (.int .i64 0) (by rw[List.length_set,List.length_set,A1.out];omega));clear hW6 f2 e1 e2 hz;go_wp2_with (refine wpList_store_row rfl 138 (.tmp 6) (.tmp 120) rfl w.heap.size #[.int .i64 (k:Int),.int .i64 tk,.int .i64 (((k+1) % n:Nat):Int)] rfl rfl 138 _ Z6.out (by kernel_rfl) (by simp) (by simp[Value.oneCell']) ?_)
    try rw[Exit.noGoto_ret]
    have A2:=qap (Z6.out.setRow #[.int .i64 (k:Int),.int .i64 tk,.int .i64 (((k+1) % n:Nat):Int)]) 0 [.int .i64 (k:Int),.int .i64 tk,.int .i64 (((k+1) % n:Nat):Int)] (fun j u h=>by simpa using h);refine bodyPost_ret (qfu rfl rfl (run_loadVar_mid _ _ 0 _ [.int .i64 (k:Int),.int .i64 tk,.int .i64 (((k+1) % n:Nat):Int)] _ A2 Tryz.underlying138 rfl (by kernel_rfl))) rfl ⟨_,rfl,qv3 (T6.out.row (by have:=GS.out;omega) _) (by have:=GS.out;omega),below_setRow B6.out (tA4 _) _⟩
   have hlo:qup lo=((qup l).set (k*3+1) (.int .i64 (qu - tk))).set (k*3+2) (.int .i64 (de+D - tk)):=by
    rw[A5.out,qv4 (wt,qu - tk,if qu - tk=0 then 0 else de+D - tk) HX.out rfl];dsimp only;rw[if_neg hz]
   rw[←hlo]at T5;clear hlo f2 e2;go_wp2_with (refine wpList_store_row rfl 138 (.tmp 6) (.tmp 120) rfl w.heap.size #[.int .i64 (k:Int),.int .i64 tk,.int .i64 (((k+1) % n:Nat):Int)] rfl rfl 138 _ Z5.out (by kernel_rfl) (by simp) (by simp[Value.oneCell']) ?_)
   try rw[Exit.noGoto_ret]
   have A2:=qap (Z5.out.setRow #[.int .i64 (k:Int),.int .i64 tk,.int .i64 (((k+1) % n:Nat):Int)]) 0 [.int .i64 (k:Int),.int .i64 tk,.int .i64 (((k+1) % n:Nat):Int)] (fun j u h=>by simpa using h);refine bodyPost_ret (qfu rfl rfl (run_loadVar_mid _ _ 0 _ [.int .i64 (k:Int),.int .i64 tk,.int .i64 (((k+1) % n:Nat):Int)] _ A2 Tryz.underlying138 rfl (by kernel_rfl))) rfl ⟨_,rfl,qv3 (T5.out.row (by have:=GS.out;omega) _) (by have:=GS.out;omega),below_setRow B5.out (tA4 _) _⟩
  have hlo:qmf (l.map (·.1)) a=none:=quu (by
   rw[List.length_map,A0.out];intro m hm;exact hb.out m (by omega))
  have hsv:=quw (q:=(q:Int)) hlo;rw[A4.out]at hsv;injection hsv with h1 h2;injection h1 with h3 h4;injection h4 with h4 h5;subst h2 h3 h4 h5;clear hlo;obtain rfl:j=n:=by omega
  go_wp2_with (refine wpList_store_row rfl 138 (.tmp 6) (.tmp 47) rfl w.heap.size #[.int .i64 (-1),.int .i64 0,.int .i64 (a:Int)] rfl rfl 138 _ Z1.out (by kernel_rfl) (by simp) (by simp[Value.oneCell']) ?_)
  try rw[Exit.noGoto_ret]
  have A2:=qap (Z1.out.setRow #[.int .i64 (-1),.int .i64 0,.int .i64 (a:Int)]) 0 [.int .i64 (-1),.int .i64 0,.int .i64 (a:Int)] (fun j u h=>by simpa using h);refine bodyPost_ret (qfu rfl rfl (run_loadVar_mid _ _ 0 _ [.int .i64 (-1),.int .i64 0,.int .i64 (a:Int)] _ A2 Tryz.underlying138 rfl (by kernel_rfl))) rfl ⟨_,rfl,qv3 (T1.out.row (by have:=GS.out;omega) _) (by have:=GS.out;omega),below_setRow B1.out (tA4 _) _⟩
end
section
open Go.RowKit
theorem RowC.clip {w:World}{col:Col}{k:Nat}{e:TypeId}{size n c:Nat}{A:Option Addr}{xs:List Value}(h:RowC w col k (.slice A n c) e size n xs):RowC w col k (.slice A n n) e size n xs:=by
 refine⟨h.1,?_⟩;rcases h.2 with⟨rfl,h0|⟨g,o,h0⟩⟩|⟨g,o,c',cur,hv,hk,hb,hn,hc,hl,ht⟩
 · injection h0 with h1 h2 h3
   subst h1;exact .inl ⟨rfl,.inl rfl⟩
 · injection h0 with h1 h2 h3
   subst h1;exact .inl ⟨rfl,.inr ⟨g,o,rfl⟩⟩
 injection hv with h1 h2 h3;subst h1 h3;exact .inr ⟨g,o,n,cur,rfl,hk,hb,tA4 _,by omega,by have:=Nat.mul_le_mul_right size hn;omega,ht⟩
theorem qv7 {w w':World}{col:Col}{base k size n:Nat}{e:TypeId}{v:Value}{xs:List Value}(ho:w'.ownsRow base e size v n xs)(hb:w.heap.size≤base)(hs:w.heap.size≤w'.heap.size)(hf:Fin_ col w):
 ∃col1:Col,(∀b,b<base→col1 b=col b)∧RowC w' col1 k v e size n xs∧Fin_ col1 w':=by
 refine⟨fun b=>if v.ownBlock=some b then k else col b,fun b hb'=>?_,RowC.of_own ho fun g hg=>?_,fun b hb'=>?_⟩
 · show (if v.ownBlock=some b then k else col b)=col b
   rw[if_neg];intro e;have:=(World.ownsRow.lt ho b e).1;omega
 · simp[hg]
 by_cases e:v.ownBlock=some b
 · exact(World.ownsRow.lt ho b e).2
 change (if v.ownBlock=some b then k else col b)≠0 at hb';rw[if_neg e]at hb';exact Nat.lt_of_lt_of_le (hf b hb') hs
theorem qv8 {P:Program}(w:World)(col:Col)(k:Nat)(t tx ty e:TypeId)(i:TypeInfo)(z:Value)(size bytes:Nat)(ht:P.underlying t=some (.slice e))(hi:P.info? e=some i)(hz:i.zero=some z)
 (hsize:i.size=size)(hby:i.bytes=bytes)(hzs:z.cells.size=size)
 (A:Option Addr)(n:Nat)(xs:List Value)(hrow:RowC w col k (.slice A n n) e size n xs)(x:Value)(m:Nat)(news:List Value)(hsrc:Src P size tx x m news w)
 (h63:n+m≤maxLen)(hbytes:(n+m)*bytes≤140737488355328)(hf:Fin_ col w):
 ∃v' w' col',(Builtin.append_ #[t,tx] ty #[.slice A n n,x]).run P w=.ok v' w'∧RowC w' col' k v' e size (n+m) (xs++news)∧Turns (fun _=>false) w col w' col'∧Fin_ col' w'∧Below w.heap.size w w':=by
 have hl:=hsrc.newsLen;subst hsize;subst hby;by_cases hm:m=0
 ·
  subst hm;have hn:news=[]:=List.eq_nil_of_length_eq_zero (by simpa using hl);subst hn;have hr0:RowC w col k (.slice A n n) e i.size (n+0) (xs++[]):=by simpa using hrow
  rcases hrow.2 with⟨rfl,h0|⟨g,o,h0⟩⟩|⟨g,o,c',cur,hv,hk,hb,hn,hc,hol,htk⟩
  · injection h0 with h1
    subst h1;refine⟨_,w,col,?_,hr0,Turns.refl _ _ _,hf,tA5 _ _⟩;have hc:=hsrc.cells;have hlo:=hsrc.len w;rcases hsrc.kind with⟨e',hk⟩|hk<;>simp[Builtin.append_,run_underlying ht,run_underlying hk,sizeOf,typeInfo,hi,hlo,hc,storeCells]
  · injection h0 with h1
    subst h1;exact⟨_,w,col,run_append_room_src (P:=P) w t tx ty e i ht hi g o 0 0 x 0 [] hsrc (by omega) (fun j hj=>absurd hj (by simp)) (fun j hj=>absurd hj (by simp)),hr0,Turns.refl _ _ _,hf,tA5 _ _⟩
  injection hv with h1 h2 h3;subst h1;exact⟨_,w,col,run_append_room_src (P:=P) w t tx ty e i ht hi g o n n x 0 [] hsrc (by omega) (fun j hj=>absurd hj (by simp)) (fun j hj=>absurd hj (by simp)),hr0,Turns.refl _ _ _,hf,tA5 _ _⟩
 have hge:=grownCap_ge w (n+m) n e;have hcm:grownCap w (n+m) n e≤maxLen:=grownCap_le_maxLen w (n+m) n e h63;have hlen:(xs++news).length=(n+m)*i.size:=by rw[tA6,hrow.1,hl,Nat.add_mul]
 have old:(Builtin.firstCells i.size n (.slice A n n)).run P w.drew=.ok xs.toArray w.drew:=by
  rcases hrow.2 with⟨rfl,h0|⟨g,o,h0⟩⟩|⟨g,o,c',cur,hv,hk,hb,hn,hc,hol,htk⟩
  · injection h0 with h1
    subst h1;have hx:xs=[]:=List.eq_nil_of_length_eq_zero (by simpa using hrow.1);subst hx;exact run_firstCells_none w.drew i.size 0 0 0
  · injection h0 with h1
    subst h1;have hx:xs=[]:=List.eq_nil_of_length_eq_zero (by simpa using hrow.1);subst hx;exact run_firstCells_some w.drew i.size 0 ⟨g,o,none⟩ 0 0 [] (by simp) (fun j u hu=>by simp at hu)
  injection hv with h1 h2 h3;subst h1;refine run_firstCells_some w.drew i.size n ⟨g,o,none⟩ n n xs hrow.1 (fun j u hu=>?_);rw[World.cell?_drew,Addr.add_mid,hb.cell,tA3];rw[←htk,List.getElem?_take]at hu;split at hu
  · rwa[List.getElem?_drop]at hu
  cases hu
 have hr:=run_append_grow_src (P:=P) w t tx ty e i z ht hi hz A n n xs old x m news hsrc (by omega) (by simp only[maxLen]at h63;omega) (growslice_fits (by omega) hbytes);obtain⟨Z,hZ⟩:∃Z:List Value,Z.toArray=Builtin.zeroCells z.cells (grownCap w (n+m) n e - (n+m)):=⟨_,Array.toArray_toList⟩;have hZl:Z.length=(grownCap w (n+m) n e - (n+m))*i.size:=by
  have:=congrArg Array.size hZ;rw[size_zeroCells,hzs,List.size_toArray]at this;exact this
 rw[←hZ,List.append_toArray]at hr;have hcl:(xs++news++Z).length=grownCap w (n+m) n e*i.size:=by
  rw[tA6,hlen,hZl,←Nat.add_mul];congr 1
  omega
 have htk:(xs++news++Z).take ((n+m)*i.size)=xs++news:=by rw[←hlen];exact List.take_left
 have hb:Below w.heap.size w (w.drew.alloc (.cells (xs++news++Z).toArray e)):=⟨rfl,rfl,rfl,by simp,fun b hb=>Below.heap_alloc w.drew _ b hb⟩;have ho:(w.drew.alloc (.cells (xs++news++Z).toArray e)).ownsRow w.heap.size e i.size (.slice (some ⟨w.heap.size,0,none⟩) (n+m) (grownCap w (n+m) n e)) (n+m) (xs++news):=by
  refine⟨hlen,.inr ⟨w.heap.size,_,(xs++news++Z).toArray,rfl,tA4 _,heap_alloc_new _ _,hge,hcm,by rw[List.size_toArray];exact hcl,by simpa using htk⟩⟩
 obtain⟨col1,h1,h2,h3⟩:=qv7 (w:=w) (col:=col) (k:=k) ho (tA4 _) hb.size hf;exact⟨_,_,col1,hr,h2,(Turns.of_below _ hb).recolour h1,h3,hb⟩
theorem qv9 {P:Program}(w:World){o:Oper}{a:Act}{K:Act→World→Prop}{Q:Exit→Act→World→Prop}(s x:Operand)(t tx:TypeId)
 (ho:o.op=.call {callee:=.builtin .append,args:=#[s,x],argTypes:=#[t,tx]})
 (col:Col)(k:Nat)(e:TypeId)(i:TypeInfo)(z:Value)(size bytes:Nat)(ht:P.underlying t=some (.slice e))(hi:P.info? e=some i)(hz:i.zero=some z)
 (hsize:i.size=size)(hby:i.bytes=bytes)(hzs:z.cells.size=size)
 (A:Option Addr)(n:Nat)(xs:List Value)(hs:a.eval s=.slice A n n)(hrow:RowC w col k (.slice A n n) e size n xs)(xv:Value)(m:Nat)(news:List Value)(hx:a.eval x=xv)(hsrc:Src P size tx xv m news w)
 (h63:n+m≤maxLen)(hbytes:(n+m)*bytes≤140737488355328)(hf:Fin_ col w)
 (h:∀v' w' col',RowC w' col' k v' e size (n+m) (xs++news)→Turns (fun _=>false) w col w' col'→Fin_ col' w'→Below w.heap.size w w'→K (a.put o.dst v') w'):o.wp P a w K Q:=by
 obtain⟨v',w',col',hrun,h2,h3,h4,h5⟩:=qv8 (P:=P) w col k t tx o.type e i z size bytes ht hi hz hsize hby hzs A n xs hrow xv m news hsrc h63 hbytes hf;unfold Oper.wp execOp;simp only[ho,resolve,invoke,builtin,Sem.run_bind,Sem.run_pure,Result.andThen_ok,List.map_toArray,List.map_cons,List.map_nil,hs,hx,hrun];exact h v' w' col' h2 h3 h4 h5
end
section
open Go.RowKit
theorem Mdl.treRowW {w w':World}{col col':Col}{k g:Nat}{c:Cfg}{s:Sta}{L:Loc}{css:List (List Value)}(h:Mdl w col k g c s L css)(hk:Kind k)(h16:s.tres.length=16)(hh:∀t∈s.tres,t.hd.Ok){n j kk:Nat}{t:Tre}(ht:s.tres[n]? =some t){cs:List Value}(hcs:css[n]? =some cs)(hkk:kk=10+3*n∨kk=11+3*n∨kk=12+3*n)
 (hT:Turns (· ==kk) w col w' col')(hf:Fin_ col' w')(f:Tre→Tre)(v':Value)(hj:j<75)(hold:TreAt w' col' n cs t)(hnew:TreAt w' col' n (cs.set j v') (f t)):
 Mdl (w'.setCell ⟨L.rg,n*75+j,none⟩ v') col' k g c (s.setT n f) L (css.modify n fun x=>x.set j v')∧TrsAt (w'.setCell ⟨L.rg,n*75+j,none⟩ v') col' css s.tres∧Turns (inP k) w col (w'.setCell ⟨L.rg,n*75+j,none⟩ v') col':=by
 have hn:n<s.tres.length:=by obtain⟨h,_⟩:=List.getElem?_eq_some_iff.1 ht;exact h
 have hn16:n<16:=by rw[←h16];exact hn
 have hlen:=h.st.trs.lens (fun t ht=>hh t ht);have hcl:css.length=16:=by rw[h.st.trs.1,h16]
 have hfl:css.flatten.length=1200:=by rw[qmr hlen,hcl]
 have keepA:∀i,i≠kk→KeepsCol i w col w' col':=fun i hi=>hT.keeps (by simpa using hi)
 have mA:Mdl w' col' k g c s L css:=by
  refine⟨(hT.block g h.blk.lt (by rw[h.own];simp;omega)).trans h.blk,(hT.same g h.blk.lt).trans h.own,⟨Nat.le_trans h.base.1 hT.size,fun b hb=>(hT.same b (Nat.lt_of_lt_of_le hb h.base.1)).trans (h.base.2 b hb)⟩,hf,h.seed.keep (keepA 5 (by omega)),?_⟩;refine⟨h.st.tens.keep (keepA k (by rcases hk with rfl|rfl<;>omega)),h.st.tres.keep (keepA (k+1) (by rcases hk with rfl|rfl<;>omega)),h.st.gras.keep (keepA (k+2) (by rcases hk with rfl|rfl<;>omega)),h.st.trs.1,fun i t' ht'=>?_⟩;by_cases e:n=i
  · subst e
    rw[ht]at ht';injection ht' with ht';subst ht';exact⟨cs,hcs,hold⟩
  obtain⟨c0,h1,vd,vl,vq,e1,r1,r2,r3⟩:=h.st.trs.2 i t' ht';exact⟨c0,h1,vd,vl,vq,e1,r1.keep (keepA _ (by omega)),r2.keep (keepA _ (by omega)) (keepA 5 (by omega)),r3.keep (keepA _ (by omega)) (keepA 5 (by omega))⟩
 have hT2:Turns (· ==k+1) w' col' (w'.setCell ⟨L.rg,n*75+j,none⟩ v') col':=Turns.setCell v' (by simp[mA.st.tres.1]);have keepB:∀i,i≠k+1→KeepsCol i w' col' (w'.setCell ⟨L.rg,n*75+j,none⟩ v') col':=fun i hi=>hT2.keeps (by simpa using hi)
 have hbig:∀i,i=5∨10≤i→i≠k+1:=fun i hi=>by rcases hk with rfl|rfl<;>omega
 have hne:g≠L.rg:=by
  intro e;have a:=mA.own;rw[e,mA.st.tres.1]at a;rcases hk with rfl|rfl<;>cases a
 refine⟨⟨?_,mA.own,⟨Nat.le_trans mA.base.1 hT2.size,mA.base.2⟩,mA.fin.mono hT2.size,mA.seed.keep (keepB 5 (hbig 5 (.inl rfl))),?_⟩,mA.st.trs.keep fun i hi=>keepB i (hbig i hi),?_⟩
 · exact(mA.blk.far (p:=⟨L.rg,n*75+j,none⟩) hne v')
 ·
  refine⟨mA.st.tens.keep (keepB k (by omega)),?_,mA.st.gras.keep (keepB (k+2) (by omega)),?_⟩
  · have h1:=mA.st.tres.set1 (o:=n*75+j) v' (by rw[hfl];omega)
    rw[←qmt _ _ _ (by rw[hfl];omega),qms [v'] hlen (by rw[hcl];exact hn16) (by simp;omega)]at h1;have e:(css.modify n fun x=>over x j [v'])=css.modify n fun x=>x.set j v':=qqa fun x hx=>qmt x j v' (by rw[hlen x (List.mem_of_getElem? hx)];exact hj)
    rwa[e]at h1
  refine⟨by rw[List.length_modify,h.st.trs.1];simp[Sta.setT],fun i t' ht'=>?_⟩;by_cases e:n=i
  · subst e
    rw[show (s.setT n f).tres=s.tres.modify n f from rfl,qnc f ht]at ht';injection ht' with ht';subst ht';exact⟨cs.set j v',qnc _ hcs,hnew.keep fun i hi=>keepB i (hbig i hi)⟩
  rw[show (s.setT n f).tres=s.tres.modify n f from rfl,qnd _ f e]at ht';obtain⟨c0,h1,h2⟩:=mA.st.trs.2 i t' ht';exact⟨c0,by rw[qnd _ _ e];exact h1,h2.keep fun i hi=>keepB i (hbig i hi)⟩
 refine(hT.mono (q:=inP k) fun i hi=>?_).trans (hT2.mono (q:=inP k) fun i hi=>?_)
 · obtain rfl:i=kk:=by simpa using hi
   unfold inP;simp;omega
 obtain rfl:i=k+1:=by simpa using hi
 unfold inP;simp
theorem qva {w w':World}{col col':Col}{k:Nat}{v':Value}{l2:List (List Nat)}{vs2:List Value}(hr:RowC w' col' k v' 23 1 l2.length vs2)
 (h2:∀(i:Nat) (bs:List Nat),l2[i]? =some bs→∃u,vs2[i]? =some u∧TextC w col u bs)(h5:KeepsCol 5 w col w' col'):TextsC w' col' k v' l2:=
 ⟨vs2,hr,fun i bs hi=>by
  obtain⟨u,hu,ht⟩:=h2 i bs hi;exact⟨u,hu,ht.keep h5⟩⟩
theorem qvb {w:World}{col:Col}{ls l2:List (List Nat)}{vs vs2:List Value}(hvl:vs.length=ls.length)
 (h1:∀(i:Nat) (bs:List Nat),ls[i]? =some bs→∃u,vs[i]? =some u∧TextC w col u bs)(h2:∀(i:Nat) (bs:List Nat),l2[i]? =some bs→∃u,vs2[i]? =some u∧TextC w col u bs):
 ∀(i:Nat) (bs:List Nat),(ls++l2)[i]? =some bs→∃u,(vs++vs2)[i]? =some u∧TextC w col u bs:=by
 intro i bs hi;rw[List.getElem?_append]at hi;split at hi
 · obtain⟨u,hu,ht⟩:=h1 i bs hi
   exact⟨u,by rw[List.getElem?_append_left (by omega)];exact hu,ht⟩
 rename_i hge
 obtain⟨u,hu,ht⟩:=h2 (i - ls.length) bs hi;exact⟨u,by rw[List.getElem?_append_right (by omega),hvl];exact hu,ht⟩
theorem qvc {w:World}{col:Col}{ls:List (List Nat)}{vs:List Value}(k:Nat)(h1:∀(i:Nat) (bs:List Nat),ls[i]? =some bs→∃u,vs[i]? =some u∧TextC w col u bs):
 ∀(i:Nat) (bs:List Nat),(ls.take k)[i]? =some bs→∃u,(vs.take k)[i]? =some u∧TextC w col u bs:=by
 intro i bs hi;rw[List.getElem?_take]at hi;split at hi
 · rename_i hk
   obtain⟨u,hu,ht⟩:=h1 i bs hi;exact⟨u,by rw[List.getElem?_take,if_pos hk];exact hu,ht⟩
 cases hi
theorem qvd {w:World}{col:Col}{ls:List (List Nat)}{vs:List Value}(k:Nat)(h1:∀(i:Nat) (bs:List Nat),ls[i]? =some bs→∃u,vs[i]? =some u∧TextC w col u bs):
 ∀(i:Nat) (bs:List Nat),(ls.drop k)[i]? =some bs→∃u,(vs.drop k)[i]? =some u∧TextC w col u bs:=by
 intro i bs hi;rw[List.getElem?_drop]at hi;obtain⟨u,hu,ht⟩:=h1 _ bs hi;exact⟨u,by rw[List.getElem?_drop];exact hu,ht⟩
theorem Mdl.leavesNew {w w':World}{col col':Col}{k g:Nat}{c:Cfg}{s:Sta}{L:Loc}{css:List (List Value)}(h:Mdl w col k g c s L css)(hk:Kind k)(h16:s.tres.length=16)(hh:∀t∈s.tres,t.hd.Ok){n:Nat}{t:Tre}(ht:s.tres[n]? =some t){vd vl vq:Value}(hcs:css[n]? =some (trev t vd vl vq))
 (hT:Turns (fun _=>false) w col w' col')(hf:Fin_ col' w'){v':Value}{ls:List (List Nat)}(hl:TextsC w' col' (11+3*n) v' ls):
 ∃css',css'[n]? =some (trev {t with leaves:=ls} vd v' vq)∧Mdl (w'.setCell ⟨L.rg,n*75+5,none⟩ v') col' k g c (s.setT n fun t=>{t with leaves:=ls}) L css'∧Turns (inP k) w col (w'.setCell ⟨L.rg,n*75+5,none⟩ v') col':=by
 obtain⟨r1,r2,r3⟩:=h.rows ht hcs;have kp:∀i,KeepsCol i w col w' col':=fun i=>hT.keeps rfl
 obtain⟨m,-,tt⟩:=h.treRowW (j:=5) hk h16 hh ht hcs (.inr (.inl rfl)) (hT.mono fun i h=>by cases h) hf (fun t=>{t with leaves:=ls}) v' (by omega)
  ⟨vd,vl,vq,rfl,r1.keep (kp _),r2.keep (kp _) (kp 5),r3.keep (kp _) (kp 5)⟩
  ⟨vd,v',vq,rfl,r1.keep (kp _),hl,r3.keep (kp _) (kp 5)⟩
 exact⟨_,(qnc (fun x=>x.set 5 v') hcs).trans rfl,m,tt⟩
theorem Mdl.queueNew {w w':World}{col col':Col}{k g:Nat}{c:Cfg}{s:Sta}{L:Loc}{css:List (List Value)}(h:Mdl w col k g c s L css)(hk:Kind k)(h16:s.tres.length=16)(hh:∀t∈s.tres,t.hd.Ok){n:Nat}{t:Tre}(ht:s.tres[n]? =some t){vd vl vq:Value}(hcs:css[n]? =some (trev t vd vl vq))
 (hT:Turns (fun _=>false) w col w' col')(hf:Fin_ col' w'){v':Value}{ls:List (List Nat)}(hl:TextsC w' col' (12+3*n) v' ls):
 ∃css',Mdl (w'.setCell ⟨L.rg,n*75+6,none⟩ v') col' k g c (s.setT n fun t=>{t with queue:=ls}) L css'∧Turns (inP k) w col (w'.setCell ⟨L.rg,n*75+6,none⟩ v') col':=by
 obtain⟨r1,r2,r3⟩:=h.rows ht hcs;have kp:∀i,KeepsCol i w col w' col':=fun i=>hT.keeps rfl
 obtain⟨m,-,tt⟩:=h.treRowW (j:=6) hk h16 hh ht hcs (.inr (.inr rfl)) (hT.mono fun i h=>by cases h) hf (fun t=>{t with queue:=ls}) v' (by omega)
  ⟨vd,vl,vq,rfl,r1.keep (kp _),r2.keep (kp _) (kp 5),r3.keep (kp _) (kp 5)⟩
  ⟨vd,vl,v',rfl,r1.keep (kp _),r2.keep (kp _) (kp 5),hl⟩
 exact⟨_,m,tt⟩
end
section
open Go.RowKit
theorem Tryz.lane_info:(Tryz.prog.info? 136).map (fun i=>(i.zero,i.size,i.bytes))=some (some (.agg #[.int .i64 0,.int .i64 0,.int .i64 0]),3,24):=by kernel_rfl
theorem qve (l:List LaneI)(x:LaneI):qup (l++[x])=qup l++quo x:=by simp[qup]
theorem qvf {w:World}{ops:Array Oper}{rest:List Oper}{o:Oper}{a:Act}{Q:Exit→Act→World→Prop}(hgd:o.guard=none)(s x:Operand)
 (ho:o.op=.call {callee:=.builtin .append,args:=#[s,x],argTypes:=#[134,134]})
 (base:Nat)(v:Value)(n:Nat)(l:List LaneI)(hs:a.eval s=v)(hown:w.ownsRow base 136 3 v n (qup l))(A:Option Addr)(c:Nat)(y:LaneI)(hx:a.eval x=.slice A 1 c)(hr:Reads w w.heap.size 3 A 1 (quo y))
 (hlen:n≤65536)(hbase:base≤w.heap.size)
 (h:∀v' w',w'.ownsRow base 136 3 v' (n+1) (qup (l++[y]))→Below base w w'→wpList Tryz.prog ops Q rest (a.put o.dst v') w'):wpList Tryz.prog ops Q (o::rest) a w:=by
 obtain⟨i0,hi0,hz0,hz1,hz2⟩:=info_parts Tryz.lane_info;refine qa7 (P:=Tryz.prog) w hgd s x _ ho base 136 i0 _ 3 24 Tryz.underlying134 hi0 hz0 hz1 hz2 rfl (by omega) v n (qup l) hs hown w.heap.size A 1 c (quo y) hx hr (by unfold quo;simp[Value.oneCell']) (by simp only[maxLen];omega) (by omega) hbase ?_;intro v' w' h1 h2 h3;refine h v' w' ?_ ?_
 · rw[qve]
   exact h1
 exact qae (tA5 _ _) hown h2 (tA4 _) hbase
theorem qvg {s:Sta}{n:Nat}{t:Tre}(h:s.tres[n]? =some t):(quy s).take (n+1)=(quy s).take n++[(qmg n t,(t.queue.length:Int),t.deficit)]:=by
 have:=qv0 h;obtain⟨h1,h2⟩:=List.getElem?_eq_some_iff.1 this;rw[List.take_succ_eq_append_getElem h1,h2]
theorem qvh {w:World}{col:Col}{ls:List (List Nat)}{vs:List Value}(hl:vs.length=ls.length)(h:∀(i:Nat) (bs:List Nat),ls[i]? =some bs→∃u,vs[i]? =some u∧TextC w col u bs):∀u∈vs,u.oneCell'=true:=by
 intro u hu;obtain⟨i,hi,rfl⟩:=List.getElem_of_mem hu;obtain⟨u',hu',ht⟩:=h i (ls[i]'(by omega)) (tA7 _);rw[tA7 hi]at hu';injection hu' with hu';rw[hu'];exact ht.one
theorem qvi {s:Sta}{k:Nat}{t:Tre}(ht:s.tres[k]? =some t){f:Tre→Tre}(hf:f t=t):s.setT k f=s:=by
 unfold Sta.setT;have:s.tres.modify k f=s.tres:=by
  apply List.ext_getElem?;intro i;rw[List.getElem?_modify];by_cases e:k=i
  · subst e
    simp[ht,hf]
  simp[e]
 rw[this]
theorem qvj (c:Cfg)(s:Sta)(L:Loc)(col:Col)(g:Nat)(css:List (List Value))(w:World)(hc:c.Ok)(hs:s.Ok)(h:Mdl w col 2 g c s L css)(hT:Tabs w):
 Calls Tryz.prog 26 #[.pointer (some ⟨g,0,none⟩)] w fun e w'=>e=.returned (.tuple #[])∧∃col' css',Mdl w' col' 2 g c (seqS c s) L css'∧Rest w col w' col':=by
 obtain⟨S1,hS1⟩:=xeq (seqS c s);rw[hS1];obtain⟨AS,BH,HS,HC,H,BI⟩:=zh6 hS1 h.st hs hc h hT;have c8:=h.c8;clear hS1 hs hc h hT;go_enter Tryz.func26,Tryz.ntmps26
 go_wp2_with fail
 clear c8;go_loopw [2,14] (fun v i wr=>∃n:Nat,n≤16∧i=.int .i64 n∧Hid (wr.ownsRow w.heap.size 136 3 v n (qup ((quy s).take n))∧Below w.heap.size w wr)) (fun v i _=>16 - (intOf i).toNat)
 case atStart=>exact⟨0,by omega,rfl,zh1 ⟨by simpa [qup] using World.ownsRow_nil ..,tA5 _ _⟩⟩
 case round=>
  obtain⟨n,hn,rfl,hl⟩:=hrel;by_cases hn16:n<16
  ·
   have qn:(n:Int)<16:=by omega
   have qn0:(0:Int)≤n:=by omega
   obtain⟨t,ht⟩:∃t,s.tres[n]? =some t:=⟨_,tA7 (by rw[HS.out.tresn];exact hn16)⟩;obtain⟨D,Ad,cd,Al,cl,Aq,cq,hD,lD,oD,hrg,l1,l2,l3,q1,q2,q3⟩:=BH.out.treeD HS.out ht;obtain⟨AT,AU,BJ,BK⟩:=zh4 (show D[0]? =some (.int .i64 t.state) by rw[hD];rfl) (show D[2]? =some (.int .i64 t.weight) by rw[hD];rfl) (show D[3]? =some (.int .i64 t.deficit) by rw[hD];rfl) (show D[6]? =some (.slice Aq t.queue.length cq) by rw[hD];rfl);have hb:=hl.out.2;obtain⟨BM,Y0,HI,OD,LD,HZ,HT⟩:=zh7 (hrg wr hb) (Blk.new wr 74 Tryz.zeroCells74) (zI 74 lD) oD lD (show Tryz.zeroCells74.size=75 by kernel_rfl) ht;clear hD lD oD hrg l1 l2 l3 q1 q2 q3 ht;go_upto_region 4 with(first
    |(refine qaq rfl 74 (.tmp 17) rfl L.rg (n*75) rfl D _ BM.out Tryz.underlying74 rfl HI.out ?_)
    |(refine zst 74 (.tmp 4) (.tmp 18) wr.heap.size D Y0.out HI.out (by simp[LD.out,HZ.out]) OD.out ?_))
   obtain⟨W1,hW1⟩:=eqx ((wr.alloc (.cells Tryz.zeroCells74 74)).setRow wr.heap.size D.toArray);rw[←hW1];obtain⟨G,hG⟩:=eqx wr.heap.size;rw[←hG];have y1:Blk W1 G 74 D.toArray:=by rw[hW1,hG];exact Y0.out.setRow _
   have b1:Below wr.heap.size wr W1:=by rw[hW1];exact below_setRow ((tA5 _ _).alloc (tA4 _) _) (tA4 _) _
   obtain⟨Y1,B1,HB,GE⟩:=zh4 y1 b1 hb (show wr.heap.size≤G by omega);have e0:=(y1.cell 0).trans (show D.toArray[0]? =some (.int .i64 t.state) by rw[tA3];exact AT.out);have e2:=(y1.cell 2).trans (show D.toArray[2]? =some (.int .i64 t.weight) by rw[tA3];exact AU.out);have e3:=(y1.cell 3).trans (show D.toArray[3]? =some (.int .i64 t.deficit) by rw[tA3];exact BJ.out);have e6:=(y1.cell 6).trans (show D.toArray[6]? =some (.slice Aq t.queue.length cq) by rw[tA3];exact BK.out);clear hW1 hG y1 b1 hb;go_upto_region 5 with(fail)
   obtain⟨P,hP⟩:=eqx W1.heap.size;obtain⟨W2,hW2⟩:=eqx (W1.alloc (.cells #[.int .i64 0,.int .i64 (t.queue.length:Int),.int .i64 t.deficit] 136));rw[←hW2,←hP];have z2:Blk W2 P 136 #[.int .i64 0,.int .i64 (t.queue.length:Int),.int .i64 t.deficit]:=by rw[hW2,hP];exact Blk.new _ _ _
   have b2:Below W1.heap.size W1 W2:=by rw[hW2];exact qah (tA5 _ _) _
   have b3:Below wr.heap.size wr W2:=B1.out.trans (b2.mono B1.out.size);obtain⟨Z2,PG,B2,O2⟩:=zh4 z2 (show wr.heap.size≤P by have:=B1.out.size;omega) b3 (qq9 hl.out.1 b3);have e0:=(Y1.out.below b2 Y1.out.lt).cell 0 |>.trans (show D.toArray[0]? =some (.int .i64 t.state) by rw[tA3];exact AT.out);have e2:=(Y1.out.below b2 Y1.out.lt).cell 2 |>.trans (show D.toArray[2]? =some (.int .i64 t.weight) by rw[tA3];exact AU.out);clear hP hW2 z2 b2 b3 e3 e6;obtain⟨AH,BN⟩:=zh2 (HB.out.trans (B2.out.mono HB.out.size)) HB.out.size;obtain⟨rb,hrb⟩:=xeq (qkk t.state);have AV:=zh1 hrb;by_cases h0:n=0
   ·
    have qz:¬(0:Int)<n:=by omega
    have AA:=zh1 (show qmg n t=0 by unfold qmg;rw[if_pos (.inl h0)]);clear h0 hrb hl;go_upto_region 7 with(fail)
    clear e0 e2;have own7:=zh1 ((O2.out).alloc (.cells #[.int .i64 (0),.int .i64 (t.queue.length:Int),.int .i64 t.deficit] 136));have rd7:Reads ((W2).alloc (.cells #[.int .i64 (0),.int .i64 (t.queue.length:Int),.int .i64 t.deficit] 136)) ((W2).alloc (.cells #[.int .i64 (0),.int .i64 (t.queue.length:Int),.int .i64 t.deficit] 136)).heap.size 3 (some ⟨(W2).heap.size,0,none⟩) 1 (quo (0,(t.queue.length:Int),t.deficit)):=by
     have:=Reads.new (W2) 136 (quo (0,(t.queue.length:Int),t.deficit)) 3 1 rfl;rwa[qar]
    obtain⟨AB,B7,A2⟩:=zh3 rd7 (qah (AH.out) (.cells #[.int .i64 (0),.int .i64 (t.queue.length:Int),.int .i64 t.deficit] 136)) (show (quy s).take (n+1)=(quy s).take n++[(0,(t.queue.length:Int),t.deficit)] by rw[qvg HT.out,AA.out]);have p0:=(Z2.out).cell 0;have p1:=(Z2.out).cell 1;have p2:=(Z2.out).cell 2;simp only[tA3,List.getElem?_cons_zero,List.getElem?_cons_succ]at p0 p1 p2;clear rd7;go_wp2_with (at_builtin;refine qvf rfl (.tmp 35) (.tmp 37) rfl w.heap.size u2 n ((quy s).take n) rfl own7.out (some ⟨(W2).heap.size,0,none⟩) 1 (0,(t.queue.length:Int),t.deficit) rfl AB.out (by omega) B7.out.size ?_)
    intro v' w7 own8 b8;go_wp2_with fail
    go_roundw
    case rel=>exact⟨n+1,by omega,by go_num,zh1 ⟨by rw[A2.out];exact own8,B7.out.trans b8⟩⟩
    case measure=>simp[intOf];omega
   have qz:(0:Int)<n:=by omega
   have BO:=zh1 h0;have hl0:=hl;clear h0 hl;cases rb with
   |false=>
    have AA:=zh1 (show qmg n t=0 by unfold qmg;rw[if_pos (.inr (by rw[hrb];rfl))]);clear hrb;go_upto_region 7 with((with_reducible refine(qks t.state _).mono ?_);rintro e w5 ⟨rfl,rfl⟩;rw[AV.out])
    clear e0 e2;have own7:=zh1 ((O2.out).alloc (.cells #[.int .i64 (0),.int .i64 (t.queue.length:Int),.int .i64 t.deficit] 136));have rd7:Reads ((W2).alloc (.cells #[.int .i64 (0),.int .i64 (t.queue.length:Int),.int .i64 t.deficit] 136)) ((W2).alloc (.cells #[.int .i64 (0),.int .i64 (t.queue.length:Int),.int .i64 t.deficit] 136)).heap.size 3 (some ⟨(W2).heap.size,0,none⟩) 1 (quo (0,(t.queue.length:Int),t.deficit)):=by
     have:=Reads.new (W2) 136 (quo (0,(t.queue.length:Int),t.deficit)) 3 1 rfl;rwa[qar]
    obtain⟨AB,B7,A2⟩:=zh3 rd7 (qah (AH.out) (.cells #[.int .i64 (0),.int .i64 (t.queue.length:Int),.int .i64 t.deficit] 136)) (show (quy s).take (n+1)=(quy s).take n++[(0,(t.queue.length:Int),t.deficit)] by rw[qvg HT.out,AA.out]);have p0:=(Z2.out).cell 0;have p1:=(Z2.out).cell 1;have p2:=(Z2.out).cell 2;simp only[tA3,List.getElem?_cons_zero,List.getElem?_cons_succ]at p0 p1 p2;clear rd7;go_wp2_with (at_builtin;refine qvf rfl (.tmp 35) (.tmp 37) rfl w.heap.size u2 n ((quy s).take n) rfl own7.out (some ⟨(W2).heap.size,0,none⟩) 1 (0,(t.queue.length:Int),t.deficit) rfl AB.out (by omega) B7.out.size ?_)
    intro v' w7 own8 b8;go_wp2_with fail
    go_roundw
    case rel=>exact⟨n+1,by omega,by go_num,zh1 ⟨by rw[A2.out];exact own8,B7.out.trans b8⟩⟩
    case measure=>simp[intOf];omega
   |true=>
    have AA:=zh1 (show qmg n t=t.weight by unfold qmg;rw[if_neg (by rw[hrb];simp;exact BO.out)]);clear hrb;have f0:=Z2.out.frozen 0;have p0:=Z2.out.cell 0;simp only[tA3,List.getElem?_cons_zero,List.getElem?_cons_succ]at p0;go_upto_region 7 with((with_reducible refine(qks t.state _).mono ?_);rintro e w5 ⟨rfl,rfl⟩;rw[AV.out])
    obtain⟨W3,hW3⟩:=eqx (W2.setCell ⟨P,0,none⟩ (.int .i64 t.weight));rw[←hW3];have Z3:=zh1 (show Blk W3 P 136 #[.int .i64 t.weight,.int .i64 (t.queue.length:Int),.int .i64 t.deficit] by rw[hW3];exact Z2.out.set_ 0 _);have O3:=zh1 (show W3.ownsRow w.heap.size 136 3 u2 n (qup ((quy s).take n)) by
     rw[hW3];exact qal O2.out (fun e=>by have:=(World.ownsRow.lt hl0.out.1 P e).2;have:=PG.out;omega) _)
    have BP:=zh1 (show Below w.heap.size w W3 by rw[hW3];exact AH.out.setCell (by have:=PG.out;have:=BN.out;show w.heap.size≤P;omega) _);clear hW3 e0 e2 p0 f0;have own7:=zh1 ((O3.out).alloc (.cells #[.int .i64 (t.weight),.int .i64 (t.queue.length:Int),.int .i64 t.deficit] 136));have rd7:Reads ((W3).alloc (.cells #[.int .i64 (t.weight),.int .i64 (t.queue.length:Int),.int .i64 t.deficit] 136)) ((W3).alloc (.cells #[.int .i64 (t.weight),.int .i64 (t.queue.length:Int),.int .i64 t.deficit] 136)).heap.size 3 (some ⟨(W3).heap.size,0,none⟩) 1 (quo (t.weight,(t.queue.length:Int),t.deficit)):=by
     have:=Reads.new (W3) 136 (quo (t.weight,(t.queue.length:Int),t.deficit)) 3 1 rfl;rwa[qar]
    obtain⟨AB,B7,A2⟩:=zh3 rd7 (qah (BP.out) (.cells #[.int .i64 (t.weight),.int .i64 (t.queue.length:Int),.int .i64 t.deficit] 136)) (show (quy s).take (n+1)=(quy s).take n++[(t.weight,(t.queue.length:Int),t.deficit)] by rw[qvg HT.out,AA.out]);have p0:=(Z3.out).cell 0;have p1:=(Z3.out).cell 1;have p2:=(Z3.out).cell 2;simp only[tA3,List.getElem?_cons_zero,List.getElem?_cons_succ]at p0 p1 p2;clear rd7;go_wp2_with (at_builtin;refine qvf rfl (.tmp 35) (.tmp 37) rfl w.heap.size u2 n ((quy s).take n) rfl own7.out (some ⟨(W3).heap.size,0,none⟩) 1 (t.weight,(t.queue.length:Int),t.deficit) rfl AB.out (by omega) B7.out.size ?_)
    intro v' w7 own8 b8;go_wp2_with fail
    go_roundw
    case rel=>exact⟨n+1,by omega,by go_num,zh1 ⟨by rw[A2.out];exact own8,B7.out.trans b8⟩⟩
    case measure=>simp[intOf];omega
  have qn:¬(n:Int)<16:=by omega
  obtain rfl:n=16:=by omega
  have hown:=hl.out.1;rw[List.take_of_length_le (by unfold quy;rw[List.length_mapIdx,HS.out.tresn];omega)]at hown;obtain⟨OL,BL⟩:=zh2 hown hl.out.2;clear hown hl;go_upto_region 9 with(fail)
  obtain⟨A,cc,hv2,hcc,hcm,hrd⟩:=qaf OL.out;subst hv2;have hso:=HS.out;obtain⟨a,ha⟩:∃a:Nat,s.lane=a:=⟨s.lane.toNat,by have:=hso.lane;omega⟩;obtain⟨q,hq⟩:∃q:Nat,c.quantum=q:=⟨c.quantum.toNat,by have:=HC.out.q1;omega⟩;have hlen:(quy s).length=16:=by unfold quy;rw[List.length_mapIdx,hso.tresn]
  obtain⟨⟨⟨r0,r1,r2⟩,lo⟩,hsv⟩:∃x,quv (quy s) a q=x:=⟨_,rfl⟩;have AI:=fun w1 (b:Below wr.heap.size wr w1)=>qv5 (quy s) a q A cc w1 (by rw[hlen];exact hrd.call b) (qv1 hso) (by rw[hlen];omega) (by rw[hlen];have:=hso.lane;omega) (by have:=HC.out.q1;have:=HC.out.q2;omega) (by rw[hlen];exact hcc)
  simp only[hlen,hsv]at AI;have M0:=H.out.call BL.out;have c6:=M0.c6;have c1:=M0.c1;rw[ha]at c6;rw[hq]at c1;obtain⟨BQ,AC,AW,HA,HQ,C6,C1⟩:=zh7 M0 AI hsv ha hq c6 c1;clear hso ha hq hlen hsv AI M0 c6 c1 hrd;obtain⟨S,A1⟩:∃S:World→Prop,Hid (∀w',S w'=(Below wr.heap.size wr w')):=⟨_,fun _=>rfl⟩;refine qji S 18 [52,40,53,54,6] [(0,false),(1,false),(2,false),(3,false),(4,false),(5,false),(6,false),(7,false),(8,false),(9,false),(10,false)] 5 (.two 11 (.read 12 (.read 13 (.read 14 (.one 15 .done)))) 15 (.one 11 (.read 12 (.read 13 (.read 14 .done))))) [(16,true),(17,false)] #[true,true,true,true,true,true,true,true,true,true,true,false,false,false,false,false,false,false] #[true,true,true,true,true,true,true,true,true,true,true,true,true,true,true,true,false,false] (by kernel_rfl) rfl (by kernel_rfl) (by kernel_rfl) (by kernel_rfl) (by kernel_rfl) (by kernel_rfl) (fun _ _ d _ _ h=>by cases d<;>exact h) ((A1.out _).mpr ((tA5 _ _).drew)) ?_;obtain⟨F0,F1⟩:=zh2 (fun(w':World)(h:S w')=>qai C6.out ((A1.out w').mp h)) (fun(w':World)(h:S w')=>qai C1.out ((A1.out w').mp h));iterate 11 (refine qjp rfl rfl ⟨?_,fun w1 hS=>?_,?_⟩;rotate_left;(focus(have g0:=F0.out w1 hS;have g1:=F1.out w1 hS;clear hS;go_simp;try rfl));simp only[Act.put,tA0,tA1,tA2])
  refine qjo ?_;obtain⟨Wd,hWd⟩:=eqx wr.drew;have BD:=zh1 (show Below wr.heap.size wr Wd by rw[hWd];exact(tA5 _ _).drew);rw[←hWd];clear hWd;refine⟨fun vs w'=>∃g9 v,vs=[.tuple #[.agg #[.int .i64 r0,.int .i64 r1,.int .i64 r2],v],.tuple #[.agg #[.int .i64 r0,.int .i64 r1,.int .i64 r2],v],.agg #[.int .i64 r0,.int .i64 r1,.int .i64 r2],v,.pointer (some ⟨g9,0,none⟩)]∧Blk w' g9 138 #[.int .i64 0,.int .i64 0,.int .i64 0]∧wr.heap.size≤g9∧w'.ownsRow wr.heap.size 136 3 v 16 (qup lo)∧Below wr.heap.size wr w',?_,?_⟩
  ·
   refine qjn rfl rfl rfl rfl ?_ ?_
   ·
    go_simp;refine(AC.out Wd BD.out).mono ?_;rintro e w2 ⟨v,rfl,o2,b2⟩;obtain⟨B2,O2⟩:=zh2 (BD.out.trans (b2.mono BD.out.size)) (qeq o2 BD.out.size);clear b2 o2;refine⟨(A1.out _).mpr B2.out,?_⟩;try simp only[Act.put,tA0,tA1,tA2]
    iterate 3 (refine qjk rfl rfl ⟨?_,fun w1 hS=>?_,?_⟩;rotate_left;(focus(go_simp;(try go_bits);try rfl));simp only[Act.put,tA0,tA1,tA2])
    refine qjm rfl rfl ?_;go_simp;refine⟨(A1.out _).mpr (B2.out.alloc B2.out.size _),qjj ⟨[_,_,_,_,_],rfl,w2.heap.size,v,rfl,Blk.new _ _ _,B2.out.size,qq9 O2.out (qah (tA5 _ _) _),B2.out.alloc B2.out.size _⟩⟩
   go_simp;obtain⟨w2,hw2⟩:=eqx (Wd.alloc (.cells #[.int .i64 0,.int .i64 0,.int .i64 0] 138));rw[←hw2];obtain⟨Z2,B2⟩:=zh2 (show Blk w2 Wd.heap.size 138 #[.int .i64 0,.int .i64 0,.int .i64 0] by rw[hw2];exact Blk.new _ _ _) (show Below wr.heap.size wr w2 by rw[hw2];exact BD.out.alloc BD.out.size _);clear hw2;refine⟨(A1.out _).mpr B2.out,?_⟩;try simp only[Act.put,tA0,tA1,tA2]
   refine qjm rfl rfl ?_;go_simp;refine(AC.out w2 B2.out).mono ?_;rintro e w3 ⟨v,rfl,o3,b3⟩;obtain⟨B3,O3,Z3⟩:=zh3 (B2.out.trans (b3.mono B2.out.size)) (qeq o3 B2.out.size) (Z2.out.below b3 Z2.out.lt);clear b3 o3;refine⟨(A1.out _).mpr B3.out,?_⟩;try simp only[Act.put,tA0,tA1,tA2]
   iterate 3 (refine qjk rfl rfl ⟨?_,fun w1 hS=>?_,?_⟩;rotate_left;(focus(go_simp;(try go_bits);try rfl));simp only[Act.put,tA0,tA1,tA2])
   refine qjj ⟨[_,_,_,_,_],rfl,Wd.heap.size,v,rfl,Z3.out,BD.out.size,O3.out,B3.out⟩
  rintro vs w4 - ⟨g9,v,rfl,z4,l4,o4,b4⟩;simp only[puts,Act.put,tA0,tA1,tA2];refine qbj rfl rfl ?_;refine wp_store_row 138 (.tmp 6) (.tmp 53) rfl g9 #[.int .i64 r0,.int .i64 r1,.int .i64 r2] rfl rfl 138 _ z4 (by kernel_rfl) (by simp) (by simp[Value.oneCell']) ?_;obtain⟨W5,hW5⟩:=eqx (w4.setRow g9 #[.int .i64 r0,.int .i64 r1,.int .i64 r2]);rw[←hW5];obtain⟨H5,B5,O5,BR⟩:=zh4 (show Blk W5 g9 138 #[.int .i64 r0,.int .i64 r1,.int .i64 r2] by rw[hW5];exact z4.setRow _) (show Below wr.heap.size wr W5 by rw[hW5];exact below_setRow b4 l4 _) (show W5.ownsRow wr.heap.size 136 3 v 16 (qup lo) by rw[hW5];exact World.ownsRow.kept o4 (qam _ _ _) (.inr (qa3 o4 z4 (by decide)))) l4;clear hW5 z4 l4 o4 b4;refine⟨fun _=>(A1.out _).mpr B5.out,?_⟩;try simp only[Act.put,tA0,tA1,tA2]
  iterate 1 (refine zrd rfl rfl (fun w1 hS=>by go_simp;(try go_bits);try rfl) ?_;simp only[Act.put,tA0,tA1,tA2])
  refine qbg ?_;clear A1 F0 F1;obtain⟨g7,c7,hv7,t1,t2,-,t4⟩:=qtl O5.out (by omega);subst hv7;obtain⟨T7,BS⟩:=zh2 (t4 (fun b=>if b=g7 then 1 else 0) 1 (by simp)) t1;clear t1 t2 t4;have M5:=BQ.out.call B5.out;have c6:=M5.c6;have f6:=M5.blk.frozen 6;rw[HA.out]at c6;have h90:=H5.out.cell 0;have h92:=H5.out.cell 2;simp only[tA3,List.getElem?_cons_zero,List.getElem?_cons_succ]at h90 h92;have m6:=M5.own1 (.inl rfl) 6 (.int .i64 r2) (s':={s with lane:=r2}) rfl rfl rfl rfl;have t6:Turns (· ==1) W5 col (W5.setCell ⟨g,6,none⟩ (.int .i64 r2)) col:=Turns.setCell _ (by simp[M5.own]);have r6:=((Rest.of_below (col:=col) BL.out).trans (Rest.of_below B5.out)).step t6 rfl;obtain⟨A7,AJ,AK⟩:=zh3 m6 r6 M5.blk.lt;clear M5 m6 r6 t6;go_upto_region 11 with(fail)
  clear c6 f6 h90 h92;obtain⟨W6,hW6⟩:=eqx (W5.setCell ⟨g,6,none⟩ (.int .i64 r2));rw[←hW6]at A7 AJ ⊢;have hgw:=H.out.blk.lt;have hws:=BL.out.size;obtain⟨H6,T6,C8⟩:=zh3 (show Blk W6 g9 138 #[.int .i64 r0,.int .i64 r1,.int .i64 r2] by rw[hW6];exact H5.out.far (by have:=BR.out;show g9≠g;omega) _) (show TopAt W6 (fun b=>if b=g7 then 1 else 0) 1 136 g7 c7 3 16 (qup lo) by rw[hW6];exact T7.out.far (by have:=BS.out;show g7≠g;omega) _) hws;clear hW6 hgw hws;rcases hl:qmf (s.tres.mapIdx fun i t=>qmg i t) s.lane.toNat with _|k
  ·
   have h1:=quw (q:=c.quantum) (l:=quy s) (a:=s.lane.toNat) (by rw[quz];exact hl);rw[HA.out,HQ.out,Int.toNat_natCast,AW.out]at h1;injection h1 with h1 h2;injection h1 with h3 h4;injection h4 with h4 h5;subst h3 h4 h5;have hS:S1=s:=by rw[←AS.out];exact qsw HS.out hl
   have hs6:({s with lane:=(a:Int)}:Sta)=s:=by rw[←HA.out]
   rw[hs6]at A7;have AD:=zh1 hS;have h90:=H6.out.cell 0;simp only[tA3,List.getElem?_cons_zero,List.getElem?_cons_succ]at h90;clear hS hs6 hl h2;go_wp2_with fail
   refine bodyPost_ret (results_none rfl _ _ _) rfl ?_;exact⟨rfl,col,⟨css,by rw[AD.out];exact A7.out⟩,AJ.out⟩
  obtain⟨hk0,t,ht,hrun,hwt⟩:=qst hl;have hS2:=qsy (c:=c) HS.out hl ht;rw[AS.out]at hS2;have h1:=qv2 (c:=c) HS.out hl ht;rw[HA.out,HQ.out,Int.toNat_natCast,AW.out]at h1;have hto:=HS.out.tre ht;have hle:takeN c t≤t.queue.length:=by unfold takeN;omega
  have hqo:(seqT c t).Ok:=qsu hto (q:=c.quantum) _ _ rfl rfl;have hdf:=hqo.deficit;obtain⟨tk,htk⟩:=xeq (takeN c t);have hsq:seqT c t={t with deficit:=0,leaves:=t.leaves++t.queue.take tk,queue:=t.queue.drop tk}:=by
   have e:seqT c t={t with deficit:=(seqT c t).deficit,leaves:=t.leaves++t.queue.take (takeN c t),queue:=t.queue.drop (takeN c t)}:=rfl;rw[hdf,htk]at e;exact e
  rw[htk,hdf]at h1;rw[htk]at hS2 hle;injection h1 with h1 h2;injection h1 with h3 h4;injection h4 with h4 h5;subst h3 h4 h5;have hk16:k<16:=by obtain⟨h,_⟩:=List.getElem?_eq_some_iff.1 ht;rw[HS.out.tresn]at h;exact h
  have hll:(quy s).length=16:=by unfold quy;rw[List.length_mapIdx,HS.out.tresn]
  have hlo:(qup lo)[k*3+2]? =some (.int .i64 0):=by
   rw[h2];exact(qur (x:=(qmg k t,(t.queue.length:Int) - tk,0)) (by rw[List.getElem?_set_self (by omega)]) (by omega)).trans rfl
  have hl1:(0:Int)≤(((k+1) % 16:Nat):Int)∧(((k+1) % 16:Nat):Int)<16:=by omega
  obtain⟨s6,hs6⟩:=eqx ({s with lane:=(((k+1) % 16:Nat):Int)}:Sta);rw[←hs6]at A7 hS2;have s6ok:s6.Ok:=by rw[hs6];exact {HS.out with lane:=hl1}
  have ht6:s6.tres[k]? =some t:=by rw[hs6];exact ht
  have qk:(k:Int)<16:=by omega
  have qk0:(0:Int)≤k:=by omega
  obtain⟨A4,A5,AE,BT,BU,BV,BW,BX⟩:=zh8 s6ok ht6 hto hlo hS2 hsq hqo hle;obtain⟨BY,AL⟩:=zh2 hk0 hrun;have h90:=H6.out.cell 0;simp only[tA3,List.getElem?_cons_zero,List.getElem?_cons_succ]at h90;clear hk0 ht hrun hwt hS2 hto hle hqo hdf htk hsq h2 hl hll hlo hl1 hs6 s6ok ht6;go_upto_region 12 with(fail)
  have c8:=A7.out.c8;obtain⟨S,A1⟩:∃S:World→Prop,Hid (∀w',S w'=(w'.cell? ⟨g9,0,none⟩=some (.int .i64 (k:Int))∧w'.cell? ⟨g,8,none⟩=some (.slice (some ⟨L.rg,0,none⟩) 16 L.rc))):=⟨_,fun _=>rfl⟩;refine zrs S 9 [(0,false),(1,false),(2,false),(3,false),(4,false),(5,false),(6,false),(7,false),(8,false)] ((A1.out _).mpr (⟨h90,c8⟩)) ?_;have F0:=zh1 (fun(w':World)(h:S w')=>(A1.out w').mp h);repeat(refine zrd rfl rfl (fun w1 hS=>by have g0:=(F0.out w1 hS).1;have g1:=(F0.out w1 hS).2;clear hS;go_simp;try rfl) ?_;simp only[Act.put,tA0,tA1,tA2])
  refine qbg ?_;clear F0 A1 c8 h90;obtain⟨W7,hW7⟩:=eqx W6.drew;rw[←hW7];have b7:Below W6.heap.size W6 W7:=by rw[hW7];exact(tA5 _ _).drew
  obtain⟨H7,T7b⟩:=zh2 (H6.out.below b7 H6.out.lt) (T6.out.keep ((Turns.of_below (fun _=>false) b7).keeps rfl));have M7:=A7.out.call b7;have R7:=zh1 (AJ.out.trans (Rest.of_below b7));clear hW7 b7;obtain⟨-,Ad,cd,Al,cl,Aq,cq,hcs,hcell,hrd,hrl,hrq⟩:=M7.st.tree A4.out A5.out;have e3:=hcell 3 (.int .i64 t.deficit) rfl;have f3:=M7.st.tres.frozen (k*75+3);have l3:W7.cell? ⟨g7,k*3+2,none⟩=some (.int .i64 0):=T7b.out.cell BT.out;have h90:=H7.out.cell 0;simp only[tA3,List.getElem?_cons_zero,List.getElem?_cons_succ]at h90;have m8:=M7.deficit1 (.inl rfl) A4.out A5.out 0;rw[qvi A5.out (show ({t with deficit:=0}:Tre)=t by have:=AE.out.deficit;rw[←this])]at m8;have t8:Turns (· ==3) W7 col (W7.setCell ⟨L.rg,k*75+3,none⟩ (.int .i64 0)) col:=Turns.setCell _ (by simp[M7.st.tres.1]);have hgL:g9≠L.rg:=by
   intro e;have h1:=H7.out;obtain⟨-,sp,h2,-⟩:=M7.st.tres;rw[←e]at h2;unfold Blk at h1 h2;rw[h1]at h2;injection h2 with h2;injection h2 with _ h2;revert h2
   decide
  obtain⟨AM,AX,AK,H8⟩:=zh4 m8 t8 hgL (H7.out.far (p:=⟨L.rg,k*75+3,none⟩) hgL (.int .i64 0));clear hcs hcell hrd hrl hrq M7 m8 t8 hgL;go_upto_region 14 with(fail)
  clear e3 f3 l3 h90;obtain⟨W8,hW8⟩:=eqx (W7.setCell ⟨L.rg,k*75+3,none⟩ (.int .i64 0));rw[←hW8]at AM AX H8 ⊢;clear hW8;obtain⟨-,Ad,cd,Al,cl,Aq,cq,hcs,hcell,hrd,hrl,hrq⟩:=AM.out.st.tree A4.out A5.out;obtain⟨nl,hnl⟩:=xeq t.leaves.length;obtain⟨nq,hnq⟩:=xeq t.queue.length;have hb1:=AE.out.leaves;have hb2:=AE.out.queue;have hle:=BX.out;rw[hnl,hnq]at hb1;rw[hnq]at hb2 hle;rw[hnl,hnq]at hcell;obtain⟨vs,hrow1,htx1⟩:=hrl;obtain⟨vs2,hrow2,htx2⟩:=hrq;rw[hnl]at hrow1;rw[hnq]at hrow2;obtain⟨A0,c0,ev,hlc,hlm,-,-⟩:=hrow1.sl;injection ev with ev1 _ ev3;subst ev1 ev3;obtain⟨A0,c0,ev,hqc,hqm,hrd2,-⟩:=hrow2.sl;injection ev with ev1 _ ev3;subst ev1 ev3;have e5:=hcell 5 (.slice Al nl cl) rfl;have e6:=hcell 6 (.slice Aq nq cq) rfl;have h91:=H8.out.cell 1;simp only[tA3,List.getElem?_cons_zero,List.getElem?_cons_succ]at h91;have qt0:(0:Int)≤tk:=by omega
  have qt1:(tk:Int)≤nq:=by omega
  have qt2:(tk:Int)≤cq:=by omega
  have qn2:(nq:Int)≤cq:=by omega
  obtain⟨BZ,AY,C0,C2,AZ,B0,AF,AN⟩:=zh8 hcs hrow1 hrow2 htx1 htx2 hnl hnq hrd2;obtain⟨E6,C3⟩:=zh2 e6 hlc;clear hcs hcell hrd hrow1 hrow2 htx1 htx2 hnl hnq hrd2 hlc;obtain⟨S,A1⟩:∃S:World→Prop,Hid (∀w',S w'=(w'.cell? ⟨L.rg,k*75+5,none⟩=some (.slice Al nl cl)∧w'.cell? ⟨L.rg,k*75+6,none⟩=some (.slice Aq nq cq)∧w'.cell? ⟨g9,1,none⟩=some (.int .i64 (tk:Int)))):=⟨_,fun _=>rfl⟩;refine zrs S 16 [(0,false),(1,false),(2,false),(3,false),(4,false),(6,false),(7,false),(8,false),(9,false),(10,false),(11,false),(12,false),(5,true),(13,true),(14,false),(15,false),(16,true)] ((A1.out _).mpr (⟨e5,e6,h91⟩)) ?_;obtain⟨F0,C5,B4⟩:=zh3 (fun(w':World)(h:S w')=>(A1.out w').mp h) e5 h91;clear e5 e6 h91;iterate 12 (refine zrd rfl rfl (fun w1 hS=>by have g0:=(F0.out w1 hS).1;have g1:=(F0.out w1 hS).2.1;have g2:=(F0.out w1 hS).2.2;clear hS;go_simp;try rfl) ?_;simp only[Act.put,tA0,tA1,tA2])
  obtain⟨Wd,hWd⟩:=eqx W8.drew;have BD:=zh1 (show Below W8.heap.size W8 Wd by rw[hWd];exact(tA5 _ _).drew);rw[←hWd];clear hWd;obtain⟨MD,HD⟩:=zh2 (AM.out.call BD.out) (H8.out.below BD.out H8.out.lt);refine qbj rfl rfl ?_;go_simp;refine(qv6 Al nl cl Wd C3.out (by omega)).mono ?_;rintro e w1 ⟨rfl,rfl⟩;refine⟨(A1.out _).mpr ⟨qai C5.out BD.out,qai E6.out BD.out,qai B4.out BD.out⟩,?_⟩;try simp only[Act.put,tA0,tA1,tA2]
  obtain⟨i0,hi0,hz0,hz1,hz2⟩:=info_parts Tryz.madd_info;have hv2:vs2.length=t.queue.length:=by have:=C0.out.1;have:=AF.out;omega
  have hv1:vs.length=t.leaves.length:=by have:=AY.out.1;have:=B0.out;omega
  refine qbj rfl rfl ?_;refine qv9 Wd (.tmp 86) (.tmp 93) _ _ rfl col (11+3*k) 23 i0 _ 1 24 Tryz.underlying72 hi0 hz0 hz1 hz2 rfl Al nl vs rfl ((AY.out.call BD.out).clip) (.slice Aq tk cq) tk (vs2.take tk) rfl (Src.reads Wd Tryz.underlying72 ((AN.out.call BD.out).pre hle) (fun u hu=>qvh hv2 AZ.out u (List.mem_of_mem_take hu)) (by decide)) (by simp only[maxLen];omega) (by omega) MD.out.fin ?_;intro v' wC col2 r2 t2 f2 b2;obtain⟨A9,c9,rfl,-,-,-,-⟩:=r2.sl;have BC:=zh1 (BD.out.trans (b2.mono BD.out.size));have KD:=(Turns.of_below (col:=col) (fun _=>false) BD.out).keeps (k:=5) rfl;have hX1d:∀(i:Nat) (bs:List Nat),t.leaves[i]? =some bs→∃u,vs[i]? =some u∧TextC Wd col u bs:=fun i bs h=>by
   obtain⟨u,h1,h2⟩:=C2.out i bs h;exact⟨u,h1,h2.keep KD⟩
  have hX2d:∀(i:Nat) (bs:List Nat),t.queue[i]? =some bs→∃u,vs2[i]? =some u∧TextC Wd col u bs:=fun i bs h=>by
   obtain⟨u,h1,h2⟩:=AZ.out i bs h;exact⟨u,h1,h2.keep KD⟩
  have hlt:(t.leaves++t.queue.take tk).length=nl+tk:=by rw[tA6,List.length_take,B0.out,AF.out];omega
  have htx:=qva (l2:=t.leaves++t.queue.take tk) (by rw[hlt];exact r2) (qvb hv1 hX1d (qvc tk hX2d)) (t2.keeps rfl);have hh:∀t∈s6.tres,t.hd.Ok:=fun t ht=>(A4.out.tres t ht).hd
  obtain⟨css9,hcs9,m9,t9⟩:=MD.out.leavesNew (.inl rfl) A4.out.tresn hh A5.out BZ.out t2 f2 htx;obtain⟨AG,AO,B6,C9⟩:=zh4 hcs9 m9 (((R7.out.step AX.out rfl).trans (Rest.of_below BD.out)).step t9 (qq7 (.inl rfl))) f2;have c5w:=qai C5.out BC.out;have f5w:=(MD.out.st.tres.keep (t2.keeps rfl)).frozen (k*75+5);clear hv1 hX1d hX2d hlt htx hh hcs9 m9 t9 f2 KD r2 b2 t2;refine⟨fun _=>(A1.out _).mpr ⟨c5w,qai E6.out BC.out,qai B4.out BC.out⟩,?_⟩;try simp only[Act.put,tA0,tA1,tA2]
  iterate 2 (refine zrd rfl rfl (fun w1 hS=>by go_simp;(try go_bits);try rfl) ?_;simp only[Act.put,tA0,tA1,tA2])
  refine qbj rfl rfl ?_;go_simp;refine qbg ?_;obtain⟨W9,hW9⟩:=eqx (wC.setCell ⟨L.rg,k*75+5,none⟩ (.slice A9 (nl+tk) c9));rw[←hW9]at AO B6 ⊢;have H9:=zh1 (show Blk W9 g9 138 #[.int .i64 (k:Int),.int .i64 (tk:Int),.int .i64 (((k+1) % 16:Nat):Int)] by rw[hW9];exact(H8.out.below BC.out H8.out.lt).far (p:=⟨L.rg,k*75+5,none⟩) AK.out _);have e6:W9.cell? ⟨L.rg,k*75+6,none⟩=some (.slice Aq nq cq):=by
   rw[hW9];exact(World.cell?_setCell_other wC _ _ _ (by intro e;injection e with e1 e2;omega)).trans (qai E6.out BC.out)
  clear hW9 c5w f5w;have h91:=H9.out.cell 1;simp only[tA3,List.getElem?_cons_zero,List.getElem?_cons_succ]at h91;have CA:=zh1 hv2;have ht9:(s6.setT k fun y=>{y with leaves:=t.leaves++t.queue.take tk}).tres[k]? =some {t with leaves:=t.leaves++t.queue.take tk}:=qnc _ A5.out;have hr9:=(AO.out.rows ht9 AG.out).2.2;obtain⟨vs3,hr3,hx3⟩:=hr9;obtain⟨HT9b,E6b,C91b⟩:=zh3 ht9 e6 h91;clear ht9;change RowC W9 col2 (12+3*k) (.slice Aq t.queue.length cq) 23 1 t.queue.length vs3 at hr3;change ∀(i:Nat) (bs:List Nat),t.queue[i]? =some bs→_ at hx3;rw[AF.out]at hr3;obtain⟨A0,c0,ev,-,-,hrd3,-⟩:=hr3.sl;injection ev with ev1 _ ev3;subst ev1 ev3;obtain⟨C4,AP,B8⟩:=zh3 (show vs3.length=t.queue.length by have:=hr3.1;have:=AF.out;omega) hrd3 hx3;clear hr3 hx3 hrd3 hv2;go_upto_region 15 with(fail)
  obtain⟨S,A1⟩:∃S:World→Prop,Hid (∀w',S w'=(w'.cell? ⟨L.rg,k*75+6,none⟩=some (.slice Aq nq cq)∧w'.cell? ⟨g9,1,none⟩=some (.int .i64 (tk:Int)))):=⟨_,fun _=>rfl⟩;refine zrs S 11 [(0,false),(1,false),(2,false),(3,false),(4,false),(5,false),(6,false),(7,false),(8,true),(9,false),(10,false),(11,true)] ((A1.out _).mpr (⟨E6b.out,C91b.out⟩)) ?_;have F0:=zh1 (fun(w':World)(h:S w')=>(A1.out w').mp h);clear e6 h91;iterate 8 (refine zrd rfl rfl (fun w1 hS=>by have g0:=(F0.out w1 hS).1;have g1:=(F0.out w1 hS).2;clear hS;go_simp;try rfl) ?_;simp only[Act.put,tA0,tA1,tA2])
  obtain⟨We,hWe⟩:=eqx W9.drew;have BE:=zh1 (show Below W9.heap.size W9 We by rw[hWe];exact(tA5 _ _).drew);rw[←hWe];clear hWe;refine qbj rfl rfl ?_;go_simp;have rd8:Reads We We.heap.size 1 (if cq=tk then Aq else Option.map (fun x=>x.add tk) Aq) (nq - tk) (vs3.drop tk):=by
   have:=(AP.out.call BE.out).cut (k:=tk) (cap:=cq) hle (by omega);simpa using this
  obtain⟨A8,hA8⟩:∃x,(if cq=tk then Aq else Option.map (fun x=>x.add tk) Aq)=x:=⟨_,rfl⟩;rw[hA8]at rd8 ⊢;obtain⟨C7,ME⟩:=zh2 rd8 (AO.out.call BE.out);clear hA8 rd8;refine(qqg A8 (nq - tk) (cq - tk) (vs3.drop tk) We C7.out (by omega) (fun u hu=>qvh C4.out B8.out u (List.mem_of_mem_drop hu))).mono ?_;rintro e w1 ⟨vA,rfl,oA,bA⟩;obtain⟨A9',c9',hvA,-,-,-⟩:=qaf oA;obtain⟨col3,hc3,r3,f3⟩:=qv7 (w:=We) (col:=col2) (k:=12+3*k) oA (tA4 _) bA.size ME.out.fin;subst hvA;have t3:Turns (fun _=>false) We col2 w1 col3:=(Turns.of_below _ bA).recolour hc3;have KE:=(Turns.of_below (col:=col2) (fun _=>false) BE.out).keeps (k:=5) rfl;have hX3e:∀(i:Nat) (bs:List Nat),t.queue[i]? =some bs→∃u,vs3[i]? =some u∧TextC We col2 u bs:=fun i bs h=>by
   obtain⟨u,h1,h2⟩:=B8.out i bs h;exact⟨u,h1,h2.keep KE⟩
  have htx3:=qva (l2:=t.queue.drop tk) (by rw[List.length_drop,AF.out];exact r3) (qvd tk hX3e) (t3.keeps rfl);have hh:∀t∈s6.tres,t.hd.Ok:=fun t ht=>(A4.out.tres t ht).hd
  obtain⟨css10,m10,t10⟩:=ME.out.queueNew (.inl rfl) (by simp[Sta.setT,A4.out.tresn]) (qn7 (P:=fun t:Tre=>t.hd.Ok) hh (fun y _ o=>o)) HT9b.out AG.out t3 f3 htx3;have hst:((s6.setT k fun y=>{y with leaves:=t.leaves++t.queue.take tk}).setT k fun y=>{y with queue:=t.queue.drop tk})=s6.setT k fun _=>seqT c t:=by
   unfold Sta.setT;dsimp only;rw[qqn,qqa (g:=fun _=>seqT c t) (fun y hy=>by
    rw[A5.out]at hy;injection hy with hy;subst hy;rw[BV.out];have:=AE.out.deficit;rw[←this])]
  rw[hst]at m10;obtain⟨A6,A3,BF⟩:=zh3 m10 ((B6.out.trans (Rest.of_below BE.out)).step t10 (qq7 (.inl rfl))) (BE.out.trans (bA.mono BE.out.size));have e6w:=qai E6b.out BF.out;have f6w:=(ME.out.st.tres.keep (t3.keeps rfl)).frozen (k*75+6);clear hst m10 t10 hh htx3 hX3e KE t3 hc3 r3 f3 oA bA;refine⟨(A1.out _).mpr ⟨e6w,qai C91b.out BF.out⟩,?_⟩;try simp only[Act.put,tA0,tA1,tA2]
  iterate 2 (refine zrd rfl rfl (fun w1 hS=>by go_simp;(try go_bits);try rfl) ?_;simp only[Act.put,tA0,tA1,tA2])
  refine qbj rfl rfl ?_;go_simp;refine qbg ?_;obtain⟨B9,hW10⟩:=eqx (w1.setCell ⟨L.rg,k*75+6,none⟩ (.slice A9' (nq - tk) c9'));rw[←hW10]at A6 A3 ⊢;have BA:=zh1 (show Blk B9 g9 138 #[.int .i64 (k:Int),.int .i64 (tk:Int),.int .i64 (((k+1) % 16:Nat):Int)] by rw[hW10];exact(H9.out.below BF.out H9.out.lt).far (p:=⟨L.rg,k*75+6,none⟩) AK.out _);clear hW10 e6w f6w;have h90:=BA.out.cell 0;have h91:=BA.out.cell 1;simp only[tA3,List.getElem?_cons_zero,List.getElem?_cons_succ]at h90 h91;have hS:=BU.out;by_cases h0:tk=0
  ·
   have qz:¬(0:Int)<tk:=by omega
   rw[if_pos h0]at hS;have AD:=zh1 hS;clear hS h0 hle hb1 hb2;go_wp2_with fail
   go_end0
   exact⟨rfl,col3,⟨css10,by rw[AD.out];exact A6.out⟩,A3.out⟩
  have qz:(0:Int)<tk:=by omega
  rw[if_neg h0]at hS;have AD:=zh1 hS;have sok:(s6.setT k fun _=>seqT c t).Ok:=A4.out.setT (fun y hy o=>BW.out) (fun e=>absurd e BY.out);have CP:=zh1 (qol c _ L col3 2 g css10 k (seqT c t) B9 (.inl rfl) HC.out sok A6.out (qnc (fun _=>seqT c t) A5.out) ((AE.out.live (fun e=>by have h:=AL.out;rw[e]at h;revert h;decide)).2) (BI.out.rest A3.out H.out.base));clear hS h0 hle hb1 hb2 sok;go_wp2_with fail
  refine CP.out.mono ?_;rintro e W11 ⟨rfl,⟨css11,BB⟩,BG⟩;obtain⟨AQ,AR⟩:=zh2 BB (A3.out.step BG rfl);clear BB BG;go_wp2_with fail
  go_end0
  exact⟨rfl,col3,css11,by rw[AD.out];exact AQ.out,AR.out⟩
end
end Go.Proofs.YthomgopipiomhaaGreatDoor

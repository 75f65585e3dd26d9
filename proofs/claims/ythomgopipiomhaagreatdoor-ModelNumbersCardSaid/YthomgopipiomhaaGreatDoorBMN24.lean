/-
  Lemmas for ModelNumbers, shortened by program.
-/
import Derived.Test.YthomgopipiomhaaGreatDoorBMN11
import Derived.Test.YthomgopipiomhaaGreatDoorBMN23
namespace Go.Proofs.YthomgopipiomhaaGreatDoor
set_option linter.unusedVariables false
set_option linter.unusedSimpArgs false
set_option maxRecDepth 100000
set_option maxHeartbeats 32000000
section
open Go.RowKit
structure WldAt (w:World)(gw tb:Nat)(c:Cfg)(A:Option Addr)(n k:Nat):Prop where
 blk:Blk w gw 63 #[.pointer (some ⟨tb,0,none⟩),.int .i64 c.width,.int .i64 c.quantum,.int .u32 (c.store:Int),.slice A n k]
 tab:RTab w tb
 seed:Reads w w.heap.size 1 A n (byv c.seed)
theorem WldAt.call {w w':World}{gw tb:Nat}{c:Cfg}{A:Option Addr}{n k:Nat}(h:WldAt w gw tb c A n k)(hb:Below w.heap.size w w'):WldAt w' gw tb c A n k:=
 ⟨h.blk.below hb h.blk.lt,Blk.below h.tab hb (Blk.lt h.tab),h.seed.call hb⟩
theorem qyd (gw tb:Nat)(c:Cfg)(A:Option Addr)(n k:Nat)(w:World)(h:WldAt w gw tb c A n k)(hs:∀x∈c.seed,x<256)(hn:c.seed.length≤64):
 Calls Tryz.prog 20 #[.pointer (some ⟨gw,0,none⟩)] w fun e w'=>e=.returned (.agg (byv (qlr c.seed)).toArray)∧Below w.heap.size w w':=by
 have ln:=qb5 h.seed;obtain⟨W0,hW0⟩:=eqx (w.alloc (.cells zLD 29));have z0:Blk W0 w.heap.size 29 (byv (List.replicate 32 0)).toArray:=by rw[hW0];exact Blk.new w _ _
 have b0:Below w.heap.size w W0:=by rw[hW0];exact qah (tA5 _ _) _
 obtain⟨H,HS,A3,Z0,B0,HN⟩:=zh6 h hs hW0 z0 b0 (show n≤64 by omega);clear h hs hW0 z0 b0 ln hn;go_enter Tryz.func20,Tryz.ntmps20
 go_upto_region 1 with(fail)
 rw[←A3.out];obtain⟨S,A0⟩:∃S:World→Prop,Hid (∀w',S w'=(Below W0.heap.size W0 w')):=⟨_,fun _=>rfl⟩;refine zrs S 11 [(0,false),(1,false),(2,false),(3,false),(4,false),(5,false),(6,false),(7,false),(8,false),(9,true),(10,true),(11,true),(12,true)] ((A0.out _).mpr ((tA5 _ _).drew)) ?_;obtain⟨F0,F4⟩:=zh2 (fun(w':World)(h:S w')=>((((H.out.call B0.out).call ((A0.out w').mp h)).blk).cell 0).trans (show (#[.pointer (some ⟨tb,0,none⟩),.int .i64 c.width,.int .i64 c.quantum,.int .u32 (c.store:Int),.slice A n k]:Array Value)[0]? =some (.pointer (some ⟨tb,0,none⟩)) from rfl)) (fun(w':World)(h:S w')=>((((H.out.call B0.out).call ((A0.out w').mp h)).blk).cell 4).trans (show (#[.pointer (some ⟨tb,0,none⟩),.int .i64 c.width,.int .i64 c.quantum,.int .u32 (c.store:Int),.slice A n k]:Array Value)[4]? =some (.slice A n k) from rfl));iterate 9 (refine zrd rfl rfl (fun w1 hS=>by have g0:=F0.out w1 hS;have g4:=F4.out w1 hS;clear hS;go_simp;try rfl) ?_;simp only[Act.put,tA0,tA1,tA2])
 obtain⟨Wd,hWd⟩:=eqx W0.drew;have BD:=zh1 (show Below W0.heap.size W0 Wd by rw[hWd];exact(tA5 _ _).drew);rw[←hWd];clear hWd;obtain⟨w1,hw1⟩:=eqx (Wd.alloc (.cells (byv qlo).toArray 5));have e1:w1.heap[Wd.heap.size]? =some (.cells (byv qlo).toArray 5 (0,0)):=by rw[hw1];exact heap_alloc_new Wd _
 have b1:Below Wd.heap.size Wd w1:=by rw[hw1];exact(tA5 _ _).alloc (tA4 _) _
 have s1:w1.heap.size=Wd.heap.size+1:=by rw[hw1,qar]
 obtain⟨E1,S1⟩:=zh2 hw1 s1;clear hw1 s1;refine qbj rfl rfl ?_;go_simp;refine⟨(A0.out _).mpr ?_,?_⟩
 · show Below W0.heap.size W0 (Wd.alloc (.cells (byv qlo).toArray 5))
   exact BD.out.alloc BD.out.size _
 change qba _ _ _ _ _ _ _ (Wd.alloc (.cells (byv qlo).toArray 5));rw[←E1.out];try simp only[Act.put,tA0,tA1,tA2]
 refine qbj rfl rfl ?_;refine qjw (.tmp 12) rfl Wd.heap.size 4 4 rfl _ e1 ?_;intro w2 g2 l2;have b2:Below Wd.heap.size Wd w2:=b1.grown g2 (by have:=S1.out;omega) (by intro g hg;injection hg with hg;omega);have B2:=zh1 (BD.out.trans (b2.mono BD.out.size));have r2:=l2.reads;have H2:=(H.out.call B0.out).call B2.out;have M2:=qya tb n k 4 4 A _ c.seed qlo w2 H2.tab H2.seed r2 HS.out qnh HN.out (by decide);have A4:=zh1 M2;clear M2 r2 H2 b2 b1 e1 g2 l2;refine⟨fun _=>(A0.out _).mpr B2.out,?_⟩;try simp only[Act.put,tA0,tA1,tA2]
 refine qbj rfl rfl ?_;go_simp;refine A4.out.mono ?_;rintro e w9 ⟨rfl,b9⟩;have B9:=zh1 (B2.out.trans (b9.mono B2.out.size));obtain⟨Z9,BB⟩:=zh2 (Z0.out.below B9.out Z0.out.lt) (B0.out.trans (B9.out.mono B0.out.size));clear b9;try simp only[Act.put,tA0,tA1,tA2]
 obtain⟨X9,hX9⟩:=xeq (byv (mac c.seed qlo));have lX9:X9.length=32:=by rw[←hX9,qat];exact qjt _ _
 have oX9:∀u∈X9,u.oneCell'=true:=by rw[←hX9];exact qau _
 rw[hX9];have A5:=zh1 hX9;have A1:(Tryz.prog.info? 29).map (·.size)=some X9.length:=by rw[lX9];exact Tryz.dig_info
 refine qbj rfl rfl ?_;refine wp_store_row 29 (.tmp 2) (.tmp 14) rfl (w.heap.size) X9.toArray rfl rfl 29 _ Z9.out (by simpa using A1) (by simp[lX9,qat]) (by simpa using oX9) ?_;refine⟨fun h=>absurd h (by decide),?_⟩;try simp only[Act.put,tA0,tA1,tA2]
 refine qbg ?_;have z9:=Z9.out.setRow X9.toArray;have A2:=qap z9 0 X9 (fun j u h=>by simpa using h);obtain⟨A6,A7⟩:=zh2 A2 A1;clear hX9 lX9 oX9 A1 z9 A2;go_wp2_with fail
 exact zrt A6.out Tryz.underlying29 A7.out ⟨(by rw[←A5.out];try rfl),below_setRow BB.out (by first|omega|exact tA4 _) _⟩
theorem qye (R:Req)(c:Cfg)(id:Nat)(cav leafv:Value)(ht:R.tag.length=32):over (reqv R cav leafv) 1 (tokv id (.slice none 0 0) (qjs (qlr c.seed) id))=reqv (byR c id R) (.slice none 0 0) leafv:=by
 have l1:=qer R.tid cav R.tag ht;have l2:=qer id (.slice none 0 0) (qjs (qlr c.seed) id) (qjt _ _);unfold over reqv;rw[l2];simp only[List.cons_append,List.take_succ_cons,List.take_zero,List.nil_append];rw[show 1+34=34+1 by rfl,List.drop_succ_cons,←l1,List.drop_left];rfl
theorem qyf (gw tb:Nat)(c:Cfg)(A:Option Addr)(n k:Nat)(id:Nat)(R:Req)(cav leafv:Value)(w:World)(h:WldAt w gw tb c A n k)(hs:∀x∈c.seed,x<256)(hn:c.seed.length≤64)(hid:id<4294967296)(ht:R.tag.length=32)(h1:cav.oneCell'=true)(h2:leafv.oneCell'=true):
 Calls Tryz.prog 28 #[.pointer (some ⟨gw,0,none⟩),.int .u32 (id:Int),.agg (reqv R cav leafv).toArray] w fun e w'=>e=.returned (.agg (reqv (byR c id R) (.slice none 0 0) leafv).toArray)∧Below w.heap.size w w':=by
 have hby:=qye R c id cav leafv ht;have lQ:=qis R cav leafv ht;have lP:=qis (byR c id R) (.slice none 0 0) leafv (qjt _ _);have oP:=qyc (byR c id R) (.slice none 0 0) leafv rfl h2;obtain⟨Q,hQ⟩:=xeq (reqv R cav leafv);obtain⟨P,hP⟩:=xeq (reqv (byR c id R) (.slice none 0 0) leafv);rw[hQ,hP]at hby;rw[hQ]at lQ;rw[hP]at lP oP;rw[hQ,hP];obtain⟨W0,hW0⟩:=eqx ((w.alloc (.cells Q.toArray 34)).alloc (.cells zLQ 34));have q0:Blk W0 w.heap.size 34 Q.toArray:=by rw[hW0];exact(Blk.new w _ _).alloc _
 have z0:Blk W0 (w.heap.size+1) 34 zLQ:=by
  have h:=Blk.new (w.alloc (.cells Q.toArray 34)) 34 zLQ;rw[qar]at h;rw[hW0];exact h
 have b0:Below w.heap.size w W0:=by rw[hW0];exact qah (qah (tA5 _ _) _) _
 obtain⟨H,A4,Q0,Z0,B0,A2,LQ,LP⟩:=zh8 h hW0 q0 z0 b0 hby lQ lP;obtain⟨OP,HS,HN⟩:=zh3 oP hs hn;clear h hW0 q0 z0 b0 hby lQ lP oP hs hn hQ hP h1 h2 ht;go_enter Tryz.func28,Tryz.ntmps28
 go_upto_region 1 with(fail)
 rw[←A4.out];obtain⟨S,A0⟩:∃S:World→Prop,Hid (∀w',S w'=(Below W0.heap.size W0 w')):=⟨_,fun _=>rfl⟩;refine zrs S 9 [(0,false),(1,false),(2,false),(3,false),(4,false),(6,false),(5,true),(7,true),(8,false),(9,true)] ((A0.out _).mpr ((tA5 _ _).drew)) ?_;have F0:=zh1 (fun(w':World)(h:S w')=>((((H.out.call B0.out).call ((A0.out w').mp h)).blk).cell 0).trans (show (#[.pointer (some ⟨tb,0,none⟩),.int .i64 c.width,.int .i64 c.quantum,.int .u32 (c.store:Int),.slice A n k]:Array Value)[0]? =some (.pointer (some ⟨tb,0,none⟩)) from rfl));iterate 6 (refine zrd rfl rfl (fun w1 hS=>by have g0:=F0.out w1 hS;clear hS;go_simp;try rfl) ?_;simp only[Act.put,tA0,tA1,tA2])
 obtain⟨Wd,hWd⟩:=eqx W0.drew;have BD:=zh1 (show Below W0.heap.size W0 Wd by rw[hWd];exact(tA5 _ _).drew);rw[←hWd];clear hWd;refine qbj rfl rfl ?_;go_simp;refine(qyd gw tb c A n k Wd ((H.out.call B0.out).call BD.out) HS.out HN.out).mono ?_;rintro e w1 ⟨rfl,b1⟩;have B1:=zh1 (BD.out.trans (b1.mono BD.out.size));clear b1;refine⟨(A0.out _).mpr B1.out,?_⟩;try simp only[Act.put,tA0,tA1,tA2]
 refine qbj rfl rfl ?_;go_simp;refine(qyb tb (qlr c.seed) id w1 (qjt _ _) (qju _ _) hid ((H.out.call B0.out).call B1.out).tab).mono ?_;rintro e w2 ⟨rfl,b2⟩;have B2:=zh1 (B1.out.trans (b2.mono B1.out.size));clear b2;obtain⟨T,hT⟩:=xeq (tokv id (.slice none 0 0) (qjs (qlr c.seed) id));have lT:T.length=34:=by rw[←hT];exact qer _ _ _ (qjt _ _)
 have oT:∀u∈T,u.oneCell'=true:=by rw[←hT];exact qf3 _ _ rfl _
 rw[hT]at A2 ⊢;obtain⟨Q2,Z2,LT,OT⟩:=zh4 (Q0.out.below B2.out Q0.out.lt) (Z0.out.below B2.out Z0.out.lt) lT oT;clear hT lT oT;refine⟨(A0.out _).mpr B2.out,?_⟩;try simp only[Act.put,tA0,tA1,tA2]
 iterate 1 (refine zrd rfl rfl (fun w1 hS=>by go_simp;(try go_bits);try rfl) ?_;simp only[Act.put,tA0,tA1,tA2])
 refine qbj rfl rfl ?_;refine wp_store_mid 31 (.tmp 15) (.tmp 14) rfl w.heap.size 1 T.toArray rfl rfl (fun j hj=>⟨by rw[Q2.out.cell,tA3,tA7 (by have h0:T.toArray.size=34:=List.size_toArray.trans LT.out;rw[LQ.out];omega)];simp,Q2.out.frozen _⟩) (by rw[List.size_toArray,LT.out];kernel_rfl) (by simpa using OT.out) ?_;have q3:=qmi T 1 w2 Q Q2.out (by rw[LQ.out,LT.out];decide);rw[A2.out]at q3;have g3:=qmj w.heap.size T 1 w2;have z3:=Z2.out.grown g3 (by intro e;injection e with e;omega);have b3:Below w.heap.size w (w2.setCells w.heap.size 1 T):=(B0.out.trans (B2.out.mono B0.out.size)).grown g3 (Nat.le_trans B0.out.size B2.out.size) (by intro g hg;injection hg with hg;omega);obtain⟨Q3,Z3,B3⟩:=zh3 q3 z3 b3;clear q3 g3 z3 b3;refine⟨fun h=>absurd h (by decide),?_⟩;try simp only[Act.put,tA0,tA1,tA2]
 refine qbg ?_;clear A0 F0;obtain⟨W3,hW3⟩:=eqx (w2.setCells w.heap.size 1 T);obtain⟨A3,A1⟩:=zh2 (qap Q3.out 0 P (fun j u h=>by simpa using h)) (zI 34 LP.out);rw[←hW3]at A3 Q3 Z3 B3 ⊢;clear hW3;go_wp2_with (first
  |(refine qaq rfl 34 (.tmp 5) rfl w.heap.size 0 rfl P _ A3.out Tryz.underlying34 rfl A1.out ?_)
  |(refine zst 34 (.tmp 6) (.tmp 16) (w.heap.size+1) P Z3.out A1.out (by simp[LP.out]) OP.out ?_))
 have A5:=qap (Z3.out.setRow P.toArray) 0 P (fun j u h=>by simpa using h);exact zrt A5 Tryz.underlying34 A1.out ⟨rfl,below_setRow B3.out (by omega) _⟩
end
section
open Go.RowKit
theorem qyg (n:Nat):(rWhy n).Ok:=⟨by show (0:Nat)<18446744073709551616;omega,fun x h=>(nomatch h),fun x h=>(nomatch h),Hd.zero_Ok,qig⟩
theorem qyh {n:Nat}(h:n<18446744073709551616):(qlz n).Ok:=⟨h,fun x h=>(nomatch h),fun x h=>(nomatch h),Hd.zero_Ok,qig⟩
theorem qyi {l:List (List Nat)}{b:List Nat}{k:Nat}(h:qm3 l b=some k):k<l.length:=by
 unfold qm3 at h;obtain⟨h1,_⟩:=List.findIdx?_eq_some_iff_getElem.1 h;exact h1
theorem qyj {x:Int}(h:(Lit.int .i64 x).wf=true):x.toNat<18446744073709551616:=by
 have:=(Go.Lit.wf_int_iff _ _).1 h;rw[IntKind.min_i64,IntKind.max_i64]at this;omega
theorem qyk {c:Cfg}{s:Sta}{R:Req}{t:Tre}(o:t.Ok)(hr:R.Good):(qm5 c s R t).Ok:=by
 have h1:=hr.lo;have h2:=hr.hi;unfold qm5;split
 · exact⟨by show (0:Nat)<_;omega,fun x h=>(nomatch h),fun x h=>(nomatch h),o.hd,qig⟩
 split
 · split
   · exact qyg _
   rename_i b hb
   exact⟨h1,fun x hx=>(o.leafb b (List.mem_of_getElem? hb)).bs.2 x hx,fun x h=>(nomatch h),Hd.zero_Ok,qig⟩
 split
 · split
   · exact qyg _
   exact⟨h2,fun x h=>(nomatch h),(qqv _ (qdt c.width).2 _ _ _ (tA4 _)).2,Hd.zero_Ok,qig⟩
 split
 · exact qyg _
 exact⟨h2,fun x h=>(nomatch h),(qqw _ (qdt c.width).2 _ _ _ _ (tA4 _)).2,Hd.zero_Ok,qig⟩
theorem qyl {c:Cfg}{s:Sta}{R:Req}(hs:s.Ok)(hr:R.Good):(qmd c s R).2.Ok:=by
 have w1:=qyj hr.tree;have w2:=qyj hr.tenant;have w3:=qyj hr.state;have w4:=qyj hr.weight;have w5:=hr.id;have hg:=hs.grasn;unfold qmd;split
 · unfold qm6
   repeat' split
   all_goals first|exact qyg _|exact qyh (by omega)
 split
 · unfold qma
   repeat' split
   all_goals first
    |exact qyg _
    |exact⟨by show s.gras.length<_;omega,fun x h=>(nomatch h),fun x h=>(nomatch h),Hd.zero_Ok,⟨by show s.gras.length<_;omega,fun x h=>(nomatch h),qjt _ _,qju _ _⟩⟩
 split
 · unfold qmb
   repeat' split
   all_goals first|exact qyg _|exact qyh (by omega)
 split
 · unfold qmc
   repeat' split
   all_goals first|exact qyg _|exact qyh (by omega)
 split
 · exact qyg _
 rename_i t ht
 have o:t.Ok:=by
  obtain⟨_,h,_⟩:=Sta.tree_some ht;exact hs.tre h
 have ol:=o.leaves;have od:=o.draws;split
 ·
  unfold qm4;split
  · exact qyg _
  split
  · rename_i k hk
    exact qyh (by have:=qyi hk;omega)
  split
  · rename_i k hk
    exact qyh (by have:=qyi hk;omega)
  split
  · exact qyg _
  split
  · exact qyg _
  split
  · exact qyg _
  exact qyh (by omega)
 split
 · unfold qm7
   split
   · exact qyg _
   exact qyh w3
 split
 ·
  unfold qm8;split
  · exact qyg _
  split
  · exact qyg _
  exact qyh w4
 split
 · unfold qm9
   split
   · exact qyg _
   exact qyh (by omega)
 exact qyk (s:=s) o hr
theorem qym {s:Sta}(hs:s.Ok)(n:Nat):(s.tres[n]?.getD Tre.zero).hd.Ok:=by
 cases h:s.tres[n]? with
 |none=>exact Hd.zero_Ok
 |some t=>exact(hs.tre h).hd
theorem qyn {c:Cfg}{s:Sta}{R:Req}(hs:s.Ok)(hr:R.Good):(doS c s R).2.Ok:=by
 have h1:=qyl (c:=c) hs hr;have h2:=qso (c:=c) hs hr;unfold doS at h2 ⊢;dsimp only at h2 ⊢;split
 · exact qyg _
 rename_i e1
 rw[if_neg e1]at h2;split
 · exact qyg _
 rename_i e2
 rw[if_neg e2]at h2;split
 · exact qyg _
 rename_i e3
 rw[if_neg e3]at h2;split
 · exact qyg _
 rename_i e4
 rw[if_neg e4]at h2;split
 ·
  rename_i e5
  rw[if_pos e5]at h2;dsimp only at h2 ⊢;split
  · exact⟨h1.n,h1.bytes,h1.hashes,qym h2 _,h1.tok⟩
  exact h1
 exact h1
end
section
open Go.RowKit
abbrev ErrT (w:World):Prop:=w.cell? ⟨0,0,none⟩=some (.iface 327 (.agg #[.pointer (some ⟨3,81,none⟩)]))
structure Sit (W:World)(B:Nat)(w:World)(col:Col)(g gw tb:Nat)(c:Cfg)(s:Sta):Prop where
 ok:s.Ok
 mdl:∃L css,Mdl w col 2 g c s L css
 wld:∃A n k,WldAt w gw tb c A n k∧(0<n→∀ad,A=some ad→col ad.block=0∧ad.block<B)
 gws:col gw=0∧gw<B
 tbs:col tb=0∧tb<B
 tabs:Tabs w
 err:ErrT w
 low:∀b,b<W.heap.size→col b=0
 base:3≤W.heap.size∧W.heap.size≤B∧B≤w.heap.size
 below:Below W.heap.size W w
section
variable {W w w' : World} {col col' : Col} {B g gw tb : Nat} {c : Cfg} {s s' : Sta}
theorem Sit.next (h:Sit W B w col g gw tb c s)(hr:Rest w col w' col')(hs:s'.Ok)(hm:∃L css,Mdl w' col' 2 g c s' L css):Sit W B w' col' g gw tb c s':=by
 obtain⟨L,css,h2⟩:=h.mdl;obtain⟨A,n,k,hw,hA⟩:=h.wld;have hb:=hr.below h.low h.below.size;have h3:=hr.below (B:=3) h2.base.2 h2.base.1;refine⟨hs,hm,⟨A,n,k,⟨hr.blk hw.blk h.gws.1,Rest.blk hr hw.tab h.tbs.1,hr.reads hw.seed (fun hn ad e=>(hA hn ad e).1)⟩,fun hn ad e=>⟨?_,(hA hn ad e).2⟩⟩,⟨(hr.block gw hw.blk.lt h.gws.1).2,h.gws.2⟩,⟨(hr.block tb (Blk.lt hw.tab) h.tbs.1).2,h.tbs.2⟩,h.tabs.below h3.1 (tA4 _),?_,hb.2,⟨h.base.1,h.base.2.1,Nat.le_trans h.base.2.2 hr.size⟩,h.below.trans hb.1⟩
 · obtain⟨ad',e',hlt,_⟩:=hw.seed.2 hn
   rw[e]at e';injection e' with e';subst e';exact(hr.block _ hlt (hA hn ad e).1).2
 exact(h3.1.cell (p:=⟨0,0,none⟩) (by show (0:Nat)<3;decide)).trans h.err
theorem Sit.call (h:Sit W B w col g gw tb c s)(hb:Below w.heap.size w w'):Sit W B w' col g gw tb c s:=by
 obtain⟨L,css,h2⟩:=h.mdl;exact h.next (Rest.of_below hb) h.ok ⟨L,css,h2.call hb⟩
theorem Sit.alloc (h:Sit W B w col g gw tb c s)(o:Obj):Sit W B (w.alloc o) col g gw tb c s:=h.call ((tA5 _ _).alloc (tA4 _) o)
theorem Sit.drew (h:Sit W B w col g gw tb c s):Sit W B w.drew col g gw tb c s:=h.call (tA5 _ _).drew
theorem Sit.new0 {b:Nat}(h:Sit W B w col g gw tb c s)(hb:w.heap.size≤b):col b=0:=by
 obtain⟨L,css,h2⟩:=h.mdl;by_cases e:col b=0
 · exact e
 have:=h2.fin b e;omega
end
theorem qyo {W w:World}{col:Col}{B g gw tb:Nat}{c:Cfg}{s:Sta}(h:Sit W B w col g gw tb c s)(hc:c.Ok)(R:Req)(Ac:Option Addr)(cc:Nat)(Al:Option Addr)(cl:Nat)(hA:Asked w col R Ac cc Al cl):
 Calls Tryz.prog 17 #[.pointer (some ⟨g,0,none⟩),.agg (reqv R (.slice Ac R.cavs.length cc) (.slice Al R.leaf.length cl)).toArray] w fun e w'=>∃v col',e=.returned v∧RspV w' col' w.heap.size v (doS c s R).2∧Sit W B w' col' g gw tb c (doS c s R).1∧Rest w col w' col':=by
 obtain⟨L,css,h2⟩:=h.mdl;refine(qun c s L col g css R Ac cc Al cl w hc h.ok h2 hA h.tabs h.err).mono ?_;rintro e w' ⟨v,col',L',css',rfl,h3,h4,h5⟩;exact⟨v,col',rfl,h3,h.next h5 (qso h.ok hA.good) ⟨L',css',h4⟩,h5⟩
theorem qyp {W w:World}{col:Col}{B g gw tb:Nat}{c:Cfg}{s:Sta}(h:Sit W B w col g gw tb c s)(hc:c.Ok):
 Calls Tryz.prog 26 #[.pointer (some ⟨g,0,none⟩)] w fun e w'=>e=.returned (.tuple #[])∧∃col',Sit W B w' col' g gw tb c (seqS c s)∧Rest w col w' col':=by
 obtain⟨L,css,h2⟩:=h.mdl;refine(qvj c s L col g css w hc h.ok h2 h.tabs).mono ?_;rintro e w' ⟨rfl,col',css',h4,h5⟩;exact⟨rfl,col',h.next h5 (qsz h.ok) ⟨L,css',h4⟩,h5⟩
structure RspX (X:List Value)(a:Rsp):Prop where
 len:X.length=106
 one:∀u∈X,u.oneCell'=true
 why:X[0]? =some (.int .i64 a.why)
 n:X[1]? =some (.int .u64 (a.n:Int))
 hashes:∃A k,X[3]? =some (.slice A a.hashes.length k)
 size:X[6]? =some (.int .u64 (a.hd.size:Int))
theorem RspV.x {W:World}{col:Col}{base:Nat}{v:Value}{a:Rsp}(h:RspV W col base v a)(hs:a.Shape):∃X:List Value,v=.agg X.toArray∧RspX X a:=by
 obtain⟨bv,hv,cav,e,h1,h2,h3,-⟩:=h;obtain⟨A1,n1,c1,rfl,-⟩:=h1.sl;obtain⟨A2,c2,rfl,-⟩:=qaf h2.2;obtain⟨A3,n3,c3,rfl,-⟩:=h3.sl;exact⟨_,e,qp0 _ _ _ _ (qmw hs.1) hs.2,qp1 _ _ _ _ rfl rfl rfl,rfl,rfl,⟨_,_,rfl⟩,rfl⟩
structure BoxAt (w:World)(col:Col)(B b:Nat)(X:List Value):Prop where
 blk:Blk w b 57 X.toArray
 col:col b=0
 low:B≤b
theorem BoxAt.rest {w w':World}{col col':Col}{B b:Nat}{X:List Value}(h:BoxAt w col B b X)(hr:Rest w col w' col'):BoxAt w' col' B b X:=⟨hr.blk h.blk h.col,(hr.block b h.blk.lt h.col).2,h.low⟩
theorem qyq {W v:World}{col:Col}{B g gw tb:Nat}{c:Cfg}{s:Sta}(h:Sit W B v col g gw tb c s)(cs:Array Value)(X:List Value):
 Sit W B ((v.alloc (.cells cs 57)).setRow v.heap.size X.toArray) col g gw tb c s∧BoxAt ((v.alloc (.cells cs 57)).setRow v.heap.size X.toArray) col B v.heap.size X∧Below v.heap.size v ((v.alloc (.cells cs 57)).setRow v.heap.size X.toArray):=by
 have hb:Below v.heap.size v ((v.alloc (.cells cs 57)).setRow v.heap.size X.toArray):=below_setRow ((tA5 _ _).alloc (tA4 _) _) (tA4 _) _;obtain⟨L,css,h2⟩:=h.mdl;refine⟨h.call hb,⟨(Blk.new _ _ _).setRow _,?_,h.base.2.2⟩,hb⟩;by_cases e:col v.heap.size=0
 · exact e
 have:=h2.fin _ e;omega
theorem RspX.pk {X:List Value}{a:Rsp}(h:RspX X a):RspK X:=⟨h.len,h.one⟩
theorem qyr {W v:World}{col:Col}{B g gw tb:Nat}{c:Cfg}{s:Sta}(h:Sit W B v col g gw tb c s)(X:List Value):∃W' G,(v.alloc (.cells Tryz.zeroCells57 57)).setRow v.heap.size X.toArray=W'∧v.heap.size=G∧Hid (Sit W B W' col g gw tb c s)∧Hid (BoxAt W' col B G X)∧Hid (Below v.heap.size v W'):=by
 obtain⟨h1,h2,h3⟩:=qyq h Tryz.zeroCells57 X;exact⟨_,_,rfl,rfl,h1,h2,h3⟩
theorem qys {W w:World}{col:Col}{B g gw tb:Nat}{c:Cfg}{s:Sta}(h:Sit W B w col g gw tb c s)(hc:c.Ok)(id:Nat)(ii:Int)(hii:ii=(id:Int))(hid:id<4294967296)(R:Req)(ht:R.tag.length=32)(cav leafv:Value)(h1:cav.oneCell'=true)(h2:leafv.oneCell'=true):
 Calls Tryz.prog 28 #[.pointer (some ⟨gw,0,none⟩),.int .u32 ii,.agg (reqv R cav leafv).toArray] w fun e w'=>e=.returned (.agg (reqv (byR c id R) (.slice none 0 0) leafv).toArray)∧Sit W B w' col g gw tb c s∧Below w.heap.size w w':=by
 obtain⟨A,n,k,hw,-⟩:=h.wld;subst hii;refine(qyf gw tb c A n k id R cav leafv w hw hc.seedb hc.seed hid ht h1 h2).mono ?_;rintro e w' ⟨rfl,b⟩;exact⟨rfl,h.call b,b⟩
theorem qyt {W w:World}{col:Col}{B g gw tb:Nat}{c:Cfg}{s s':Sta}{a:Rsp}(h:Sit W B w col g gw tb c s)(hc:c.Ok)(id:Nat)(R:Req)(Al:Option Addr)(n cl:Nat)(hn:R.leaf.length=n)(hdo:doS c s (byR c id R)=(s',a))(hg:(byR c id R).Good)
 (hl:Reads w w.heap.size 1 Al n (byv R.leaf))(hnc:n≤cl)(hcm:cl≤maxLen)(h0:0<n→∀ad,Al=some ad→col ad.block=0):
 Calls Tryz.prog 17 #[.pointer (some ⟨g,0,none⟩),.agg (reqv (byR c id R) (.slice none 0 0) (.slice Al n cl)).toArray] w fun e w'=>∃X col',e=.returned (.agg X.toArray)∧RspX X a∧Sit W B w' col' g gw tb c s'∧Rest w col w' col':=by
 subst hn;have hA:Asked w col (byR c id R) none 0 Al cl:=⟨hg,hl,hnc,hcm,⟨rfl,fun h=>absurd h (by show ¬0<0;omega)⟩,tA4 _,by simp[maxLen],h0,fun h=>absurd h (by show ¬0<0;omega)⟩;have hr:=qyn (c:=c) h.ok hg;have CD:=qyo h hc (byR c id R) none 0 Al cl hA;rw[hdo]at CD hr;refine CD.mono ?_;rintro e w' ⟨v,col',rfl,h3,h4,h5⟩;obtain⟨X,rfl,hX⟩:=h3.x ⟨hr.hd,hr.tok.2.2.1⟩;exact⟨X,col',rfl,hX,h4,h5⟩
end
section
open Go.RowKit
def OwnTexts (w:World)(base:Nat)(v:Value)(ls:List (List Nat)):Prop:=
 ∃vs:List Value,w.ownsRow base 23 1 v ls.length vs∧∀(i:Nat) (bs:List Nat),ls[i]? =some bs→∃u,vs[i]? =some u∧OwnB w base u bs
def Col.ext (col:Col)(base size:Nat)(g:Option Nat)(k k':Nat):Col:=fun b=>if base≤b∧b<size then(if g=some b then k else k') else col b
section
variable {w w' : World} {col : Col} {base size k k' : Nat} {g : Option Nat} {v : Value} {ls : List (List Nat)}
theorem Col.ext_old {b:Nat}(h:b<base):col.ext base size g k k' b=col b:=by unfold Col.ext;rw[if_neg (by omega)]
theorem Col.ext_at {b:Nat}(h:base≤b)(h':b<size)(e:g=some b):col.ext base size g k k' b=k:=by unfold Col.ext;rw[if_pos ⟨h,h'⟩,if_pos e]
theorem Col.ext_in {b:Nat}(h:base≤b)(h':b<size)(e:g≠some b):col.ext base size g k k' b=k':=by unfold Col.ext;rw[if_pos ⟨h,h'⟩,if_neg e]
theorem Col.ext_new {b lo:Nat}(h:∀b,col b≠0→lo≤b∧b<base)(hl:lo≤base)(hs:base≤size)(hb:col.ext base size g k k' b≠0):lo≤b∧b<size:=by
 unfold Col.ext at hb;by_cases e:base≤b∧b<size
 · omega
 rw[if_neg e]at hb;have:=h b hb;omega
theorem qyu {e:TypeId}{sz n:Nat}{xs:List Value}(h:w.ownsRow base e sz v n xs){g:Nat}(hg:v.ownBlock=some g):base≤g∧g<w.heap.size:=by
 rcases h.2 with⟨rfl,_⟩|⟨g',cap,cur,rfl,hb,hh,_⟩
 · cases hg
 obtain rfl:g'=g:=by simpa [Value.ownBlock] using hg
 exact⟨hb,Blk.lt (show Blk w g' e cur from hh)⟩
theorem qyv {e:TypeId}{sz n:Nat}{xs:List Value}(h:w.ownsRow base e sz v n xs)(k':Nat):RowC w (col.ext base w.heap.size v.ownBlock k k') k v e sz n xs:=
 RowC.of_own h fun g hg=>Col.ext_at (qyu h hg).1 (qyu h hg).2 hg
theorem OwnTexts.textsC (h:OwnTexts w base v ls):TextsC w (col.ext base w.heap.size v.ownBlock k 5) k v ls:=by
 obtain⟨vs,h1,h2⟩:=h;refine⟨vs,qyv h1 5,fun i bs hi=>?_⟩;obtain⟨u,hu,ho⟩:=h2 i bs hi;refine⟨u,hu,TextC.own ho fun g hg=>?_⟩;have hb:=qyu ho hg;refine Col.ext_in hb.1 hb.2 fun e=>?_
 rcases qqu ho h1 (by decide) with h0|h0
 · rw[h0]at hg;cases hg
 exact h0 (hg.trans e.symm)
theorem qyw {e:TypeId}{sz n:Nat}{xs:List Value}(h:w.ownsRow base e sz v n xs)(hn:0<n):∃g c,v=.slice (some ⟨g,0,none⟩) n c∧base≤g∧g<w.heap.size∧∀(col:Col) (k:Nat),col g=k→TopAt w col k e g c sz n xs:=by
 rcases h.2 with⟨_,h0⟩|⟨g,cap,cur,rfl,hb,hh,hnc,hc,hsz,ht⟩
 · omega
 have hlt:=Blk.lt (show Blk w g e cur from hh);refine⟨g,cap,rfl,hb,hlt,fun col k hk=>⟨hk,cur.toList.drop (n*sz),?_,h.1,hnc,hc,?_⟩⟩
 · rw[←ht,List.take_append_drop]
   exact hh
 rw[h.1,List.length_drop,Array.length_toList,hsz];have:n*sz≤cap*sz:=Nat.mul_le_mul_right _ hnc;omega
end
structure Cpy (w0:World)(lo:Nat)(w:World)(col:Col)(L:Loc)(css0 css:List (List Value))(j:Nat)(s:Sta):Prop where
 tens:TopAt w col 2 92 L.tg L.tc 6 16 (s.tens.flatMap tenv)
 tres:TopAt w col 3 74 L.rg L.rc 75 16 css.flatten
 gras:TopAt w col 4 66 L.gg L.gc 4 s.gras.length (s.gras.flatMap grav)
 len:css.length=16
 lens:∀c∈css,c.length=75
 done_:∀i t,i<j→s.tres[i]? =some t→∃cs,css[i]? =some cs∧TreAt w col i cs t
 rest:∀i,j≤i→css[i]? =css0[i]?
 new:∀b,col b≠0→lo≤b∧b<w.heap.size
 low:w0.heap.size≤lo∧lo≤w.heap.size
 below:Below w0.heap.size w0 w
section
variable {w0 w w' w1 w2 w3 : World} {col : Col} {L : Loc} {css0 css : List (List Value)} {j lo : Nat} {s : Sta}
theorem Cpy.keeps {col':Col}(h:Cpy w0 lo w col L css0 css j s)(ht:Turns (fun _=>false) w col w' col')(hn:∀b,col' b≠0→lo≤b∧b<w'.heap.size):Cpy w0 lo w' col' L css0 css j s:=
 ⟨h.tens.keep (ht.keeps rfl),h.tres.keep (ht.keeps rfl),h.gras.keep (ht.keeps rfl),h.len,h.lens,fun i t hi h1=>by
  obtain⟨cs,h2,h3⟩:=h.done_ i t hi h1;exact⟨cs,h2,h3.keep fun k _=>ht.keeps rfl⟩,h.rest,hn,⟨h.low.1,Nat.le_trans h.low.2 ht.size⟩,h.below.trans (ht.below (B:=w0.heap.size) (fun _ _=>rfl) h.below.size)⟩
theorem Cpy.call (h:Cpy w0 lo w col L css0 css j s)(hb:Below w.heap.size w w'):Cpy w0 lo w' col L css0 css j s:=
 h.keeps (Turns.of_below _ hb) fun b hb'=>⟨(h.new b hb').1,Nat.lt_of_lt_of_le (h.new b hb').2 hb.size⟩
theorem Cpy.ext (h:Cpy w0 lo w col L css0 css j s)(hb:Below w.heap.size w w')(g:Option Nat)(k k':Nat):Cpy w0 lo w' (col.ext w.heap.size w'.heap.size g k k') L css0 css j s:=
 h.keeps ((Turns.of_below _ hb).recolour fun b hb'=>Col.ext_old hb') fun b hb'=>Col.ext_new h.new h.low.2 hb.size hb'
theorem qyx (t:Tre)(a b c a' b' c':Value):over (trev t a b c) 4 [a',b',c']=trev t a' b' c':=by
 unfold over trev;simp
theorem Cpy.step (h:Cpy w0 lo w col L css0 css j s){t:Tre}(ht:s.tres[j]? =some t)(hs:s.tres.length=16){a b c:Value}(h0:css0[j]? =some (trev t a b c)){vd vl vq:Value}
 (hd:w1.ownsRow w.heap.size 22 1 vd t.draws.length (drwv t.draws))(b1:Below w.heap.size w w1)(hl:OwnTexts w2 w1.heap.size vl t.leaves)(b2:Below w1.heap.size w1 w2)(hq:OwnTexts w3 w2.heap.size vq t.queue)(b3:Below w2.heap.size w2 w3):
 ∃col',Cpy w0 lo (w3.setCells L.rg (j*75+4) [vd,vl,vq]) col' L css0 (css.modify j fun x=>over x 4 [vd,vl,vq]) (j+1) s:=by
 obtain⟨hj,_⟩:=List.getElem?_eq_some_iff.1 ht;have c1:=h.ext b1 vd.ownBlock (10+3*j) 0;have c2:=c1.ext b2 vl.ownBlock (11+3*j) 5;have c3:=c2.ext b3 vq.ownBlock (12+3*j) 5;have r1:RowC w1 (col.ext w.heap.size w1.heap.size vd.ownBlock (10+3*j) 0) (10+3*j) vd _ _ _ _:=qyv hd 0;have r2:TextsC w2 ((col.ext w.heap.size w1.heap.size vd.ownBlock (10+3*j) 0).ext w1.heap.size w2.heap.size vl.ownBlock (11+3*j) 5) (11+3*j) vl t.leaves:=hl.textsC;have r3:TextsC w3 (((col.ext w.heap.size w1.heap.size vd.ownBlock (10+3*j) 0).ext w1.heap.size w2.heap.size vl.ownBlock (11+3*j) 5).ext w2.heap.size w3.heap.size vq.ownBlock (12+3*j) 5) (12+3*j) vq t.queue:=hq.textsC;obtain⟨C1,hC1⟩:=eqx (col.ext w.heap.size w1.heap.size vd.ownBlock (10+3*j) 0);rw[←hC1]at c1 c2 c3 r1 r2 r3;obtain⟨C2,hC2⟩:=eqx (C1.ext w1.heap.size w2.heap.size vl.ownBlock (11+3*j) 5);rw[←hC2]at c2 c3 r2 r3;obtain⟨C3,hC3⟩:=eqx (C2.ext w2.heap.size w3.heap.size vq.ownBlock (12+3*j) 5);rw[←hC3]at c3 r3;have t2:Turns (fun _=>false) w1 C1 w2 C2:=(Turns.of_below _ b2).recolour fun b hb=>by rw[hC2];exact Col.ext_old hb
 have t3:Turns (fun _=>false) w2 C2 w3 C3:=(Turns.of_below _ b3).recolour fun b hb=>by rw[hC3];exact Col.ext_old hb
 have r1':=r1.keep ((t2.trans t3).keeps rfl);have r2':=r2.keep (t3.keeps rfl) (t3.keeps rfl);have hT:Turns (· ==3) w3 C3 (w3.setCells L.rg (j*75+4) [vd,vl,vq]) C3:=Turns.setCells _ (by simp[c3.tres.1]);have k1:∀i,i≠3→KeepsCol i w3 C3 (w3.setCells L.rg (j*75+4) [vd,vl,vq]) C3:=fun i hi=>hT.keeps (by simpa using hi)
 have hcj:css[j]? =some (trev t a b c):=(h.rest j (tA4 _)).trans h0;have hfl:css.flatten.length=1200:=by rw[qmr h.lens,h.len]
 refine⟨C3,c3.tens.keep (k1 2 (by decide)),?_,c3.gras.keep (k1 4 (by decide)),by rw[List.length_modify];exact h.len,?_,?_,?_,fun b hb=>⟨(c3.new b hb).1,Nat.lt_of_lt_of_le (c3.new b hb).2 hT.size⟩,⟨c3.low.1,Nat.le_trans c3.low.2 hT.size⟩,c3.below.trans (hT.below (B:=w0.heap.size) (fun b hb=>?_) c3.below.size)⟩
 · have:=c3.tres.over (o:=j*75+4) (cs:=[vd,vl,vq]) (by rw[hfl];simp only[List.length_cons,List.length_nil];omega)
   rwa[qms _ h.lens (by rw[h.len];omega) (by simp)]at this
 · intro x hx
   rcases qn6 hx with h1|⟨y,h1,rfl⟩
   · exact h.lens x h1
   rw[qmh (by rw[h.lens y (List.mem_of_getElem? h1)];simp)];exact h.lens y (List.mem_of_getElem? h1)
 ·
  intro i t' hi ht';by_cases e:j=i
  · subst e
    rw[ht]at ht';injection ht' with ht';subst ht';refine⟨_,qnc _ hcj,vd,vl,vq,qyx ..,r1'.keep (k1 _ (by omega)),r2'.keep (k1 _ (by omega)) (k1 5 (by decide)),r3.keep (k1 _ (by omega)) (k1 5 (by decide))⟩
  obtain⟨cs,h1,h2⟩:=c3.done_ i t' (by omega) ht';exact⟨cs,by rw[qnd _ _ e];exact h1,h2.keep fun k hk=>k1 k (by omega)⟩
 · intro i hi
   rw[qnd _ _ (by omega)];exact h.rest i (by omega)
 by_cases e:C3 b=0
 · rw[e];rfl
 have:=(c3.new b e).1;have:=c3.low.1;omega
theorem Cpy.box {b:Nat}(h:Cpy w0 lo w col L css0 css j s)(hg:w.grownBy w' (some b))(h1:w0.heap.size≤b)(h2:b<lo):Cpy w0 lo w' col L css0 css j s:=by
 have h0:col b=0:=by
  by_cases e:col b=0
  · exact e
  have:=(h.new b e).1;omega
 have ht:Turns (· ==0) w col w' col:=Turns.of_grown hg (fun k e=>by injection e with e;subst e;simp[h0]) (fun _ _=>rfl);exact⟨h.tens.keep (ht.keeps rfl),h.tres.keep (ht.keeps rfl),h.gras.keep (ht.keeps rfl),h.len,h.lens,fun i t hi h1=>by
  obtain⟨cs,h2,h3⟩:=h.done_ i t hi h1;exact⟨cs,h2,h3.keep fun k hk=>ht.keeps (by simp;omega)⟩,h.rest,fun b hb=>⟨(h.new b hb).1,Nat.lt_of_lt_of_le (h.new b hb).2 hg.size⟩,⟨h.low.1,Nat.le_trans h.low.2 hg.size⟩,h.below.grown hg h.below.size (fun k e=>by injection e with e;omega)⟩
theorem Cpy.start {va vr vg:Value}{css:List (List Value)}(hs:s.Ok)(hl:css.length=16)(h75:∀c∈css,c.length=75)(ha:w.ownsRow lo 92 6 va 16 (s.tens.flatMap tenv))(hr:w.ownsRow lo 74 75 vr 16 css.flatten)(hg:w.ownsRow lo 66 4 vg s.gras.length (s.gras.flatMap grav))
 (h0:w0.heap.size≤lo)(h1:lo≤w.heap.size)(hb:Below w0.heap.size w0 w):
 ∃col L,va=.slice (some ⟨L.tg,0,none⟩) 16 L.tc∧vr=.slice (some ⟨L.rg,0,none⟩) 16 L.rc∧vg=.slice (some ⟨L.gg,0,none⟩) s.gras.length L.gc∧Cpy w0 lo w col L css css 0 s:=by
 have sg:0<s.gras.length:=by obtain⟨h,_⟩:=List.getElem?_eq_some_iff.1 hs.owner;exact h
 have n1:=qqu ha hr (by decide);have n2:=qqu ha hg (by decide);have n3:=qqu hr hg (by decide);obtain⟨tg,tc,rfl,t1,t2,tt⟩:=qyw ha (by decide);obtain⟨rg,rc,rfl,r1,r2,rt⟩:=qyw hr (by decide);obtain⟨gg,gc,rfl,g1,g2,gt⟩:=qyw hg sg;simp only[Value.ownBlock,Option.some.injEq,reduceCtorEq,false_or,ne_eq]at n1 n2 n3;refine⟨fun b=>if b=tg then 2 else if b=rg then 3 else if b=gg then 4 else 0,⟨tg,tc,rg,rc,gg,gc,none,0,0⟩,rfl,rfl,rfl,tt _ _ (by simp),rt _ _ ?_,gt _ _ ?_,hl,h75,fun i t hi=>absurd hi (by omega),fun _ _=>rfl,fun b hb=>?_,⟨h0,h1⟩,hb⟩
 · rw[if_neg (fun e=>n1 e.symm),if_pos rfl]
 · rw[if_neg (fun e=>n2 e.symm),if_neg (fun e=>n3 e.symm),if_pos rfl]
 by_cases e1:b=tg
 · omega
 by_cases e2:b=rg
 · omega
 by_cases e3:b=gg
 · omega
 rw[if_neg e1,if_neg e2,if_neg e3]at hb;exact absurd rfl hb
theorem Cpy.stAt (h:Cpy w0 lo w col L css0 css 16 s)(hs:s.tres.length=16):StAt 92 74 66 w col 2 L css s:=
 ⟨h.tens,h.tres,h.gras,h.len.trans hs.symm,fun i t ht=>h.done_ i t (by obtain⟨hi,_⟩:=List.getElem?_eq_some_iff.1 ht;omega) ht⟩
end
structure CpT (w0 w:World)(base:Nat)(v:Value)(n:Nat)(vs vsj:List Value)(ls:List (List Nat))(j:Nat):Prop where
 row:w.ownsRow base 23 1 v n vsj
 done_:∀(i:Nat) (bs:List Nat),i<j→ls[i]? =some bs→∃u,vsj[i]? =some u∧OwnB w base u bs
 rest:∀i,j≤i→vsj[i]? =vs[i]?
 low:base≤w.heap.size
 below:Below base w0 w
theorem qyy {w:World}{base g n c j:Nat}{e:TypeId}{xs:List Value}(h:w.ownsRow base e 1 (.slice (some ⟨g,0,none⟩) n c) n xs)(u:Value):(w.setCell ⟨g,j,none⟩ u).ownsRow base e 1 (.slice (some ⟨g,0,none⟩) n c) n (xs.set j u):=by
 refine⟨by rw[List.length_set];exact h.1,?_⟩;rcases h.2 with⟨e0,_⟩|⟨g',cap,cur,e0,hb,hh,hnc,hc,hsz,ht⟩
 · cases e0
 injection e0 with e1 e2 e3;injection e1 with e1;injection e1 with e1;subst e1 e3;have h2:=Blk.set_ (show Blk w g e cur from hh) j u;refine .inr ⟨g,c,cur.setIfInBounds j u,rfl,hb,h2,hnc,hc,by rw[Array.size_setIfInBounds];exact hsz,?_⟩;rw[Array.toList_setIfInBounds,List.take_set,ht]
theorem CpT.step {w0 w w2:World}{base g n c j:Nat}{vs vsj:List Value}{ls:List (List Nat)}{bs:List Nat}{u:Value}(h:CpT w0 w base (.slice (some ⟨g,0,none⟩) n c) n vs vsj ls j)(hj:ls[j]? =some bs)(hjn:j<n)(hn:vsj.length=n)
 (b2:Below w.heap.size w w2)(ho:OwnB w2 w.heap.size u bs)(hg:base≤g):CpT w0 (w2.setCell ⟨g,j,none⟩ u) base (.slice (some ⟨g,0,none⟩) n c) n vs (vsj.set j u) ls (j+1):=by
 have h2:=qq9 h.row b2;have far:∀{x:Value} {l:List Nat} {b:Nat},OwnB w2 b x l→OwnB (w2.setCell ⟨g,j,none⟩ u) b x l:=fun hx=>hx.far (by
  rcases qqu hx h2 (by decide) with e|e
  · rw[e];simp
  exact e) u
 refine⟨qyy h2 u,fun i b hi hb=>?_,fun i hi=>?_,?_,?_⟩
 ·
  by_cases e:j=i
  · subst e
    rw[hj]at hb;injection hb with hb;subst hb;exact⟨u,by rw[List.getElem?_set_self (by omega)],far (ho.mono h.low)⟩
  obtain⟨x,h3,h4⟩:=h.done_ i b (by omega) hb;exact⟨x,by rw[List.getElem?_set_ne e];exact h3,far (h4.kept b2)⟩
 · rw[List.getElem?_set_ne (by omega)]
   exact h.rest i (by omega)
 · exact Nat.le_trans h.low (Nat.le_trans b2.size (qab (World.grownBy.refl w2 (some g)) (p:=⟨g,j,none⟩) (.inl rfl) u).size)
 refine h.below.trans ((b2.mono h.low).grown (qab (World.grownBy.refl w2 (some g)) (p:=⟨g,j,none⟩) (.inl rfl) u) ?_ ?_)
 · exact Nat.le_trans h.low b2.size
 intro k hk;injection hk with hk;omega
end
section
open Go.RowKit
theorem qyz (z:List Value)(n sz:Nat)(hz:z.length=sz)(h0:0<sz):madeCells z.toArray (n*sz)=(List.replicate n z).flatten.toArray:=by
 apply Array.ext';apply List.ext_getElem?;intro i;by_cases hi:i<n*sz
 ·
  have hq:i / sz<n:=Nat.div_lt_of_lt_mul (by rwa[Nat.mul_comm]at hi);have hr:i % sz<sz:=Nat.mod_lt _ h0;have e:=qmq (sz:=sz) (L:=List.replicate n z) (n:=i / sz) (j:=i % sz) (c:=z) (fun c hc=>by rw[List.eq_of_mem_replicate hc];exact hz) (by rw[List.getElem?_replicate,if_pos hq]) hr;rw[Nat.div_add_mod' i sz]at e;have e2:(madeCells z.toArray (n*sz)).toList[i]? =some (z.toArray[i % z.toArray.size]!):=by
   simp[madeCells,hi]
  rw[e2];show _=(List.replicate n z).flatten[i]?;rw[e,List.size_toArray,hz,List.getElem!_toArray,List.getElem!_eq_getElem?_getD];rw[tA7 (by omega)];rfl
 have e1:(madeCells z.toArray (n*sz)).toList.length=n*sz:=by rw[Array.length_toList,size_madeCells]
 have e2:(List.replicate n z).flatten.length=n*sz:=by rw[qmr (sz:=sz) (fun c hc=>by rw[List.eq_of_mem_replicate hc];exact hz),List.length_replicate]
 rw[List.getElem?_eq_none (by omega)];exact(List.getElem?_eq_none (by show (List.replicate n z).flatten.length≤i;omega)).symm
theorem qz0:((Tryz.prog.info? 92).bind fun i=>i.zero.map fun z=>(z.cells,i.size,i.bytes))=some ((tenv Ten.zero).toArray,6,24):=by kernel_rfl
theorem qz1:((Tryz.prog.info? 74).bind fun i=>i.zero.map fun z=>(z.cells,i.size,i.bytes))=some ((trev Tre.zero (.slice none 0 0) (.slice none 0 0) (.slice none 0 0)).toArray,75,200):=by kernel_rfl
theorem qz2 {e:TypeId}{C:Array Value}{sz by_:Nat}(h:((Tryz.prog.info? e).bind fun i=>i.zero.map fun z=>(z.cells,i.size,i.bytes))=some (C,sz,by_)):∃i z,Tryz.prog.info? e=some i∧i.zero=some z∧z.cells=C∧i.size=sz∧i.bytes=by_:=by
 rcases h1:Tryz.prog.info? e with _|i
 · rw[h1]at h;cases h
 rcases h2:i.zero with _|z
 · rw[h1]at h;simp[h2]at h
 rw[h1]at h;simp[h2]at h;exact⟨i,z,rfl,h2,h.1,h.2.1,h.2.2⟩
def zTen:List Value:=(List.replicate 16 (tenv Ten.zero)).flatten
def zTre:List Value:=(List.replicate 16 (trev Tre.zero (.slice none 0 0) (.slice none 0 0) (.slice none 0 0))).flatten
theorem qz3:(trev Tre.zero (.slice none 0 0) (.slice none 0 0) (.slice none 0 0)).length=75:=by decide
theorem qz4 (w:World):(Instr.makeSlice 45 (.int .i64 16) (.int .i64 16)).run Tryz.prog w=.ok (.slice (some ⟨w.heap.size,0,none⟩) 16 16) (w.alloc (.cells zTen.toArray 92)):=by
 obtain⟨i,z,hi,hz,hc,hs,hb⟩:=qz2 qz0;have h:=run_make (P:=Tryz.prog) w 45 92 i z Tryz.underlying45 hi hz .i64 .i64 16 16 (by decide) (by decide) (by rw[hb];decide) (by decide);rw[h,hc,hs,show (16:Int).toNat=16 from rfl,qyz _ 16 6 rfl (by decide)];rfl
theorem qz5 (w:World):(Instr.makeSlice 46 (.int .i64 16) (.int .i64 16)).run Tryz.prog w=.ok (.slice (some ⟨w.heap.size,0,none⟩) 16 16) (w.alloc (.cells zTre.toArray 74)):=by
 obtain⟨i,z,hi,hz,hc,hs,hb⟩:=qz2 qz1;have h:=run_make (P:=Tryz.prog) w 46 74 i z Tryz.underlying46 hi hz .i64 .i64 16 16 (by decide) (by decide) (by rw[hb];decide) (by decide);rw[h,hc,hs,show (16:Int).toNat=16 from rfl,qyz _ 16 75 qz3 (by decide)];rfl
def tre0 (h:Hd):Tre:={Tre.zero with state:=1,weight:=1,draws:=[0],hd:=h}
def ten0:Ten:=⟨true,1048576,1048576,1048576,32768,0⟩
def newH (h:Hd):Sta:=⟨0,0,0,ten0::List.replicate 15 Ten.zero,tre0 h::List.replicate 15 Tre.zero,[⟨0,4,18446744073709551615,false⟩]⟩
theorem qz6 (c:Cfg):newS c=newH (pubT c 0 0 (tre0 Hd.zero)):=rfl
theorem qz7:(newH Hd.zero).Ok:={
 clock:=by decide
 draw:=by decide
 lane:=by decide
 tensn:=rfl
 tresn:=rfl
 grasn:=by decide
 tens:=fun x hx=>by
  rcases List.mem_cons.1 hx with rfl|h
  · exact⟨by decide,by decide,by decide,by decide,by decide⟩
  rw[List.eq_of_mem_replicate h];exact Ten.zero_ok
 tres:=fun x hx=>by
  rcases List.mem_cons.1 hx with rfl|h
  · exact {Tre.zero_ok with state:=by show (0:Int)≤1∧(1:Int)≤4;decide,weight:=by show (0:Int)≤1∧(1:Int)≤4;decide,live:=fun _=>⟨by show (1:Int)≤1;decide,by simp[tre0]⟩,draws:=by simp[tre0],drawb:=fun x hx=>by obtain rfl:=List.mem_singleton.1 hx;decide}
  rw[List.eq_of_mem_replicate h];exact Tre.zero_ok
 gras:=fun x hx=>by
  obtain rfl:=List.mem_singleton.1 hx;exact⟨by decide,by decide,by decide⟩
 owner:=rfl
 first:=⟨_,rfl,rfl,rfl⟩}
def z75:List Value:=trev Tre.zero (.slice none 0 0) (.slice none 0 0) (.slice none 0 0)
def cssH (dg:Nat)(h:Hd):List (List Value):=trev (tre0 h) (.slice (some ⟨dg,0,none⟩) 1 1) (.slice none 0 0) (.slice none 0 0)::List.replicate 15 z75
theorem qz8 (dg:Nat){h:Hd}(ho:h.Ok):∀c∈cssH dg h,c.length=75:=by
 intro c hc;rcases List.mem_cons.1 hc with rfl|hc
 · exact qmx _ _ _ ho
 rw[List.eq_of_mem_replicate hc];exact qz3
theorem qz9 (z r cs:List Value)(h:cs.length=z.length):over (z++r) 0 cs=cs++r:=by
 unfold over;rw[List.take_zero,List.nil_append,Nat.zero_add,h,List.drop_left]
theorem qza (h:Hd):over zTen 0 (tenv ten0)=(newH h).tens.flatMap tenv:=by
 have e:zTen=tenv Ten.zero++(List.replicate 15 (tenv Ten.zero)).flatten:=rfl;rw[e];exact(qz9 (tenv Ten.zero) _ (tenv ten0) rfl).trans rfl
theorem qzb (dg:Nat):over zTre 0 (trev (tre0 Hd.zero) (.slice (some ⟨dg,0,none⟩) 1 1) (.slice none 0 0) (.slice none 0 0))=(cssH dg Hd.zero).flatten:=by
 have e:zTre=z75++(List.replicate 15 z75).flatten:=rfl;rw[e];exact(qz9 z75 _ (trev (tre0 Hd.zero) (.slice (some ⟨dg,0,none⟩) 1 1) (.slice none 0 0) (.slice none 0 0)) ((qmx _ _ _ Hd.zero_Ok).trans qz3.symm)).trans rfl
theorem qzc (dg:Nat){h:Hd}(ho:h.Ok):over (cssH dg Hd.zero).flatten 7 (hdv h)=(cssH dg h).flatten:=by
 have e:=qms (sz:=75) (L:=cssH dg Hd.zero) (n:=0) (j:=7) (hdv h) (qz8 dg Hd.zero_Ok) (by simp[cssH]) (by rw[qmw ho];decide);rw[show 0*75+7=7 from rfl]at e;rw[e];unfold cssH;rw[List.modify_zero_cons,qok _ _ _ _ _ Hd.zero_Ok ho];rfl
theorem qzd {w:World}{col:Col}{k g c size:Nat}{e:TypeId}{xs:List Value}(h:Blk w g e xs.toArray)(hc:col g=k)(hl:xs.length=c*size)(hm:c≤maxLen):TopAt w col k e g c size c xs:=
 ⟨hc,[],by rw[List.append_nil];exact h,hl,tA4 _,hm,by simpa using hl⟩
theorem qze {w:World}{B tg rg gg dg:Nat}{h:Hd}(ho:h.Ok)(ht:Blk w tg 92 ((newH h).tens.flatMap tenv).toArray)(hr:Blk w rg 74 (cssH dg h).flatten.toArray)
 (hg:Blk w gg 66 #[.int .i64 0,.int .i64 4,.int .u64 18446744073709551615,.bool false])(hd:Blk w dg 22 #[.int .u32 0])(h1:B≤tg)(h2:B≤rg)(h3:B≤gg)(h4:B≤dg):
 ∃col,StAt 92 74 66 w col 2 ⟨tg,16,rg,16,gg,1,none,0,0⟩ (cssH dg h) (newH h)∧∀b,col b≠0→B≤b∧b<w.heap.size:=by
 have n1:tg≠rg:=ht.ne_ hr (by decide);have n2:tg≠gg:=ht.ne_ hg (by decide);have n3:rg≠gg:=hr.ne_ hg (by decide);have n4:tg≠dg:=ht.ne_ hd (by decide);have n5:rg≠dg:=hr.ne_ hd (by decide);have n6:gg≠dg:=hg.ne_ hd (by decide);have z1:(fun b=>if b=tg then 2 else if b=rg then 3 else if b=gg then 4 else if b=dg then 10 else 0:Col) tg=2:=by simp
 have z2:(fun b=>if b=tg then 2 else if b=rg then 3 else if b=gg then 4 else if b=dg then 10 else 0:Col) rg=3:=by simp[n1.symm]
 have z3:(fun b=>if b=tg then 2 else if b=rg then 3 else if b=gg then 4 else if b=dg then 10 else 0:Col) gg=4:=by simp[n2.symm,n3.symm]
 have z4:(fun b=>if b=tg then 2 else if b=rg then 3 else if b=gg then 4 else if b=dg then 10 else 0:Col) dg=10:=by simp[n4.symm,n5.symm,n6.symm]
 have l1:=ht.lt;have l2:=hr.lt;have l3:=hg.lt;have l4:=hd.lt;refine⟨fun b=>if b=tg then 2 else if b=rg then 3 else if b=gg then 4 else if b=dg then 10 else 0,⟨qzd ht z1 (by rw[qn1];rfl) (by simp[maxLen]),qzd hr z2 (by rw[qmr (qz8 dg ho)];rfl) (by simp[maxLen]),qzd (c:=1) hg z3 rfl (by simp[maxLen]),?_⟩,?_⟩
 ·
  refine⟨rfl,fun i t hi=>?_⟩;match i,hi with
  |0,hi=>
   injection hi with hi;subst hi;refine⟨_,rfl,_,_,_,rfl,⟨rfl,.inr ⟨dg,0,1,[.int .u32 0],rfl,z4,hd,tA4 _,by simp[maxLen],by simp,rfl⟩⟩,TextsC.nil _ _ _,TextsC.nil _ _ _⟩
  |i+1,hi=>
   have hi':(List.replicate 15 Tre.zero)[i]? =some t:=hi;rw[List.getElem?_replicate]at hi';split at hi'
   · rename_i hlt
     injection hi' with hi';subst hi';refine⟨z75,?_,.slice none 0 0,.slice none 0 0,.slice none 0 0,rfl,RowC.nil _ _ _ _ _,TextsC.nil _ _ _,TextsC.nil _ _ _⟩;show (List.replicate 15 z75)[i]? =some z75;rw[List.getElem?_replicate,if_pos hlt]
   cases hi'
 intro b hb;by_cases e1:b=tg
 · omega
 by_cases e2:b=rg
 · omega
 by_cases e3:b=gg
 · omega
 by_cases e4:b=dg
 · omega
 simp[e1,e2,e3,e4]at hb
structure NewI (B:Nat)(w:World)(d1 d2 d3 d4 d5:Bool)(v1 v2 v3 v4 v5:Value):Prop where
 tens:d1=true→∃g,v1=.slice (some ⟨g,0,none⟩) 16 16∧B≤g∧Blk w g 92 zTen.toArray
 tres:d2=true→∃g,v2=.slice (some ⟨g,0,none⟩) 16 16∧B≤g∧Blk w g 74 zTre.toArray
 gras:d3=true→∃g,v3=.slice (some ⟨g,0,none⟩) 1 1∧B≤g∧Blk w g 66 #[.int .i64 0,.int .i64 4,.int .u64 18446744073709551615,.bool false]
 box:d4=true→∃g,v4=.pointer (some ⟨g,0,none⟩)∧B≤g∧Blk w g 49 #[.int .u64 0,.int .u32 0,.int .i64 0,.slice none 0 0,.slice none 0 0,.slice none 0 0]
 sv:d5=true→d1=true∧d2=true∧d3=true∧v5=.agg #[.int .u64 0,.int .u32 0,.int .i64 0,v1,v2,v3]
 low:B≤w.heap.size
section
variable {B : Nat} {w : World} {d1 d2 d3 d4 d5 : Bool} {v1 v2 v3 v4 v5 : Value}
theorem NewI.a1 (h:NewI B w d1 d2 d3 d4 d5 v1 v2 v3 v4 v5)(hd:d1=false)(d:Bool):NewI B (w.alloc (.cells zTen.toArray 92)) d d2 d3 d4 d5 (.slice (some ⟨w.heap.size,0,none⟩) 16 16) v2 v3 v4 v5:=
 ⟨fun _=>⟨_,rfl,h.low,Blk.new _ _ _⟩,fun e=>by obtain⟨g,h1,h2,h3⟩:=h.tres e;exact⟨g,h1,h2,h3.alloc _⟩,fun e=>by obtain⟨g,h1,h2,h3⟩:=h.gras e;exact⟨g,h1,h2,h3.alloc _⟩,fun e=>by obtain⟨g,h1,h2,h3⟩:=h.box e;exact⟨g,h1,h2,h3.alloc _⟩,fun e=>absurd ((h.sv e).1) (by rw[hd];decide),by rw[qar];exact Nat.le_succ_of_le h.low⟩
theorem NewI.a2 (h:NewI B w d1 d2 d3 d4 d5 v1 v2 v3 v4 v5)(hd:d2=false)(d:Bool):NewI B (w.alloc (.cells zTre.toArray 74)) d1 d d3 d4 d5 v1 (.slice (some ⟨w.heap.size,0,none⟩) 16 16) v3 v4 v5:=
 ⟨fun e=>by obtain⟨g,h1,h2,h3⟩:=h.tens e;exact⟨g,h1,h2,h3.alloc _⟩,fun _=>⟨_,rfl,h.low,Blk.new _ _ _⟩,fun e=>by obtain⟨g,h1,h2,h3⟩:=h.gras e;exact⟨g,h1,h2,h3.alloc _⟩,fun e=>by obtain⟨g,h1,h2,h3⟩:=h.box e;exact⟨g,h1,h2,h3.alloc _⟩,fun e=>absurd ((h.sv e).2.1) (by rw[hd];decide),by rw[qar];exact Nat.le_succ_of_le h.low⟩
theorem NewI.a3 (h:NewI B w d1 d2 d3 d4 d5 v1 v2 v3 v4 v5)(hd:d3=false)(d:Bool):NewI B (w.alloc (.cells #[.int .i64 0,.int .i64 4,.int .u64 18446744073709551615,.bool false] 66)) d1 d2 d d4 d5 v1 v2 (.slice (some ⟨w.heap.size,0,none⟩) 1 1) v4 v5:=
 ⟨fun e=>by obtain⟨g,h1,h2,h3⟩:=h.tens e;exact⟨g,h1,h2,h3.alloc _⟩,fun e=>by obtain⟨g,h1,h2,h3⟩:=h.tres e;exact⟨g,h1,h2,h3.alloc _⟩,fun _=>⟨_,rfl,h.low,Blk.new _ _ _⟩,fun e=>by obtain⟨g,h1,h2,h3⟩:=h.box e;exact⟨g,h1,h2,h3.alloc _⟩,fun e=>absurd ((h.sv e).2.2.1) (by rw[hd];decide),by rw[qar];exact Nat.le_succ_of_le h.low⟩
theorem NewI.a4 (h:NewI B w d1 d2 d3 d4 d5 v1 v2 v3 v4 v5)(d:Bool):NewI B (w.alloc (.cells #[.int .u64 0,.int .u32 0,.int .i64 0,.slice none 0 0,.slice none 0 0,.slice none 0 0] 49)) d1 d2 d3 d d5 v1 v2 v3 (.pointer (some ⟨w.heap.size,0,none⟩)) v5:=
 ⟨fun e=>by obtain⟨g,h1,h2,h3⟩:=h.tens e;exact⟨g,h1,h2,h3.alloc _⟩,fun e=>by obtain⟨g,h1,h2,h3⟩:=h.tres e;exact⟨g,h1,h2,h3.alloc _⟩,fun e=>by obtain⟨g,h1,h2,h3⟩:=h.gras e;exact⟨g,h1,h2,h3.alloc _⟩,fun _=>⟨_,rfl,h.low,Blk.new _ _ _⟩,h.sv,by rw[qar];exact Nat.le_succ_of_le h.low⟩
theorem NewI.a5 (h:NewI B w d1 d2 d3 d4 d5 v1 v2 v3 v4 v5)(h1:d1=true)(h2:d2=true)(h3:d3=true)(d:Bool):NewI B w d1 d2 d3 d4 d v1 v2 v3 v4 (.agg #[.int .u64 0,.int .u32 0,.int .i64 0,v1,v2,v3]):=
 ⟨h.tens,h.tres,h.gras,h.box,fun _=>⟨h1,h2,h3,rfl⟩,h.low⟩
end
end
section
open Go.RowKit
theorem qzf (c:Cfg)(As:Option Addr)(ns cs:Nat)(w:World)(hc:c.Ok)(hr:Reads w w.heap.size 1 As ns (byv c.seed))(hT:Tabs w):
 Calls Tryz.prog 46 #[.agg #[.int .i64 c.width,.int .i64 c.quantum,.int .u32 (c.store:Int),.slice As ns cs]] w fun e w'=>∃col L css,e=.returned (.tuple #[.agg (stav (newS c) L).toArray,.int .i64 0])∧StAt 92 74 66 w' col 2 L css (newS c)∧(∀b,col b≠0→w.heap.size≤b∧b<w'.heap.size)∧Below w.heap.size w w':=by
 obtain⟨W0,hW0⟩:=eqx ((w.alloc (.cells #[.int .i64 c.width,.int .i64 c.quantum,.int .u32 (c.store:Int),.slice As ns cs] 25)).alloc (.cells #[.int .u64 0,.int .u32 0,.int .i64 0,.slice none 0 0,.slice none 0 0,.slice none 0 0] 49));have k0:Blk W0 w.heap.size 25 #[.int .i64 c.width,.int .i64 c.quantum,.int .u32 (c.store:Int),.slice As ns cs]:=by rw[hW0];exact(Blk.new w _ _).alloc _
 have z0:Blk W0 (w.heap.size+1) 49 #[.int .u64 0,.int .u32 0,.int .i64 0,.slice none 0 0,.slice none 0 0,.slice none 0 0]:=by
  have h:=Blk.new (w.alloc (.cells #[.int .i64 c.width,.int .i64 c.quantum,.int .u32 (c.store:Int),.slice As ns cs] 25)) 49 #[.int .u64 0,.int .u32 0,.int .i64 0,.slice none 0 0,.slice none 0 0,.slice none 0 0];rw[qar]at h;rw[hW0];exact h
 have b0:Below w.heap.size w W0:=by rw[hW0];exact qah (qah (tA5 _ _) _) _
 have hn:=qb5 hr;have hs64:=hc.seed;have q1:¬c.width<1:=by have:=hc.w1;omega
 have q2:¬(32:Int)<c.width:=by have:=hc.w2;omega
 have q3:¬c.quantum<1:=by have:=hc.q1;omega
 have q4:¬(2:Int)<c.quantum:=by have:=hc.q2;omega
 have q5:¬(32768:Int)<(c.store:Int):=by have:=hc.store;omega
 have q6:¬(64:Int)<(ns:Int):=by omega
 obtain⟨AF,K0,Z0,B0,HC,HR,HT,A4⟩:=zh8 hW0 k0 z0 b0 hc hr hT (show W0.heap.size=w.heap.size+1+1 by rw[hW0,qar,qar]);clear hW0 k0 z0 b0 hc hr hT hn hs64;go_enter Tryz.func46,Tryz.ntmps46
 go_upto_region 3 with(fail)
 rw[←AF.out];clear q1 q2 q3 q4 q5 q6;obtain⟨S,HS⟩:∃S:World→Prop,Hid (∀w',S w'=Below W0.heap.size W0 w'):=⟨_,fun _=>rfl⟩;refine qo3 S 6 [37,38,40,41,4] [(2,false)] 5 [(0,[]),(1,[]),(3,[]),(4,[0,1,3]),(5,[])] [(6,true)] #[false,false,true,false,false,false,false] #[true,true,true,true,true,true,false] (by kernel_rfl) rfl (by kernel_rfl) (by kernel_rfl) (by kernel_rfl) (by kernel_rfl) (by kernel_rfl) (by kernel_rfl) (fun _ _ d _ _ h=>by cases d<;>exact h) ((HS.out _).mpr (tA5 _ W0).drew) ?_;refine qjp rfl rfl ⟨?_,fun w1 hS=>?_,?_⟩;rotate_left
 · go_simp
   try rfl
 try simp only[Act.put,tA0,tA1,tA2]
 refine qjo ?_;have keepS:∀w' o,S w'→W0.heap.size≤w'.heap.size→S (w'.alloc o):=fun w' o h hl=>by
  rw[HS.out]at h ⊢;exact h.alloc hl _
 refine⟨fun Dn vs w'=>∃v1 v2 v3 v5 v4,vs=[v1,v2,v3,v5,v4]∧NewI W0.heap.size w' (Dn 0) (Dn 1) (Dn 3) (Dn 5) (Dn 4) v1 v2 v3 v4 v5,⟨[_,_,_,_,_],rfl,_,_,_,_,_,rfl,?_⟩,⟨?_,?_,?_,?_,?_,trivial⟩,?_⟩
 · exact⟨fun h=>(nomatch h),fun h=>(nomatch h),fun h=>(nomatch h),fun h=>(nomatch h),fun h=>(nomatch h),tA4 _⟩
 ·
  rintro Dn vs w' hS ⟨v1,v2,v3,v5,v4,rfl,hI⟩ hD hd;simp only[puts,Act.put,tA0,tA1,tA2];have hm:=qz4 w';refine qo4 fun K hK=>qjl rfl rfl ?_
  go_simp;exact hK _ _ ⟨keepS _ _ hS hI.low,[_,_,_,_,_],rfl,_,_,_,_,_,rfl,by simpa using hI.a1 hD true⟩
 ·
  rintro Dn vs w' hS ⟨v1,v2,v3,v5,v4,rfl,hI⟩ hD hd;simp only[puts,Act.put,tA0,tA1,tA2];have hm:=qz5 w';refine qo4 fun K hK=>qjl rfl rfl ?_
  go_simp;exact hK _ _ ⟨keepS _ _ hS hI.low,[_,_,_,_,_],rfl,_,_,_,_,_,rfl,by simpa using hI.a2 hD true⟩
 · rintro Dn vs w' hS ⟨v1,v2,v3,v5,v4,rfl,hI⟩ hD hd
   simp only[puts,Act.put,tA0,tA1,tA2];refine qo4 fun K hK=>qjl rfl rfl ?_
   go_simp;exact hK _ _ ⟨keepS _ _ hS hI.low,[_,_,_,_,_],rfl,_,_,_,_,_,rfl,by simpa using hI.a3 hD true⟩
 ·
  rintro Dn vs w' hS ⟨v1,v2,v3,v5,v4,rfl,hI⟩ hD hd;simp only[puts,Act.put,tA0,tA1,tA2];have d0:=hd 0 (by simp);have d1:=hd 1 (by simp);have d3:=hd 3 (by simp);obtain⟨g1,rfl,-⟩:=hI.tens d0;obtain⟨g2,rfl,-⟩:=hI.tres d1;obtain⟨g3,rfl,-⟩:=hI.gras d3;refine qo4 fun K hK=>qjl rfl rfl ?_
  go_simp;exact hK _ _ ⟨hS,[_,_,_,_,_],rfl,_,_,_,_,_,rfl,by simpa [d0,d1,d3] using hI.a5 d0 d1 d3 true⟩
 · rintro Dn vs w' hS ⟨v1,v2,v3,v5,v4,rfl,hI⟩ hD hd
   simp only[puts,Act.put,tA0,tA1,tA2];refine qo4 fun K hK=>qjl rfl rfl ?_
   go_simp;exact hK _ _ ⟨keepS _ _ hS hI.low,[_,_,_,_,_],rfl,_,_,_,_,_,rfl,by simpa using hI.a4 true⟩
 rintro vs w5 hS5 ⟨v1,v2,v3,v5,v4,rfl,hI⟩;simp only[puts,Act.put,tA0,tA1,tA2];obtain⟨tg,rfl,lt,bt⟩:=hI.tens rfl;obtain⟨rg,rfl,lr,br⟩:=hI.tres rfl;obtain⟨gg,rfl,lg,bg⟩:=hI.gras rfl;obtain⟨sg,rfl,ls,bs⟩:=hI.box rfl;obtain⟨-,-,-,rfl⟩:=hI.sv rfl;rw[HS.out]at hS5;have b5:=hS5;clear hI keepS hS5 HS;obtain⟨SV,hSV⟩:∃SV:List Value,[.int .u64 0,.int .u32 0,.int .i64 0,.slice (some ⟨tg,0,none⟩) 16 16,.slice (some ⟨rg,0,none⟩) 16 16,.slice (some ⟨gg,0,none⟩) 1 1]=SV:=⟨_,rfl⟩;refine qbj rfl rfl ?_;refine wp_store_row 49 (.tmp 4) (.tmp 41) rfl sg #[.int .u64 0,.int .u32 0,.int .i64 0,.slice (some ⟨tg,0,none⟩) 16 16,.slice (some ⟨rg,0,none⟩) 16 16,.slice (some ⟨gg,0,none⟩) 1 1] rfl rfl 49 _ bs (by kernel_rfl) (by simp) (by simp[Value.oneCell']) ?_;refine⟨fun h=>absurd h (by decide),?_⟩;obtain⟨W1,hW1⟩:=eqx (w5.setRow sg #[.int .u64 0,.int .u32 0,.int .i64 0,.slice (some ⟨tg,0,none⟩) 16 16,.slice (some ⟨rg,0,none⟩) 16 16,.slice (some ⟨gg,0,none⟩) 1 1]);rw[←hW1];obtain⟨S1,A5,A6,A7,B1,LT,LR,LG⟩:=zh8 (show Blk W1 sg 49 #[.int .u64 0,.int .u32 0,.int .i64 0,.slice (some ⟨tg,0,none⟩) 16 16,.slice (some ⟨rg,0,none⟩) 16 16,.slice (some ⟨gg,0,none⟩) 1 1] by rw[hW1];exact bs.setRow _) (show Blk W1 tg 92 zTen.toArray by rw[hW1];exact bt.setRow_far (bt.ne_ bs (by decide)) _) (show Blk W1 rg 74 zTre.toArray by rw[hW1];exact br.setRow_far (br.ne_ bs (by decide)) _) (show Blk W1 gg 66 #[.int .i64 0,.int .i64 4,.int .u64 18446744073709551615,.bool false] by rw[hW1];exact bg.setRow_far (bg.ne_ bs (by decide)) _) (show Below W0.heap.size W0 W1 by rw[hW1];exact below_setRow b5 ls _) lt lr lg;have LS:=zh1 ls;clear hW1 bt br bg bs b5 lt lr lg ls hSV;try simp only[Act.put,tA0,tA1,tA2]
 refine qbg ?_;go_wp2_with fail
 refine(qp8 1048576 1048576 W1 (by omega) (by omega)).mono ?_;rintro e w2 ⟨rfl,b2⟩;go_upto_region 5 with(fail)
 obtain⟨W3,hW3⟩:=eqx (w2.alloc (.cells #[.int .u32 1048576,.int .u32 1048576,.int .u32 1048576] 90));obtain⟨bg,hbg⟩:=eqx w2.heap.size;try rw[←hW3]
 rw[←hbg];have b13:Below W1.heap.size W1 W3:=by rw[hW3];exact b2.alloc b2.size _
 have q3:Blk W3 bg 90 #[.int .u32 1048576,.int .u32 1048576,.int .u32 1048576]:=by rw[hW3,hbg];exact Blk.new _ _ _
 obtain⟨B3,S3,A1,A8,A9,Q3⟩:=zh6 (B1.out.trans (b13.mono B1.out.size)) (S1.out.below b13 S1.out.lt) (A5.out.below b13 A5.out.lt) (A6.out.below b13 A6.out.lt) (A7.out.below b13 A7.out.lt) q3;have s3:=S3.out.cell 3;have p0:=Q3.out.cell 0;have p1:=Q3.out.cell 1;have p2:=Q3.out.cell 2;have hth:=qf5 A1.out 0 6 (by decide);clear hW3 hbg b13 q3 b2;go_upto_region 6 with(refine wpList_store_mid rfl 92 (.tmp 50) (.tmp 49) rfl tg 0 #[.bool true,.int .u32 1048576,.int .u32 1048576,.int .u32 1048576,.int .u32 32768,.int .u32 0] rfl rfl hth (by kernel_rfl) (by simp[Value.oneCell']) ?_)
 obtain⟨W4,hW4⟩:=eqx (W3.setCells tg 0 (tenv ten0));change Code.wp _ _ _ _ (W3.setCells tg 0 (tenv ten0));rw[←hW4];have g34:W3.grownBy W4 (some tg):=by rw[hW4];exact qmj tg _ 0 W3
 have t4:=qmi (tenv ten0) 0 W3 zTen A1.out (by decide);rw[←hW4]at t4;have AA:=zh1 t4;have NT:∀{x:Nat} {t:TypeId} {cs:Array Value},Blk W3 x t cs→92≠t→some x≠some tg:=fun hb hne e=>by injection e with e;exact A1.out.ne_ hb hne e.symm
 obtain⟨S4,A2,AB,B4⟩:=zh4 (S3.out.grown g34 (NT S3.out (by decide))) (A8.out.grown g34 (NT A8.out (by decide))) (A9.out.grown g34 (NT A9.out (by decide))) (B3.out.grown g34 B3.out.size (fun k e=>by injection e with e;have:=LT.out;omega));have s4:=S4.out.cell 4;clear hW4 g34 t4 NT s3 p0 p1 p2 hth;obtain⟨DV,hDV⟩:=xeq (trev (tre0 Hd.zero) (.slice (some ⟨W4.heap.size,0,none⟩) 1 1) (.slice none 0 0) (.slice none 0 0));obtain⟨BT,LD,OD⟩:=zh3 (show Tryz.prog.built 74 [(0,.int .i64 1),(2,.int .i64 1),(4,.slice (some ⟨W4.heap.size,0,none⟩) 1 1)]=some DV.toArray by rw[←hDV];kernel_rfl) (show DV.length=75 by rw[←hDV];exact qmx _ _ _ Hd.zero_Ok) (show ∀u∈DV,u.oneCell'=true by rw[←hDV];exact qpq _ _ _ _ rfl rfl rfl);obtain⟨HI,AG⟩:=zh2 (zI 74 LD.out) hDV;have hth:=qf5 (A2.out.alloc (.cells #[.int .u32 0] 22)) 0 75 (by rw[show zTre.length=1200 from by rw[show zTre=(List.replicate 16 z75).flatten from rfl,qmr (sz:=75) (fun c hc=>by rw[List.eq_of_mem_replicate hc];exact qz3)];rfl];omega);rw[←LD.out]at hth;have AH:=zh1 hth;clear hDV hth;go_upto_region 7 with(first
  |(refine qbk rfl ⟨.agg DV.toArray,qfq 74 _ rfl _ _ BT.out (by simp[Act.eval]),?_⟩)
  |(refine wpList_store_mid rfl 74 (.tmp 55) (.tmp 54) rfl rg 0 DV.toArray rfl rfl (by rw[List.size_toArray];exact AH.out) (by rw[List.size_toArray];exact HI.out) (all_oneCell_toArray OD.out) ?_))
 simp only[Act.put];obtain⟨W5,hW5⟩:=eqx ((W4.alloc (.cells #[.int .u32 0] 22)).setCells rg 0 DV);rw[←hW5];have hgr:(W4.alloc (.cells #[.int .u32 0] 22)).grownBy W5 (some rg):=by rw[hW5];exact qmj rg _ 0 _
 obtain⟨dg,hdg⟩:=xeq W4.heap.size;have NR:∀{x:Nat} {t:TypeId} {cs:Array Value},Blk (W4.alloc (.cells #[.int .u32 0] 22)) x t cs→74≠t→some x≠some rg:=fun hb hne e=>by injection e with e;exact(A2.out.alloc _).ne_ hb hne e.symm
 have d5:Blk W5 dg 22 #[.int .u32 0]:=by rw[←hdg];exact(Blk.new W4 _ _).grown hgr (NR (Blk.new W4 _ _) (by decide))
 have r5:Blk W5 rg 74 (cssH dg Hd.zero).flatten.toArray:=by
  have h:=qmi DV 0 _ zTre (A2.out.alloc (.cells #[.int .u32 0] 22)) (by rw[LD.out,show zTre=(List.replicate 16 z75).flatten from rfl,qmr (sz:=75) (fun c hc=>by rw[List.eq_of_mem_replicate hc];exact qz3),List.length_replicate];omega);rw[←hW5,←AG.out,hdg,qzb]at h;exact h
 have t5:Blk W5 tg 92 ((newH Hd.zero).tens.flatMap tenv).toArray:=by
  have h:=(AA.out.alloc (.cells #[.int .u32 0] 22)).grown hgr (NR (AA.out.alloc _) (by decide));rw[qza Hd.zero]at h;exact h
 have g5:=(AB.out.alloc (.cells #[.int .u32 0] 22)).grown hgr (NR (AB.out.alloc _) (by decide));have s5:=(S4.out.alloc (.cells #[.int .u32 0] 22)).grown hgr (NR (S4.out.alloc _) (by decide));have b5:Below W0.heap.size W0 W5:=(B4.out.alloc B4.out.size _).grown hgr (by have:=B4.out.size;rw[qar];omega) (fun k e=>by injection e with e;have:=LR.out;omega);have ldg:W0.heap.size≤dg:=by rw[←hdg];exact B4.out.size
 obtain⟨col0,st0,-⟩:=qze Hd.zero_Ok t5 r5 g5 d5 LT.out LR.out LG.out ldg;obtain⟨hd,hhd⟩:=xeq (pubT c 0 0 (tre0 Hd.zero));have hdok:hd.Ok:=by rw[←hhd];exact qnb c 0 0 (tre0 Hd.zero) (by decide) (by decide)
 obtain⟨HV,hHV⟩:=xeq (hdv hd);have CP:∀w',Below W5.heap.size W5 w'→Calls Tryz.prog 121 #[.agg #[.int .i64 c.width,.int .i64 c.quantum,.int .u32 (c.store:Int),.slice As ns cs],.agg #[.int .u64 0,.int .u32 0,.int .i64 0,.slice (some ⟨tg,0,none⟩) 16 16,.slice (some ⟨rg,0,none⟩) 16 16,.slice (some ⟨gg,0,none⟩) 1 1],.int .i64 0] w' fun e w''=>e=.returned (.tuple #[.agg HV.toArray,.int .i64 0])∧Below w'.heap.size w' w'':=fun w' hb=>by
  have h:=qoj c (newH Hd.zero) ⟨tg,16,rg,16,gg,1,none,0,0⟩ col0 2 (cssH dg Hd.zero) 0 (tre0 Hd.zero) As ns cs w' HC.out qz7 (HR.out.call (B0.out.trans ((b5.trans (hb.mono b5.size)).mono B0.out.size))) (st0.keep ((Turns.of_below (fun _=>false) hb).keeps rfl) ((Turns.of_below (fun _=>false) hb).keeps rfl) ((Turns.of_below (fun _=>false) hb).keeps rfl) (fun k _=>(Turns.of_below (fun _=>false) hb).keeps rfl)) rfl (by simp[tre0]) (HT.out.below (B0.out.trans ((b5.trans (hb.mono b5.size)).mono B0.out.size)) HT.out.size);rw[show (newH Hd.zero).clock=0 from rfl,hhd,hHV]at h;exact h
 obtain⟨AI,K5,Z5,D5,R5,T5,G5,S5⟩:=zh8 CP (K0.out.below b5 K0.out.lt) (Z0.out.below b5 Z0.out.lt) d5 r5 t5 g5 s5;obtain⟨B5,AJ,AC,AD,AE,A3,AK⟩:=zh7 b5 ldg hhd hdok hHV (show HV.length=68 by rw[←hHV];exact qmw hdok) (show ∀u∈HV,u.oneCell'=true by rw[←hHV];exact qlm _);clear hW5 hgr NR d5 r5 t5 g5 s5 b5 ldg st0 CP hhd hdok hHV s4 hdg;obtain⟨S,A0⟩:∃S:World→Prop,Hid (∀w',S w'=(Blk w' w.heap.size 25 #[.int .i64 c.width,.int .i64 c.quantum,.int .u32 (c.store:Int),.slice As ns cs]∧Blk w' sg 49 #[.int .u64 0,.int .u32 0,.int .i64 0,.slice (some ⟨tg,0,none⟩) 16 16,.slice (some ⟨rg,0,none⟩) 16 16,.slice (some ⟨gg,0,none⟩) 1 1])):=⟨_,fun _=>rfl⟩;refine zrs S 11 [(0,false),(1,false),(2,false),(3,false),(4,true),(5,false),(6,false),(7,false),(8,false),(9,false),(10,true)] ((A0.out _).mpr (⟨K5.out,S5.out⟩)) ?_;obtain⟨F4,FK,FS⟩:=zh3 (fun(w':World)(h:S w')=>((((A0.out w').mp h).2.cell 4).trans (show (#[.int .u64 0,.int .u32 0,.int .i64 0,.slice (some ⟨tg,0,none⟩) 16 16,.slice (some ⟨rg,0,none⟩) 16 16,.slice (some ⟨gg,0,none⟩) 1 1]:Array Value)[4]? =some (.slice (some ⟨rg,0,none⟩) 16 16) from rfl))) (fun(w':World)(h:S w')=>qap ((A0.out w').mp h).1 0 [.int .i64 c.width,.int .i64 c.quantum,.int .u32 (c.store:Int),.slice As ns cs] (fun j u h=>by simpa using h)) (fun(w':World)(h:S w')=>qap ((A0.out w').mp h).2 0 [.int .u64 0,.int .u32 0,.int .i64 0,.slice (some ⟨tg,0,none⟩) 16 16,.slice (some ⟨rg,0,none⟩) 16 16,.slice (some ⟨gg,0,none⟩) 1 1] (fun j u h=>by simpa using h));iterate 2 (refine zrd rfl rfl (fun w1 hS=>by have g4:=F4.out w1 hS;clear hS;go_simp;try rfl) ?_;simp only[Act.put,tA0,tA1,tA2])
 refine qnf rfl rfl 25 (.tmp 1) rfl w.heap.size 0 rfl [.int .i64 c.width,.int .i64 c.quantum,.int .u32 (c.store:Int),.slice As ns cs] _ FK.out Tryz.underlying25 rfl (by kernel_rfl) ?_;try simp only[Act.put,tA0,tA1,tA2]
 refine qnf rfl rfl 49 (.tmp 4) rfl sg 0 rfl [.int .u64 0,.int .u32 0,.int .i64 0,.slice (some ⟨tg,0,none⟩) 16 16,.slice (some ⟨rg,0,none⟩) 16 16,.slice (some ⟨gg,0,none⟩) 1 1] _ FS.out Tryz.underlying49 rfl (by kernel_rfl) ?_;try simp only[Act.put,tA0,tA1,tA2]
 obtain⟨Wd,hWd⟩:=eqx W5.drew;have BD:=zh1 (show Below W5.heap.size W5 Wd by rw[hWd];exact(tA5 _ _).drew);rw[←hWd];clear hWd;refine qbj rfl rfl ?_;go_simp;refine(AI.out Wd BD.out).mono ?_;rintro e w6 ⟨rfl,b6⟩;have B6:=zh1 (BD.out.trans (b6.mono BD.out.size));clear b6;refine⟨(A0.out _).mpr ⟨K5.out.below B6.out K5.out.lt,S5.out.below B6.out S5.out.lt⟩,?_⟩;try simp only[Act.put,tA0,tA1,tA2]
 iterate 5 (refine zrd rfl rfl (fun w1 hS=>by go_simp;(try go_bits);try rfl) ?_;simp only[Act.put,tA0,tA1,tA2])
 have r6:=R5.out.below B6.out R5.out.lt;have l75:=qz8 dg Hd.zero_Ok;have hfl:(cssH dg Hd.zero).flatten.length=1200:=by rw[qmr l75];rfl
 have hth:=qf5 r6 7 HV.toArray.size (by rw[List.size_toArray,A3.out,hfl];decide);have r7:=qmi HV 7 w6 _ r6 (by rw[A3.out,hfl];decide);rw[←AE.out,qzc dg AD.out]at r7;rw[AE.out]at r7;refine qbj rfl rfl ?_;refine wp_store_mid 55 (.tmp 65) (.tmp 62) rfl rg 7 HV.toArray rfl rfl hth (by rw[List.size_toArray,A3.out];kernel_rfl) (all_oneCell_toArray AK.out) ?_;obtain⟨W7,hW7⟩:=eqx (w6.setCells rg 7 HV);change _∧qba _ _ _ _ _ _ _ (w6.setCells rg 7 HV);rw[←hW7]at r7 ⊢;have g67:w6.grownBy W7 (some rg):=by rw[hW7];exact qmj rg _ 7 w6
 have NR:∀{x:Nat} {t:TypeId} {cs:Array Value},Blk w6 x t cs→74≠t→some x≠some rg:=fun hb hne e=>by injection e with e;exact r6.ne_ hb hne e.symm
 have mv:∀{x:Nat} {t:TypeId} {cs:Array Value},Blk W5 x t cs→74≠t→Blk W7 x t cs:=fun hb hne=>(hb.below B6.out hb.lt).grown g67 (NR (hb.below B6.out hb.lt) hne)
 have k7:=mv K5.out (by decide);have s7:=mv S5.out (by decide);have z7:=mv Z5.out (by decide);have t7:Blk W7 tg 92 ((newH hd).tens.flatMap tenv).toArray:=mv T5.out (by decide);have g7:=mv G5.out (by decide);have d7:=mv D5.out (by decide);have b7:Below W0.heap.size W0 W7:=(B5.out.trans (B6.out.mono B5.out.size)).grown g67 (Nat.le_trans B5.out.size B6.out.size) (fun k e=>by injection e with e;have:=LR.out;omega);refine⟨fun _=>(A0.out _).mpr ⟨k7,s7⟩,?_⟩;obtain⟨col,st,nw⟩:=qze AD.out t7 r7 g7 d7 LT.out LR.out LG.out AJ.out;obtain⟨ST,NW,B7,Z7,AL⟩:=zh5 st nw b7 z7 (qap s7 0 [.int .u64 0,.int .u32 0,.int .i64 0,.slice (some ⟨tg,0,none⟩) 16 16,.slice (some ⟨rg,0,none⟩) 16 16,.slice (some ⟨gg,0,none⟩) 1 1] (fun j u h=>by simpa using h));clear hW7 g67 NR mv k7 s7 z7 t7 g7 d7 b7 st nw r6 r7 l75 hfl hth;try simp only[Act.put,tA0,tA1,tA2]
 refine qbg ?_;clear A0 F4 FK FS;go_wp2_with (first
  |(refine qaq rfl 49 (.tmp 4) rfl sg 0 rfl [.int .u64 0,.int .u32 0,.int .i64 0,.slice (some ⟨tg,0,none⟩) 16 16,.slice (some ⟨rg,0,none⟩) 16 16,.slice (some ⟨gg,0,none⟩) 1 1] _ AL.out Tryz.underlying49 rfl (by kernel_rfl) ?_)
  |(refine wpList_store_row rfl 49 (.tmp 2) (.tmp 66) rfl (w.heap.size+1) #[.int .u64 0,.int .u32 0,.int .i64 0,.slice (some ⟨tg,0,none⟩) 16 16,.slice (some ⟨rg,0,none⟩) 16 16,.slice (some ⟨gg,0,none⟩) 1 1] rfl rfl 49 _ Z7.out (by kernel_rfl) (by simp) (by simp[Value.oneCell']) ?_))
 have z9:=Z7.out.setRow #[.int .u64 0,.int .u32 0,.int .i64 0,.slice (some ⟨tg,0,none⟩) 16 16,.slice (some ⟨rg,0,none⟩) 16 16,.slice (some ⟨gg,0,none⟩) 1 1];have AM:=qap z9 0 [.int .u64 0,.int .u32 0,.int .i64 0,.slice (some ⟨tg,0,none⟩) 16 16,.slice (some ⟨rg,0,none⟩) 16 16,.slice (some ⟨gg,0,none⟩) 1 1] (fun j u h=>by simpa using h);refine bodyPost_ret (qfu rfl rfl (run_loadVar_mid _ _ 0 _ [.int .u64 0,.int .u32 0,.int .i64 0,.slice (some ⟨tg,0,none⟩) 16 16,.slice (some ⟨rg,0,none⟩) 16 16,.slice (some ⟨gg,0,none⟩) 1 1] _ AM Tryz.underlying49 rfl (by kernel_rfl))) rfl ⟨col,⟨tg,16,rg,16,gg,1,none,0,0⟩,cssH dg hd,?_,?_,?_,?_⟩
 · rw[qz6,AC.out]
   rfl
 ·
  rw[qz6,AC.out];have h9:Turns (· ==0) W7 col (W7.setRow (w.heap.size+1) #[.int .u64 0,.int .u32 0,.int .i64 0,.slice (some ⟨tg,0,none⟩) 16 16,.slice (some ⟨rg,0,none⟩) 16 16,.slice (some ⟨gg,0,none⟩) 1 1]) col:=Turns.of_grown (qam W7 (w.heap.size+1) _) (fun k e=>by
   injection e with e;by_cases h0:col k=0
   · rw[h0];rfl
   have:=(NW.out k h0).1;have:=A4.out;omega) (fun _ _=>rfl)
  exact ST.out.keep (h9.keeps rfl) (h9.keeps rfl) (h9.keeps rfl) (fun k hk=>h9.keeps (by simp;omega))
 · intro b hb
   have h1:=NW.out b hb;have h2:=A4.out;have h3:=(qam W7 (w.heap.size+1) #[.int .u64 0,.int .u32 0,.int .i64 0,.slice (some ⟨tg,0,none⟩) 16 16,.slice (some ⟨rg,0,none⟩) 16 16,.slice (some ⟨gg,0,none⟩) 1 1]).size;omega
 exact below_setRow (B0.out.trans (B7.out.mono B0.out.size)) (by omega) _
end
end Go.Proofs.YthomgopipiomhaaGreatDoor

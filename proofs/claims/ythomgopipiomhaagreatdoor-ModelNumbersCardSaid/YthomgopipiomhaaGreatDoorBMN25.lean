/-
  Lemmas for ModelNumbers, shortened by program.
-/
import Derived.Test.YthomgopipiomhaaGreatDoorBMN12
import Derived.Test.YthomgopipiomhaaGreatDoorBMN24
import Derived.Lib.SmallJoins
namespace Go.Proofs.YthomgopipiomhaaGreatDoor
set_option linter.unusedVariables false
set_option linter.unusedSimpArgs false
set_option maxRecDepth 100000
set_option maxHeartbeats 32000000
section
open Go.RowKit
theorem qzg {w w1 w2:World}{col:Col}{c:Cfg}{s:Sta}{L:Loc}{css:List (List Value)}{A:Option Addr}{n k g:Nat}(hst:StAt 92 74 66 w col 2 L css s)(nw:∀b,col b≠0→b<w.heap.size)(t0:Turns (· ==0) w col w1 col)(ho:OwnB w1 w.heap.size (.slice A n k) c.seed)
 (b2:Below w1.heap.size w1 w2)(hg:Blk w2 g 117 (mdlv c s {L with sa:=A,sn:=n,sc:=k}))(hg1:w1.heap.size≤g)(h3:3≤w.heap.size∧∀b,b<3→col b=0):
 Mdl w2 ((col.ext w.heap.size w1.heap.size (Value.ownBlock (.slice A n k)) 5 0).put g 1) 2 g c s {L with sa:=A,sn:=n,sc:=k} css:=by
 obtain⟨C1,hC1⟩:=eqx (col.ext w.heap.size w1.heap.size (Value.ownBlock (.slice A n k)) 5 0);have t1:Turns (· ==0) w col w1 C1:=t0.recolour fun b hb=>by rw[hC1];exact Col.ext_old hb
 have t2:Turns (· ==0) w1 C1 w2 (C1.put g 1):=(Turns.of_below _ b2).recolour fun b hb=>Col.put_old _ _ (by omega)
 have t12:=t1.trans t2;have f1:∀b,C1 b≠0→b<w1.heap.size:=fun b hb=>by
  rw[hC1]at hb;exact(Col.ext_new (lo:=0) (fun b hb=>⟨Nat.zero_le _,nw b hb⟩) (Nat.zero_le _) t0.size hb).2
 have sd:TextC w1 C1 (.slice A n k) c.seed:=TextC.own ho fun b hb=>by
  have:=qyu ho hb;rw[hC1];exact Col.ext_at this.1 this.2 hb
 rw[←hC1];refine⟨hg,Col.put_at _ _ _,⟨Nat.le_trans h3.1 t12.size,fun b hb=>(t12.same b (by omega)).trans (h3.2 b hb)⟩,fun b hb=>?_,sd.keep (t2.keeps rfl),?_⟩
 · by_cases e:b=g
   · subst e;exact hg.lt
   rw[Col.put_ne _ _ e]at hb;exact Nat.lt_of_lt_of_le (f1 b hb) b2.size
 have h:=hst.keep (t12.keeps rfl) (t12.keeps rfl) (t12.keeps rfl) (fun k hk=>t12.keeps (by simp;omega));exact⟨h.tens,h.tres,h.gras,h.trs⟩
theorem qzh (c:Cfg)(A:Option Addr)(n k:Nat)(w:World)(hc:c.Ok)(hr:Reads w w.heap.size 1 A n (byv c.seed))(hT:Tabs w):
 Calls Tryz.prog 13 #[.agg #[.int .i64 c.width,.int .i64 c.quantum,.int .u32 (c.store:Int),.slice A n k]] w fun e w'=>∃g L css col,e=.returned (.tuple #[.pointer (some ⟨g,0,none⟩),.int .i64 0])∧Mdl w' col 2 g c (newS c) L css∧(∀b,b<w.heap.size→col b=0)∧Below w.heap.size w w':=by
 obtain⟨W0,hW0⟩:=eqx (w.alloc (.cells #[.int .i64 c.width,.int .i64 c.quantum,.int .u32 (c.store:Int),.slice A n k] 25));have k0:Blk W0 w.heap.size 25 #[.int .i64 c.width,.int .i64 c.quantum,.int .u32 (c.store:Int),.slice A n k]:=by rw[hW0];exact Blk.new w _ _
 have b0:Below w.heap.size w W0:=by rw[hW0];exact qah (tA5 _ _) _
 have CN:=qzf c A n k W0 hc (hr.call b0) (hT.below b0 hT.size);have hn:=qb5 hr;obtain⟨s,hs⟩:=xeq (newS c);rw[hs]at CN ⊢;obtain⟨A4,A5,K0,B0,HC,HR,HT,HN⟩:=zh8 CN hW0 k0 b0 hc hr hT hn;clear CN hW0 k0 b0 hc hr hT hn hs;go_enter Tryz.func13,Tryz.ntmps13
 go_upto_region 1 with(fail)
 rw[←A5.out];have k0:=K0.out;go_wp2_with (refine qaq rfl 25 (.tmp 1) rfl w.heap.size 0 rfl [.int .i64 c.width,.int .i64 c.quantum,.int .u32 (c.store:Int),.slice A n k] _ (qap K0.out 0 [.int .i64 c.width,.int .i64 c.quantum,.int .u32 (c.store:Int),.slice A n k] (fun j u h=>by simpa using h)) Tryz.underlying25 rfl (by kernel_rfl) ?_)
 refine A4.out.mono ?_;rintro e w1 ⟨col,L,css,rfl,st,nw,b1⟩;obtain⟨SV,hSV⟩:=xeq (stav s L);have lSV:SV.length=6:=by rw[←hSV];rfl
 have oSV:∀u∈SV,u.oneCell'=true:=by rw[←hSV];exact quj s L
 rw[hSV];obtain⟨ST,NW,B1,A6,A7,A8,A2,SN⟩:=zh8 st nw b1 hSV lSV oSV (zI 49 lSV) (Blk.new w1 49 #[.int .u64 0,.int .u32 0,.int .i64 0,.slice none 0 0,.slice none 0 0,.slice none 0 0]);clear st nw b1 hSV lSV oSV k0;go_upto_region 2 with(refine zst 49 (.tmp 4) (.tmp 9) w1.heap.size SV SN.out A2.out (by simp[A7.out]) A8.out ?_)
 obtain⟨W2,hW2⟩:=eqx ((w1.alloc (.cells #[.int .u64 0,.int .u32 0,.int .i64 0,.slice none 0 0,.slice none 0 0,.slice none 0 0] 49)).setRow w1.heap.size SV.toArray);rw[←hW2];obtain⟨sg,hsg⟩:=eqx w1.heap.size;rw[←hsg];have b12:Below w1.heap.size w1 W2:=by rw[hW2];exact below_setRow ((tA5 _ _).alloc (tA4 _) _) (tA4 _) _
 obtain⟨S2,A0⟩:=zh2 (show Blk W2 sg 49 SV.toArray by rw[hW2,hsg];exact(Blk.new _ _ _).setRow _) (show Below W0.heap.size W0 W2 from B1.out.trans (b12.mono B1.out.size));obtain⟨K2,A1,A9⟩:=zh3 (K0.out.below A0.out K0.out.lt) b12 (show W0.heap.size≤sg by rw[hsg];exact B1.out.size);clear hW2 hsg b12;have k3:=K2.out.cell 3;go_upto_region 4 with(fail)
 go_wp2_with fail
 refine(qqe A n k (byv c.seed) W2 (HR.out.call (B0.out.trans (A0.out.mono B0.out.size))) (by have:=HN.out;have:=HC.out.seed;omega) (qau _)).mono ?_;rintro e w3 ⟨v3,rfl,o3,b3⟩;have o3':OwnB w3 W2.heap.size v3 c.seed:=by
  have e:=HN.out;subst e;exact o3
 obtain⟨A3,n3,c3,rfl,-,-,-⟩:=o3'.sl;have kk3:=K2.out.below b3 K2.out.lt;have k3':=kk3.cell 3;have f3:=kk3.frozen 3;obtain⟨O3,B3,K3,S3⟩:=zh4 o3' b3 kk3 (S2.out.below b3 S2.out.lt);clear o3 o3' b3 kk3 k3;go_upto_region 5 with(fail)
 obtain⟨W4,hW4⟩:=eqx (w3.setCell ⟨w.heap.size,3,none⟩ (.slice A3 n3 c3));rw[←hW4];have z0:∀b,b<W0.heap.size→col b=0:=fun b hb=>by
  by_cases e:col b=0
  · exact e
  have:=(NW.out b e).1;omega
 have k4:Blk W4 w.heap.size 25 #[.int .i64 c.width,.int .i64 c.quantum,.int .u32 (c.store:Int),.slice A3 n3 c3]:=by
  have h:=K3.out.set_ 3 (.slice A3 n3 c3);rw[←hW4]at h;exact h
 have s4:Blk W4 sg 49 SV.toArray:=by rw[hW4];exact S3.out.far (p:=⟨w.heap.size,3,none⟩) (by have:=A9.out;have:=K0.out.lt;show sg≠w.heap.size;omega) _
 have o4:OwnB W4 W2.heap.size (.slice A3 n3 c3) c.seed:=by rw[hW4];exact O3.out.far (p:=⟨w.heap.size,3,none⟩) (O3.out.blk_ne K3.out (by decide)) _
 have t4:Turns (· ==0) W2 col W4 col:=by rw[hW4];exact(Turns.of_below _ B3.out).trans (Turns.setCell _ (by rw[z0 _ K0.out.lt];rfl))
 have b4:Below w.heap.size w W4:=by rw[hW4];exact((B0.out.trans ((A0.out.trans (B3.out.mono A0.out.size)).mono B0.out.size))).setCell (p:=⟨w.heap.size,3,none⟩) (tA4 _) _
 have bt:Tryz.prog.built 117 [(0,.agg #[.int .i64 c.width,.int .i64 c.quantum,.int .u32 (c.store:Int),.slice A3 n3 c3]),(1,.agg SV.toArray)]=some (mdlv c s {L with sa:=A3,sn:=n3,sc:=c3}):=by rw[←A6.out];kernel_rfl
 obtain⟨ML,hML⟩:∃ML:List Value,ML.toArray=mdlv c s {L with sa:=A3,sn:=n3,sc:=c3}:=⟨_,Array.toArray_toList⟩;rw[←hML]at bt;have oML:∀u∈ML,u.oneCell'=true:=by
  intro u hu;have h:u∈(mdlv c s {L with sa:=A3,sn:=n3,sc:=c3}):=by rw[←hML];simpa using hu
  unfold mdlv at h;simp only[List.mem_toArray,List.mem_cons,List.not_mem_nil,or_false]at h;rcases h with rfl|rfl|rfl|rfl|rfl|rfl|rfl|rfl|rfl|rfl<;>rfl
 have lML:ML.length=10:=by rw[←List.size_toArray,hML];rfl
 obtain⟨BT,AA,RK,RS,O4,T4,B4,Z0⟩:=zh8 bt hML (qap k4 0 [.int .i64 c.width,.int .i64 c.quantum,.int .u32 (c.store:Int),.slice A3 n3 c3] (fun j u h=>by simpa using h)) (qap s4 0 SV (fun j u h=>by simpa using h)) o4 t4 b4 z0;obtain⟨AB,AC,AD⟩:=zh3 (show StAt 92 74 66 W2 col 2 L css s from ST.out.keep ((Turns.of_below (fun _=>false) A1.out).keeps rfl) ((Turns.of_below (fun _=>false) A1.out).keeps rfl) ((Turns.of_below (fun _=>false) A1.out).keeps rfl) (fun k _=>(Turns.of_below (fun _=>false) A1.out).keeps rfl)) oML lML;clear hW4 z0 k4 s4 o4 t4 b4 bt hML oML lML k3' f3;go_wp2_with (first
  |(refine qaq rfl 25 (.tmp 1) rfl w.heap.size 0 rfl [.int .i64 c.width,.int .i64 c.quantum,.int .u32 (c.store:Int),.slice A3 n3 c3] _ RK.out Tryz.underlying25 rfl (by kernel_rfl) ?_)
  |(refine qaq rfl 49 (.tmp 4) rfl sg 0 rfl SV _ RS.out Tryz.underlying49 rfl A2.out ?_)
  |(refine qbk rfl ⟨.agg ML.toArray,qfq 117 _ rfl _ _ BT.out (by simp[Act.eval,Act.put]),?_⟩))
 go_ret2
 refine⟨W4.heap.size,_,css,_,rfl,qzg AB.out (fun b hb=>Nat.lt_of_lt_of_le (NW.out b hb).2 A1.out.size) T4.out O4.out ((tA5 _ _).alloc (tA4 _) _) ?_ (tA4 _) ⟨?_,?_⟩,?_,?_⟩
 · rw[←AA.out]
   exact Blk.new _ _ _
 · have:=HT.out.size
   have:=B0.out.size;have:=A0.out.size;omega
 · intro b hb
   exact Z0.out b (by have:=HT.out.size;have:=B0.out.size;omega)
 ·
  intro b hb;have h1:=B0.out.size;have h2:=A0.out.size;have h3:=T4.out.size;rw[Col.put_old _ _ (by omega),Col.ext_old (by omega)];exact Z0.out b (by omega)
 exact B4.out.alloc B4.out.size _
end
section
open Go.RowKit
theorem qzi (w:World)(b:Nat)(fr:Nat × Nat):Reads (w.alloc (.cells #[.int .u8 (b:Int)] 5 fr)) (w.alloc (.cells #[.int .u8 (b:Int)] 5 fr)).heap.size 1 (some ⟨w.heap.size,0,none⟩) 1 (byv [b]):=by
 refine⟨rfl,fun _=>⟨_,rfl,by simp,fun j u hu=>?_⟩⟩;rw[Addr.add_mid,Joins.cell_alloc_mark_at w _ _ _ _ _ rfl];simpa [byv] using hu
theorem qzj (w:World):
 Calls Tryz.prog 67 #[] w fun e w'=>∃A c,e=.returned (.agg #[.int .i64 32,.int .i64 1,.int .u32 32768,.slice A 1 c])∧Reads w' w'.heap.size 1 A 1 (byv [115])∧(∀ad,A=some ad→w.heap.size≤ad.block)∧1≤c∧c≤maxLen∧Below w.heap.size w w':=by
 have hcv:=fun(w:World)(C:Array Value)(n c:Nat)=>Lib.run_convert_bytes_const (P:=Tryz.prog) w 23 5 C n c Tryz.underlying23 Tryz.underlying5
 have h1:=hcv (w.alloc (.cells #[.int .i64 0,.int .i64 0,.int .u32 0,.slice none 0 0] 25)) #[.int .u8 115] 1 1;rw[qar]at h1;clear hcv;go_enter Tryz.func67,Tryz.ntmps67
 go_wp2_with fail
 have hb:Blk ((w.alloc (.cells #[.int .i64 32,.int .i64 1,.int .u32 32768,.slice (some ⟨w.heap.size+1,0,none⟩) 1 1] 25)).alloc (.cells #[.int .u8 115] 5 (1,2))) w.heap.size 25 #[.int .i64 32,.int .i64 1,.int .u32 32768,.slice (some ⟨w.heap.size+1,0,none⟩) 1 1]:=(Blk.new w _ _).alloc _;have HR:=qap hb 0 [.int .i64 32,.int .i64 1,.int .u32 32768,.slice (some ⟨w.heap.size+1,0,none⟩) 1 1] (fun j u h=>by simpa using h);have hr:=qzi (w.alloc (.cells #[.int .i64 32,.int .i64 1,.int .u32 32768,.slice (some ⟨w.heap.size+1,0,none⟩) 1 1] 25)) 115 (1,2);rw[qar w]at hr;refine bodyPost_ret (qao rfl rfl (run_loadVar_mid _ _ 0 _ [.int .i64 32,.int .i64 1,.int .u32 32768,.slice (some ⟨w.heap.size+1,0,none⟩) 1 1] _ HR Tryz.underlying25 rfl (by kernel_rfl))) rfl ⟨some ⟨w.heap.size+1,0,none⟩,1,rfl,hr,fun ad e=>?_,tA4 _,by simp[maxLen],((tA5 _ _).alloc (tA4 _) _).alloc (by simp) _⟩;injection e with e;subst e;show w.heap.size≤w.heap.size+1;omega
end
section
open Go.RowKit
theorem qzk (c:Cfg)(A:Option Addr)(n k:Nat)(w:World)(hr:Reads w w.heap.size 1 A n (byv c.seed)):
 Calls Tryz.prog 14 #[.agg #[.int .i64 c.width,.int .i64 c.quantum,.int .u32 (c.store:Int),.slice A n k]] w fun e w'=>∃gw tb,e=.returned (.pointer (some ⟨gw,0,none⟩))∧WldAt w' gw tb c A n k∧w.heap.size≤gw∧w.heap.size≤tb∧Below w.heap.size w w':=by
 have HR:=zh1 hr;clear hr;go_enter Tryz.func14,Tryz.ntmps14
 go_upto_region 1 with(fail)
 obtain⟨W1,hW1⟩:=eqx (w.alloc (.cells #[.int .i64 c.width,.int .i64 c.quantum,.int .u32 (c.store:Int),.slice A n k] 25));rw[←hW1];obtain⟨Z1,B1⟩:=zh2 (show Blk W1 w.heap.size 25 #[.int .i64 c.width,.int .i64 c.quantum,.int .u32 (c.store:Int),.slice A n k] by rw[hW1];exact Blk.new _ _ _) (show Below w.heap.size w W1 by rw[hW1];exact qah (tA5 _ _) _);clear hW1;obtain⟨S,A0⟩:∃S:World→Prop,Hid (∀w',S w'=(Below W1.heap.size W1 w')):=⟨_,fun _=>rfl⟩;refine zrs S 5 [(1,false),(0,true),(2,false),(3,true),(4,false)] ((A0.out _).mpr ((tA5 _ _).drew)) ?_;have A1:=zh1 (fun(w':World)(h:S w')=>qap (Z1.out.below ((A0.out w').mp h) Z1.out.lt) 0 [.int .i64 c.width,.int .i64 c.quantum,.int .u32 (c.store:Int),.slice A n k] (fun j u h=>by simpa using h));refine qnf rfl rfl 25 (.tmp 1) rfl w.heap.size 0 rfl [.int .i64 c.width,.int .i64 c.quantum,.int .u32 (c.store:Int),.slice A n k] _ A1.out Tryz.underlying25 rfl (by kernel_rfl) ?_;try simp only[Act.put,tA0,tA1,tA2]
 obtain⟨W2,hW2⟩:=eqx W1.drew;have B2:=zh1 (show Below W1.heap.size W1 W2 by rw[hW2];exact(tA5 _ _).drew);rw[←hW2];clear hW2;refine qbj rfl rfl ?_;go_simp;refine(qxn W2).mono ?_;rintro e w3 ⟨rfl,t3,b3⟩;obtain⟨B3,T3⟩:=zh2 (B2.out.trans (b3.mono B2.out.size)) t3;clear t3 b3;refine⟨(A0.out _).mpr B3.out,?_⟩;try simp only[Act.put,tA0,tA1,tA2]
 iterate 1 (refine zrd rfl rfl (fun w1 hS=>by go_simp;(try go_bits);try rfl) ?_;simp only[Act.put,tA0,tA1,tA2])
 refine qbj rfl rfl ?_;go_simp;obtain⟨W4,hW4⟩:=eqx (w3.alloc (.cells #[.pointer (some ⟨W2.heap.size,0,none⟩),.int .i64 c.width,.int .i64 c.quantum,.int .u32 (c.store:Int),.slice A n k] 63));rw[←hW4];have b4:Below w3.heap.size w3 W4:=by rw[hW4];exact qah (tA5 _ _) _
 obtain⟨Z4,T4,B4⟩:=zh3 (show Blk W4 w3.heap.size 63 #[.pointer (some ⟨W2.heap.size,0,none⟩),.int .i64 c.width,.int .i64 c.quantum,.int .u32 (c.store:Int),.slice A n k] by rw[hW4];exact Blk.new _ _ _) (show RTab W4 W2.heap.size from Blk.below T3.out b4 (Blk.lt T3.out)) (B3.out.trans (b4.mono B3.out.size));clear hW4 b4;refine⟨(A0.out _).mpr B4.out,?_⟩;try simp only[Act.put,tA0,tA1,tA2]
 iterate 1 (refine zrd rfl rfl (fun w1 hS=>by go_simp;(try go_bits);try rfl) ?_;simp only[Act.put,tA0,tA1,tA2])
 refine qbg ?_;clear A0 A1;have BW:=zh1 (B1.out.trans (B4.out.mono B1.out.size));have s1:=B1.out.size;have s2:=B2.out.size;have s3:=B3.out.size;go_wp2_with fail
 go_ret
 exact⟨w3.heap.size,W2.heap.size,rfl,⟨Z4.out,T4.out,HR.out.call BW.out⟩,by omega,by omega,BW.out⟩
end
section
open Go.RowKit
theorem Sit.make {W w w':World}{col:Col}{g gw tb:Nat}{c:Cfg}{s:Sta}{L:Loc}{css:List (List Value)}{A:Option Addr}{n k:Nat}(hs:s.Ok)(hm:Mdl w col 2 g c s L css)(hb:Below w.heap.size w w')(hw:WldAt w' gw tb c A n k)(h1:w.heap.size≤gw)(h2:w.heap.size≤tb)(h3:0<n→∀ad,A=some ad→col ad.block=0)
 (hT:Tabs W)(hE:ErrT W)(low:∀b,b<W.heap.size→col b=0)(hW:Below W.heap.size W w):Sit W w'.heap.size w' col g gw tb c s:=by
 have z:∀b,w.heap.size≤b→col b=0:=fun b hb=>by
  by_cases e:col b=0
  · exact e
  have:=hm.fin b e;omega
 have hW':=hW.trans (hb.mono hW.size);refine⟨hs,⟨L,css,hm.call hb⟩,⟨A,n,k,hw,fun hn ad e=>⟨h3 hn ad e,?_⟩⟩,⟨z gw h1,hw.blk.lt⟩,⟨z tb h2,Blk.lt hw.tab⟩,hT.below hW' hT.size,qai hE hW',low,⟨hT.size,hW'.size,tA4 _⟩,hW'⟩;obtain⟨ad',e',hlt,_⟩:=hw.seed.2 hn;rw[e]at e';injection e' with e';subst e';exact hlt
theorem qzx {c:Cfg}{id:Nat}{R:Req}(hid:id<4294967296)(hg:R.Good):(byR c id R).Good:=
 {hg with tag:=qjt _ _,tagb:=qju _ _,tid:=hid,cavn:=fun x hx=>(nomatch hx),cavk:=fun x hx=>(nomatch hx)}
def Req.goodB (R:Req):Bool:=
 decide (R.tag.length=32)&&R.tag.all (fun b=>decide (b<256))&&decide (R.tid<4294967296)&&R.cavs.isEmpty&&(Lit.int .i64 R.op).wf&&(Lit.int .i64 R.tree).wf&&(Lit.int .i64 R.tenant).wf&&(Lit.int .i64 R.role).wf&&(Lit.int .i64 R.state).wf&&(Lit.int .i64 R.weight).wf&&decide (R.id<4294967296)&&decide (R.lo<18446744073709551616)&&decide (R.hi<18446744073709551616)&&decide (R.rate<4294967296)&&decide (R.burst<4294967296)&&decide (R.store<4294967296)&&decide (R.expires<18446744073709551616)&&R.leaf.all (fun b=>decide (b<256))
theorem qzy (R:Req)(h:R.goodB=true):R.Good:=by
 simp only[Req.goodB,Bool.and_eq_true,decide_eq_true_eq,List.all_eq_true,List.isEmpty_iff]at h;obtain⟨⟨⟨⟨⟨⟨⟨⟨⟨⟨⟨⟨⟨⟨⟨⟨⟨h1,h2⟩,h3⟩,h4⟩,h5⟩,h6⟩,h7⟩,h8⟩,h9⟩,h10⟩,h11⟩,h12⟩,h13⟩,h14⟩,h15⟩,h16⟩,h17⟩,h18⟩:=h;exact⟨h1,h2,h3,(by rw[h4];intro x hx;cases hx),(by rw[h4];intro x hx;cases hx),h5,h6,h7,h8,h9,h10,h11,h12,h13,h14,h15,h16,h17,h18⟩
theorem qzz (W:World)(hT:Tabs W)(hE:ErrT W):Calls Tryz.prog 27 #[] W fun e w'=>∃g gw tb B col,e=.returned (.tuple #[.pointer (some ⟨g,0,none⟩),.pointer (some ⟨gw,0,none⟩),.bool true])∧Sit W B w' col g gw tb KC K3:=by
 obtain⟨HT,HE⟩:=zh2 hT hE;clear hT hE;go_enter Tryz.func27,Tryz.ntmps27
 go_wp2_with fail
 refine(qzj W).mono ?_;rintro e w1 ⟨A1,c1,rfl,r1,l1,-,-,b1⟩;have B1:=zh1 b1;have CN:=qzh KC A1 1 c1 w1 KC_ok r1 (HT.out.below b1 HT.out.size);have AM:=zh1 CN;clear b1 r1 l1 CN;go_wp2_with fail
 refine AM.out.mono ?_;rintro e w2 ⟨g,L,css,col,rfl,m2,z2,b2⟩;obtain⟨M2,Z2,B2⟩:=zh3 m2 z2 b2;clear m2 z2 b2;go_wp2_with fail
 refine(qzj w2).mono ?_;rintro e w3 ⟨A3,c3,rfl,r3,l3,-,-,b3⟩;have CW:=qzk KC A3 1 c3 w3 r3;obtain⟨AN,B3,L3⟩:=zh3 CW b3 l3;clear CW r3 l3 b3;go_wp2_with fail
 refine AN.out.mono ?_;rintro e w4 ⟨gw,tb,rfl,wa4,lg,lt,b4⟩;have st4:Sit W w4.heap.size w4 col g gw tb KC (newS KC):=by
  have b24:=B3.out.trans (b4.mono B3.out.size);refine Sit.make qt3 M2.out b24 wa4 (Nat.le_trans B3.out.size lg) (Nat.le_trans B3.out.size lt) (fun _ ad e=>?_) HT.out HE.out (fun b hb=>Z2.out b (Nat.lt_of_lt_of_le hb B1.out.size)) (B1.out.trans (B2.out.mono B1.out.size));by_cases e0:col ad.block=0
  · exact e0
  have h1:=M2.out.fin _ e0;have h2:=L3.out ad e;omega
 obtain⟨B,hB⟩:=xeq w4.heap.size;rw[hB]at st4;have S4:=zh1 st4;clear st4 wa4 lg lt b4 hB;go_upto_region 5 with(fail)
 obtain⟨Q5,hQ5⟩:=xeq (reqv qtz (.slice none 0 0) (.slice none 0 0));have AO:=zh1 (show Tryz.prog.built 34 [(0,.int .i64 12),(3,.int .i64 1),(10,.int .u32 9),(11,.int .u32 9),(12,.int .u32 999)]=some Q5.toArray by rw[←hQ5];kernel_rfl);have A0:=qys S4.out KC_ok 0 0 rfl (by decide) qtz (by decide) (.slice none 0 0) (.slice none 0 0) rfl rfl;rw[hQ5]at A0;have A2:=zh1 A0;clear A0 hQ5;go_wp2_with (refine qbk rfl ⟨.agg Q5.toArray,qfq 34 _ rfl _ _ AO.out (by simp[Act.eval]),?_⟩)
 refine A2.out.mono ?_;rintro e w5 ⟨rfl,s5,b5⟩;have A4:=qyt s5 KC_ok 0 qtz none 0 0 rfl qu4 (qzx (by decide) (by exact qzy _ (by decide))) ⟨rfl,fun h=>absurd h (by decide)⟩ (tA4 _) (by simp[maxLen]) (fun h=>absurd h (by decide));obtain⟨P5,hP5⟩:=xeq (reqv (byR KC 0 qtz) (.slice none 0 0) (.slice none 0 0));rw[hP5]at A4 ⊢;obtain⟨A5,S5,AP⟩:=zh3 A4 s5 b5;clear A4 hP5 s5 b5;go_wp2_with fail
 refine A5.out.mono ?_;rintro e v5 ⟨X5,col5,rfl,hX5,t5,r5⟩;have pk5:=hX5.pk;obtain⟨AF,R5,AG,N5⟩:=zh4 hX5 r5 (qyr t5 X5) (Blk.new v5 57 Tryz.zeroCells57);clear hX5 t5 r5;go_upto_region 6 with(refine qpo (.tmp 6) (.tmp 26) v5.heap.size X5 N5.out pk5 ?_)
 obtain⟨W5,G5,hW5,hG5,U5,AQ,AR⟩:=AG.out;rw[hW5,hG5];clear hW5 hG5 AG N5 pk5;have B4:=zh1 (((Rest.of_below AP.out).trans R5.out).trans (Rest.of_below AR.out));obtain⟨Q6,hQ6⟩:=xeq (reqv qu0 (.slice none 0 0) (.slice none 0 0));have AS:=zh1 (show Tryz.prog.built 34 [(0,.int .i64 6),(2,.int .i64 1),(3,.int .i64 1),(6,.int .i64 1)]=some Q6.toArray by rw[←hQ6];kernel_rfl);have A6:=qys U5.out KC_ok 0 0 rfl (by decide) qu0 (by decide) (.slice none 0 0) (.slice none 0 0) rfl rfl;rw[hQ6]at A6;have A7:=zh1 A6;clear A6 hQ6;go_wp2_with (refine qbk rfl ⟨.agg Q6.toArray,qfq 34 _ rfl _ _ AS.out (by simp[Act.eval]),?_⟩)
 refine A7.out.mono ?_;rintro e w6 ⟨rfl,s6,b6⟩;have A8:=qyt s6 KC_ok 0 qu0 none 0 0 rfl qu5 (qzx (by decide) (by exact qzy _ (by decide))) ⟨rfl,fun h=>absurd h (by decide)⟩ (tA4 _) (by simp[maxLen]) (fun h=>absurd h (by decide));obtain⟨P6,hP6⟩:=xeq (reqv (byR KC 0 qu0) (.slice none 0 0) (.slice none 0 0));rw[hP6]at A8 ⊢;obtain⟨A9,S6,AT⟩:=zh3 A8 s6 b6;clear A8 hP6 s6 b6;go_wp2_with fail
 refine A9.out.mono ?_;rintro e v6 ⟨X6,col6,rfl,hX6,t6,r6⟩;have pk6:=hX6.pk;obtain⟨AH,R6,AI,N6⟩:=zh4 hX6 r6 (qyr t6 X6) (Blk.new v6 57 Tryz.zeroCells57);clear hX6 t6 r6;go_upto_region 7 with(refine qpo (.tmp 7) (.tmp 31) v6.heap.size X6 N6.out pk6 ?_)
 obtain⟨W6,G6,hW6,hG6,U6,AU,AV⟩:=AI.out;rw[hW6,hG6];clear hW6 hG6 AI N6 pk6;have AW:=zh1 (((Rest.of_below AT.out).trans R6.out).trans (Rest.of_below AV.out));obtain⟨Q7,hQ7⟩:=xeq (reqv qu1 (.slice none 0 0) (.slice none 0 0));have AX:=zh1 (show Tryz.prog.built 34 [(0,.int .i64 10),(3,.int .i64 1),(4,.int .i64 2),(13,.int .u64 99)]=some Q7.toArray by rw[←hQ7];kernel_rfl);have AA:=qys U6.out KC_ok 0 0 rfl (by decide) qu1 (by decide) (.slice none 0 0) (.slice none 0 0) rfl rfl;rw[hQ7]at AA;have AB:=zh1 AA;clear AA hQ7;go_wp2_with (refine qbk rfl ⟨.agg Q7.toArray,qfq 34 _ rfl _ _ AX.out (by simp[Act.eval]),?_⟩)
 refine AB.out.mono ?_;rintro e w7 ⟨rfl,s7,b7⟩;have AC:=qyt s7 KC_ok 0 qu1 none 0 0 rfl qu6 (qzx (by decide) (by exact qzy _ (by decide))) ⟨rfl,fun h=>absurd h (by decide)⟩ (tA4 _) (by simp[maxLen]) (fun h=>absurd h (by decide));obtain⟨P7,hP7⟩:=xeq (reqv (byR KC 0 qu1) (.slice none 0 0) (.slice none 0 0));rw[hP7]at AC ⊢;obtain⟨AD,S7,AY⟩:=zh3 AC s7 b7;clear AC hP7 s7 b7;go_wp2_with fail
 refine AD.out.mono ?_;rintro e v7 ⟨X7,col7,rfl,hX7,t7,r7⟩;have pk7:=hX7.pk;obtain⟨AJ,R7,AK,N7⟩:=zh4 hX7 r7 (qyr t7 X7) (Blk.new v7 57 Tryz.zeroCells57);clear hX7 t7 r7;go_upto_region 8 with(refine qpo (.tmp 8) (.tmp 36) v7.heap.size X7 N7.out pk7 ?_)
 obtain⟨W7,G7,hW7,hG7,U7,AZ,B0⟩:=AK.out;rw[hW7,hG7];clear hW7 hG7 AK N7 pk7;have AL:=zh1 (((Rest.of_below AY.out).trans R7.out).trans (Rest.of_below B0.out));have x5:=(AQ.out.rest AW.out).rest AL.out;have x6:=AU.out.rest AL.out;have x7:=AZ.out;have a0:=(x5.blk.cell 0).trans (show X5.toArray[0]? =some (.int .i64 0) by rw[tA3];exact AF.out.why);have a1:=(x5.blk.cell 1).trans (show X5.toArray[1]? =some (.int .u64 1) by rw[tA3];exact AF.out.n);have b0:=(x6.blk.cell 0).trans (show X6.toArray[0]? =some (.int .i64 0) by rw[tA3];exact AH.out.why);have b1:=(x6.blk.cell 1).trans (show X6.toArray[1]? =some (.int .u64 1) by rw[tA3];exact AH.out.n);have c0:=(x7.blk.cell 0).trans (show X7.toArray[0]? =some (.int .i64 0) by rw[tA3];exact AJ.out.why);have c1:=(x7.blk.cell 1).trans (show X7.toArray[1]? =some (.int .u64 1) by rw[tA3];exact AJ.out.n);clear x5 x6 x7;obtain⟨S,AE⟩:∃S:World→Prop,Hid (∀w',S w'=((w'.cell? ⟨G5,0,none⟩=some (.int .i64 0)∧w'.cell? ⟨G5,1,none⟩=some (.int .u64 1))∧(w'.cell? ⟨G6,0,none⟩=some (.int .i64 0)∧w'.cell? ⟨G6,1,none⟩=some (.int .u64 1))∧(w'.cell? ⟨G7,0,none⟩=some (.int .i64 0)∧w'.cell? ⟨G7,1,none⟩=some (.int .u64 1)))):=⟨_,fun _=>rfl⟩;refine qzs S [0,1,2,3,4,5,6,7,8,9,10,11,12,13,14,15,16,17,18,19,20,21,22,23,24,25,26,27,28,29,30,31,32] [(0,none),(1,none),(2,none),(3,some false),(4,none),(5,none),(6,none),(7,some false),(8,none),(9,none),(10,none),(11,none),(12,some false),(13,none),(14,none),(15,none),(16,none),(17,some false),(18,none),(19,none),(20,none),(21,none),(22,some false),(23,none),(24,none),(25,none),(26,none),(27,some false),(28,none),(29,none),(30,none),(31,none),(32,none)] (by kernel_rfl) rfl (by kernel_rfl) (by kernel_rfl) (fun _ _ d _ _ h=>by cases d<;>exact h) ((AE.out _).mpr (⟨⟨a0,a1⟩,⟨b0,b1⟩,⟨c0,c1⟩⟩)) ?_;have F0:=zh1 (fun(w':World)(h:S w')=>(AE.out w').mp h);clear a0 a1 b0 b1 c0 c1;iterate 33 (first
  |(refine qzu rfl rfl ⟨?_,fun w1=>?_,?_⟩;rotate_left;(focus(go_simp;try rfl));simp only[Act.put,tA0,tA1,tA2])
  |(refine qzv rfl rfl ⟨?_,fun w1 hS=>?_,?_⟩;rotate_left;(focus(obtain⟨⟨a0,a1⟩,⟨b0,b1⟩,⟨c0,c1⟩⟩:=F0.out w1 hS;clear hS;go_simp;try rfl));simp only[Act.put,tA0,tA1,tA2]))
 refine qzt ?_;clear AE F0;go_wp2_with fail
 go_ret3
 exact⟨g,gw,tb,B,col7,rfl,U7.out.drew⟩
end
section
open Go.RowKit
theorem xa0 (A:Option Addr)(n c:Nat)(ls:List (List Nat))(w:World)(hr:TextsR w A n ls)(hn:n≤1024)(hl:∀b∈ls,b.length≤400):
 Calls Tryz.prog 87 #[.slice A n c] w fun e w'=>∃v,e=.returned v∧OwnTexts w' w.heap.size v ls∧Below w.heap.size w w':=by
 obtain⟨hln,vs,hrd,htx⟩:=hr;have hvl:vs.length=n:=by have:=hrd.1;omega
 have hone:∀u∈vs,u.oneCell'=true:=by
  intro u hu;obtain⟨i,hi,rfl⟩:=List.getElem_of_mem hu;obtain⟨A',n',c',h,_⟩:=htx i (ls[i]'(by omega)) (tA7 (by omega));rw[tA7 hi]at h;injection h with h;rw[h];rfl
 obtain⟨A4,A6,A7,AB,A5,HL,HN⟩:=zh7 hln hrd htx hvl hone hl hn;clear hln hrd htx hvl hone hl hn;go_enter Tryz.func87,Tryz.ntmps87
 go_wp2_with fail
 refine(qqg A n c vs w A6.out (by have:=HN.out;omega) A5.out).mono ?_;rintro e w1 ⟨v1,rfl,o1,b1⟩;obtain⟨A1,c1,rfl,hc1,hm1,-⟩:=qaf o1;have T1:=zh1 (show CpT w w1 w.heap.size (.slice A1 n c1) n vs vs ls 0 from⟨o1,fun i b hi _=>absurd hi (by omega),fun _ _=>rfl,b1.size,b1⟩);clear o1 b1;go_wp2_with fail
 go_loopw [9] (fun i wr=>∃j:Nat,j≤n∧i=.int .i64 j∧Hid (∃vsj,CpT w wr w.heap.size (.slice A1 n c1) n vs vsj ls j)) (fun i _=>n - (intOf i).toNat)
 case atStart=>exact⟨0,by omega,rfl,zh1 ⟨vs,T1.out⟩⟩
 case round=>
  obtain⟨j,hj,rfl,hlp⟩:=hrel;have hn24:=HN.out;by_cases hjn:j<n
  ·
   have qj:(j:Int)<n:=by omega
   have qj0:(0:Int)≤j:=by omega
   obtain⟨vsj,tj⟩:=hlp.out;have hvj:vsj.length=n:=by have:=tj.row.1;omega
   obtain⟨bs,hbs⟩:∃bs,ls[j]? =some bs:=⟨_,tA7 (by have:=A4.out;omega)⟩;obtain⟨A2,n2,c2,hv2,hnc2,hcm2,hrd2⟩:=A7.out j bs hbs;have hvj2:=(tj.rest j (tA4 _)).trans hv2;have hlb:=HL.out bs (List.mem_of_getElem? hbs);have hn2:=qb5 hrd2;obtain⟨g,cap,cur,e0,hg,hh,-,-,-,ht⟩:∃g cap cur,(Value.slice A1 n c1)=.slice (some ⟨g,0,none⟩) n cap∧w.heap.size≤g∧wr.heap[g]? =some (.cells cur 23 (0,0))∧n≤cap∧cap≤maxLen∧cur.size=cap*1∧cur.toList.take (n*1)=vsj:=by
    rcases tj.row.2 with⟨_,h0⟩|h
    · omega
    exact h
   injection e0 with e1 e2 e3;subst e1 e3;have blk:Blk wr g 23 cur:=hh;have cj:wr.cell? ⟨g,j,none⟩=some (.slice A2 n2 c2):=by
    rw[blk.cell];rw[←ht,List.getElem?_take_of_lt (by omega)]at hvj2;simpa using hvj2
   obtain⟨TJ,A8,A0,A9,BK,HG,AA⟩:=zh7 tj hbs (hrd2.call tj.below) (show n2≤400 by omega) blk hg hvj;clear tj hbs hrd2 hn2 blk hg hvj hlb hv2 hnc2 hcm2 hvj2 hh ht hlp;go_wp2_with fail
   refine(qqe A2 n2 c2 (byv bs) wr A0.out (by have:=A9.out;omega) (qau _)).mono ?_;rintro e w2 ⟨v2,rfl,o2,b2⟩;have o2':OwnB w2 wr.heap.size v2 bs:=by
    have e:n2=bs.length:=by have:=qb5 A0.out;omega
    rw[e]at o2;exact o2
   obtain⟨A3,n3,c3,rfl,-,-,-⟩:=o2'.sl;have bk2:=BK.out.below b2 BK.out.lt;have cj2:=qai cj b2;have f2:=bk2.frozen j;obtain⟨O2,B2⟩:=zh2 o2' b2;clear o2 o2' b2 bk2 cj;go_wp2_with fail
   go_roundw
   case rel=>exact⟨j+1,by omega,by go_num,zh1 ⟨_,TJ.out.step A8.out hjn AA.out B2.out O2.out HG.out⟩⟩
   case measure=>simp[intOf];omega
  have qj:¬(j:Int)<n:=by omega
  obtain rfl:j=n:=by omega
  go_wp2_with fail
  obtain⟨vsj,tj⟩:=hlp.out;go_ret
  exact⟨_,rfl,⟨vsj,by rw[A4.out];exact tj.row,fun i b hb=>tj.done_ i b (by obtain⟨hi,_⟩:=List.getElem?_eq_some_iff.1 hb;have:=A4.out;omega) hb⟩,tj.below⟩
end
section
open Go.RowKit
theorem xa1 (s:Sta)(L:Loc)(col:Col)(k:Nat)(css:List (List Value))(w:World)(hs:s.Ok)(hst:StAt 92 74 66 w col k L css s):
 Calls Tryz.prog 32 #[.agg (stav s L).toArray] w fun e w'=>∃col' L' css',e=.returned (.agg (stav s L').toArray)∧StAt 92 74 66 w' col' 2 L' css' s∧(∀b,col' b≠0→w.heap.size≤b∧b<w'.heap.size)∧Below w.heap.size w w':=by
 obtain⟨W0,hW0⟩:=eqx ((w.alloc (.cells (stav s L).toArray 49)).alloc (.cells #[.int .u64 0,.int .u32 0,.int .i64 0,.slice none 0 0,.slice none 0 0,.slice none 0 0] 49));have a0:Blk W0 w.heap.size 49 (stav s L).toArray:=by rw[hW0];exact(Blk.new w _ _).alloc _
 have z0:Blk W0 (w.heap.size+1) 49 #[.int .u64 0,.int .u32 0,.int .i64 0,.slice none 0 0,.slice none 0 0,.slice none 0 0]:=by
  have h:=Blk.new (w.alloc (.cells (stav s L).toArray 49)) 49 #[.int .u64 0,.int .u32 0,.int .i64 0,.slice none 0 0,.slice none 0 0,.slice none 0 0];rw[qar]at h;rw[hW0];exact h
 have b0:Below w.heap.size w W0:=by rw[hW0];exact qah (qah (tA5 _ _) _) _
 have sg:0<s.gras.length:=by obtain⟨h,_⟩:=List.getElem?_eq_some_iff.1 hs.owner;exact h
 obtain⟨SV,hSV⟩:=xeq (stav s L);rw[hSV]at a0 hW0 ⊢;obtain⟨S3,S4,S5,A9,HS,A0,Z0,B0⟩:=zh8 (show SV.toArray[3]? =some (.slice (some ⟨L.tg,0,none⟩) 16 L.tc) by rw[←hSV];rfl) (show SV.toArray[4]? =some (.slice (some ⟨L.rg,0,none⟩) 16 L.rc) by rw[←hSV];rfl) (show SV.toArray[5]? =some (.slice (some ⟨L.gg,0,none⟩) s.gras.length L.gc) by rw[←hSV];rfl) hst hs a0 z0 b0;obtain⟨SG,AM,AN,AW⟩:=zh4 sg hSV hW0 (show W0.heap.size=w.heap.size+1+1 by rw[hW0,qar,qar]);clear hst hs a0 z0 b0 sg hSV hW0;go_enter Tryz.func32,Tryz.ntmps32
 go_upto_region 2 with(fail)
 rw[←AN.out];obtain⟨S,A1⟩:∃S:World→Prop,Hid (∀w',S w'=(Blk w' w.heap.size 49 SV.toArray)):=⟨_,fun _=>rfl⟩;refine qzs S [0,1,2,3,4,5,6,7,8,9,11,13] [(0,none),(1,some false),(3,none),(4,some false),(6,none),(7,some false),(2,some true),(9,none),(5,some true),(8,some true),(10,some true),(11,none),(12,some true),(13,none),(14,some true)] (by kernel_rfl) rfl (by kernel_rfl) (by kernel_rfl) (fun _ _ d _ _ h=>by cases d<;>exact h) ((A1.out _).mpr (A0.out)) ?_;obtain⟨F3,F4,F5⟩:=zh3 (fun(w':World)(h:S w')=>(((A1.out w').mp h).cell 3).trans S3.out) (fun(w':World)(h:S w')=>(((A1.out w').mp h).cell 4).trans S4.out) (fun(w':World)(h:S w')=>(((A1.out w').mp h).cell 5).trans S5.out);iterate 6 (first
  |(refine qzu rfl rfl ⟨?_,fun w1=>?_,?_⟩;rotate_left;(focus(go_simp;try rfl));simp only[Act.put,tA0,tA1,tA2])
  |(refine qzv rfl rfl ⟨?_,fun w1 hS=>?_,?_⟩;rotate_left;(focus(have g3:=F3.out w1 hS;have g4:=F4.out w1 hS;have g5:=F5.out w1 hS;clear hS;go_simp;try rfl));simp only[Act.put,tA0,tA1,tA2]))
 obtain⟨Wd,hWd⟩:=eqx W0.drew;obtain⟨BD,AD,ZD⟩:=zh3 (show Below w.heap.size w Wd by rw[hWd];exact B0.out.drew) (show Blk Wd w.heap.size 49 SV.toArray by rw[hWd];exact A0.out) (show Blk Wd (w.heap.size+1) 49 #[.int .u64 0,.int .u32 0,.int .i64 0,.slice none 0 0,.slice none 0 0,.slice none 0 0] by rw[hWd];exact Z0.out);rw[←hWd];clear hWd;have gl:=HS.out.grasn;refine qzw rfl rfl ?_;go_simp;refine(qqh (some ⟨L.tg,0,none⟩) 16 L.tc (s.tens.flatMap tenv) Wd (A9.out.tens.reads.call BD.out) (by decide) (quh _)).mono ?_;rintro e wa ⟨va,rfl,oa,ba⟩;obtain⟨BA,OA⟩:=zh2 ba oa;clear oa ba;refine⟨(A1.out _).mpr (AD.out.below BA.out AD.out.lt),?_⟩;try simp only[Act.put,tA0,tA1,tA2]
 iterate 1 (refine qzu rfl rfl ⟨?_,fun w1=>?_,?_⟩;rotate_left;(focus(go_simp;try rfl));simp only[Act.put,tA0,tA1,tA2])
 refine qzw rfl rfl ?_;go_simp;refine(qqj (some ⟨L.gg,0,none⟩) s.gras.length L.gc (s.gras.flatMap grav) wa (A9.out.gras.reads.call (BD.out.trans (BA.out.mono BD.out.size))) (by omega) (qui _)).mono ?_;rintro e wb ⟨vb,rfl,ob,bb⟩;obtain⟨BB,OB,AB⟩:=zh3 bb ob (BA.out.trans (bb.mono BA.out.size));clear ob bb;refine⟨(A1.out _).mpr (AD.out.below AB.out AD.out.lt),?_⟩;try simp only[Act.put,tA0,tA1,tA2]
 refine qzw rfl rfl ?_;go_simp;refine(qqi (some ⟨L.rg,0,none⟩) 16 L.rc css.flatten wb (A9.out.tres.reads.call (BD.out.trans (AB.out.mono BD.out.size))) (by decide) (qug A9.out.trs)).mono ?_;rintro e wc ⟨vc,rfl,oc,bc⟩;obtain⟨BC,OC,AE⟩:=zh3 bc oc (AB.out.trans (bc.mono AB.out.size));clear oc bc;refine⟨(A1.out _).mpr (AD.out.below AE.out AD.out.lt),?_⟩;try simp only[Act.put,tA0,tA1,tA2]
 have c16:css.length=16:=A9.out.trs.1.trans HS.out.tresn;have c75:=A9.out.trs.lens (fun t ht=>(HS.out.tres t ht).hd);obtain⟨col2,L2,e1,e2,e3,C0⟩:=Cpy.start (w0:=w) (lo:=Wd.heap.size) HS.out c16 c75 (qq9 (qq9 OA.out BB.out) BC.out) (qeq OC.out AB.out.size) (qeq (qq9 OB.out BC.out) BA.out.size) BD.out.size AE.out.size (BD.out.trans (AE.out.mono BD.out.size));subst e1 e2 e3;obtain⟨CC,AC,ZC⟩:=zh3 C0 (AD.out.below AE.out AD.out.lt) (ZD.out.below AE.out ZD.out.lt);clear C0 c16 c75 gl;have q3:=AC.out.frozen 3;have q4:=AC.out.frozen 4;have q5:=AC.out.frozen 5;have u3:=(AC.out.cell 3).trans S3.out;have u4:=(AC.out.cell 4).trans S4.out;have u5:=(AC.out.cell 5).trans S5.out;refine qzw rfl rfl ?_;go_simp;try simp only[Act.put,tA0,tA1,tA2]
 iterate 1 (refine qzu rfl rfl ⟨?_,fun w1=>?_,?_⟩;rotate_left;(focus(go_simp;try rfl));simp only[Act.put,tA0,tA1,tA2])
 refine qzw rfl rfl ?_;go_simp;try simp only[Act.put,tA0,tA1,tA2]
 iterate 1 (refine qzu rfl rfl ⟨?_,fun w1=>?_,?_⟩;rotate_left;(focus(go_simp;try rfl));simp only[Act.put,tA0,tA1,tA2])
 refine qzw rfl rfl ?_;go_simp;try simp only[Act.put,tA0,tA1,tA2]
 refine qzt ?_;obtain⟨W3,hW3⟩:=eqx (((wc.setCell ⟨w.heap.size,3,none⟩ (.slice (some ⟨L2.tg,0,none⟩) 16 L2.tc)).setCell ⟨w.heap.size,5,none⟩ (.slice (some ⟨L2.gg,0,none⟩) s.gras.length L2.gc)).setCell ⟨w.heap.size,4,none⟩ (.slice (some ⟨L2.rg,0,none⟩) 16 L2.rc));rw[←hW3];obtain⟨A2,hSV2⟩:=xeq (stav s L2);have a3:Blk W3 w.heap.size 49 A2.toArray:=by
  have h:=((AC.out.set_ 3 (.slice (some ⟨L2.tg,0,none⟩) 16 L2.tc)).set_ 5 (.slice (some ⟨L2.gg,0,none⟩) s.gras.length L2.gc)).set_ 4 (.slice (some ⟨L2.rg,0,none⟩) 16 L2.rc);rw[←hW3,←AM.out]at h;rw[←hSV2];exact h
 have g1:=qab (World.grownBy.refl wc (some w.heap.size)) (p:=⟨w.heap.size,3,none⟩) (.inl rfl) (.slice (some ⟨L2.tg,0,none⟩) 16 L2.tc);have g2:=qab g1 (p:=⟨w.heap.size,5,none⟩) (.inl rfl) (.slice (some ⟨L2.gg,0,none⟩) s.gras.length L2.gc);have g3:=qab g2 (p:=⟨w.heap.size,4,none⟩) (.inl rfl) (.slice (some ⟨L2.rg,0,none⟩) 16 L2.rc);rw[←hW3]at g3;obtain⟨C3,Z3,A3,AA,AK⟩:=zh5 (CC.out.box g3 (tA4 _) (by have:=AD.out.lt;omega)) (ZC.out.grown g3 (by intro e;injection e with e;omega)) a3 hSV2 (show A2.toArray[4]? =some (.slice (some ⟨L2.rg,0,none⟩) 16 L2.rc) by rw[←hSV2];rfl);obtain⟨lo,hlo⟩:=xeq Wd.heap.size;rw[hlo]at C3;have AF:=zh1 (show w.heap.size+1<lo by rw[←hlo];exact ZD.out.lt);have u4':=(a3.cell 4).trans AK.out;clear hW3 a3 g1 g2 g3 hSV2 hlo q3 q4 q5 u3 u4 u5 A1 F3 F4 F5;go_wp2_with fail
 clear u4';go_loopw [21] (fun i wr=>∃j:Nat,j≤16∧i=.int .i64 j∧Hid (∃col' cssj,Cpy w lo wr col' L2 css cssj j s)∧Hid (Blk wr w.heap.size 49 A2.toArray)∧Hid (Blk wr (w.heap.size+1) 49 #[.int .u64 0,.int .u32 0,.int .i64 0,.slice none 0 0,.slice none 0 0,.slice none 0 0])) (fun i _=>16 - (intOf i).toNat)
 case atStart=>exact⟨0,by omega,rfl,zh1 ⟨_,_,C3.out⟩,A3,Z3⟩
 case round=>
  obtain⟨j,hj,rfl,hc,ha,hz⟩:=hrel;by_cases hjn:j<16
  ·
   have qj:(j:Int)<16:=by omega
   have qj0:(0:Int)≤j:=by omega
   obtain⟨colj,cssj,cj⟩:=hc.out;obtain⟨t,ht⟩:∃t,s.tres[j]? =some t:=⟨_,tA7 (by rw[HS.out.tresn];exact hjn)⟩;obtain⟨-,Ad,cd,Al,cl,Aq,cq,hcs,-,hrd,hrl,hrq⟩:=A9.out.tree HS.out ht;have hto:=HS.out.tre ht;have hcj:=(cj.rest j (tA4 _)).trans hcs;have cell:∀i u,i<75→(trev t (.slice Ad t.draws.length cd) (.slice Al t.leaves.length cl) (.slice Aq t.queue.length cq))[i]? =some u→wr.cell? ⟨L2.rg,j*75+i,none⟩=some u:=fun i u hi hu=>cj.tres.cell ((qmq cj.lens hcj hi).trans hu)
   have x4:=cell 4 _ (by omega) rfl;have x5:=cell 5 _ (by omega) rfl;have x6:=cell 6 _ (by omega) rfl;obtain⟨A',c',ev,hdc,hdm,hDR,-⟩:=hrd.sl;injection ev with ev1 _ ev3;subst ev1 ev3;obtain⟨A',c',ev,hlc,hlm,hLR⟩:=hrl.reads;injection ev with ev1 _ ev3;subst ev1 ev3;obtain⟨A',c',ev,hqc,hqm,hQR⟩:=hrq.reads;injection ev with ev1 _ ev3;subst ev1 ev3;obtain⟨nd,hnd⟩:=xeq t.draws.length;obtain⟨nl,hnl⟩:=xeq t.leaves.length;obtain⟨nq,hnq⟩:=xeq t.queue.length;have b1:=hto.draws;have b2:=hto.leaves;have b3:=hto.queue;rw[hnd]at x4 hDR b1;rw[hnl]at x5 hLR b2;rw[hnq]at x6 hQR b2 b3;have a4:=(ha.out.cell 4).trans AK.out;obtain⟨A8,AO,AL,AP,AQ,AX,AY,AR⟩:=zh8 cj ht hto hcs hnd hnl hnq hDR;obtain⟨AS,AT,BN,X4,X5,X6⟩:=zh6 hLR hQR (show nd≤32∧nl≤1024∧nq≤64 by omega) x4 x5 x6;clear cj ht hto hcs hcj cell hnd hnl hnq hDR hLR hQR b1 b2 b3 hrd hrl hrq hdc hdm hlc hlm hqc hqm x4 x5 x6 hc;go_upto_region 7 with(fail)
   clear a4;obtain⟨S,A1⟩:∃S:World→Prop,Hid (∀w',S w'=(w'.cell? ⟨L2.rg,j*75+4,none⟩=some (.slice Ad nd cd)∧w'.cell? ⟨L2.rg,j*75+5,none⟩=some (.slice Al nl cl)∧w'.cell? ⟨L2.rg,j*75+6,none⟩=some (.slice Aq nq cq))):=⟨_,fun _=>rfl⟩;refine qzs S [0,1,2,3,4,5,6,7,8,9,10,11,12,13,14,15,16,17,18,19,20,21,23,24,26,27] [(0,none),(1,none),(2,none),(3,none),(4,none),(5,none),(6,some false),(8,none),(9,none),(10,none),(11,none),(12,some false),(14,none),(15,none),(16,none),(17,none),(18,some false),(7,some true),(13,some true),(19,some true),(20,none),(21,none),(22,some true),(23,none),(24,none),(25,some true),(26,none),(27,none),(28,some true)] (by kernel_rfl) rfl (by kernel_rfl) (by kernel_rfl) (fun _ _ d _ _ h=>by cases d<;>exact h) ((A1.out _).mpr (⟨X4.out,X5.out,X6.out⟩)) ?_;have F4:=zh1 (fun(w':World)(h:S w')=>(A1.out w').mp h);iterate 17 (first
    |(refine qzu rfl rfl ⟨?_,fun w1=>?_,?_⟩;rotate_left;(focus(go_simp;try rfl));simp only[Act.put,tA0,tA1,tA2])
    |(refine qzv rfl rfl ⟨?_,fun w1 hS=>?_,?_⟩;rotate_left;(focus(have g4:=(F4.out w1 hS).1;have g5:=(F4.out w1 hS).2.1;have g6:=(F4.out w1 hS).2.2;clear hS;go_simp;try rfl));simp only[Act.put,tA0,tA1,tA2]))
   obtain⟨Wr,hWr⟩:=eqx wr.drew;have BR:=zh1 (show Below wr.heap.size wr Wr by rw[hWr];exact(tA5 _ _).drew);rw[←hWr];clear hWr;obtain⟨keepS,AG⟩:=zh2 (fun(w':World)(hb:Below wr.heap.size wr w')=>(A1.out w').mpr ⟨qai X4.out hb,qai X5.out hb,qai X6.out hb⟩) (A8.out.below.trans (BR.out.mono A8.out.below.size));refine qzw rfl rfl ?_;go_simp;refine(qqf Ad nd cd (drwv t.draws) Wr (AR.out.call AG.out) (by have:=BN.out;omega) (by intro u hu;obtain⟨n,-,rfl⟩:=List.mem_map.1 hu;rfl)).mono ?_;rintro e w4 ⟨v4,rfl,o4,b4⟩;obtain⟨A4,c4,rfl,-,-,-⟩:=qaf o4;obtain⟨O4,B4,AH,B4'⟩:=zh4 o4 (BR.out.trans (b4.mono BR.out.size)) (AG.out.trans (b4.mono AG.out.size)) b4;clear o4 b4;refine⟨keepS.out _ B4.out,?_⟩;try simp only[Act.put,tA0,tA1,tA2]
   refine qzw rfl rfl ?_;go_simp;refine(xa0 Al nl cl t.leaves w4 (AS.out.call AH.out) (by have:=BN.out;omega) (fun b hb=>(AL.out.leafb b hb).1)).mono ?_;rintro e w5 ⟨v5,rfl,o5,b5⟩;obtain⟨A5,n5,c5,rfl⟩:∃A n c,v5=.slice A n c:=by obtain⟨_,h,_⟩:=o5;obtain⟨A,c,h,_⟩:=qaf h;exact⟨A,_,c,h⟩
   obtain⟨O5,B5,AI,B5'⟩:=zh4 o5 (B4.out.trans (b5.mono B4.out.size)) (AH.out.trans (b5.mono AH.out.size)) b5;clear o5 b5;refine⟨keepS.out _ B5.out,?_⟩;try simp only[Act.put,tA0,tA1,tA2]
   refine qzw rfl rfl ?_;go_simp;refine(xa0 Aq nq cq t.queue w5 (AT.out.call AI.out) (by have:=BN.out;omega) (fun b hb=>(AL.out.queueb b hb).1)).mono ?_;rintro e w6 ⟨v6,rfl,o6,b6⟩;obtain⟨A6,n6,c6,rfl⟩:∃A n c,v6=.slice A n c:=by obtain⟨_,h,_⟩:=o6;obtain⟨A,c,h,_⟩:=qaf h;exact⟨A,_,c,h⟩
   obtain⟨O6,B6,AZ,B6'⟩:=zh4 o6 (B5.out.trans (b6.mono B5.out.size)) (AI.out.trans (b6.mono AI.out.size)) b6;clear o6 b6;refine⟨keepS.out _ B6.out,?_⟩;try simp only[Act.put,tA0,tA1,tA2]
   have y4:=qai X4.out B6.out;have y5:=qai X5.out B6.out;have y6:=qai X6.out B6.out;have f4:=(A8.out.call B6.out).tres.frozen (j*75+4);have f5:=(A8.out.call B6.out).tres.frozen (j*75+5);have f6:=(A8.out.call B6.out).tres.frozen (j*75+6);iterate 2 (refine qzu rfl rfl ⟨?_,fun w1=>?_,?_⟩;rotate_left;(focus(go_simp;try rfl));simp only[Act.put,tA0,tA1,tA2])
   refine qzw rfl rfl ?_;go_simp;try simp only[Act.put,tA0,tA1,tA2]
   iterate 2 (refine qzu rfl rfl ⟨?_,fun w1=>?_,?_⟩;rotate_left;(focus(go_simp;try rfl));simp only[Act.put,tA0,tA1,tA2])
   refine qzw rfl rfl ?_;go_simp;try simp only[Act.put,tA0,tA1,tA2]
   iterate 2 (refine qzu rfl rfl ⟨?_,fun w1=>?_,?_⟩;rotate_left;(focus(go_simp;try rfl));simp only[Act.put,tA0,tA1,tA2])
   refine qzw rfl rfl ?_;go_simp;try simp only[Act.put,tA0,tA1,tA2]
   refine qzt ?_;clear A1 F4 keepS y4 y5 y6 f4 f5 f6;obtain⟨W7,hW7⟩:=eqx (((w6.setCell ⟨L2.rg,j*75+4,none⟩ (.slice A4 nd c4)).setCell ⟨L2.rg,j*75+5,none⟩ (.slice A5 n5 c5)).setCell ⟨L2.rg,j*75+6,none⟩ (.slice A6 n6 c6));rw[←hW7];have hW7':W7=w6.setCells L2.rg (j*75+4) [.slice A4 nd c4,.slice A5 n5 c5,.slice A6 n6 c6]:=by rw[hW7];rfl
   have cs7:∃col' cssj',Cpy w lo W7 col' L2 css cssj' (j+1) s:=by
    obtain⟨col',h⟩:=(A8.out.call BR.out).step AO.out HS.out.tresn AP.out (by rw[AQ.out];exact O4.out) B4'.out O5.out B5'.out O6.out B6'.out;rw[←hW7']at h;exact⟨col',_,h⟩
   have g7:w6.grownBy W7 (some L2.rg):=by rw[hW7'];exact qmj _ _ _ _
   have lrg:lo≤L2.rg:=(A8.out.new _ (by rw[A8.out.tres.1];decide)).1;have a7:=(ha.out.below B6.out ha.out.lt).grown g7 (by intro e;injection e with e;have:=AF.out;omega);have z7:=(hz.out.below B6.out hz.out.lt).grown g7 (by intro e;injection e with e;have:=AF.out;omega);obtain⟨AU,A7,Z7⟩:=zh3 cs7 a7 z7;clear hW7 hW7' cs7 g7 lrg a7 z7;go_wp2_with fail
   go_roundw
   case rel=>exact⟨j+1,by omega,by go_num,AU,A7,Z7⟩
   case measure=>simp[intOf];omega
  have qj:¬(j:Int)<16:=by omega
  obtain rfl:j=16:=by omega
  obtain⟨colj,cssj,cj⟩:=hc.out;have A8:=zh1 cj;have l2:A2.length=6:=by rw[←AA.out];rfl
  have o2:∀u∈A2,u.oneCell'=true:=by rw[←AA.out];exact quj s L2
  obtain⟨AJ,L2',O2',RA⟩:=zh4 (zI 49 l2) l2 o2 (qap ha.out 0 A2 (fun j u h=>by simpa using h));clear l2 o2 cj hc;go_wp2_with (first
   |(refine qaq rfl 49 (.tmp 1) rfl w.heap.size 0 rfl A2 _ RA.out Tryz.underlying49 rfl AJ.out ?_)
   |(refine zst 49 (.tmp 2) (.tmp 55) (w.heap.size+1) A2 hz.out AJ.out (by simp[L2'.out]) O2'.out ?_))
  have z9:=hz.out.setRow A2.toArray;have AV:=qap z9 0 A2 (fun j u h=>by simpa using h);have g9:=qam wr (w.heap.size+1) A2.toArray;have c9:=A8.out.box g9 (by omega) AF.out;refine zrt AV Tryz.underlying49 AJ.out ⟨colj,L2,by rw[AA.out],⟨cssj,c9.stAt HS.out.tresn⟩,fun b hb=>?_,c9.below⟩;have h1:=c9.new b hb;have h2:=c9.low.1;omega
theorem xa2 (c:Cfg)(s:Sta)(L:Loc)(col:Col)(g:Nat)(css:List (List Value))(w:World)(hs:s.Ok)(h:Mdl w col 2 g c s L css):
 Calls Tryz.prog 16 #[.pointer (some ⟨g,0,none⟩)] w fun e w'=>∃col' L' css',e=.returned (.agg (stav s L').toArray)∧StAt 92 74 66 w' col' 2 L' css' s∧(∀b,col' b≠0→w.heap.size≤b∧b<w'.heap.size)∧Below w.heap.size w w':=by
 obtain⟨W0,hW0⟩:=eqx (w.alloc (.cells #[.int .u64 0,.int .u32 0,.int .i64 0,.slice none 0 0,.slice none 0 0,.slice none 0 0] 49));have z0:Blk W0 w.heap.size 49 #[.int .u64 0,.int .u32 0,.int .i64 0,.slice none 0 0,.slice none 0 0,.slice none 0 0]:=by rw[hW0];exact Blk.new _ _ _
 have b0:Below w.heap.size w W0:=by rw[hW0];exact qah (tA5 _ _) _
 have h0:=h.call b0;have CC:=xa1 s L col 2 css W0 hs h0.st;have rs:W0.rangeAt g 4 (stav s L):=h0.stRange;obtain⟨SV,hSV⟩:=xeq (stav s L);have lSV:SV.length=6:=by rw[←hSV];rfl
 rw[hSV]at CC rs;obtain⟨A4,A5,RS,Z0,B0,A6,A2⟩:=zh7 (zI 49 lSV) CC rs z0 b0 hW0 (show W0.heap.size=w.heap.size+1 by rw[hW0,qar]);clear CC rs hSV lSV z0 b0 hW0 h0 h hs;go_enter Tryz.func16,Tryz.ntmps16
 go_upto_region 1 with(fail)
 rw[←A6.out];go_wp2_with (refine qaq rfl 49 (.tmp 5) rfl g 4 rfl SV _ RS.out Tryz.underlying49 rfl A4.out ?_)
 refine A5.out.mono ?_;rintro e w1 ⟨col',L',css',rfl,st,nw,b1⟩;obtain⟨A0,hSV2⟩:=xeq (stav s L');have l2:A0.length=6:=by rw[←hSV2];rfl
 have o2:∀u∈A0,u.oneCell'=true:=by rw[←hSV2];exact quj s L'
 rw[hSV2];obtain⟨A3,L2',O2',ST,NW,B1,A1,Z1⟩:=zh8 (zI 49 l2) l2 o2 st nw b1 hSV2 (Z0.out.below b1 Z0.out.lt);clear l2 o2 st nw b1 hSV2;go_wp2_with (refine zst 49 (.tmp 2) (.tmp 7) w.heap.size A0 Z1.out A3.out (by simp[L2'.out]) O2'.out ?_)
 have z9:=Z1.out.setRow A0.toArray;have A7:=qap z9 0 A0 (fun j u h=>by simpa using h);have g9:=qam w1 w.heap.size A0.toArray;have h9:Turns (· ==0) w1 col' (w1.setRow w.heap.size A0.toArray) col':=Turns.of_grown g9 (fun k e=>by
  injection e with e;by_cases h0:col' k=0
  · rw[h0];rfl
  have:=(NW.out k h0).1;have:=A2.out;omega) (fun _ _=>rfl)
 refine zrt A7 Tryz.underlying49 A3.out ⟨col',L',css',by rw[A1.out],?_,fun b hb=>?_,?_⟩
 · exact ST.out.keep (h9.keeps rfl) (h9.keeps rfl) (h9.keeps rfl) (fun k hk=>h9.keeps (by simp;omega))
 · have h1:=NW.out b hb
   have h2:=A2.out;have h3:=g9.size;omega
 exact below_setRow (B0.out.trans (B1.out.mono B0.out.size)) (tA4 _) _
end
section
open Go.RowKit
theorem xa3 (s:Sta)(L:Loc)(w:World):(Instr.field 49 (.agg (stav s L).toArray) 4).run Tryz.prog w=.ok (.slice (some ⟨L.rg,0,none⟩) 16 L.rc) w:=by kernel_rfl
theorem xa4 {W w:World}{col:Col}{B g gw tb:Nat}{c:Cfg}{s:Sta}(h:Sit W B w col g gw tb c s):
 Calls Tryz.prog 16 #[.pointer (some ⟨g,0,none⟩)] w fun e w'=>∃col2 L' css',e=.returned (.agg (stav s L').toArray)∧StAt 92 74 66 w' col2 2 L' css' s∧(∀b,col2 b≠0→w.heap.size≤b∧b<w'.heap.size)∧Below w.heap.size w w'∧Sit W B w' col g gw tb c s:=by
 obtain⟨L,css,h2⟩:=h.mdl;refine(xa2 c s L col g css w h.ok h2).mono ?_;rintro e w' ⟨col2,L',css',rfl,h3,h4,h5⟩;exact⟨col2,L',css',rfl,h3,h4,h5,h.call h5⟩
theorem xa5:doS KC K5 (byR KC 1 qu2)=(K6,(doS KC K5 (byR KC 1 qu2)).2):=Prod.ext qu8.1 rfl
theorem xa6 (W:World)(hT:Tabs W)(hE:ErrT W):Calls Tryz.prog 18 #[] W fun e w'=>e=.returned (.bool true)∧Below W.heap.size W w':=by
 have CB:=qzz W hT hE;have AI:=zh1 CB;clear hT hE CB;go_enter Tryz.func18,Tryz.ntmps18
 go_wp2_with fail
 refine AI.out.mono ?_;rintro e w0 ⟨g,gw,tb,B,col0,rfl,s0⟩;have S0:=zh1 s0;clear s0;go_upto_region 4 with(fail)
 have cv4:=Lib.run_convert_bytes_const (P:=Tryz.prog) w0 23 5 #[.int .u8 97] 1 1 Tryz.underlying23 Tryz.underlying5;obtain⟨Q4,hQ4⟩:=xeq (reqv kAdd (.slice none 0 0) (.slice (some ⟨w0.heap.size,0,none⟩) 1 1));have AJ:=zh1 (show Tryz.prog.built 34 [(0,.int .i64 1),(2,.int .i64 1),(14,.slice (some ⟨w0.heap.size,0,none⟩) 1 1)]=some Q4.toArray by rw[←hQ4];kernel_rfl);have sl4:=S0.out.alloc (.cells #[.int .u8 97] 5 (1,2));have A0:=qys sl4 KC_ok 1 1 rfl (by decide) kAdd (by decide) (.slice none 0 0) (.slice (some ⟨w0.heap.size,0,none⟩) 1 1) rfl rfl;rw[hQ4]at A0;have rl4:Reads (w0.alloc (.cells #[.int .u8 97] 5 (1,2))) (w0.alloc (.cells #[.int .u8 97] 5 (1,2))).heap.size 1 (some ⟨w0.heap.size,0,none⟩) 1 (byv [97]):=qzi w0 97 (1,2);have z04:=S0.out.new0 (b:=w0.heap.size) (tA4 _);obtain⟨y4,hy4⟩:=eqx (w0.alloc (.cells #[.int .u8 97] 5 (1,2)));have by4:=(tA5 w0.heap.size w0).alloc (tA4 _) (.cells #[.int .u8 97] 5 (1,2));rw[←hy4]at A0 rl4 by4;obtain⟨A1,AK,AL,AC,AM⟩:=zh5 A0 rl4 hy4 by4 z04;clear A0 hQ4 sl4 rl4 hy4 by4 z04;go_wp2_with (refine qbk rfl ⟨.agg Q4.toArray,qfq 34 _ rfl _ _ AJ.out (by simp[Act.eval,Act.put]),?_⟩)
 rw[←AL.out];refine A1.out.mono ?_;rintro e w4 ⟨rfl,s4,b4⟩;have A2:=qyt s4 KC_ok 1 kAdd (some ⟨w0.heap.size,0,none⟩) 1 1 rfl qu7 (qzx (by decide) (by exact qzy _ (by decide))) (AK.out.call b4) (tA4 _) (by simp[maxLen]) (fun _ ad e=>by injection e with e;subst e;exact AM.out);obtain⟨P4,hP4⟩:=xeq (reqv (byR KC 1 kAdd) (.slice none 0 0) (.slice (some ⟨w0.heap.size,0,none⟩) 1 1));rw[hP4]at A2 ⊢;have AN:=zh1 (AC.out.trans (b4.mono AC.out.size));clear cv4;obtain⟨A3,S4⟩:=zh2 A2 s4;clear A2 hP4 s4 b4;go_wp2_with fail
 refine A3.out.mono ?_;rintro e v4 ⟨X4,col4,rfl,hX4,t4,r4⟩;have pk4:=hX4.pk;obtain⟨AD,R4,AE,N4⟩:=zh4 hX4 r4 (qyr t4 X4) (Blk.new v4 57 Tryz.zeroCells57);clear hX4 t4 r4;go_upto_region 5 with(refine qpo (.tmp 4) (.tmp 20) v4.heap.size X4 N4.out pk4 ?_)
 obtain⟨W4,G4,hW4,hG4,U4,AO,AP⟩:=AE.out;rw[hW4,hG4];clear hW4 hG4 AE N4 pk4;have B2:=zh1 (((Rest.of_below AN.out).trans R4.out).trans (Rest.of_below AP.out));go_wp2_with fail
 refine(qyp U4.out KC_ok).mono ?_;rintro e w5 ⟨rfl,col5,s5,r5⟩;rw[show seqS KC K4=K5 from rfl]at s5;obtain⟨S5,AQ⟩:=zh2 s5 r5;clear s5 r5;go_upto_region 6 with(fail)
 obtain⟨Q6,hQ6⟩:=xeq (reqv qu2 (.slice none 0 0) (.slice none 0 0));have AR:=zh1 (show Tryz.prog.built 34 [(0,.int .i64 2),(2,.int .i64 1)]=some Q6.toArray by rw[←hQ6];kernel_rfl);have A4:=qys S5.out KC_ok 1 1 rfl (by decide) qu2 (by decide) (.slice none 0 0) (.slice none 0 0) rfl rfl;rw[hQ6]at A4;have A5:=zh1 A4;clear A4 hQ6;go_wp2_with (refine qbk rfl ⟨.agg Q6.toArray,qfq 34 _ rfl _ _ AR.out (by simp[Act.eval]),?_⟩)
 refine A5.out.mono ?_;rintro e w6 ⟨rfl,s6,b6⟩;have A6:=qyt s6 KC_ok 1 qu2 none 0 0 rfl xa5 (qzx (by decide) (by exact qzy _ (by decide))) ⟨rfl,fun h=>absurd h (by decide)⟩ (tA4 _) (by simp[maxLen]) (fun h=>absurd h (by decide));obtain⟨P6,hP6⟩:=xeq (reqv (byR KC 1 qu2) (.slice none 0 0) (.slice none 0 0));rw[hP6]at A6 ⊢;obtain⟨A7,S6,AS⟩:=zh3 A6 s6 b6;clear A6 hP6 s6 b6;go_wp2_with fail
 refine A7.out.mono ?_;rintro e v6 ⟨X6,col6,rfl,hX6,t6,r6⟩;have pk6:=hX6.pk;obtain⟨AT,R6,AF,N6⟩:=zh4 hX6 r6 (qyr t6 X6) (Blk.new v6 57 Tryz.zeroCells57);clear hX6 t6 r6;go_upto_region 7 with(refine qpo (.tmp 5) (.tmp 27) v6.heap.size X6 N6.out pk6 ?_)
 obtain⟨W6,G6,hW6,hG6,U6,AU,AV⟩:=AF.out;rw[hW6,hG6];clear hW6 hG6 AF N6 pk6;have AW:=zh1 (((Rest.of_below AS.out).trans R6.out).trans (Rest.of_below AV.out));obtain⟨Q7,hQ7⟩:=xeq (reqv qu3 (.slice none 0 0) (.slice none 0 0));have AX:=zh1 (show Tryz.prog.built 34 [(0,.int .i64 6),(2,.int .i64 3),(3,.int .i64 1),(6,.int .i64 1)]=some Q7.toArray by rw[←hQ7];kernel_rfl);have A8:=qys U6.out KC_ok 1 1 rfl (by decide) qu3 (by decide) (.slice none 0 0) (.slice none 0 0) rfl rfl;rw[hQ7]at A8;have A9:=zh1 A8;clear A8 hQ7;go_wp2_with (refine qbk rfl ⟨.agg Q7.toArray,qfq 34 _ rfl _ _ AX.out (by simp[Act.eval]),?_⟩)
 refine A9.out.mono ?_;rintro e w7 ⟨rfl,s7,b7⟩;have AA:=qyt s7 KC_ok 1 qu3 none 0 0 rfl qu9 (qzx (by decide) (by exact qzy _ (by decide))) ⟨rfl,fun h=>absurd h (by decide)⟩ (tA4 _) (by simp[maxLen]) (fun h=>absurd h (by decide));obtain⟨P7,hP7⟩:=xeq (reqv (byR KC 1 qu3) (.slice none 0 0) (.slice none 0 0));rw[hP7]at AA ⊢;obtain⟨AB,S7,AY⟩:=zh3 AA s7 b7;clear AA hP7 s7 b7;go_wp2_with fail
 refine AB.out.mono ?_;rintro e v7 ⟨X7,col7,rfl,hX7,t7,r7⟩;have pk7:=hX7.pk;obtain⟨AZ,R7,AG,N7⟩:=zh4 hX7 r7 (qyr t7 X7) (Blk.new v7 57 Tryz.zeroCells57);clear hX7 t7 r7;go_upto_region 8 with(refine qpo (.tmp 6) (.tmp 32) v7.heap.size X7 N7.out pk7 ?_)
 obtain⟨W7,G7,hW7,hG7,U7,B0,B1⟩:=AG.out;rw[hW7,hG7];clear hW7 hG7 AG N7 pk7;have AH:=zh1 (((Rest.of_below AY.out).trans R7.out).trans (Rest.of_below B1.out));have x4:=((AO.out.rest AQ.out).rest AW.out).rest AH.out;have x6:=AU.out.rest AH.out;have x7:=B0.out;have a0:=(x4.blk.cell 0).trans (show X4.toArray[0]? =some (.int .i64 0) by rw[tA3];exact AD.out.why);have a1:=(x4.blk.cell 1).trans (show X4.toArray[1]? =some (.int .u64 0) by rw[tA3];exact AD.out.n);have b6:=(x6.blk.cell 6).trans (show X6.toArray[6]? =some (.int .u64 1) by rw[tA3];exact AT.out.size.trans (by rw[qu8.2];rfl));have c0:=(x7.blk.cell 0).trans (show X7.toArray[0]? =some (.int .i64 21) by rw[tA3];exact AZ.out.why);clear x4 x6 x7;go_wp2_with fail
 refine(xa4 U7.out).mono ?_;rintro e w8 ⟨col2,L',css',rfl,st,nw,b8,s8⟩;obtain⟨t,ht,hl⟩:=qua;obtain⟨-,Ad,cd,Al,cl,Aq,cq,-,hcell,-⟩:=st.tree s8.ok ht;have c5:=hcell 5 _ rfl;rw[hl]at c5;have hf:=xa3 K6 L' w8;obtain⟨SV,hSV⟩:=xeq (stav K6 L');rw[hSV]at hf ⊢;have BW:=zh1 (s8.below);rw[show 0*75+5=5 from rfl]at c5;clear st nw s8 b8 hcell ht hl hSV a0 a1 b6 c0;go_wp2_with fail
 go_ret
 exact⟨rfl,BW.out⟩
end
section
open Go.RowKit
theorem xa7 {c:Cfg}{s:Sta}{id:Nat}{r:Req}{g:Gra}(hb:(qhp r).1=0)(hg:s.gras[id]? =some g)(hv:g.revoked=true):qly c s (byR c id r)=20:=by
 have h1:(qir (byR c id r)).1=0:=by
  unfold qir;rw[if_pos (by rw[qtr];exact hb),if_pos (by rfl)]
 have h2:(byR c id r).tid=id:=rfl;unfold qly;rw[if_neg (by rw[h1];decide),h2,hg];show (if (!qk6 (qlr c.seed) (id,[],qjs (qlr c.seed) id))=true then _ else _)=_;rw[qtp,if_neg (by decide),if_pos (by rw[hv];rfl)]
theorem xa8 {c:Cfg}{s:Sta}{id:Nat}{r:Req}(hb:(qhp r).1=0)(hg:s.gras[id]? =none):qly c s (byR c id r)=20:=by
 have h1:(qir (byR c id r)).1=0:=by
  unfold qir;rw[if_pos (by rw[qtr];exact hb),if_pos (by rfl)]
 have h2:(byR c id r).tid=id:=rfl;unfold qly;rw[if_neg (by rw[h1];decide),h2,hg]
def xa9:Req:={qi3 with op:=4,tree:=1,hi:=1}
def xaa:Req:={qi3 with op:=1,tree:=2,leaf:=[97]}
def xab:Req:={qi3 with op:=7,tree:=1,state:=4}
def xac:Req:={qi3 with op:=11}
def xad:Req:={qi3 with op:=11,id:=1}
def xae:Req:={qi3 with op:=12}
def xaf:Req:={qi3 with op:=1,leaf:=[120]}
def xag:Req:={qi3 with op:=2}
def N5:Sta:=qtu KC K4 (byR KC 1 kAdd)
def N6:Sta:=qtu KC N5 (byR KC 1 qu2)
def N7:Sta:=seqS KC N6
def N8:Sta:=qtu KC N7 (byR KC 1 xa9)
def N9:Sta:=qtt KC N8 (byR KC 0 xad)
theorem n_b:doS KC K4 (byR KC 1 kAdd)=(N5,qlz 0):=
 qtw ((qts (g:=⟨1,2,99,false⟩) (by decide) rfl rfl (by decide) rfl (by decide)).trans (by rfl)) rfl rfl
theorem n_c:(doS KC N5 (byR KC 1 qu2)).1=N6∧(doS KC N5 (byR KC 1 qu2)).2.hd.size=0:=by
 rw[qtw ((qts (g:=⟨1,2,99,false⟩) (by decide) rfl rfl (by decide) rfl (by decide)).trans (by rfl)) rfl rfl];exact⟨rfl,rfl⟩
theorem n_d:doS KC N7 (byR KC 1 xa9)=(N8,qlz 1):=by
 have h:(doS KC N7 (byR KC 1 xa9)).1=N8∧(doS KC N7 (byR KC 1 xa9)).2=qlz 1:=by
  rw[qtw (s:=N7) (r:=byR KC 1 xa9) ((qts (s:=N7) (r:=xa9) (g:=⟨1,2,99,false⟩) (by decide) rfl rfl (by decide) rfl (by decide)).trans (by rfl)) rfl rfl];refine⟨rfl,?_⟩;have hp:qe2 (cutW KC.width) [[97]] 0=[]:=qe3 _ _ (by decide);show ({qih with n:=1,hashes:=qe2 (cutW KC.width) [[97]] 0}:Rsp)=qlz 1;rw[hp];rfl
 exact Prod.ext h.1 h.2
theorem n_e:doS KC N8 (byR KC 1 xaa)=(N8,rWhy 23):=
 qty (y:=23) ((qts (g:=⟨1,2,99,false⟩) (by decide) rfl rfl (by decide) rfl (by decide)).trans (by rfl)) rfl (by decide)
theorem xah:askS KC N8 []=(N8,(qii (rWhy 12)).2):=rfl
theorem n_f:doS KC N8 (byR KC 0 xab)=(N8,rWhy 24):=
 qty (y:=24) ((qts (g:=⟨0,4,18446744073709551615,false⟩) (by decide) rfl rfl (by decide) rfl (by decide)).trans (by rfl)) rfl (by decide)
theorem n_g:doS KC N8 (byR KC 0 xac)=(N8,rWhy 24):=
 qty (y:=24) ((qts (g:=⟨0,4,18446744073709551615,false⟩) (by decide) rfl rfl (by decide) rfl (by decide)).trans (by rfl)) rfl (by decide)
theorem n_h:doS KC N8 (byR KC 0 xad)=(N9,qlz 1):=
 qtv ((qts (g:=⟨0,4,18446744073709551615,false⟩) (by decide) rfl rfl (by decide) rfl (by decide)).trans (by rfl)) rfl rfl (by decide+kernel) (by decide+kernel) (by decide)
theorem n_i:doS KC N9 (byR KC 1 kAdd)=(N9,rWhy 20):=
 qtx (xa7 (g:=⟨1,2,99,true⟩) (by decide) rfl rfl) (by decide)
theorem n_j:doS KC N9 (byR KC 0 xae)=(N9,rWhy 24):=
 qty (y:=24) ((qts (g:=⟨0,4,18446744073709551615,false⟩) (by decide) rfl rfl (by decide) rfl (by decide)).trans (by rfl)) rfl (by decide)
theorem n_k:doS KC N9 (byR KC 0 xaf)=(N9,rWhy 24):=
 qty (y:=24) ((qts (g:=⟨0,4,18446744073709551615,false⟩) (by decide) rfl rfl (by decide) rfl (by decide)).trans (by rfl)) rfl (by decide)
theorem n_l:doS KC N9 (byR KC 9 xag)=(N9,rWhy 20):=
 qtx (xa8 (by decide) rfl) (by decide)
end
theorem xak {x:Int}(h1:0≤x)(h2:x<256):(Lit.int .i64 x).wf=true:=by
 refine(Go.Lit.wf_int_iff _ _).2 ?_;rw[IntKind.min_i64,IntKind.max_i64];omega
structure Req.Deci (R:Req):Prop where
 ints:∀o,o=35∨o=36∨o=37∨o=38∨o=39→0≤R.num o∧R.num o<256
 mids:∀o,o=40∨o=43∨o=44∨o=45→R.num o<4294967296
 longs:∀o,o=41∨o=42∨o=46→R.num o<18446744073709551616
 leafb:∀b∈R.leaf,b<256
theorem xal {R:Req}(h:R.Deci){f:Fld}(hf:IsFld f)(n:Nat)(hn:n<256^f.1):(R.put f.2.2 n).Deci:=by
 have h1:=h.ints;have h2:=h.mids;have h3:=h.longs;rcases hf with rfl|rfl|rfl|rfl|rfl|rfl|rfl|rfl|rfl|rfl|rfl|rfl|rfl<;>
 ·
  refine⟨fun o ho=>?_,fun o ho=>?_,fun o ho=>?_,h.leafb⟩
  · have:=h1 o ho
    rcases ho with rfl|rfl|rfl|rfl|rfl<;>simp only[Req.put,Req.num]at hn this ⊢<;>omega
  · have:=h2 o ho
    rcases ho with rfl|rfl|rfl|rfl<;>simp only[Req.put,Req.num]at hn this ⊢<;>omega
  have:=h3 o ho;rcases ho with rfl|rfl|rfl<;>simp only[Req.put,Req.num]at hn this ⊢<;>omega
theorem xam (bs:List Nat)(hb:∀x∈bs,x<256):∀(l:List Fld) (s:RSt) (R:Req),(∀f∈l,IsFld f)→R.Deci→(qi0 bs l s R).2.Deci
 |[],s,R,_,h=>h
 |f::l,s,R,hl,h=>by
  unfold qi0;split
  · exact xam bs hb l _ _ (fun g hg=>hl g (List.mem_cons_of_mem _ hg)) ⟨h.ints,h.mids,h.longs,qgj bs s 256 hb⟩
  exact xam bs hb l _ _ (fun g hg=>hl g (List.mem_cons_of_mem _ hg)) (xal h (hl f (by simp)) _ (qfh bs s f.1 hb))
theorem xan (bs:List Nat):∀(l:List Fld) (s:RSt) (R:Req),(qi0 bs l s R).2.op=R.op∧(qi0 bs l s R).2.tid=R.tid∧(qi0 bs l s R).2.cavs=R.cavs∧(qi0 bs l s R).2.tag=R.tag
 |[],s,R=>⟨rfl,rfl,rfl,rfl⟩
 |f::l,s,R=>by
  unfold qi0;split
  · exact xan bs l _ _
  obtain⟨h1,h2,h3,h4⟩:=xan bs l (rNum bs s f.1).1 (R.put f.2.2 (rNum bs s f.1).2);obtain⟨e1,e2,e3,-,e5⟩:=qif R f.2.2 (rNum bs s f.1).2;exact⟨h1.trans e5,h2.trans e1,h3.trans e2,h4.trans e3⟩
theorem xao (bs:List Nat)(hb:∀x∈bs,x<256):∀x∈(qg4 bs).2.2.1,(Lit.int .i64 x.1).wf=true:=by
 cases h:(qg4 bs).1 with
 |none=>
  obtain⟨id,l,tag,e,h1,h2,h3,h4,h5,-⟩:=qgs bs hb h;rw[e];intro x hx;obtain⟨a,b⟩:=qel (h3 x hx).1;exact xak (by omega) (by omega)
 |some x=>
  have e:qg4 bs=(some x,qft):=by
   unfold qg4 at h ⊢;split
   · rename_i h1
     rw[h1]at h;cases h
   rename_i y h1
   rw[h1]at h;injection h with h;rw[h]
  rw[e];intro c hc;cases hc
theorem xap {R:Req}(hd:R.Deci)(hT:R.tag.length=32∧(∀b∈R.tag,b<256)∧R.tid<4294967296∧(∀x∈R.cavs,x.2<4294967296)∧∀x∈R.cavs,(Lit.int .i64 x.1).wf=true)(ho:0≤R.op∧R.op<256):R.Good:=by
 have a:=fun o h=>hd.ints o h
 have b:=fun o h=>hd.mids o h
 have d:=fun o h=>hd.longs o h
 have num35:=a 35 (by simp);have num36:=a 36 (by simp);have num37:=a 37 (by simp);have num38:=a 38 (by simp);have num39:=a 39 (by simp);have num40:=b 40 (by simp);have num43:=b 43 (by simp);have num44:=b 44 (by simp);have num45:=b 45 (by simp);have num41:=d 41 (by simp);have num42:=d 42 (by simp);have num46:=d 46 (by simp);simp only[Req.num]at num35 num36 num37 num38 num39 num40 num41 num42 num43 num44 num45 num46;exact⟨hT.1,hT.2.1,hT.2.2.1,hT.2.2.2.1,hT.2.2.2.2,xak ho.1 ho.2,xak num35.1 num35.2,xak num36.1 num36.2,xak num37.1 num37.2,xak num38.1 num38.2,xak num39.1 num39.2,by omega,by omega,by omega,by omega,by omega,by omega,by omega,hd.leafb⟩
theorem xaq (bs:List Nat)(hb:∀x∈bs,x<256):(qi4 bs).2.Good:=by
 have hlt:=qgj bs (0,none) 77 hb;have hT:=qgt (qgi bs (0,none) 77).2 hlt;have hk:=xao (qgi bs (0,none) 77).2 hlt;have hn:=qfh bs (qi1 bs) 1 hb;have d0:∀(T:Tok) (k:Int),(req0 T k).Deci:=fun T k=>⟨fun o ho=>by rcases ho with rfl|rfl|rfl|rfl|rfl<;>simp[req0,Req.num],fun o ho=>by rcases ho with rfl|rfl|rfl|rfl<;>simp[req0,Req.num],fun o ho=>by rcases ho with rfl|rfl|rfl<;>simp[req0,Req.num],by simp[req0]⟩
 have hz:qi3.Good:=xap (d0 _ _) ⟨by simp[qi3,req0,qft],by intro x hx;simp[qi3,req0,qft]at hx;omega,by decide,fun c hc=>(nomatch hc),fun c hc=>(nomatch hc)⟩ (by decide);unfold qi4;split
 ·
  unfold qi2;split
  · exact xap (d0 _ _) ⟨hT.1.2.2.1,hT.1.2.2.2,hT.1.1,hT.1.2.1,hk⟩ (by show 0≤((rNum bs (qi1 bs) 1).2:Int)∧_;simp only[req0];omega)
  rename_i l hl
  obtain⟨e1,e2,e3,e4⟩:=xan bs l (rNum bs (qi1 bs) 1).1 (req0 (reqT bs) ((rNum bs (qi1 bs) 1).2:Int));refine xap (xam bs hb l _ _ (fun f hm=>qht _ l hl f hm) (d0 _ _)) ?_ ?_
  · rw[e2,e3,e4]
    exact⟨hT.1.2.2.1,hT.1.2.2.2,hT.1.1,hT.1.2.1,hk⟩
  rw[e1];simp only[req0];omega
 exact hz
end Go.Proofs.YthomgopipiomhaaGreatDoor

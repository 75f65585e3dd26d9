/-
  Lemmas for ModelNumbers, shortened by program.
-/
import Derived.Test.YthomgopipiomhaaGreatDoorBMN21
namespace Go.Proofs.YthomgopipiomhaaGreatDoor
set_option linter.unusedVariables false
set_option linter.unusedSimpArgs false
set_option maxRecDepth 100000
set_option maxHeartbeats 32000000
section
open Go.RowKit
theorem quc {c:Cfg}{s:Sta}{r:Req}{y:Nat}(hm:qly c s r=0)(hw:(qmd c s r).2.why=0)(ha:qku r.op=true)(hf:qtm c s=y)(hy:y≠0):doS c s r=(s,rWhy y):=by
 unfold doS;rw[if_neg (by rw[hm];decide)];obtain⟨s1,a,h⟩:∃s1 a,qmd c s r=(s1,a):=⟨_,_,rfl⟩;rw[h]at hw ⊢;dsimp only at hw ⊢;rw[if_neg (by rw[hw];decide),ha];unfold qtm at hf;by_cases h1:1024≤(s.tres[0]?.getD Tre.zero).leaves.length
 · rw[if_pos h1]at hf
   rw[if_pos (by simp;exact h1),hf]
 rw[if_neg h1]at hf;by_cases h2:c.store<stored s+64
 · rw[if_pos h2]at hf
   rw[if_neg (by simp;omega),if_pos (by simp;omega),hf]
 rw[if_neg h2]at hf;exact absurd hf.symm hy
theorem qud {c:Cfg}{s:Sta}(hf:qtm c s=0):(s.tres[0]?.getD Tre.zero).leaves.length<1024∧stored s+64≤c.store:=by
 unfold qtm at hf;by_cases h1:1024≤(s.tres[0]?.getD Tre.zero).leaves.length
 · rw[if_pos h1]at hf
   cases hf
 rw[if_neg h1]at hf;by_cases h2:c.store<stored s+64
 · rw[if_pos h2]at hf
   cases hf
 omega
theorem que {c:Cfg}{s:Sta}{r:Req}(hm:qly c s r=0)(hw:(qmd c s r).2.why=0)(ha:qku r.op=true)(hf:qtm c s=0)(h9:r.op=9):doS c s r=(qtt c s r,{(qmd c s r).2 with hd:=((qtt c s r).tres[r.tree.toNat]?.getD Tre.zero).hd}):=by
 obtain⟨hl,hst⟩:=qud hf;unfold doS;rw[if_neg (by rw[hm];decide)];obtain⟨s1,a,h⟩:∃s1 a,qmd c s r=(s1,a):=⟨_,_,rfl⟩;unfold qtt;rw[h]at hw ⊢;dsimp only at hw ⊢;rw[if_neg (by rw[hw];decide),if_neg (by simp;intro _;omega),if_neg (by simp;intro _;omega),if_pos ha,if_pos h9]
section
variable {w w' : World} {col col' : Col} {p : Nat → Bool}
theorem quf {base:Nat}{e:TypeId}{size n:Nat}{v:Value}{xs:List Value}(h:w.ownsRow base e size v n xs)(h0:∀g,v.ownBlock=some g→col g=0)(ht:Turns p w col w' col')(hp:p 0=false):w'.ownsRow base e size v n xs∧∀g,v.ownBlock=some g→col' g=0:=by
 refine⟨⟨h.1,?_⟩,fun g hg=>?_⟩
 · rcases h.2 with h1|⟨g,cap,cur,rfl,hg,hh,rest⟩
   · exact .inl h1
   have hl:Blk w g e cur:=hh;exact .inr ⟨g,cap,cur,rfl,hg,(ht.block g hl.lt (by rw[h0 g rfl];exact hp)).trans hh,rest⟩
 exact(ht.same g (World.ownsRow.lt h g hg).2).trans (h0 g hg)
theorem RspV.turns {base:Nat}{v:Value}{A:Rsp}(h:RspV w col base v A)(ht:Turns p w col w' col')(hp:p 0=false):RspV w' col' base v A:=by
 obtain⟨bv,hv,cav,e,h1,h2,h3,h4,h5,h6⟩:=h;obtain⟨a1,b1⟩:=quf h1 h4 ht hp;obtain⟨a2,b2⟩:=quf h2.2 h5 ht hp;obtain⟨a3,b3⟩:=quf h3 h6 ht hp;exact⟨bv,hv,cav,e,a1,⟨h2.1,a2⟩,a3,b1,b2,b3⟩
theorem RspV.call {base:Nat}{v:Value}{A:Rsp}(h:RspV w col base v A)(hb:Below w.heap.size w w'):RspV w' col base v A:=h.turns (Turns.of_below (fun _=>false) hb) rfl
theorem RspV.grown {base G:Nat}{v:Value}{A:Rsp}{cs:Array Value}(h:RspV w col base v A)(hz:Blk w G 57 cs)(hg:w.grownBy w' (some G)):RspV w' col base v A:=by
 obtain⟨bv,hv,cav,e,h1,h2,h3,h4,h5,h6⟩:=h;exact⟨bv,hv,cav,e,World.ownsRow.kept h1 hg (.inr (qa3 h1 hz (by decide))),⟨h2.1,World.ownsRow.kept h2.2 hg (.inr (qa3 h2.2 hz (by decide)))⟩,World.ownsRow.kept h3 hg (.inr (qa3 h3 hz (by decide))),h4,h5,h6⟩
theorem RspV.base {base base':Nat}{v:Value}{A:Rsp}(h:RspV w col base v A)(hb:base'≤base):RspV w col base' v A:=by
 obtain⟨bv,hv,cav,e,h1,h2,h3,h4,h5,h6⟩:=h;exact⟨bv,hv,cav,e,qeq h1 hb,⟨h2.1,qeq h2.2 hb⟩,qeq h3 hb,h4,h5,h6⟩
theorem Turns.only0 {G:Nat}(h:w.grownBy w' (some G))(h0:col G=0):Turns (· ==0) w col w' col:=
 Turns.of_grown h (fun g e=>by injection e with e;subst e;simp[h0]) (fun _ _=>rfl)
theorem Mdl.grown0 {k g:Nat}{c:Cfg}{s:Sta}{L:Loc}{css:List (List Value)}{G:Nat}(h:Mdl w col k g c s L css)(hk:Kind k)(hg:w.grownBy w' (some G))(h0:col G=0):Mdl w' col k g c s L css:=
 h.keep (Turns.only0 hg h0) rfl rfl (by rcases hk with rfl|rfl<;>rfl) (by rcases hk with rfl|rfl<;>rfl) (by rcases hk with rfl|rfl<;>rfl) (fun i hi=>by simp;omega) (h.fin.mono hg.size)
theorem StAt.grown0 {tt rt gt:TypeId}{k:Nat}{L:Loc}{css:List (List Value)}{s:Sta}{G:Nat}(h:StAt tt rt gt w col k L css s)(hk:Kind k)(hg:w.grownBy w' (some G))(h0:col G=0):StAt tt rt gt w' col k L css s:=by
 have T:=Turns.only0 hg h0;exact h.keep (T.keeps (by rcases hk with rfl|rfl<;>rfl)) (T.keeps (by rcases hk with rfl|rfl<;>rfl)) (T.keeps (by rcases hk with rfl|rfl<;>rfl)) fun i hi=>T.keeps (by simp;omega)
theorem StAt.call {tt rt gt:TypeId}{k:Nat}{L:Loc}{css:List (List Value)}{s:Sta}(h:StAt tt rt gt w col k L css s)(hb:Below w.heap.size w w'):StAt tt rt gt w' col k L css s:=
 h.keep ((Turns.of_below (fun _=>false) hb).keeps rfl) ((Turns.of_below (fun _=>false) hb).keeps rfl) ((Turns.of_below (fun _=>false) hb).keeps rfl) fun i _=>(Turns.of_below (fun _=>false) hb).keeps rfl
theorem Rest.newer {W W':World}{colW:Col}{G:Nat}(h:Rest w col W colW)(hg:W.grownBy W' (some G))(hG:w.heap.size≤G):Rest w col W' colW:=
 ⟨hg.os.trans h.os,hg.tape.trans h.tape,hg.output.trans h.output,Nat.le_trans h.size hg.size,fun b hb hc=>by
  obtain⟨h1,h2⟩:=h.block b hb hc;exact⟨(hg.block b (Nat.lt_of_lt_of_le hb h.size) (by intro e;injection e with e;omega)).trans h1,h2⟩⟩
theorem Rest.step {W W':World}{colW colW':Col}(h:Rest w col W colW)(ht:Turns p W colW W' colW')(hp:p 0=false):Rest w col W' colW':=h.trans (Rest.of_turns ht hp)
end
theorem qug {w:World}{col:Col}{css:List (List Value)}{l:List Tre}(h:TrsAt w col css l):∀u∈css.flatten,u.oneCell'=true:=by
 intro u hu;obtain⟨cs,hcs,hu⟩:=List.mem_flatten.1 hu;obtain⟨i,hi⟩:=List.mem_iff_getElem?.1 hcs;have hlt:i<l.length:=by
  obtain⟨h1,_⟩:=List.getElem?_eq_some_iff.1 hi;rw[←h.1];exact h1
 obtain⟨cs',h1,vd,vl,vq,e,r1,r2,r3⟩:=h.2 i _ (tA7 hlt);rw[hi]at h1;injection h1 with h1;subst h1;obtain⟨A1,c1,e1,-⟩:=r1.sl;obtain⟨vs2,A2,c2,e2,-⟩:=r2.sl;obtain⟨vs3,A3,c3,e3,-⟩:=r3.sl;subst e e1 e2 e3;exact qpq _ _ _ _ rfl rfl rfl u hu
theorem quh (l:List Ten):∀u∈l.flatMap tenv,u.oneCell'=true:=by
 intro u hu;obtain⟨x,_,hx⟩:=List.mem_flatMap.1 hu;unfold tenv at hx;simp only[List.mem_cons,List.not_mem_nil,or_false]at hx;rcases hx with rfl|rfl|rfl|rfl|rfl|rfl<;>rfl
theorem qui (l:List Gra):∀u∈l.flatMap grav,u.oneCell'=true:=by
 intro u hu;obtain⟨x,_,hx⟩:=List.mem_flatMap.1 hu;unfold grav at hx;simp only[List.mem_cons,List.not_mem_nil,or_false]at hx;rcases hx with rfl|rfl|rfl|rfl<;>rfl
theorem quj (s:Sta)(L:Loc):∀u∈stav s L,u.oneCell'=true:=by
 intro u hu;unfold stav at hu;simp only[List.mem_cons,List.not_mem_nil,or_false]at hu;rcases hu with rfl|rfl|rfl|rfl|rfl|rfl<;>rfl
theorem quk (A:Rsp)(h:Hd)(bv hv cav:Value)(h1:A.hd.Ok)(h2:h.Ok):over (rspv A bv hv cav) 4 (hdv h)=rspv {A with hd:=h} bv hv cav:=by
 unfold over rspv;have l1:=qmw h1;have l2:=qmw h2;rw[l2];simp only[List.take_succ_cons,List.take_zero,List.drop_succ_cons,List.cons_append,List.nil_append];rw[show 4+64=(hdv A.hd).length by rw[l1],List.drop_left]
theorem qul {l:List Value}{i:Nat}{u:Value}(h:l.toArray[i]? =some u):l.toArray.setIfInBounds i u=l.toArray:=by
 rw[List.setIfInBounds_toArray];congr 1
 rw[tA3]at h;obtain⟨hi,e⟩:=List.getElem?_eq_some_iff.1 h;rw[←e,List.set_getElem_self]
theorem Mdl.there4 {w:World}{col:Col}{k g:Nat}{c:Cfg}{s:Sta}{L:Loc}{css:List (List Value)}(h:Mdl w col k g c s L css):w.there g 4 6:=fun j hj=>
 ⟨by rw[h.blk.cell,Array.getElem?_eq_getElem (by simp[mdlv];omega)];simp,h.blk.frozen _⟩
theorem Tabs.rest {w w':World}{col col':Col}(h:Tabs w)(hr:Rest w col w' col')(hb:3≤w.heap.size∧∀b,b<3→col b=0):Tabs w':=h.below (hr.below hb.2 hb.1).1 (tA4 _)
theorem Asked.rest {w w':World}{col col':Col}{R:Req}{Ac:Option Addr}{cc:Nat}{Al:Option Addr}{cl:Nat}(h:Asked w col R Ac cc Al cl)(hr:Rest w col w' col'):Asked w' col' R Ac cc Al cl:=
 ⟨h.good,hr.reads h.leaf h.leaf0,h.leafc,h.leafm,hr.reads h.cavs h.cavs0,h.cavc,h.cavm,
  fun hn ad e=>by
   obtain⟨ad',e',hb,_⟩:=h.leaf.2 hn;rw[e]at e';injection e' with e';subst e';exact(hr.block _ hb (h.leaf0 hn ad e)).2,
  fun hn ad e=>by
   obtain⟨ad',e',hb,_⟩:=h.cavs.2 hn;rw[e]at e';injection e' with e';subst e';exact(hr.block _ hb (h.cavs0 hn ad e)).2⟩
theorem RspV.cell0 {W:World}{col:Col}{base:Nat}{X:List Value}{A:Rsp}(h:RspV W col base (.agg X.toArray) A):X.toArray[0]? =some (.int .i64 A.why):=by
 obtain⟨bv,hv,cav,e,-⟩:=h;injection e with e;rw[e];rfl
theorem RspV.head {W:World}{col:Col}{base:Nat}{X:List Value}{A:Rsp}{h:Hd}(hr:RspV W col base (.agg X.toArray) A)(h1:A.hd.Ok)(h2:h.Ok):RspV W col base (.agg (over X 4 (hdv h)).toArray) {A with hd:=h}:=by
 obtain⟨bv,hv,cav,e,h3,h4,h5,h6,h7,h8⟩:=hr;injection e with e;have e':X=rspv A bv hv cav:=by simpa using e
 rw[e',quk A h bv hv cav h1 h2];exact⟨bv,hv,cav,rfl,h3,h4,h5,h6,h7,h8⟩
theorem qum {c:Cfg}{s:Sta}{r:Req}(h9:r.op=9)(hw:(qmd c s r).2.why=0):∃t,s.tree r.tree=some t:=by
 cases h:s.tree r.tree with
 |some t=>exact⟨t,rfl⟩
 |none=>
  unfold qmd at hw;rw[h,if_neg (by omega),if_neg (by omega),if_neg (by omega),if_neg (by omega)]at hw;have hw':(23:Int)=0:=hw;exact absurd hw' (by decide)
end
section
open Go.RowKit
theorem qun (c:Cfg)(s:Sta)(L:Loc)(col:Col)(g:Nat)(css:List (List Value))(R:Req)(Ac:Option Addr)(cc:Nat)(Al:Option Addr)(cl:Nat)(w:World)(hc:c.Ok)(hs:s.Ok)(h:Mdl w col 2 g c s L css)
 (hr:Asked w col R Ac cc Al cl)(hT:Tabs w)(hE:w.cell? ⟨0,0,none⟩=some (.iface 327 (.agg #[.pointer (some ⟨3,81,none⟩)]))):
 Calls Tryz.prog 17 #[.pointer (some ⟨g,0,none⟩),.agg (reqv R (.slice Ac R.cavs.length cc) (.slice Al R.leaf.length cl)).toArray] w fun e w'=>∃v col' L' css',e=.returned v∧RspV w' col' w.heap.size v (doS c s R).2∧Mdl w' col' 2 g c (doS c s R).1 L' css'∧Rest w col w' col':=by
 have hk:Kind 2:=.inl rfl;have CM:=fun(w':World)(hb:Below w.heap.size w w')=>qta c s L col 2 g css R Ac cc Al cl w' hk hc hs (h.call hb) (hr.call hb) (hT.below hb hT.size) (qai hE hb)
 have CD:=fun (w':World) (col':Col) (L6:Loc) (hM:Mdl w' col' 6 g c s L6 css) (hA:Asked w' col' R Ac cc Al cl) (hT':Tabs w') (he:(qir R).1=0)=>qtk c s L6 col' 6 g css R Ac cc Al cl w' (.inr rfl) hc hs hM hA hT' he
 have CN:=fun (w':World) (col':Col) (s2:Sta) (L6:Loc) (css2:List (List Value)) (hs2:s2.Ok) (hM:Mdl w' col' 6 g c s2 L6 css2) (hA:Asked w' col' R Ac cc Al cl) (hT':Tabs w') (ha:qku R.op=true) (hl:∀t,s2.tres[0]? =some t→t.leaves.length<1024)=>qto c s2 L6 col' 6 g css2 R Ac cc Al cl w' (.inr rfl) hc hs2 hM hA hT' ha hl
 have rlen:=qis R (.slice Ac R.cavs.length cc) (.slice Al R.leaf.length cl) hr.good.tag;have rest:=qgu R (.slice Ac R.cavs.length cc) (.slice Al R.leaf.length cl) hr.good.tag;obtain⟨Q,hQ⟩:=xeq (reqv R (.slice Ac R.cavs.length cc) (.slice Al R.leaf.length cl));rw[hQ]at rlen rest ⊢;obtain⟨W0,hW0⟩:=eqx ((w.alloc (.cells Q.toArray 34)).alloc (.cells Tryz.zeroCells57 57));have q0:Blk W0 w.heap.size 34 Q.toArray:=by rw[hW0];exact(Blk.new w _ _).alloc _
 have z0:Blk W0 (w.heap.size+1) 57 Tryz.zeroCells57:=by
  have h:=Blk.new (w.alloc (.cells Q.toArray 34)) 57 Tryz.zeroCells57;rw[qar]at h;rw[hW0];exact h
 have b0:Below w.heap.size w W0:=by rw[hW0];exact qah (qah (tA5 _ _) _) _
 have hG0:col (w.heap.size+1)=0:=by
  by_cases e:col (w.heap.size+1)=0
  · exact e
  have:=h.fin _ e;omega
 have D0:=Did.same (css:=css) h b0;obtain⟨H,DD,Q0,Z0,B0,DE,DY,HK⟩:=zh8 h hW0 q0 z0 b0 hG0 D0 hk;obtain⟨HS,HR,RL,BL,HQ⟩:=zh5 hs hr rlen rest hQ;clear h hW0 q0 z0 b0 hG0 D0 hk hs hr rlen rest hQ;rw[HQ.out]at CM CD CN;obtain⟨DF,DG,DH,HC,TT⟩:=zh5 CM CD CN hc hT;have B5:=DE;obtain⟨DI,BM,B6⟩:=zh3 (qap Q0.out 0 Q (fun j u h=>by simpa using h)) (zI 34 RL.out) (show Q.toArray[0]? =some (.int .i64 R.op) by rw[tA3,←HQ.out];rfl);obtain⟨wy,hwy⟩:=xeq (qly c s R);have AE:=zh1 hwy;clear hc hT hE hwy CM CD CN;go_enter Tryz.func17,Tryz.ntmps17
 go_upto_region 1 with(fail)
 rw[←DD.out];go_wp2_with (refine qaq rfl 34 (.tmp 3) rfl w.heap.size 0 rfl Q _ DI.out Tryz.underlying34 rfl BM.out ?_)
 refine(DF.out W0 B0.out).mono ?_;rintro e w1 ⟨y,cost,rfl,hy,b1⟩;rw[AE.out]at hy ⊢;obtain⟨tn,htn⟩:=xeq y.tenant;obtain⟨X,hX⟩:=xeq (grav y);rw[show (#[.int .i64 y.tenant,.int .i64 y.role,.int .u64 (y.expires:Int),.bool y.revoked]:Array Value)=X.toArray by rw[←hX];rfl];have lX:X.length=4:=by rw[←hX];rfl
 have oX:∀u∈X,u.oneCell'=true:=by
  rw[←hX];intro u hu;unfold grav at hu;simp only[List.mem_cons,List.not_mem_nil,or_false]at hu;rcases hu with rfl|rfl|rfl|rfl<;>rfl
 obtain⟨X0,LX,OX,HY,B7,DJ,B1,GN⟩:=zh8 (show X.toArray[0]? =some (.int .i64 tn) by rw[←hX,←htn];rfl) lX oX hy htn (zI 66 lX) b1 (Blk.new w1 66 #[.int .i64 0,.int .i64 0,.int .u64 0,.bool false]);clear hX lX oX hy htn b1;go_upto_region 2 with(refine zst 66 (.tmp 5) (.tmp 15) w1.heap.size X GN.out DJ.out (by simp[LX.out]) OX.out ?_)
 obtain⟨W1,hW1⟩:=eqx ((w1.alloc (.cells #[.int .i64 0,.int .i64 0,.int .u64 0,.bool false] 66)).setRow w1.heap.size X.toArray);rw[←hW1];obtain⟨G,hG⟩:=eqx w1.heap.size;rw[←hG];have g1:Blk W1 G 66 X.toArray:=by rw[hW1,hG];exact(Blk.new _ _ _).setRow _
 have b01:Below W0.heap.size W0 W1:=by rw[hW1];exact below_setRow (B1.out.alloc B1.out.size _) B1.out.size _
 obtain⟨G1,DZ,AF,Z1,Q1,GS⟩:=zh6 g1 b01 (B0.out.trans (b01.mono B0.out.size)) (Z0.out.below b01 Z0.out.lt) (Q0.out.below b01 Q0.out.lt) (show W0.heap.size≤G by rw[hG];exact B1.out.size);clear hW1 hG g1 b01;by_cases hw0:wy=0
 ·
  subst hw0;obtain⟨hyg,rfl⟩:=HY.out rfl;have CI:=zh1 hyg;have henc:=qsl AE.out;have CJ:=zh1 henc;have hyo:=HS.out.gra hyg;obtain⟨tn,rfl⟩:∃m:Nat,tn=m:=⟨tn.toNat,by have:=hyo.tenant;rw[B7.out]at this;omega⟩;have tn16:tn<16:=by have:=hyo.tenant;rw[B7.out]at this;omega
  obtain⟨cost,hcost⟩:=xeq (qlx R.op R.leaf.length);have costb:=qt5 R.op R.leaf.length;rw[hcost]at costb ⊢;obtain⟨CK,AL,CL⟩:=zh3 hcost tn16 costb;obtain⟨SV,hSV⟩:=xeq (stav s L);have lSV:SV.length=6:=by rw[←hSV];rfl
  have oSV:∀u∈SV,u.oneCell'=true:=by rw[←hSV];exact quj s L
  obtain⟨S3,S4,S5,SR,BN,BO,BP,AI⟩:=zh8 (show SV.toArray[3]? =some (.slice (some ⟨L.tg,0,none⟩) 16 L.tc) by rw[←hSV];rfl) (show SV.toArray[4]? =some (.slice (some ⟨L.rg,0,none⟩) 16 L.rc) by rw[←hSV];rfl) (show SV.toArray[5]? =some (.slice (some ⟨L.gg,0,none⟩) s.gras.length L.gc) by rw[←hSV];rfl) (show W1.rangeAt g 4 SV by rw[←hSV];exact(H.out.call AF.out).stRange) hSV lSV oSV (zI 49 lSV);have SN:=zh1 (Blk.new W1 49 #[.int .u64 0,.int .u32 0,.int .i64 0,.slice none 0 0,.slice none 0 0,.slice none 0 0]);clear hyg henc hyo tn16 hcost costb hSV lSV oSV;go_upto_region 5 with(first
   |(refine qaq rfl 49 (.tmp 24) rfl g 4 rfl SV _ SR.out Tryz.underlying49 rfl AI.out ?_)
   |(refine zst 49 (.tmp 8) (.tmp 25) W1.heap.size SV SN.out AI.out (by simp[BO.out]) BP.out ?_))
  obtain⟨W2,hW2⟩:=eqx ((W1.alloc (.cells #[.int .u64 0,.int .u32 0,.int .i64 0,.slice none 0 0,.slice none 0 0,.slice none 0 0] 49)).setRow W1.heap.size SV.toArray);rw[←hW2];obtain⟨B8,hB8⟩:=eqx W1.heap.size;rw[←hB8];have s2:Blk W2 B8 49 SV.toArray:=by rw[hW2,hB8];exact(Blk.new _ _ _).setRow _
  have b12:Below W1.heap.size W1 W2:=by rw[hW2];exact below_setRow ((tA5 _ _).alloc (tA4 _) _) (tA4 _) _
  obtain⟨A4,E0,CO,Z2,Q2,G2,BQ⟩:=zh7 s2 b12 (AF.out.trans (b12.mono AF.out.size)) (Z1.out.below b12 Z1.out.lt) (Q1.out.below b12 Q1.out.lt) (G1.out.below b12 G1.out.lt) (show W1.heap.size≤B8 by omega);clear hW2 hB8 s2 b12;obtain⟨S,A0⟩:∃S:World→Prop,Hid (∀w',S w'=(Blk w' B8 49 SV.toArray)):=⟨_,fun _=>rfl⟩;refine zrs S 23 [(0,false),(1,false),(2,false),(3,false),(4,false),(6,false),(7,false),(9,false),(10,false),(5,true),(8,true),(11,true),(12,false),(13,false),(14,false),(15,true),(16,false),(17,false),(18,false),(19,true),(20,false),(21,false),(22,false),(23,true)] ((A0.out _).mpr (A4.out)) ?_;obtain⟨F3,F4,F5⟩:=zh3 (fun(w':World)(h:S w')=>(((A0.out w').mp h).cell 3).trans S3.out) (fun(w':World)(h:S w')=>(((A0.out w').mp h).cell 4).trans S4.out) (fun(w':World)(h:S w')=>(((A0.out w').mp h).cell 5).trans S5.out);iterate 9 (refine zrd rfl rfl (fun w1 hS=>by have g3:=F3.out w1 hS;have g4:=F4.out w1 hS;have g5:=F5.out w1 hS;clear hS;go_simp;try rfl) ?_;simp only[Act.put,tA0,tA1,tA2])
  obtain⟨Wd,hWd⟩:=eqx W2.drew;have BD:=zh1 (show Below W2.heap.size W2 Wd by rw[hWd];exact(tA5 _ _).drew);rw[←hWd];clear hWd;have CP:=zh1 (CO.out.trans (BD.out.mono CO.out.size));have HD:=zh1 (H.out.call CP.out);have gl:=HS.out.grasn;refine qbj rfl rfl ?_;go_simp;refine(qqh (some ⟨L.tg,0,none⟩) 16 L.tc (s.tens.flatMap tenv) Wd HD.out.st.tens.reads (by decide) (quh _)).mono ?_;rintro e wa ⟨va,rfl,oa,ba⟩;obtain⟨BA,OA⟩:=zh2 ba oa;clear oa ba;refine⟨(A0.out _).mpr (A4.out.below (BD.out.trans (BA.out.mono BD.out.size)) A4.out.lt),?_⟩;try simp only[Act.put,tA0,tA1,tA2]
  refine qbj rfl rfl ?_;go_simp;refine(qqi (some ⟨L.rg,0,none⟩) 16 L.rc css.flatten wa ((HD.out.call BA.out).st.tres.reads) (by decide) (qug H.out.st.trs)).mono ?_;rintro e wb ⟨vb,rfl,ob,bb⟩;obtain⟨BB,OB,AO⟩:=zh3 bb ob (BA.out.trans (bb.mono BA.out.size));clear ob bb;refine⟨(A0.out _).mpr (A4.out.below (BD.out.trans (AO.out.mono BD.out.size)) A4.out.lt),?_⟩;try simp only[Act.put,tA0,tA1,tA2]
  refine qbj rfl rfl ?_;go_simp;refine(qqj (some ⟨L.gg,0,none⟩) s.gras.length L.gc (s.gras.flatMap grav) wb ((HD.out.call AO.out).st.gras.reads) (by omega) (qui _)).mono ?_;rintro e wc ⟨vc,rfl,oc,bc⟩;obtain⟨BC,OC,BE⟩:=zh3 bc oc (AO.out.trans (bc.mono AO.out.size));clear oc bc;refine⟨(A0.out _).mpr (A4.out.below (BD.out.trans (BE.out.mono BD.out.size)) A4.out.lt),?_⟩;try simp only[Act.put,tA0,tA1,tA2]
  obtain⟨L6,col4,e1,e2,e3,M4,CR,T4⟩:=HD.out.fork HS.out BE.out (qq9 (qq9 OA.out BB.out) BC.out) (qeq (qq9 OB.out BC.out) BA.out.size) (qeq OC.out AO.out.size);subst e1 e2 e3;have AM:=HD.out.call BE.out;have c7:=AM.c7;have c8:=AM.c8;have c9:=AM.c9;have f7:=AM.blk.frozen 7;obtain⟨CS,CT,BR,CU,AB,A9⟩:=zh6 (A4.out.below (BD.out.trans (BE.out.mono BD.out.size)) A4.out.lt) AM.blk (show B8≠g by have h1:=H.out.blk.lt;have h2:=BQ.out;have h3:=AF.out.size;omega) M4 CR T4;clear M4 CR T4 AM;iterate 3 (refine zrd rfl rfl (fun w1 hS=>by clear hS;go_simp;try rfl) ?_;simp only[Act.put,tA0,tA1,tA2])
  refine qbj rfl rfl ?_;go_simp;refine⟨(A0.out _).mpr (CS.out.far (p:=⟨g,7,none⟩) BR.out _),?_⟩;try simp only[Act.put,tA0,tA1,tA2]
  iterate 3 (refine zrd rfl rfl (fun w1 hS=>by clear hS;go_simp;try rfl) ?_;simp only[Act.put,tA0,tA1,tA2])
  refine qbj rfl rfl ?_;have f8:=CT.out.frozen 8;have f9:=CT.out.frozen 9;go_simp;refine⟨(A0.out _).mpr ((CS.out.far (p:=⟨g,7,none⟩) BR.out _).far (p:=⟨g,8,none⟩) BR.out _),?_⟩;try simp only[Act.put,tA0,tA1,tA2]
  iterate 3 (refine zrd rfl rfl (fun w1 hS=>by clear hS;go_simp;try rfl) ?_;simp only[Act.put,tA0,tA1,tA2])
  refine qbj rfl rfl ?_;go_simp;try simp only[Act.put,tA0,tA1,tA2]
  refine qbg ?_;clear A0 F3 F4 F5 c7 c8 c9 f7 f8 f9 gl;obtain⟨W4,hW4⟩:=eqx (((wc.setCell ⟨g,7,none⟩ (.slice (some ⟨L6.tg,0,none⟩) 16 L6.tc)).setCell ⟨g,8,none⟩ (.slice (some ⟨L6.rg,0,none⟩) 16 L6.rc)).setCell ⟨g,9,none⟩ (.slice (some ⟨L6.gg,0,none⟩) s.gras.length L6.gc));rw[←hW4]at CU AB A9 ⊢;clear hW4;have hcz:∀b,w.heap.size≤b→col b=0:=fun b hb=>by
   by_cases e:col b=0
   · exact e
   have:=H.out.fin b e;omega
  have q4:=Q2.out.below BD.out Q2.out.lt;have g4:=G2.out.below BD.out G2.out.lt;have s4:=A4.out.below BD.out A4.out.lt;have z4:=Z2.out.below BD.out Z2.out.lt;have cQ:col4 w.heap.size=0:=(A9.out.same _ q4.lt).trans (hcz _ (tA4 _));have cG:col4 G=0:=(A9.out.same _ g4.lt).trans (hcz _ (by have:=GS.out;have:=B0.out.size;omega));have cB:col4 B8=0:=(A9.out.same _ s4.lt).trans (hcz _ (by have:=BQ.out;have:=AF.out.size;omega));have cZ:col4 (w.heap.size+1)=0:=(A9.out.same _ z4.lt).trans (hcz _ (by omega));obtain⟨Q4,G4,BS,Z4,R4,CQ,CG,CB⟩:=zh8 (show Blk W4 w.heap.size 34 Q.toArray from(A9.out.block _ q4.lt (by rw[hcz _ (tA4 _)];rfl)).trans q4) (show Blk W4 G 66 X.toArray from(A9.out.block _ g4.lt (by rw[hcz _ (by have:=GS.out;have:=B0.out.size;omega)];rfl)).trans g4) (show Blk W4 B8 49 SV.toArray from(A9.out.block _ s4.lt (by rw[hcz _ (by have:=BQ.out;have:=AF.out.size;omega)];rfl)).trans s4) (show Blk W4 (w.heap.size+1) 57 Tryz.zeroCells57 from(A9.out.block _ z4.lt (by rw[hcz _ (by omega)];rfl)).trans z4) ((Rest.of_below (col:=col) CP.out).step A9.out rfl) cQ cG cB;have CZ:=zh1 cZ;clear q4 g4 s4 z4 cQ cG cB cZ hcz;have BU:=zh1 (qap Q4.out 0 Q (fun j u h=>by simpa using h));go_wp2_with (refine qaq rfl 34 (.tmp 3) rfl w.heap.size 0 rfl Q _ BU.out Tryz.underlying34 rfl BM.out ?_)
  refine(DG.out W4 col4 L6 CU.out (HR.out.rest R4.out) (TT.out.rest R4.out H.out.base) CJ.out).mono ?_;rintro e w5 ⟨v5,col5,rfl,r5,d5⟩;have hsh:=qtf (c:=c) (R:=R) HS.out;have sok1:=qsi (c:=c) HS.out HR.out.good (qs5 CJ.out);have hnn:=qub c s R;have ws:W4.heap.size≤w5.heap.size:=d5.turns.size;obtain⟨s1,hs1⟩:=xeq ((qmd c s R).1);obtain⟨a,haa⟩:=xeq ((qmd c s R).2);rw[hs1]at d5 sok1;rw[haa]at r5 hsh hnn;obtain⟨X5,rfl,lX5,oX5⟩:=r5.cells hsh;obtain⟨aw,haw⟩:∃n:Nat,a.why=n:=⟨a.why.toNat,by omega⟩;have x50:=r5.cell0;rw[haw]at x50;obtain⟨BV,AP,CV,A3,CW,AA,BW,AQ⟩:=zh8 hs1 haa hsh sok1 haw lX5 oX5 x50;obtain⟨DK,BF,N5,D5,R5,Q5,G5,BX⟩:=zh8 (zI 57 lX5) qph (Blk.new w5 57 Tryz.zeroCells57) d5 r5 (show Blk w5 w.heap.size 34 Q.toArray from(d5.turns.block _ Q4.out.lt (by rw[CQ.out];rfl)).trans Q4.out) (show Blk w5 G 66 X.toArray from(d5.turns.block _ G4.out.lt (by rw[CG.out];rfl)).trans G4.out) (show Blk w5 B8 49 SV.toArray from(d5.turns.block _ BS.out.lt (by rw[CB.out];rfl)).trans BS.out);obtain⟨Z5,E1,E2,AG,BY,BZ⟩:=zh6 (show Blk w5 (w.heap.size+1) 57 Tryz.zeroCells57 from(d5.turns.block _ Z4.out.lt (by rw[CZ.out];rfl)).trans Z4.out) ((d5.turns.same _ G4.out.lt).trans CG.out) ((d5.turns.same _ BS.out.lt).trans CB.out) ((d5.turns.same _ Z4.out.lt).trans CZ.out) ((d5.turns.same _ Q4.out.lt).trans CQ.out) (R4.out.step d5.turns rfl);have hw5:w.heap.size+1<w5.heap.size:=Z5.out.lt;clear hsh sok1 hnn hs1 haa haw lX5 oX5 x50 d5 r5;go_upto_region 7 with(refine zst 57 (.tmp 9) (.tmp 49) w5.heap.size X5 N5.out DK.out (by simp[AA.out,BF.out]) BW.out ?_)
  obtain⟨W6,hW6⟩:=eqx ((w5.alloc (.cells Tryz.zeroCells57 57)).setRow w5.heap.size X5.toArray);rw[←hW6];obtain⟨B9,hB9⟩:=eqx w5.heap.size;rw[←hB9];have n6:Blk W6 B9 57 X5.toArray:=by rw[hW6,hB9];exact(Blk.new _ _ _).setRow _
  have b56:Below w5.heap.size w5 W6:=by rw[hW6];exact below_setRow ((tA5 _ _).alloc (tA4 _) _) (tA4 _) _
  obtain⟨E3,N6,CX⟩:=zh3 b56 n6 (show w5.heap.size≤B9 by omega);have AC:=zh1 (show col5 B9=0 by
   by_cases e:col5 B9=0
   · exact e
   obtain⟨Lx,cx,mx⟩:=D5.out.mdl;have:=mx.fin B9 e;omega)
  obtain⟨Q6,G6,BG,Z6,D6,CY,C0,C1⟩:=zh8 (Q5.out.below b56 Q5.out.lt) (G5.out.below b56 G5.out.lt) (BX.out.below b56 BX.out.lt) (Z5.out.below b56 Z5.out.lt) (D5.out.call b56) (R5.out.call b56) (BZ.out.trans (Rest.of_below b56)) (show StAt 92 74 66 W6 col5 2 L css s from StAt.call ⟨AB.out.tens.keep (D5.out.turns.keeps rfl),AB.out.tres.keep (D5.out.turns.keeps rfl),AB.out.gras.keep (D5.out.turns.keeps rfl),D5.out.old⟩ b56);obtain⟨L1,css1,m6⟩:=D6.out.mdl;have M6:=zh1 m6;have B5:=AG;obtain⟨D1,DL,DM,DN,E4⟩:=zh5 (show B9≠w.heap.size+1 by omega) (show B9≠B8 by have:=BX.out.lt;omega) (show B9≠G by have:=G5.out.lt;omega) (show B9≠w.heap.size by omega) (show B9≠g by intro e;have h1:=AC.out;rw[e,m6.own]at h1;cases h1);clear hW6 hB9 n6 b56 m6;have n0:=(N6.out.cell 0).trans AQ.out;by_cases ha0:aw=0
  ·
   subst ha0;have hw:=CW.out;have hwhy:(qmd c s R).2.why=0:=by rw[AP.out];exact hw
   have A5:=zh1 hwhy;have kop:=(Q6.out.cell 0).trans B6.out;clear hw hwhy;go_upto_region 7 with(fail)
   go_wp2_with fail
   refine(qkv R.op W6).mono ?_;rintro e w' ⟨rfl,rfl⟩;cases hadm:qku R.op with
   |false=>
    have A1:=zh1 hadm;clear hadm kop;have N7:=N6;have G7:=G6;have Q7:=Q6;have Z7:=Z6;have M7:=M6;have AN:=C0;have C2:=CY;have sokx:=A3.out;obtain⟨x1,hx1⟩:∃x,s1.tens[tn]? =some x:=⟨_,tA7 (by rw[sokx.tensn];exact AL.out)⟩;obtain⟨tk,htk⟩:=xeq x1.tok;have tkb:tk<4294967296:=by have h1:=(sokx.ten hx1).tok;have h2:=(sokx.ten hx1).burst;omega
    have cob:=CL.out;obtain⟨AR,AS⟩:=zh2 hx1 htk;have q16:(tn:Int)<16:=by have:=AL.out;omega
    have q16n:=AL.out;have q0:(0:Int)≤tn:=by omega
    clear sokx hx1 htk;go_upto_region 12 with(fail)
    obtain⟨S,A0⟩:∃S:World→Prop,Hid (∀w',S w'=(Below (W6).heap.size (W6) w')):=⟨_,fun _=>rfl⟩;refine zrs S 10 [(0,false),(1,false),(2,false),(3,false),(4,false),(5,false),(6,false),(7,false),(8,false),(9,false)] ((A0.out _).mpr ((tA5 _ _).drew)) ?_;obtain⟨F7,F0⟩:=zh2 (fun(w':World)(h:S w')=>(M7.out.call ((A0.out w').mp h)).c7) (fun(w':World)(h:S w')=>((G7.out.below ((A0.out w').mp h) G7.out.lt).cell 0).trans X0.out);iterate 10 (refine zrd rfl rfl (fun w1 hS=>by have g7:=F7.out w1 hS;have g0:=F0.out w1 hS;clear hS;go_simp;try rfl) ?_;simp only[Act.put,tA0,tA1,tA2])
    refine qbg ?_;clear A0 F7 F0;obtain⟨W8,hW8⟩:=eqx ((W6).drew);have AD:=zh1 (show Below (W6).heap.size (W6) W8 by rw[hW8];exact(tA5 _ _).drew);rw[←hW8];clear hW8;have C3:=zh1 (fun (w':World) (hb:Below (W6).heap.size (W6) w')=>(show w'.cell? ⟨L1.tg,tn*6+3,none⟩=some (.int .u32 (tk:Int)) from(M7.out.call hb).st.tens.cell ((qmy AR.out (by omega)).trans (by rw[←AS.out];rfl))));go_upto_region 13 with(fail)
    obtain⟨S,A0⟩:∃S:World→Prop,Hid (∀w',S w'=(Below W8.heap.size W8 w')):=⟨_,fun _=>rfl⟩;refine zrs S 13 [(0,false),(1,false),(2,false),(3,false),(4,false),(5,false),(6,false),(7,false),(8,false),(9,false),(10,false),(11,false),(12,false),(13,true)] ((A0.out _).mpr ((tA5 _ _).drew)) ?_;have F3:=zh1 (fun(w':World)(h:S w')=>C3.out w' (AD.out.trans (((A0.out w').mp h).mono AD.out.size)));have wv:(tk:Int) - min (cost:Int) (tk:Int)=((tk - cost:Nat):Int):=by omega
    obtain⟨v,hv⟩:=xeq (tk - cost);rw[hv]at wv;have wv2:IntKind.u32.wrap ((tk:Int) - min (cost:Int) (tk:Int))=(v:Int):=by rw[IntWalk.u32_in _ (by omega)];exact wv
    have wv3:IntKind.u32.wrap (v:Int)=(v:Int):=IntWalk.u32_in _ (by omega);have HV:=zh1 hv;clear hv;iterate 13 (refine zrd rfl rfl (fun w1 hS=>by have g3:=F3.out w1 hS;clear hS;go_simp;try rfl) ?_;simp only[Act.put,tA0,tA1,tA2])
    obtain⟨Wt,hWt⟩:=eqx W8.drew;have B7t:=zh1 (show Below (W6).heap.size (W6) Wt by rw[hWt];exact AD.out.trans (((tA5 _ _).drew).mono AD.out.size));rw[←hWt];clear hWt;have c3:=C3.out Wt B7t.out;have Mt:=M7.out.call B7t.out;have f3:=Mt.st.tens.frozen (tn*6+3);have m9:=Mt.tenOver (.inr rfl) A3.out AR.out (j:=3) (cs:=[.int .u32 (v:Int)]) (fun x=>{x with tok:=x.tok - cost}) (by simp) (by rw[←HV.out,←AS.out];simp[over,tenv]);rw[show Wt.setCells L1.tg (tn*6+3) [.int .u32 (v:Int)]=Wt.setCell ⟨L1.tg,tn*6+3,none⟩ (.int .u32 (v:Int)) from rfl]at m9;have t9:Turns (· ==6) Wt col5 (Wt.setCell ⟨L1.tg,tn*6+3,none⟩ (.int .u32 (v:Int))) col5:=Turns.setCell _ (by simp[Mt.st.tens.1]);obtain⟨M9,T9⟩:=zh2 m9 t9;clear m9 t9 Mt;refine qbj rfl rfl ?_;go_simp;try simp only[Act.put,tA0,tA1,tA2]
    refine qbg ?_;rw[show tn*6+1+2=tn*6+3 from rfl];try rw[wv3]
    clear A0 F3 c3 f3 wv wv2 wv3;obtain⟨W9,hW9⟩:=eqx (Wt.setCell ⟨L1.tg,tn*6+3,none⟩ (.int .u32 (v:Int)));rw[←hW9]at M9 T9 ⊢;clear hW9;have n9:=N7.out.below B7t.out N7.out.lt;have q9:=Q7.out.below B7t.out Q7.out.lt;have z9:=Z7.out.below B7t.out Z7.out.lt;obtain⟨N9,Q9,Z9,AT,C4,AJ⟩:=zh6 (show Blk W9 B9 57 X5.toArray from(T9.out.block _ n9.lt (by rw[AC.out];rfl)).trans n9) (show Blk W9 w.heap.size 34 Q.toArray from(T9.out.block _ q9.lt (by rw[BY.out];rfl)).trans q9) (show Blk W9 (w.heap.size+1) 57 Tryz.zeroCells57 from(T9.out.block _ z9.lt (by rw[AG.out];rfl)).trans z9) ((AN.out.trans (Rest.of_below B7t.out)).step T9.out rfl) ((C2.out.call B7t.out).turns T9.out rfl) (A3.out.setX (n:=tn) (f:=fun x=>{x with tok:=x.tok - cost}) (fun x _ o=>{o with tok:=by have:=o.tok;show x.tok - cost≤x.burst;omega}));clear n9 q9 z9;have hs2:qtu c s R=s1.setX tn fun x=>{x with tok:=x.tok - cost}:=by
     unfold qtu;rw[CI.out,Option.getD_some,B7.out,Int.toNat_natCast,CK.out,BV.out]
    have A2:=zh1 (show doS c s R=(s1.setX tn fun x=>{x with tok:=x.tok - cost},a) by rw[qtw AE.out A5.out A1.out,hs2,AP.out]);clear hs2;have kop:=(Q9.out.cell 0).trans B6.out;go_wp2_with fail
    refine(qkv R.op W9).mono ?_;rintro e w' ⟨rfl,rfl⟩;rw[A1.out];have BI:=AG;obtain⟨AU,A6⟩:=zh2 (qap (N9.out) 0 X5 (fun j u h=>by simpa using h)) (show (Tryz.prog.info? 57).map (·.size)=some (X5).length by rw[(AA).out];kernel_rfl);go_wp2_with (first
     |(refine qaq rfl 57 (.tmp 9) rfl B9 0 rfl X5 _ AU.out Tryz.underlying57 rfl A6.out ?_)
     |(refine wpList_store_row rfl 57 (.tmp 4) (.tmp 114) rfl (w.heap.size+1) (X5).toArray rfl rfl 57 _ (Z9.out) (by simpa using A6.out) (by simp[(AA).out,BF.out]) (by simpa using (BW).out) ?_))
    have A7:=qap ((Z9.out).setRow (X5).toArray) 0 X5 (fun j u h=>by simpa using h);refine zrt A7 Tryz.underlying57 A6.out ⟨_,Col.back col5,?_,?_,rfl,?_,?_,((AT.out).newer (qam _ (w.heap.size+1) (X5).toArray) (by omega)).back⟩;rotate_left 2
    · rw[A2.out]
      exact(((C4.out).grown (Z9.out) (qam _ (w.heap.size+1) (X5).toArray)).base (by have:=R4.out.size;omega)).back
    rw[A2.out];exact((M9.out).grown0 (.inr rfl) (qam _ (w.heap.size+1) (X5).toArray) (BI.out)).back
   |true=>
    obtain⟨A1,AV⟩:=zh2 hadm (qap BG.out 0 SV (fun j u h=>by simpa using h));have cf:=qtn c s s1 L L1 col5 g css css1 W6 HC.out HS.out M6.out C1.out;rw[BN.out]at cf;obtain⟨fw,hfw⟩:=xeq (qtm c s);rw[hfw]at cf;obtain⟨CF,C5⟩:=zh2 cf hfw;clear hadm kop cf hfw n0;go_wp2_with (refine qaq rfl 49 (.tmp 8) rfl B8 0 rfl SV _ AV.out Tryz.underlying49 rfl AI.out ?_)
    refine CF.out.mono ?_;rintro e w7 ⟨rfl,b7⟩;have n6:=N6.out.below b7 N6.out.lt;have n0:=(n6.cell 0).trans AQ.out;have f0:=n6.frozen 0;have gr:=qab (World.grownBy.refl w7 (some B9)) (p:=⟨B9,0,none⟩) (.inl rfl) (.int .i64 (fw:Int));have n7:=n6.set_ 0 (.int .i64 (fw:Int));have z7:=(Z6.out.below b7 Z6.out.lt).grown gr (by intro e;injection e with e;exact D1.out e.symm);have q7:=(Q6.out.below b7 Q6.out.lt).grown gr (by intro e;injection e with e;exact DN.out e.symm);have g7:=(G6.out.below b7 G6.out.lt).grown gr (by intro e;injection e with e;exact DM.out e.symm);have sb7:=(BG.out.below b7 BG.out.lt).grown gr (by intro e;injection e with e;exact DL.out e.symm);have m7:=(M6.out.call b7).grown0 (.inr rfl) gr AC.out;have st7:=(C1.out.call b7).grown0 (.inl rfl) gr AC.out;have r7:=(C0.out.trans (Rest.of_below b7)).newer gr (by have:=BZ.out.size;have:=CX.out;omega);have rv7:=(CY.out.call b7).grown n6 gr;go_upto_region 9 with(fail)
    obtain⟨W7,hW7⟩:=eqx (w7.setCell ⟨B9,0,none⟩ (.int .i64 (fw:Int)));rw[←hW7]at n7 z7 q7 g7 sb7 m7 st7 r7 rv7 ⊢;obtain⟨N7a,Z7,Q7,G7,DO,M7,DP,AN⟩:=zh8 n7 z7 q7 g7 sb7 m7 st7 r7;have C2:=zh1 rv7;clear hW7 n6 n0 f0 gr n7 z7 q7 g7 sb7 m7 st7 r7 rv7 b7;by_cases hf0:fw=0
    ·
     subst hf0;have N7:=zh1 (show Blk W7 B9 57 X5.toArray by have h:=N7a.out;rwa[qul AQ.out]at h);have n0:=(N7.out.cell 0).trans AQ.out;have sokx:=A3.out;obtain⟨x1,hx1⟩:∃x,s1.tens[tn]? =some x:=⟨_,tA7 (by rw[sokx.tensn];exact AL.out)⟩;obtain⟨tk,htk⟩:=xeq x1.tok;have tkb:tk<4294967296:=by have h1:=(sokx.ten hx1).tok;have h2:=(sokx.ten hx1).burst;omega
     have cob:=CL.out;obtain⟨AR,AS⟩:=zh2 hx1 htk;have q16:(tn:Int)<16:=by have:=AL.out;omega
     have q16n:=AL.out;have q0:(0:Int)≤tn:=by omega
     clear sokx hx1 htk;go_upto_region 12 with(fail)
     obtain⟨S,A0⟩:∃S:World→Prop,Hid (∀w',S w'=(Below (W7).heap.size (W7) w')):=⟨_,fun _=>rfl⟩;refine zrs S 10 [(0,false),(1,false),(2,false),(3,false),(4,false),(5,false),(6,false),(7,false),(8,false),(9,false)] ((A0.out _).mpr ((tA5 _ _).drew)) ?_;obtain⟨F7,F0⟩:=zh2 (fun(w':World)(h:S w')=>(M7.out.call ((A0.out w').mp h)).c7) (fun(w':World)(h:S w')=>((G7.out.below ((A0.out w').mp h) G7.out.lt).cell 0).trans X0.out);iterate 10 (refine zrd rfl rfl (fun w1 hS=>by have g7:=F7.out w1 hS;have g0:=F0.out w1 hS;clear hS;go_simp;try rfl) ?_;simp only[Act.put,tA0,tA1,tA2])
     refine qbg ?_;clear A0 F7 F0;obtain⟨W8,hW8⟩:=eqx ((W7).drew);have AD:=zh1 (show Below (W7).heap.size (W7) W8 by rw[hW8];exact(tA5 _ _).drew);rw[←hW8];clear hW8;have C3:=zh1 (fun (w':World) (hb:Below (W7).heap.size (W7) w')=>(show w'.cell? ⟨L1.tg,tn*6+3,none⟩=some (.int .u32 (tk:Int)) from(M7.out.call hb).st.tens.cell ((qmy AR.out (by omega)).trans (by rw[←AS.out];rfl))));go_upto_region 13 with(fail)
     obtain⟨S,A0⟩:∃S:World→Prop,Hid (∀w',S w'=(Below W8.heap.size W8 w')):=⟨_,fun _=>rfl⟩;refine zrs S 13 [(0,false),(1,false),(2,false),(3,false),(4,false),(5,false),(6,false),(7,false),(8,false),(9,false),(10,false),(11,false),(12,false),(13,true)] ((A0.out _).mpr ((tA5 _ _).drew)) ?_;have F3:=zh1 (fun(w':World)(h:S w')=>C3.out w' (AD.out.trans (((A0.out w').mp h).mono AD.out.size)));have wv:(tk:Int) - min (cost:Int) (tk:Int)=((tk - cost:Nat):Int):=by omega
     obtain⟨v,hv⟩:=xeq (tk - cost);rw[hv]at wv;have wv2:IntKind.u32.wrap ((tk:Int) - min (cost:Int) (tk:Int))=(v:Int):=by rw[IntWalk.u32_in _ (by omega)];exact wv
     have wv3:IntKind.u32.wrap (v:Int)=(v:Int):=IntWalk.u32_in _ (by omega);have HV:=zh1 hv;clear hv;iterate 13 (refine zrd rfl rfl (fun w1 hS=>by have g3:=F3.out w1 hS;clear hS;go_simp;try rfl) ?_;simp only[Act.put,tA0,tA1,tA2])
     obtain⟨Wt,hWt⟩:=eqx W8.drew;have B7t:=zh1 (show Below (W7).heap.size (W7) Wt by rw[hWt];exact AD.out.trans (((tA5 _ _).drew).mono AD.out.size));rw[←hWt];clear hWt;have c3:=C3.out Wt B7t.out;have Mt:=M7.out.call B7t.out;have f3:=Mt.st.tens.frozen (tn*6+3);have m9:=Mt.tenOver (.inr rfl) A3.out AR.out (j:=3) (cs:=[.int .u32 (v:Int)]) (fun x=>{x with tok:=x.tok - cost}) (by simp) (by rw[←HV.out,←AS.out];simp[over,tenv]);rw[show Wt.setCells L1.tg (tn*6+3) [.int .u32 (v:Int)]=Wt.setCell ⟨L1.tg,tn*6+3,none⟩ (.int .u32 (v:Int)) from rfl]at m9;have t9:Turns (· ==6) Wt col5 (Wt.setCell ⟨L1.tg,tn*6+3,none⟩ (.int .u32 (v:Int))) col5:=Turns.setCell _ (by simp[Mt.st.tens.1]);obtain⟨M9,T9⟩:=zh2 m9 t9;clear m9 t9 Mt;refine qbj rfl rfl ?_;go_simp;try simp only[Act.put,tA0,tA1,tA2]
     refine qbg ?_;rw[show tn*6+1+2=tn*6+3 from rfl];try rw[wv3]
     clear A0 F3 c3 f3 wv wv2 wv3;obtain⟨W9,hW9⟩:=eqx (Wt.setCell ⟨L1.tg,tn*6+3,none⟩ (.int .u32 (v:Int)));rw[←hW9]at M9 T9 ⊢;clear hW9;have n9:=N7.out.below B7t.out N7.out.lt;have q9:=Q7.out.below B7t.out Q7.out.lt;have z9:=Z7.out.below B7t.out Z7.out.lt;obtain⟨N9,Q9,Z9,AT,C4,AJ⟩:=zh6 (show Blk W9 B9 57 X5.toArray from(T9.out.block _ n9.lt (by rw[AC.out];rfl)).trans n9) (show Blk W9 w.heap.size 34 Q.toArray from(T9.out.block _ q9.lt (by rw[BY.out];rfl)).trans q9) (show Blk W9 (w.heap.size+1) 57 Tryz.zeroCells57 from(T9.out.block _ z9.lt (by rw[AG.out];rfl)).trans z9) ((AN.out.trans (Rest.of_below B7t.out)).step T9.out rfl) ((C2.out.call B7t.out).turns T9.out rfl) (A3.out.setX (n:=tn) (f:=fun x=>{x with tok:=x.tok - cost}) (fun x _ o=>{o with tok:=by have:=o.tok;show x.tok - cost≤x.burst;omega}));clear n9 q9 z9;clear n0;have hs3:qtt c s R=((s1.setX tn fun x=>{x with tok:=x.tok - cost}).setT 0 fun t=>{t with leaves:=t.leaves++[qme (s1.setX tn fun x=>{x with tok:=x.tok - cost}) R]}).pub c 0:=by
      unfold qtt;rw[CI.out,Option.getD_some,B7.out,Int.toNat_natCast,CK.out,BV.out]
     obtain⟨hl1,hl2⟩:=qud C5.out;have hle:=qsn (s:=s) (s':=s1.setX tn fun x=>{x with tok:=x.tok - cost}) (by have h:=qsk (c:=c) (s:=s) A1.out;rw[BV.out]at h;exact h) hl1;have CN:=zh1 (DH.out W9 col5 _ L1 _ AJ.out M9.out (HR.out.rest AT.out) (TT.out.rest AT.out H.out.base) A1.out hle);have sok3:=(qsm AJ.out HR.out.good A1.out hle (s1.setX tn fun x=>{x with tok:=x.tok - cost})).pub c (n:=0) (by decide);obtain⟨s3,h3⟩:=xeq (((s1.setX tn fun x=>{x with tok:=x.tok - cost}).setT 0 fun t=>{t with leaves:=t.leaves++[qme (s1.setX tn fun x=>{x with tok:=x.tok - cost}) R]}).pub c 0);rw[h3]at hs3 sok3 CN;obtain⟨D2,AK,C6⟩:=zh3 hs3 sok3 (qap Q9.out 0 Q (fun j u h=>by simpa using h));have kop:=(Q9.out.cell 0).trans B6.out;obtain⟨DQ,DR⟩:=zh2 hl1 hl2;clear hs3 sok3 h3 hle hl1 hl2;go_wp2_with fail
     refine(qkv R.op W9).mono ?_;rintro e w' ⟨rfl,rfl⟩;rw[A1.out];clear kop;go_wp2_with (refine qaq rfl 34 (.tmp 3) rfl w.heap.size 0 rfl Q _ C6.out Tryz.underlying34 rfl BM.out ?_)
     refine CN.out.mono ?_;rintro e w11 ⟨col6,rfl,d11⟩;obtain⟨L3,css3,m11⟩:=d11.mdl;obtain⟨C7,C8,AW,BI,C9,AX,AY,BJ⟩:=zh8 (show Blk w11 B9 57 X5.toArray from(d11.turns.block _ N9.out.lt (by rw[AC.out];rfl)).trans N9.out) (show Blk w11 w.heap.size 34 Q.toArray from(d11.turns.block _ Q9.out.lt (by rw[BY.out];rfl)).trans Q9.out) (show Blk w11 (w.heap.size+1) 57 Tryz.zeroCells57 from(d11.turns.block _ Z9.out.lt (by rw[AG.out];rfl)).trans Z9.out) ((d11.turns.same _ Z9.out.lt).trans AG.out) ((d11.turns.same _ N9.out.lt).trans AC.out) (AT.out.step d11.turns rfl) (C4.out.turns d11.turns rfl) m11;clear m11 d11;have kop:=(C8.out.cell 0).trans B6.out;by_cases h9:R.op=9
     ·
      have q9:(R.op==9)=true:=by simpa using h9
      have A2:=zh1 (show doS c s R=(s3,{a with hd:=(s3.tres[R.tree.toNat]?.getD Tre.zero).hd}) by rw[que AE.out A5.out A1.out C5.out h9,D2.out,AP.out]);obtain⟨t0,ht0⟩:=qum h9 A5.out;obtain⟨hp,ht1,-,-⟩:=Sta.tree_some ht0;obtain⟨n,hn⟩:∃n:Nat,R.tree=n:=⟨R.tree.toNat,by omega⟩;have hn16:n<16:=by
       obtain⟨h1,_⟩:=List.getElem?_eq_some_iff.1 ht1;rw[HS.out.tresn]at h1;omega
      obtain⟨t3,ht3⟩:∃t,s3.tres[n]? =some t:=⟨_,tA7 (by rw[AK.out.tresn];exact hn16)⟩;rw[hn,Int.toNat_natCast,ht3,Option.getD_some]at A2;have k35:Q.toArray[35]? =some (.int .i64 (n:Int)):=by rw[tA3,←hn];exact BL.out 0
      have DS:=zh1 k35;have h3o:=(AK.out.tre ht3).hd;have DT:=zh1 ht3;have q16:(n:Int)<16:=by omega
      have q0:(0:Int)≤n:=by omega
      clear ht0 hp ht1 hn ht3 k35 h9;obtain⟨HV,hHV⟩:=xeq (hdv t3.hd);have lHV:HV.length=68:=by rw[←hHV];exact qmw h3o
      have oHV:∀u∈HV,u.oneCell'=true:=by rw[←hHV];exact qlm _
      have DU:=zh1 (fun(w':World)(hb:Below w11.heap.size w11 w')=>(show w'.rangeAt L3.rg (n*75+7) HV from by
       obtain⟨-,Ad,cd,Al',cl',Aq,cq,-,hcell,-,-,-⟩:=(BJ.out.call hb).st.tree AK.out DT.out;intro j u hu;have h7:=hcell (7+j) u ((qti _ _ _ _ j).trans (by rw[hHV];exact hu));rw[←Nat.add_assoc]at h7;exact h7))
      obtain⟨D3,DV,CA,DW,D4⟩:=zh5 (zI 55 lHV) hHV lHV oHV h3o;clear hHV lHV oHV h3o;go_upto_region 17 with(fail)
      clear kop;obtain⟨S,A0⟩:∃S:World→Prop,Hid (∀w',S w'=(Below w11.heap.size w11 w')):=⟨_,fun _=>rfl⟩;refine zrs S 11 [(0,false),(1,false),(2,false),(3,false),(4,false),(5,false),(6,false),(7,false),(8,false),(9,false),(10,false),(11,true)] ((A0.out _).mpr ((tA5 _ _).drew)) ?_;obtain⟨F8,D7,FH⟩:=zh3 (fun(w':World)(h:S w')=>(BJ.out.call ((A0.out w').mp h)).c8) (fun(w':World)(h:S w')=>((C8.out.below ((A0.out w').mp h) C8.out.lt).cell 35).trans DS.out) (fun(w':World)(h:S w')=>DU.out w' ((A0.out w').mp h));iterate 9 (refine zrd rfl rfl (fun w1 hS=>by have g8:=F8.out w1 hS;have g35:=D7.out w1 hS;clear hS;go_simp;try rfl) ?_;simp only[Act.put,tA0,tA1,tA2])
      refine qnf rfl rfl 55 (.tmp 111) rfl L3.rg (n*75+7) rfl HV _ FH.out Tryz.underlying55 rfl D3.out ?_;try simp only[Act.put,tA0,tA1,tA2]
      iterate 1 (refine zrd rfl rfl (fun w1 hS=>by go_simp;(try go_bits);try rfl) ?_;simp only[Act.put,tA0,tA1,tA2])
      obtain⟨Wh,hWh⟩:=eqx w11.drew;have BH:=zh1 (show Below w11.heap.size w11 Wh by rw[hWh];exact(tA5 _ _).drew);rw[←hWh];clear hWh;have nh:=C7.out.below BH.out C7.out.lt;refine qbj rfl rfl ?_;refine wp_store_mid 55 (.tmp 113) (.tmp 112) rfl B9 4 HV.toArray rfl rfl (fun j hj=>⟨by rw[nh.cell,tA3,tA7 (by have h0:HV.toArray.size=68:=List.size_toArray.trans CA.out;rw[AA.out];omega)];simp,nh.frozen _⟩) (by have h0:HV.toArray.size=HV.length:=List.size_toArray;rw[h0];exact D3.out) (by simpa using DW.out) ?_;have gr:=qmj B9 HV 4 Wh;have n12:=qmi HV 4 Wh X5 nh (by rw[AA.out,CA.out];decide);have z12:=(AW.out.below BH.out AW.out.lt).grown gr (by intro e;injection e with e;exact D1.out e.symm);have m12:=(BJ.out.call BH.out).grown0 (.inr rfl) gr C9.out;have r12:=(AX.out.trans (Rest.of_below BH.out)).newer gr (by have:=BZ.out.size;have:=CX.out;omega);have rv12:=((AY.out.call BH.out).grown nh gr).head CV.out.1 D4.out;rw[DV.out]at rv12;obtain⟨X6,hX6⟩:=xeq (over X5 4 HV);have lX6:X6.length=106:=by rw[←hX6,qmh (by rw[AA.out,CA.out];decide)];exact AA.out
      rw[hX6]at n12 rv12;obtain⟨X7,e7,lX7,oX7⟩:=rv12.cells ⟨D4.out,CV.out.2⟩;have e67:X6=X7:=by injection e7 with e7;simpa using e7
      rw[←e67]at oX7;clear e7 e67 lX7;obtain⟨D8,DX,D9,BK,DA,DB,AZ⟩:=zh7 lX6 oX7 n12 z12 m12 r12 rv12;clear nh gr n12 z12 m12 r12 rv12 lX6 oX7 hX6;refine⟨fun h=>absurd h (by decide),?_⟩;try simp only[Act.put,tA0,tA1,tA2]
      refine qbg ?_;clear A0 F8 D7 FH;obtain⟨E5,hW12⟩:=eqx (Wh.setCells B9 4 HV);try rw[show HV.toArray.toList=HV from rfl]
      rw[←hW12]at D9 BK DA DB AZ ⊢;clear hW12;obtain⟨AU,A6⟩:=zh2 (qap (D9.out) 0 X6 (fun j u h=>by simpa using h)) (show (Tryz.prog.info? 57).map (·.size)=some (X6).length by rw[(D8).out];kernel_rfl);go_wp2_with (first
       |(refine qaq rfl 57 (.tmp 9) rfl B9 0 rfl X6 _ AU.out Tryz.underlying57 rfl A6.out ?_)
       |(refine wpList_store_row rfl 57 (.tmp 4) (.tmp 114) rfl (w.heap.size+1) (X6).toArray rfl rfl 57 _ (BK.out) (by simpa using A6.out) (by simp[(D8).out,BF.out]) (by simpa using (DX).out) ?_))
      have A7:=qap ((BK.out).setRow (X6).toArray) 0 X6 (fun j u h=>by simpa using h);refine zrt A7 Tryz.underlying57 A6.out ⟨_,Col.back col6,?_,?_,rfl,?_,?_,((DB.out).newer (qam _ (w.heap.size+1) (X6).toArray) (by omega)).back⟩;rotate_left 2
      · rw[A2.out]
        exact(((AZ.out).grown (BK.out) (qam _ (w.heap.size+1) (X6).toArray)).base (by have:=R4.out.size;omega)).back
      rw[A2.out];exact((DA.out).grown0 (.inr rfl) (qam _ (w.heap.size+1) (X6).toArray) (BI.out)).back
     have q9:(R.op==9)=false:=by simpa using h9
     have A2:=zh1 (show doS c s R=(s3,a) by rw[qtv AE.out A5.out A1.out DQ.out DR.out h9,D2.out,AP.out]);clear h9;go_upto_region 18 with(fail)
     clear kop;obtain⟨AU,A6⟩:=zh2 (qap (C7.out) 0 X5 (fun j u h=>by simpa using h)) (show (Tryz.prog.info? 57).map (·.size)=some (X5).length by rw[(AA).out];kernel_rfl);go_wp2_with (first
      |(refine qaq rfl 57 (.tmp 9) rfl B9 0 rfl X5 _ AU.out Tryz.underlying57 rfl A6.out ?_)
      |(refine wpList_store_row rfl 57 (.tmp 4) (.tmp 114) rfl (w.heap.size+1) (X5).toArray rfl rfl 57 _ (AW.out) (by simpa using A6.out) (by simp[(AA).out,BF.out]) (by simpa using (BW).out) ?_))
     have A7:=qap ((AW.out).setRow (X5).toArray) 0 X5 (fun j u h=>by simpa using h);refine zrt A7 Tryz.underlying57 A6.out ⟨_,Col.back col6,?_,?_,rfl,?_,?_,((AX.out).newer (qam _ (w.heap.size+1) (X5).toArray) (by omega)).back⟩;rotate_left 2
     · rw[A2.out]
       exact(((AY.out).grown (AW.out) (qam _ (w.heap.size+1) (X5).toArray)).base (by have:=R4.out.size;omega)).back
     rw[A2.out];exact((BJ.out).grown0 (.inr rfl) (qam _ (w.heap.size+1) (X5).toArray) (BI.out)).back
    have qa:((fw:Int)==0)=false:=by simp;omega
    have A2:=zh1 (quc (s:=s) AE.out A5.out A1.out C5.out hf0);obtain⟨Lu,mu,tu⟩:=M7.out.unfork DP.out;rw[BN.out]at mu tu;obtain⟨MU,TU,AV⟩:=zh3 mu tu (qap DO.out 0 SV (fun j u h=>by simpa using h));have CC:=zh1 (show W7.there g 4 SV.toArray.size from by
     have h0:SV.toArray.size=6:=List.size_toArray.trans BO.out;rw[h0];exact M7.out.there4)
    have CE:=zh1 (show (Tryz.prog.info? 49).map (·.size)=some SV.toArray.size from by
     have h0:SV.toArray.size=SV.length:=List.size_toArray;rw[h0];exact AI.out)
    obtain⟨CH,DC⟩:=zh2 (show SV.toArray.all (·.oneCell')=true by simpa using BP.out) (show (X5.toArray.setIfInBounds 0 (.int .i64 (fw:Int)))[0]? =some (.int .i64 (fw:Int)) by rw[Array.getElem?_setIfInBounds_self_of_lt (by rw[List.size_toArray,AA.out];decide)]);have n0:=(N7a.out.cell 0).trans DC.out;clear mu tu hf0;go_upto_region 11 with(first
     |(refine qaq rfl 49 (.tmp 8) rfl B8 0 rfl SV _ AV.out Tryz.underlying49 rfl AI.out ?_)
     |(refine wpList_store_mid rfl 49 (.tmp 68) (.tmp 66) rfl g 4 SV.toArray rfl rfl CC.out CE.out CH.out ?_))
    clear n0;obtain⟨Wu,hWu⟩:=eqx (W7.setCells g 4 SV);try rw[show SV.toArray.toList=SV from rfl]
    rw[←hWu]at MU TU ⊢;clear hWu;have n7:=(TU.out.block _ N7a.out.lt (by rw[AC.out];rfl)).trans N7a.out;have z7:Blk Wu (w.heap.size+1) 57 Tryz.zeroCells57:=(TU.out.block _ Z7.out.lt (by rw[AG.out];rfl)).trans Z7.out;obtain⟨Z7u,R7u⟩:=zh2 z7 (AN.out.step TU.out rfl);have n0:=(Blk.cell (w:=Wu) n7 0).trans DC.out;clear n7 z7;obtain⟨X9,hX9⟩:=xeq (qpe (rWhy fw));have lX9:X9.length=106:=by rw[←hX9];exact qpf _ Hd.zero_Ok (by simp[rWhy,qih,qft])
    have oX9:∀u∈X9,u.oneCell'=true:=by rw[←hX9];exact qpg _
    obtain⟨BT,B2,B3,B4,AH,A8⟩:=zh6 (show Tryz.prog.built 57 [(0,.int .i64 ((fw:Nat):Int))]=some X9.toArray by rw[←hX9];exact qpd _) hX9 lX9 oX9 (zI 57 lX9) qph;clear hX9 lX9 oX9;go_wp2_with (first
     |(refine qbk rfl ⟨.agg X9.toArray,qfq 57 _ rfl _ _ BT.out (by simp[Act.eval,Act.put]),?_⟩)
     |(refine zst 57 (.tmp 4) (.tmp 71) (w.heap.size+1) X9 (Z7u.out) AH.out (by simp[B3.out,A8.out]) B4.out ?_))
    have A7:=qap ((Z7u.out).setRow X9.toArray) 0 X9 (fun j u h=>by simpa using h);refine zrt A7 Tryz.underlying57 AH.out ⟨_,col5,?_,?_,rfl,?_,?_,(R7u.out).newer (qam _ (w.heap.size+1) X9.toArray) (by omega)⟩;rotate_left 2
    · rw[(A2.out),←B2.out]
      exact RspV.plain _ _ _ _ rfl rfl rfl
    rw[(A2.out)];exact(MU.out).grown0 (.inl rfl) (qam _ (w.heap.size+1) X9.toArray) B5.out
  ·
   have qa:((aw:Int)==0)=false:=by simp;omega
   have A2:=zh1 (qty (s:=s) AE.out (show (qmd c s R).2.why=(aw:Int) by rw[AP.out];exact CW.out) ha0);obtain⟨Lu,mu,tu⟩:=M6.out.unfork C1.out;rw[BN.out]at mu tu;obtain⟨MU,TU,AV⟩:=zh3 mu tu (qap BG.out 0 SV (fun j u h=>by simpa using h));have CC:=zh1 (show W6.there g 4 SV.toArray.size from by
    have h0:SV.toArray.size=6:=List.size_toArray.trans BO.out;rw[h0];exact M6.out.there4)
   have CE:=zh1 (show (Tryz.prog.info? 49).map (·.size)=some SV.toArray.size from by
    have h0:SV.toArray.size=SV.length:=List.size_toArray;rw[h0];exact AI.out)
   have CH:=zh1 (show SV.toArray.all (·.oneCell')=true by simpa using BP.out);clear mu tu ha0;go_upto_region 11 with(first
    |(refine qaq rfl 49 (.tmp 8) rfl B8 0 rfl SV _ AV.out Tryz.underlying49 rfl AI.out ?_)
    |(refine wpList_store_mid rfl 49 (.tmp 68) (.tmp 66) rfl g 4 SV.toArray rfl rfl CC.out CE.out CH.out ?_))
   clear n0;obtain⟨W7,hW7⟩:=eqx (W6.setCells g 4 SV);try rw[show SV.toArray.toList=SV from rfl]
   rw[←hW7]at MU TU ⊢;clear hW7;have n7:Blk W7 B9 57 X5.toArray:=(TU.out.block _ N6.out.lt (by rw[AC.out];rfl)).trans N6.out;have z7:Blk W7 (w.heap.size+1) 57 Tryz.zeroCells57:=(TU.out.block _ Z6.out.lt (by rw[AG.out];rfl)).trans Z6.out;obtain⟨Z7,AN⟩:=zh2 z7 (C0.out.step TU.out rfl);have n0:=(n7.cell 0).trans AQ.out;clear n7 z7;obtain⟨X9,hX9⟩:=xeq (qpe (rWhy aw));have lX9:X9.length=106:=by rw[←hX9];exact qpf _ Hd.zero_Ok (by simp[rWhy,qih,qft])
   have oX9:∀u∈X9,u.oneCell'=true:=by rw[←hX9];exact qpg _
   obtain⟨BT,B2,B3,B4,AH,A8⟩:=zh6 (show Tryz.prog.built 57 [(0,.int .i64 ((aw:Nat):Int))]=some X9.toArray by rw[←hX9];exact qpd _) hX9 lX9 oX9 (zI 57 lX9) qph;clear hX9 lX9 oX9;go_wp2_with (first
    |(refine qbk rfl ⟨.agg X9.toArray,qfq 57 _ rfl _ _ BT.out (by simp[Act.eval,Act.put]),?_⟩)
    |(refine zst 57 (.tmp 4) (.tmp 71) (w.heap.size+1) X9 (Z7.out) AH.out (by simp[B3.out,A8.out]) B4.out ?_))
   have A7:=qap ((Z7.out).setRow X9.toArray) 0 X9 (fun j u h=>by simpa using h);refine zrt A7 Tryz.underlying57 AH.out ⟨_,col5,?_,?_,rfl,?_,?_,(AN.out).newer (qam _ (w.heap.size+1) X9.toArray) (by omega)⟩;rotate_left 2
   · rw[(A2.out),←B2.out]
     exact RspV.plain _ _ _ _ rfl rfl rfl
   rw[(A2.out)];exact(MU.out).grown0 (.inl rfl) (qam _ (w.heap.size+1) X9.toArray) B5.out
 have A2:=zh1 (qtx AE.out hw0);have qn:((wy:Int)==0)=false:=by simp;omega
 obtain⟨M1,R1⟩:=zh2 (H.out.call AF.out) (Rest.of_below (col:=col) AF.out);clear hw0;obtain⟨X9,hX9⟩:=xeq (qpe (rWhy wy));have lX9:X9.length=106:=by rw[←hX9];exact qpf _ Hd.zero_Ok (by simp[rWhy,qih,qft])
 have oX9:∀u∈X9,u.oneCell'=true:=by rw[←hX9];exact qpg _
 obtain⟨BT,B2,B3,B4,AH,A8⟩:=zh6 (show Tryz.prog.built 57 [(0,.int .i64 ((wy:Nat):Int))]=some X9.toArray by rw[←hX9];exact qpd _) hX9 lX9 oX9 (zI 57 lX9) qph;clear hX9 lX9 oX9;go_wp2_with (first
  |(refine qbk rfl ⟨.agg X9.toArray,qfq 57 _ rfl _ _ BT.out (by simp[Act.eval,Act.put]),?_⟩)
  |(refine zst 57 (.tmp 4) (.tmp 21) (w.heap.size+1) X9 (Z1.out) AH.out (by simp[B3.out,A8.out]) B4.out ?_))
 have A7:=qap ((Z1.out).setRow X9.toArray) 0 X9 (fun j u h=>by simpa using h);refine zrt A7 Tryz.underlying57 AH.out ⟨_,col,?_,?_,rfl,?_,?_,(R1.out).newer (qam _ (w.heap.size+1) X9.toArray) (by omega)⟩;rotate_left 2
 · rw[(A2.out),←B2.out]
   exact RspV.plain _ _ _ _ rfl rfl rfl
 rw[(A2.out)];exact(M1.out).grown0 (.inl rfl) (qam _ (w.heap.size+1) X9.toArray) B5.out
end
section
open Go.RowKit
abbrev LaneI:=Int × Int × Int
def quo (x:LaneI):List Value:=[.int .i64 x.1,.int .i64 x.2.1,.int .i64 x.2.2]
def qup (l:List LaneI):List Value:=l.flatMap quo
theorem quq (l:List LaneI):(qup l).length=l.length*3:=by
 unfold qup;rw[List.flatMap_def,qmr (sz:=3) (fun c hc=>by obtain⟨y,_,rfl⟩:=List.mem_map.1 hc;rfl),List.length_map]
theorem qur {l:List LaneI}{n j:Nat}{x:LaneI}(h:l[n]? =some x)(hj:j<3):(qup l)[n*3+j]? =(quo x)[j]? :=by
 unfold qup;rw[List.flatMap_def];exact qmq (fun c hc=>by obtain⟨y,_,rfl⟩:=List.mem_map.1 hc;rfl) (by rw[List.getElem?_map,h];rfl) hj
theorem qus (l:List LaneI):∀u∈qup l,u.oneCell'=true:=by
 intro u hu;obtain⟨x,_,hx⟩:=List.mem_flatMap.1 hu;unfold quo at hx;simp only[List.mem_cons,List.not_mem_nil,or_false]at hx;rcases hx with rfl|rfl|rfl<;>rfl
theorem qut {ws:List Int}{a k:Nat}(hk:k<ws.length)(hb:∀j,j<k→ws.getD ((a+j) % ws.length) 0<1)(h:1≤ws.getD ((a+k) % ws.length) 0):qmf ws a=some ((a+k) % ws.length):=by
 unfold qmf;rw[List.find?_map,(List.find?_range_eq_some (i:=k)).2 ⟨by simpa using h,List.mem_range.2 hk,fun j hj=>by
  have:=hb j hj;simp only[Function.comp];rw[decide_eq_false (by omega)];rfl⟩]
 rfl
theorem quu {ws:List Int}{a:Nat}(hb:∀j,j<ws.length→ws.getD ((a+j) % ws.length) 0<1):qmf ws a=none:=by
 unfold qmf;rw[List.find?_map,(List.find?_range_eq_none).2 fun j hj=>by
  have:=hb j hj;simp only[Function.comp];rw[decide_eq_false (by omega)];rfl]
 rfl
def quv (l:List LaneI)(a:Nat)(q:Int):LaneI × List LaneI:=
 match qmf (l.map (·.1)) a with
 |none=>((-1,0,(a:Int)),l)
 |some k=>
  let x:=l.getD k (0,0,0)
  let d:=x.2.2+min x.1 4*min (max q 1) 2
  let take:=max (min d x.2.1) 0
  (((k:Int),take,(((k+1) % l.length:Nat):Int)),l.set k (x.1,x.2.1 - take,if x.2.1 - take=0 then 0 else d - take))
def LanesOk (l:List LaneI):Prop:=∀x∈l,(0≤x.1∧x.1≤4)∧(0≤x.2.1∧x.2.1≤1048576)∧(0≤x.2.2∧x.2.2≤1048576)
theorem quw {l:List LaneI}{a:Nat}{q:Int}(h:qmf (l.map (·.1)) a=none):quv l a q=((-1,0,(a:Int)),l):=by
 unfold quv;rw[h]
theorem qux {l:List LaneI}{a k:Nat}{q:Int}{x:LaneI}(h:qmf (l.map (·.1)) a=some k)(hx:l[k]? =some x):
 quv l a q=(((k:Int),max (min (x.2.2+min x.1 4*min (max q 1) 2) x.2.1) 0,(((k+1) % l.length:Nat):Int)),
  l.set k (x.1,x.2.1 - max (min (x.2.2+min x.1 4*min (max q 1) 2) x.2.1) 0,if x.2.1 - max (min (x.2.2+min x.1 4*min (max q 1) 2) x.2.1) 0=0 then 0 else x.2.2+min x.1 4*min (max q 1) 2 - max (min (x.2.2+min x.1 4*min (max q 1) 2) x.2.1) 0)):=by
 unfold quv;rw[h];simp only[List.getD_eq_getElem?_getD,hx,Option.getD_some]
def quy (s:Sta):List LaneI:=s.tres.mapIdx fun i t=>(qmg i t,(t.queue.length:Int),t.deficit)
theorem quz (s:Sta):(quy s).map (·.1)=s.tres.mapIdx fun i t=>qmg i t:=by
 unfold quy;apply List.ext_getElem?;intro i;rw[List.getElem?_map,List.getElem?_mapIdx,List.getElem?_mapIdx];cases s.tres[i]? <;>rfl
theorem qv0 {s:Sta}{n:Nat}{t:Tre}(h:s.tres[n]? =some t):(quy s)[n]? =some (qmg n t,(t.queue.length:Int),t.deficit):=by
 unfold quy;rw[List.getElem?_mapIdx,h];rfl
theorem qv1 {s:Sta}(hs:s.Ok):LanesOk (quy s):=by
 intro x hx;unfold quy at hx;obtain⟨i,hi,rfl⟩:=List.mem_mapIdx.1 hx;have o:=hs.tres (s.tres[i]) (List.getElem_mem hi);have hw:=o.weight;have hq:=o.queue;have hd:=o.deficit;refine⟨?_,by dsimp only;omega,by dsimp only;omega⟩;dsimp only;unfold qmg;split<;>omega
theorem qv2 {c:Cfg}{s:Sta}(hs:s.Ok){k:Nat}{t:Tre}(h:qmf (s.tres.mapIdx fun i t=>qmg i t) s.lane.toNat=some k)(ht:s.tres[k]? =some t):
 quv (quy s) s.lane.toNat c.quantum=(((k:Int),(takeN c t:Int),(((k+1) % 16:Nat):Int)),(quy s).set k (qmg k t,(t.queue.length:Int) - takeN c t,(seqT c t).deficit)):=by
 obtain⟨h0,t1,ht1,hr,hw⟩:=qst h;have e:t1=t:=by
  rw[ht]at ht1;injection ht1 with h;exact h.symm
 subst e;have hlw:qmg k t1=t1.weight:=by
  unfold qmg;rw[if_neg (by rw[hr];simp;exact h0)]
 have hlen:(quy s).length=16:=by unfold quy;rw[List.length_mapIdx,hs.tresn]
 rw[qux (by rw[quz];exact h) (qv0 ht),hlen];dsimp only;rw[hlw];have ht0:((takeN c t1:Nat):Int)=max (min (t1.deficit+min t1.weight 4*min (max c.quantum 1) 2) t1.queue.length) 0:=by
  unfold takeN;rw[Int.toNat_of_nonneg (by omega)]
 rw[←ht0];have hle:takeN c t1≤t1.queue.length:=by unfold takeN;omega
 have hdf:(seqT c t1).deficit=if (t1.queue.length:Int) - takeN c t1=0 then 0 else t1.deficit+min t1.weight 4*min (max c.quantum 1) 2 - takeN c t1:=by
  unfold seqT;dsimp only;by_cases hz:takeN c t1=t1.queue.length
  · rw[if_pos (List.drop_of_length_le (by omega)),if_pos (by omega)]
  rw[if_neg (by
   intro e;have:=congrArg List.length e;rw[List.length_drop]at this;simp at this;omega),if_neg (by omega)]
 rw[hdf]
end
end Go.Proofs.YthomgopipiomhaaGreatDoor

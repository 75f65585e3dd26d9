/-
  Lemmas for ModelNumbers, shortened by program.
-/
import Derived.Test.YthomgopipiomhaaGreatDoorBMN17
namespace Go.Proofs.YthomgopipiomhaaGreatDoor
set_option linter.unusedVariables false
set_option linter.unusedSimpArgs false
set_option maxRecDepth 100000
set_option maxHeartbeats 32000000
section
open Go.RowKit
theorem qr4 {cs new:List Value}(h:cs.length=new.length):over cs 0 new=new:=by
 unfold over;simp[h]
theorem Mdl.treSet {w w':World}{col col':Col}{k g:Nat}{c:Cfg}{s:Sta}{L:Loc}{css:List (List Value)}(h:Mdl w col k g c s L css)(hk:Kind k)(hs:s.Ok){n:Nat}{t:Tre}(ht:s.tres[n]? =some t)
 (hT:Turns (fun _=>false) w col w' col')(hf:Fin_ col' w')(f:Tre→Tre)(new:List Value)(hl:new.length=75)(hnew:TreAt w' col' n new (f t)):
 Mdl (w'.setCells L.rg (n*75) new) col' k g c (s.setT n f) L (css.modify n fun _=>new)∧TrsAt (w'.setCells L.rg (n*75) new) col' css s.tres∧Turns (inP k) w col (w'.setCells L.rg (n*75) new) col':=by
 have hn:n<s.tres.length:=by obtain⟨h,_⟩:=List.getElem?_eq_some_iff.1 ht;exact h
 have hn16:n<16:=by rw[←hs.tresn];exact hn
 have hlen:=h.st.trs.lens (fun t ht=>(hs.tres t ht).hd);have hcl:css.length=16:=by rw[h.st.trs.1,hs.tresn]
 have hfl:css.flatten.length=1200:=by rw[qmr hlen,hcl]
 have mA:Mdl w' col' k g c s L css:=h.keep hT rfl rfl rfl rfl rfl (fun _ _=>rfl) hf;obtain⟨cs,hcs,-⟩:=mA.st.trs.2 n t ht;have hT2:Turns (· ==k+1) w' col' (w'.setCells L.rg (n*75) new) col':=Turns.setCells new (by simp[mA.st.tres.1]);have keepB:∀i,i≠k+1→KeepsCol i w' col' (w'.setCells L.rg (n*75) new) col':=fun i hi=>hT2.keeps (by simpa using hi)
 have hbig:∀i,i=5∨10≤i→i≠k+1:=fun i hi=>by rcases hk with rfl|rfl<;>omega
 have hne:g≠L.rg:=by
  intro e;have a:=mA.own;rw[e,mA.st.tres.1]at a;rcases hk with rfl|rfl<;>cases a
 refine⟨⟨?_,mA.own,⟨Nat.le_trans mA.base.1 hT2.size,mA.base.2⟩,mA.fin.mono hT2.size,mA.seed.keep (keepB 5 (hbig 5 (.inl rfl))),?_⟩,mA.st.trs.keep fun i hi=>keepB i (hbig i hi),?_⟩
 · exact mA.blk.grown (qmj L.rg new _ w') (by intro e;injection e with e;exact hne e)
 ·
  refine⟨mA.st.tens.keep (keepB k (by omega)),?_,mA.st.gras.keep (keepB (k+2) (by omega)),?_⟩
  · have h1:=mA.st.tres.over (o:=n*75) (cs:=new) (by rw[hfl];omega)
    have h2:=qms new hlen (n:=n) (j:=0) (by rw[hcl];exact hn16) (by omega);rw[Nat.add_zero]at h2;rw[h2]at h1;have e:(css.modify n fun x=>over x 0 new)=css.modify n fun _=>new:=qqa fun x hx=>qr4 (by rw[hlen x (List.mem_of_getElem? hx),hl])
    rwa[e]at h1
  refine⟨by rw[List.length_modify,h.st.trs.1];simp[Sta.setT],fun i t' ht'=>?_⟩;by_cases e:n=i
  · subst e
    rw[show (s.setT n f).tres=s.tres.modify n f from rfl,qnc f ht]at ht';injection ht' with ht';subst ht';exact⟨new,qnc _ hcs,hnew.keep fun i hi=>keepB i (hbig i hi)⟩
  rw[show (s.setT n f).tres=s.tres.modify n f from rfl,qnd _ f e]at ht';obtain⟨c0,h1,h2⟩:=mA.st.trs.2 i t' ht';exact⟨c0,by rw[qnd _ _ e];exact h1,h2.keep fun i hi=>keepB i (hbig i hi)⟩
 refine(hT.mono (q:=inP k) fun i hi=>by cases hi).trans (hT2.mono (q:=inP k) fun i hi=>?_);obtain rfl:i=k+1:=by simpa using hi
 unfold inP;simp
theorem qr5 (tn wg:Int)(A:Option Addr)(n c:Nat):Tryz.prog.built 74 [(0,.int .i64 1),(1,.int .i64 tn),(2,.int .i64 wg),(4,.slice A n c)]=some (trev {Tre.zero with state:=1,tenant:=tn,weight:=wg} (.slice A n c) (.slice none 0 0) (.slice none 0 0)).toArray:=by kernel_rfl
theorem qr6 (c:Cfg)(s:Sta)(L:Loc)(col:Col)(k g:Nat)(css:List (List Value))(R:Req)(Ac:Option Addr)(cc:Nat)(Al:Option Addr)(cl:Nat)(w:World)(hk:Kind k)(hc:c.Ok)(hs:s.Ok)(h:Mdl w col k g c s L css)
 (hr:Asked w col R Ac cc Al cl)(hT:Tabs w)(hpos:0≤R.tree):
 Calls Tryz.prog 132 #[.pointer (some ⟨g,0,none⟩),.agg (reqv R (.slice Ac R.cavs.length cc) (.slice Al R.leaf.length cl)).toArray] w fun e w'=>∃v col',e=.returned v∧RspV w' col' w.heap.size v (qm6 c s R).2∧Did w col w' col' k g c css s (qm6 c s R).1:=by
 have rlen:=qis R (.slice Ac R.cavs.length cc) (.slice Al R.leaf.length cl) hr.good.tag;have rest:=qgu R (.slice Ac R.cavs.length cc) (.slice Al R.leaf.length cl) hr.good.tag;obtain⟨Q,hQ⟩:=xeq (reqv R (.slice Ac R.cavs.length cc) (.slice Al R.leaf.length cl));rw[hQ]at rlen rest ⊢;obtain⟨W0,hW0⟩:=eqx ((w.alloc (.cells Q.toArray 34)).alloc (.cells Tryz.zeroCells57 57));have q0:Blk W0 w.heap.size 34 Q.toArray:=by rw[hW0];exact(Blk.new w _ _).alloc _
 have z0:Blk W0 (w.heap.size+1) 57 Tryz.zeroCells57:=by
  have h:=Blk.new (w.alloc (.cells Q.toArray 34)) 57 Tryz.zeroCells57;rw[qar]at h;rw[hW0];exact h
 have b0:Below w.heap.size w W0:=by rw[hW0];exact qah (qah (tA5 _ _) _) _
 have hG0:col (w.heap.size+1)=0:=by
  by_cases e:col (w.heap.size+1)=0
  · exact e
  have:=h.fin _ e;omega
 have D0:=Did.same (css:=css) h b0;obtain⟨H,AD,Q0,Z0,B0,A2,A8,HK⟩:=zh8 h hW0 q0 z0 b0 hG0 D0 hk;obtain⟨HS,HR,RL,A5,HQ⟩:=zh5 hs hr rlen rest hQ;clear h hW0 q0 z0 b0 hG0 D0 hk hs hr rlen rest hQ;obtain⟨HC,TT⟩:=zh2 hc hT;clear hc hT;obtain⟨n,hn⟩:∃i:Nat,R.tree=i:=⟨R.tree.toNat,by omega⟩;obtain⟨tn,htn⟩:=xeq R.tenant;obtain⟨wg,hwg⟩:=xeq R.weight;have k35:=(Q0.out.cell 35).trans (show Q.toArray[35]? =some (.int .i64 (n:Int)) by rw[tA3,←hn];exact A5.out 0);have k36:=(Q0.out.cell 36).trans (show Q.toArray[36]? =some (.int .i64 tn) by rw[tA3,←htn];exact A5.out 1);have k39:=(Q0.out.cell 39).trans (show Q.toArray[39]? =some (.int .i64 wg) by rw[tA3,←hwg];exact A5.out 4);obtain⟨A9,AL,AE,C8,AM,HN,A6,A7⟩:=zh8 k35 k36 k39 (qai H.out.c8 B0.out) (qpk tn c s L col k g css W0 (H.out.call B0.out)) hn htn hwg;rw[AD.out]at k36;clear hn htn hwg k35 k39 hpos;go_enter Tryz.func132,Tryz.ntmps132
 go_wp2_with fail
 rw[←AD.out];refine AM.out.mono ?_;rintro e w' ⟨rfl,rfl⟩;clear k36;obtain⟨pv,hpv⟩:∃p:Value × Bool,p=if 0≤tn∧tn<16 then(.pointer (some ⟨L.tg,tn.toNat*6,none⟩),true) else(.pointer none,false):=⟨_,rfl⟩
 obtain⟨pt,pb⟩:=pv;rw[show (if 0≤tn∧tn<16 then Value.tuple #[.pointer (some ⟨L.tg,tn.toNat*6,none⟩),.bool true] else .tuple #[.pointer none,.bool false])=.tuple #[pt,.bool pb] by
  by_cases h:0≤tn∧tn<16
  · rw[if_pos h]at hpv ⊢;injection hpv with a b;subst a b;rfl
  rw[if_neg h]at hpv ⊢;injection hpv with a b;subst a b;rfl]
 have AF:=zh1 hpv;clear hpv;go_upto_region 2 with(fail)
 obtain⟨S,A0⟩:∃S:World→Prop,Hid (∀w',S w'=(Below W0.heap.size W0 w')):=⟨_,fun _=>rfl⟩;refine zrs S 25 [(0,false),(1,false),(2,false),(3,false),(4,false),(5,false),(6,false),(7,false),(8,false),(9,false),(10,false),(11,false),(12,false),(13,false),(14,false),(15,false),(16,false),(17,false),(18,false),(19,false),(20,false),(21,false),(22,false),(23,false),(24,false)] ((A0.out _).mpr ((tA5 _ _).drew)) ?_;obtain⟨F0,F1,F2⟩:=zh3 (fun(w':World)(h:S w')=>qai A9.out ((A0.out w').mp h)) (fun(w':World)(h:S w')=>qai AE.out ((A0.out w').mp h)) (fun(w':World)(h:S w')=>qai C8.out ((A0.out w').mp h));by_cases h0:n=0
 ·
  subst h0;iterate 4 (refine zrd rfl rfl (fun w1 hS=>by have g0:=F0.out w1 hS;have g1:=F1.out w1 hS;have g2:=F2.out w1 hS;clear hS;go_simp;try rfl) ?_;simp only[Act.put,tA0,tA1,tA2])
  iterate 9 (refine qbi rfl rfl ?_;try simp only[Act.put,tA0,tA1,tA2])
  iterate 2 (refine zrd rfl rfl (fun w1 hS=>by have g0:=F0.out w1 hS;have g1:=F1.out w1 hS;have g2:=F2.out w1 hS;clear hS;go_simp;try rfl) ?_;simp only[Act.put,tA0,tA1,tA2])
  iterate 3 (refine qbi rfl rfl ?_;try simp only[Act.put,tA0,tA1,tA2])
  iterate 2 (refine zrd rfl rfl (fun w1 hS=>by have g0:=F0.out w1 hS;have g1:=F1.out w1 hS;have g2:=F2.out w1 hS;clear hS;go_simp;try rfl) ?_;simp only[Act.put,tA0,tA1,tA2])
  iterate 3 (refine qbi rfl rfl ?_;try simp only[Act.put,tA0,tA1,tA2])
  iterate 2 (refine zrd rfl rfl (fun w1 hS=>by have g0:=F0.out w1 hS;have g1:=F1.out w1 hS;have g2:=F2.out w1 hS;clear hS;go_simp;try rfl) ?_;simp only[Act.put,tA0,tA1,tA2])
  refine qbg ?_;clear A0 F0 F1 F2;obtain⟨W1,hW1⟩:=eqx W0.drew;have B1:=zh1 (show Below W0.heap.size W0 W1 by rw[hW1];exact(tA5 _ _).drew);rw[←hW1];clear hW1;obtain⟨Z1,A4⟩:=zh2 (Z0.out.below B1.out Z0.out.lt) (A8.out.call B1.out);have hdo:qm6 c s R=(s,rWhy 25):=by
   unfold qm6;rw[if_pos (by rw[HN.out,A7.out,HS.out.tresn];omega)]
  have A1:=zh1 hdo;clear hdo;go_wp2_with fail
  refine(qpj 25 W1).mono ?_;rintro e w9 ⟨rfl,b9⟩;obtain⟨X,hX,pk⟩:=qpn (rWhy 25) Hd.zero_Ok (by simp[qlz,rWhy,qih,qft]);rw[hX];obtain⟨Z9,HX,DD⟩:=zh3 ((Z1.out).below b9 (Z1.out).lt) hX ((A4.out).call b9);clear hX b9;go_wp2_with (refine qpo (.tmp 4) (.tmp 39) (w.heap.size+1) X Z9.out pk ?_)
  exact qpp (Z9.out.setRow X.toArray) pk ⟨_,col,rfl,(by rw[A1.out,←HX.out];exact RspV.plain _ _ _ _ rfl rfl rfl),(by (try rw[A1.out]);exact DD.out.row0 HK.out X.toArray (A2.out) (by omega))⟩
 have q0:((n:Int)==0)=false:=by simp;omega
 by_cases h16:16≤n
 ·
  have q1:(16:Int)≤n:=by omega
  iterate 15 (refine zrd rfl rfl (fun w1 hS=>by have g0:=F0.out w1 hS;have g1:=F1.out w1 hS;have g2:=F2.out w1 hS;clear hS;go_simp;try rfl) ?_;simp only[Act.put,tA0,tA1,tA2])
  iterate 3 (refine qbi rfl rfl ?_;try simp only[Act.put,tA0,tA1,tA2])
  iterate 2 (refine zrd rfl rfl (fun w1 hS=>by have g0:=F0.out w1 hS;have g1:=F1.out w1 hS;have g2:=F2.out w1 hS;clear hS;go_simp;try rfl) ?_;simp only[Act.put,tA0,tA1,tA2])
  iterate 3 (refine qbi rfl rfl ?_;try simp only[Act.put,tA0,tA1,tA2])
  iterate 2 (refine zrd rfl rfl (fun w1 hS=>by have g0:=F0.out w1 hS;have g1:=F1.out w1 hS;have g2:=F2.out w1 hS;clear hS;go_simp;try rfl) ?_;simp only[Act.put,tA0,tA1,tA2])
  refine qbg ?_;clear A0 F0 F1 F2;obtain⟨W1,hW1⟩:=eqx W0.drew;have B1:=zh1 (show Below W0.heap.size W0 W1 by rw[hW1];exact(tA5 _ _).drew);rw[←hW1];clear hW1;obtain⟨Z1,A4⟩:=zh2 (Z0.out.below B1.out Z0.out.lt) (A8.out.call B1.out);have hdo:qm6 c s R=(s,rWhy 25):=by
   unfold qm6;rw[if_pos (by rw[HN.out,A7.out,HS.out.tresn];omega)]
  have A1:=zh1 hdo;clear hdo;go_wp2_with fail
  refine(qpj 25 W1).mono ?_;rintro e w9 ⟨rfl,b9⟩;obtain⟨X,hX,pk⟩:=qpn (rWhy 25) Hd.zero_Ok (by simp[qlz,rWhy,qih,qft]);rw[hX];obtain⟨Z9,HX,DD⟩:=zh3 ((Z1.out).below b9 (Z1.out).lt) hX ((A4.out).call b9);clear hX b9;go_wp2_with (refine qpo (.tmp 4) (.tmp 39) (w.heap.size+1) X Z9.out pk ?_)
  exact qpp (Z9.out.setRow X.toArray) pk ⟨_,col,rfl,(by rw[A1.out,←HX.out];exact RspV.plain _ _ _ _ rfl rfl rfl),(by (try rw[A1.out]);exact DD.out.row0 HK.out X.toArray (A2.out) (by omega))⟩
 have q1:¬(16:Int)≤n:=by omega
 by_cases hw1:wg<1
 ·
  iterate 20 (refine zrd rfl rfl (fun w1 hS=>by have g0:=F0.out w1 hS;have g1:=F1.out w1 hS;have g2:=F2.out w1 hS;clear hS;go_simp;try rfl) ?_;simp only[Act.put,tA0,tA1,tA2])
  iterate 3 (refine qbi rfl rfl ?_;try simp only[Act.put,tA0,tA1,tA2])
  iterate 2 (refine zrd rfl rfl (fun w1 hS=>by have g0:=F0.out w1 hS;have g1:=F1.out w1 hS;have g2:=F2.out w1 hS;clear hS;go_simp;try rfl) ?_;simp only[Act.put,tA0,tA1,tA2])
  refine qbg ?_;clear A0 F0 F1 F2;obtain⟨W1,hW1⟩:=eqx W0.drew;have B1:=zh1 (show Below W0.heap.size W0 W1 by rw[hW1];exact(tA5 _ _).drew);rw[←hW1];clear hW1;obtain⟨Z1,A4⟩:=zh2 (Z0.out.below B1.out Z0.out.lt) (A8.out.call B1.out);have hdo:qm6 c s R=(s,rWhy 25):=by
   unfold qm6;rw[if_pos (by rw[HN.out,A7.out,HS.out.tresn];omega)]
  have A1:=zh1 hdo;clear hdo;go_wp2_with fail
  refine(qpj 25 W1).mono ?_;rintro e w9 ⟨rfl,b9⟩;obtain⟨X,hX,pk⟩:=qpn (rWhy 25) Hd.zero_Ok (by simp[qlz,rWhy,qih,qft]);rw[hX];obtain⟨Z9,HX,DD⟩:=zh3 ((Z1.out).below b9 (Z1.out).lt) hX ((A4.out).call b9);clear hX b9;go_wp2_with (refine qpo (.tmp 4) (.tmp 39) (w.heap.size+1) X Z9.out pk ?_)
  exact qpp (Z9.out.setRow X.toArray) pk ⟨_,col,rfl,(by rw[A1.out,←HX.out];exact RspV.plain _ _ _ _ rfl rfl rfl),(by (try rw[A1.out]);exact DD.out.row0 HK.out X.toArray (A2.out) (by omega))⟩
 by_cases hw4:4<wg
 ·
  iterate 25 (refine zrd rfl rfl (fun w1 hS=>by have g0:=F0.out w1 hS;have g1:=F1.out w1 hS;have g2:=F2.out w1 hS;clear hS;go_simp;try rfl) ?_;simp only[Act.put,tA0,tA1,tA2])
  refine qbg ?_;clear A0 F0 F1 F2;obtain⟨W1,hW1⟩:=eqx W0.drew;have B1:=zh1 (show Below W0.heap.size W0 W1 by rw[hW1];exact(tA5 _ _).drew);rw[←hW1];clear hW1;obtain⟨Z1,A4⟩:=zh2 (Z0.out.below B1.out Z0.out.lt) (A8.out.call B1.out);have hdo:qm6 c s R=(s,rWhy 25):=by
   unfold qm6;rw[if_pos (by rw[HN.out,A7.out,HS.out.tresn];omega)]
  have A1:=zh1 hdo;clear hdo;go_wp2_with fail
  refine(qpj 25 W1).mono ?_;rintro e w9 ⟨rfl,b9⟩;obtain⟨X,hX,pk⟩:=qpn (rWhy 25) Hd.zero_Ok (by simp[qlz,rWhy,qih,qft]);rw[hX];obtain⟨Z9,HX,DD⟩:=zh3 ((Z1.out).below b9 (Z1.out).lt) hX ((A4.out).call b9);clear hX b9;go_wp2_with (refine qpo (.tmp 4) (.tmp 39) (w.heap.size+1) X Z9.out pk ?_)
  exact qpp (Z9.out.setRow X.toArray) pk ⟨_,col,rfl,(by rw[A1.out,←HX.out];exact RspV.plain _ _ _ _ rfl rfl rfl),(by (try rw[A1.out]);exact DD.out.row0 HK.out X.toArray (A2.out) (by omega))⟩
 iterate 25 (refine zrd rfl rfl (fun w1 hS=>by have g0:=F0.out w1 hS;have g1:=F1.out w1 hS;have g2:=F2.out w1 hS;clear hS;go_simp;try rfl) ?_;simp only[Act.put,tA0,tA1,tA2])
 refine qbg ?_;clear A0 F0 F1 F2;obtain⟨W1,hW1⟩:=eqx W0.drew;have B1:=zh1 (show Below W0.heap.size W0 W1 by rw[hW1];exact(tA5 _ _).drew);rw[←hW1];clear hW1;obtain⟨Z1,A4⟩:=zh2 (Z0.out.below B1.out Z0.out.lt) (A8.out.call B1.out);have h16':n<16:=by omega
 obtain⟨t,ht⟩:∃t,s.tres[n]? =some t:=⟨_,tA7 (by rw[HS.out.tresn];exact h16')⟩;obtain⟨-,Ad,cd,Al',cl',Aq,cq,hcs,hcell,-,-,-⟩:=H.out.st.tree HS.out ht;have C0:=zh1 (qai (hcell 0 (.int .i64 t.state) rfl) B0.out);simp only[Nat.add_zero]at C0;obtain⟨HT,AO⟩:=zh2 ht (HS.out.tre ht);have n1:1≤n:=by omega
 have HB:=zh1 (⟨n1,h16',hw1,hw4⟩:1≤n∧n<16∧¬wg<1∧¬4<wg);have hd1:qm6 c s R=(if t.state≠0 then(s,rWhy 27)
  else match s.tenant R.tenant with
   |none=>(s,rWhy 23)
   |some x=>if !x.on then(s,rWhy 23) else((s.setT R.tree.toNat fun _=>{Tre.zero with state:=1,tenant:=R.tenant,weight:=R.weight,draws:=[s.draw]}).pub c R.tree.toNat,qlz R.tree.toNat)):=by
  unfold qm6;rw[if_neg (by rw[HN.out,A7.out,HS.out.tresn];omega),HN.out,Int.toNat_natCast,ht];rfl
 have AA:=zh1 hd1;clear ht hcs hcell hd1 hw1 hw4 h0 h16;have q2:(0:Int)≤n:=by omega
 have q3:(n:Int)<16:=by omega
 go_upto_region 4 with(fail)
 obtain⟨S,A0⟩:∃S:World→Prop,Hid (∀w',S w'=(Below W1.heap.size W1 w')):=⟨_,fun _=>rfl⟩;refine zrs S 12 [(0,false),(1,false),(2,false),(3,false),(4,false),(5,false),(6,false),(7,false),(8,false),(9,false),(10,false),(11,false)] ((A0.out _).mpr ((tA5 _ _).drew)) ?_;obtain⟨F0,F1,F2⟩:=zh3 (fun(w':World)(h:S w')=>qai (qai A9.out B1.out) ((A0.out w').mp h)) (fun(w':World)(h:S w')=>qai (qai C0.out B1.out) ((A0.out w').mp h)) (fun(w':World)(h:S w')=>qai (qai C8.out B1.out) ((A0.out w').mp h));obtain⟨ts,hts⟩:=xeq t.state;rw[hts]at C0 F1 AA;iterate 12 (refine zrd rfl rfl (fun w1 hS=>by have g0:=F0.out w1 hS;have g1:=F1.out w1 hS;have g2:=F2.out w1 hS;clear hS;go_simp;try rfl) ?_;simp only[Act.put,tA0,tA1,tA2])
 refine qbg ?_;clear A0 F0 F1 F2;obtain⟨W2,hW2⟩:=eqx W1.drew;have B2:=zh1 (show Below W1.heap.size W1 W2 by rw[hW2];exact(tA5 _ _).drew);rw[←hW2];clear hW2;obtain⟨Z2,AB,A3⟩:=zh3 (Z1.out.below B2.out Z1.out.lt) (A4.out.call B2.out) (B1.out.trans (B2.out.mono B1.out.size));by_cases hs0:ts=0
 ·
  subst hs0;have hd2:=AA.out;rw[if_neg (by simp)]at hd2;have AC:=zh1 hd2;clear hd2;by_cases hok:0≤tn∧tn<16
  ·
   have hpv:=AF.out;rw[if_pos hok]at hpv;injection hpv with hp1 hp2;subst hp1 hp2;obtain⟨m,rfl⟩:∃m:Nat,tn=m:=⟨tn.toNat,by omega⟩;rw[Int.toNat_natCast];obtain⟨x,hx⟩:∃x,s.tens[m]? =some x:=⟨_,tA7 (by rw[HS.out.tensn];omega)⟩;have hten:s.tenant R.tenant=some x:=by unfold Sta.tenant;rw[A6.out,if_pos (by omega),Int.toNat_natCast];exact hx
   have con:w.cell? ⟨L.tg,m*6,none⟩=some (.bool x.on):=H.out.st.tens.cell ((qmy hx (by omega:(0:Nat)<6)).trans rfl);have con2:=qai (qai con B0.out) A3.out;obtain⟨on,hon⟩:=xeq x.on;rw[hon]at con2;cases on with
   |false=>
    have hdo:qm6 c s R=(s,rWhy 23):=by
     rw[AC.out,hten];simp[hon]
    have A1:=zh1 hdo;clear hdo hx hten con;go_wp2_with fail
    clear con2;refine(qpj 23 W2).mono ?_;rintro e w9 ⟨rfl,b9⟩;obtain⟨X,hX,pk⟩:=qpn (rWhy 23) Hd.zero_Ok (by simp[qlz,rWhy,qih,qft]);rw[hX];obtain⟨Z9,HX,DD⟩:=zh3 ((Z2.out).below b9 (Z2.out).lt) hX ((AB.out).call b9);clear hX b9;go_wp2_with (refine qpo (.tmp 4) (.tmp 63) (w.heap.size+1) X Z9.out pk ?_)
    exact qpp (Z9.out.setRow X.toArray) pk ⟨_,col,rfl,(by rw[A1.out,←HX.out];exact RspV.plain _ _ _ _ rfl rfl rfl),(by (try rw[A1.out]);exact DD.out.row0 HK.out X.toArray (A2.out) (by omega))⟩
   |true=>
    have hdo:qm6 c s R=((s.setT n fun _=>{Tre.zero with state:=1,tenant:=(m:Int),weight:=wg,draws:=[s.draw]}).pub c n,qlz n):=by
     rw[AC.out,hten];simp only[hon];rw[HN.out,A6.out,A7.out,Int.toNat_natCast];rfl
    have A1:=zh1 hdo;clear hdo hx hten con;go_upto_region 8 with(fail)
    clear con2;have C5:=zh1 (qai (qai H.out.c5 B0.out) A3.out);have cW:col w.heap.size=0:=by
     by_cases e:col w.heap.size=0
     · exact e
     have:=H.out.fin _ e;omega
    have CW:=zh1 cW;obtain⟨dr,hdr⟩:=xeq s.draw;have hdb:dr<4294967296:=by rw[←hdr];exact HS.out.draw
    rw[hdr]at C5 A1;have AP:=zh1 hdr;clear cW hdr;obtain⟨S,A0⟩:∃S:World→Prop,Hid (∀w',S w'=(Below W2.heap.size W2 w')):=⟨_,fun _=>rfl⟩;refine zrs S 19 [(0,false),(1,false),(2,false),(3,false),(4,false),(5,false),(6,false),(7,false),(8,false),(9,false),(10,false),(11,false),(12,false),(13,false),(14,false),(15,false),(16,true),(17,false),(18,false),(19,true)] ((A0.out _).mpr ((tA5 _ _).drew)) ?_;obtain⟨F0,F1,F2,F3,F4⟩:=zh5 (fun(w':World)(h:S w')=>qai (qai A9.out A3.out) ((A0.out w').mp h)) (fun(w':World)(h:S w')=>qai (qai AE.out A3.out) ((A0.out w').mp h)) (fun(w':World)(h:S w')=>qai (qai C8.out A3.out) ((A0.out w').mp h)) (fun(w':World)(h:S w')=>qai (qai AL.out A3.out) ((A0.out w').mp h)) (fun(w':World)(h:S w')=>qai C5.out ((A0.out w').mp h));iterate 16 (refine zrd rfl rfl (fun w1 hS=>by have g0:=F0.out w1 hS;have g1:=F1.out w1 hS;have g2:=F2.out w1 hS;have g3:=F3.out w1 hS;have g4:=F4.out w1 hS;clear hS;go_simp;try rfl) ?_;simp only[Act.put,tA0,tA1,tA2])
    obtain⟨Wd,hWd⟩:=eqx W2.drew;have BD:=zh1 (show Below W2.heap.size W2 Wd by rw[hWd];exact(tA5 _ _).drew);rw[←hWd];clear hWd;refine qbj rfl rfl ?_;go_simp;obtain⟨wB,hwB⟩:=eqx (Wd.alloc (.cells #[.int .u32 (dr:Int)] 22));rw[←hwB];have bB:Below Wd.heap.size Wd wB:=by rw[hwB];exact qah (tA5 _ _) _
    have blB:Blk wB Wd.heap.size 22 #[.int .u32 (dr:Int)]:=by rw[hwB];exact Blk.new Wd _ _
    have BB:=zh1 (BD.out.trans (bB.mono BD.out.size));obtain⟨AG,SW,AH⟩:=zh3 (B0.out.trans ((A3.out.trans (BB.out.mono A3.out.size)).mono B0.out.size)) (show w.heap.size+1<Wd.heap.size by have:=BD.out.size;have:=A3.out.size;have:=Z0.out.lt;omega) blB;clear hwB bB blB;refine⟨(A0.out _).mpr BB.out,?_⟩;try simp only[Act.put,tA0,tA1,tA2]
    obtain⟨X,hX⟩:=eqx (trev {Tre.zero with state:=1,tenant:=(m:Int),weight:=wg,draws:=[dr]} (.slice (some ⟨Wd.heap.size,0,none⟩) 1 1) (.slice none 0 0) (.slice none 0 0));have bT:Tryz.prog.built 74 [(0,.int .i64 1),(1,.int .i64 (m:Int)),(2,.int .i64 wg),(4,.slice (some ⟨Wd.heap.size,0,none⟩) 1 1)]=some X.toArray:=by rw[hX];exact qr5 (m:Int) wg _ 1 1
    obtain⟨BT,HX,LX,OX⟩:=zh4 bT hX (show X.length=75 by rw[hX];exact qmx _ _ _ Hd.zero_Ok) (show ∀u∈X,u.oneCell'=true by rw[hX];exact qpq _ _ _ _ rfl rfl rfl);clear bT hX;refine qbh rfl rfl ⟨.agg X.toArray,fun w1 hS=>qfq 74 _ rfl _ _ BT.out (by simp[Act.eval]),?_⟩;try simp only[Act.put,tA0,tA1,tA2]
    iterate 1 (refine zrd rfl rfl (fun w1 hS=>by go_simp;(try go_bits);try rfl) ?_;simp only[Act.put,tA0,tA1,tA2])
    obtain⟨col1,hcol⟩:∃f:Col,f=fun b=>if b=Wd.heap.size then 10+3*n else col b:=⟨_,rfl⟩
    have cd1:col1 Wd.heap.size=10+3*n:=by rw[hcol];simp
    have cl1:∀b,b<Wd.heap.size→col1 b=col b:=fun b hb=>by rw[hcol];simp;omega
    have fin1:Fin_ col1 wB:=by
     intro b hb;rw[hcol]at hb;by_cases e:b=Wd.heap.size
     · rw[e];exact AH.out.lt
     simp[e]at hb;have:=H.out.fin b hb;have:=AG.out.size;omega
    have TB:Turns (fun _=>false) w col wB col1:=(Turns.of_below _ AG.out).recolour fun b hb=>cl1 b (by have:=SW.out;omega)
    have hnew:TreAt wB col1 n X ({Tre.zero with state:=1,tenant:=(m:Int),weight:=wg,draws:=[dr]}:Tre):=
     ⟨_,_,_,HX.out,⟨rfl,.inr ⟨Wd.heap.size,0,1,[.int .u32 (dr:Int)],rfl,cd1,AH.out,tA4 _,by simp[maxLen],by simp,rfl⟩⟩,TextsC.nil _ _ _,TextsC.nil _ _ _⟩
    obtain⟨N1,N2,N3⟩:=H.out.treSet HK.out HS.out HT.out TB fin1 (fun _=>{Tre.zero with state:=1,tenant:=(m:Int),weight:=wg,draws:=[dr]}) X LX.out hnew;have MB:=H.out.keep TB rfl rfl rfl rfl rfl (fun _ _=>rfl) fin1;have hth:=MB.st.tres.there (o:=n*75) (m:=75) (by rw[qmr (MB.st.trs.lens (fun t ht=>(HS.out.tres t ht).hd)),MB.st.trs.1,HS.out.tresn];have:=HB.out;omega);have hfok:({Tre.zero with state:=1,tenant:=(m:Int),weight:=wg,draws:=[dr]}:Tre).Ok:=by
     have hz:=Tre.zero_ok;have hb:=HB.out;exact⟨⟨by simp,by simp⟩,⟨by simp,by simp;omega⟩,⟨by simp;omega,by simp;omega⟩,rfl,fun _=>⟨by simp;omega,by simp⟩,by simp,by simp;exact hdb,hz.leaves,hz.leafb,hz.queue,hz.queueb,hz.hd,hz.hdt,hz.hde,hz.hds⟩
    have sok:(s.setT n fun _=>{Tre.zero with state:=1,tenant:=(m:Int),weight:=wg,draws:=[dr]}).Ok:=HS.out.setT (fun _ _ _=>hfok) (fun e=>absurd e (by have:=HB.out;omega));have ht2:(s.setT n fun _=>{Tre.zero with state:=1,tenant:=(m:Int),weight:=wg,draws:=[dr]}).tres[n]? =some {Tre.zero with state:=1,tenant:=(m:Int),weight:=wg,draws:=[dr]}:=qnc _ HT.out;have AI:=TT.out.turns N3 (qq7 HK.out) H.out.base;have AJ:=zh1 (qol c _ L col1 k g _ n _ _ HK.out HC.out sok N1 ht2 (by simp) AI);have z4:Blk (wB.setCells L.rg (n*75) X) (w.heap.size+1) 57 Tryz.zeroCells57:=
     ((Z2.out.below BB.out Z2.out.lt)).grown (qmj L.rg X _ wB) (by
      intro e;injection e with e;have:=A2.out;rw[e,H.out.st.tres.1]at this;omega)
    have k35:(wB.setCells L.rg (n*75) X).cell? ⟨w.heap.size,35,none⟩=some (.int .i64 (n:Int)):=
     qne (p:=(· ==k+1)) (col:=col) (qai (qai A9.out A3.out) BB.out) (Turns.setCells X (by simp[H.out.st.tres.1])) (by rw[CW.out];simp)
    have g1:col1 (w.heap.size+1)=0:=(cl1 _ SW.out).trans A2.out;refine qbj rfl rfl ?_;refine wp_store_mid 74 (.tmp 82) (.tmp 81) rfl L.rg (n*75) X.toArray rfl rfl (by rw[List.size_toArray,LX.out];exact hth) (by rw[List.size_toArray,LX.out];kernel_rfl) (by simpa using OX.out) ?_;refine⟨fun h=>absurd h (by decide),?_⟩;try simp only[Act.put,tA0,tA1,tA2]
    refine qbg ?_;obtain⟨W4,hW4⟩:=eqx (wB.setCells L.rg (n*75) X);obtain⟨K4,Z4,N2',N3',G1,G2⟩:=zh6 k35 z4 N2 N3 g1 ((cl1 w.heap.size (by have:=SW.out;omega)).trans CW.out);have e9:(wB.setCells L.rg (n*75) X.toArray.toList)=W4:=by rw[hW4]
    rw[e9];rw[←hW4]at K4 Z4 N2' N3' AJ;clear A0 F0 F1 F2 F3 F4 hcol cd1 cl1 fin1 TB hnew N1 N2 N3 MB hth hfok sok ht2 AI z4 k35 g1 hW4 e9;have k35:=K4.out;go_wp2_with fail
    refine AJ.out.mono ?_;rintro e W5 ⟨rfl,⟨css5,M5⟩,T5⟩;have D5:Did w col W5 col1 k g c css s ((s.setT n fun _=>{Tre.zero with state:=1,tenant:=(m:Int),weight:=wg,draws:=[dr]}).pub c n):=
     ⟨⟨L,css5,M5⟩,N2'.out.keep fun i hi=>T5.keeps (by have:=HK.out;rcases this with rfl|rfl<;>simp<;>omega),N3'.out.trans (T5.mono fun i hi=>(show i=k+1 by simpa using hi)▸(by unfold inP;simp))⟩
    have z5:Blk W5 (w.heap.size+1) 57 Tryz.zeroCells57:=(T5.block _ Z4.out.lt (by rw[G1.out];simp)).trans Z4.out;have k35:=qne K4.out T5 (by rw[G2.out];simp);obtain⟨AN,AK⟩:=zh2 D5 z5;clear D5 z5 M5 T5;have hnb:n<16:=HB.out.2.1;go_wp2_with fail
    refine(qpi n W5 (by omega)).mono ?_;rintro e w9 ⟨rfl,b9⟩;obtain⟨X,hX,pk⟩:=qpn (qlz n) Hd.zero_Ok (by simp[qlz,rWhy,qih,qft]);rw[hX];obtain⟨Z9,HX,DD⟩:=zh3 ((AK.out).below b9 (AK.out).lt) hX ((AN.out).call b9);clear hX b9;go_wp2_with (refine qpo (.tmp 4) (.tmp 89) (w.heap.size+1) X Z9.out pk ?_)
    exact qpp (Z9.out.setRow X.toArray) pk ⟨_,col1,rfl,(by rw[A1.out,←HX.out];exact RspV.plain _ _ _ _ rfl rfl rfl),(by (try rw[A1.out]);exact DD.out.row0 HK.out X.toArray (G1.out) (by omega))⟩
  have hpv:=AF.out;rw[if_neg hok]at hpv;injection hpv with hp1 hp2;subst hp1 hp2;have hdo:qm6 c s R=(s,rWhy 23):=by
   rw[AC.out];unfold Sta.tenant;rw[A6.out];by_cases h0:0≤tn
   · rw[if_pos h0,List.getElem?_eq_none (by rw[HS.out.tensn];omega)]
   rw[if_neg h0]
  have A1:=zh1 hdo;clear hdo hok;go_wp2_with fail
  refine(qpj 23 W2).mono ?_;rintro e w9 ⟨rfl,b9⟩;obtain⟨X,hX,pk⟩:=qpn (rWhy 23) Hd.zero_Ok (by simp[qlz,rWhy,qih,qft]);rw[hX];obtain⟨Z9,HX,DD⟩:=zh3 ((Z2.out).below b9 (Z2.out).lt) hX ((AB.out).call b9);clear hX b9;go_wp2_with (refine qpo (.tmp 4) (.tmp 63) (w.heap.size+1) X Z9.out pk ?_)
  exact qpp (Z9.out.setRow X.toArray) pk ⟨_,col,rfl,(by rw[A1.out,←HX.out];exact RspV.plain _ _ _ _ rfl rfl rfl),(by (try rw[A1.out]);exact DD.out.row0 HK.out X.toArray (A2.out) (by omega))⟩
 have qs:(ts==0)=false:=by simp;exact hs0
 have hdo:qm6 c s R=(s,rWhy 27):=by rw[AA.out,if_pos hs0]
 have A1:=zh1 hdo;clear hdo;go_wp2_with fail
 refine(qpj 27 W2).mono ?_;rintro e w9 ⟨rfl,b9⟩;obtain⟨X,hX,pk⟩:=qpn (rWhy 27) Hd.zero_Ok (by simp[qlz,rWhy,qih,qft]);rw[hX];obtain⟨Z9,HX,DD⟩:=zh3 ((Z2.out).below b9 (Z2.out).lt) hX ((AB.out).call b9);clear hX b9;go_wp2_with (refine qpo (.tmp 4) (.tmp 52) (w.heap.size+1) X Z9.out pk ?_)
 exact qpp (Z9.out.setRow X.toArray) pk ⟨_,col,rfl,(by rw[A1.out,←HX.out];exact RspV.plain _ _ _ _ rfl rfl rfl),(by (try rw[A1.out]);exact DD.out.row0 HK.out X.toArray (A2.out) (by omega))⟩
end
section
open Go.RowKit
theorem qr7 {P:Program}(w:World)(col:Col)(k:Nat)(t tx ty e:TypeId)(i:TypeInfo)(z:Value)(size bytes:Nat)(ht:P.underlying t=some (.slice e))(hi:P.info? e=some i)(hz:i.zero=some z)
 (hsize:i.size=size)(hby:i.bytes=bytes)(hzs:z.cells.size=size)
 (g c n:Nat)(xs:List Value)(h:TopAt w col k e g c size n xs)(x:Value)(m:Nat)(news:List Value)(hsrc:Src P size tx x m news w)
 (h63:n+m≤maxLen)(hbytes:(n+m)*bytes≤140737488355328):
 ∃g' c' w' col',(Builtin.append_ #[t,tx] ty #[.slice (some ⟨g,0,none⟩) n c,x]).run P w=.ok (.slice (some ⟨g',0,none⟩) (n+m) c') w'∧TopAt w' col' k e g' c' size (n+m) (xs++news)∧Turns (· ==k) w col w' col'∧(Fin_ col w→Fin_ col' w'):=by
 obtain⟨hk,sp,hb,hxl,hn,hm,hsp⟩:=h;have hnl:=hsrc.newsLen;have hr:Row w (.slice (some ⟨g,0,none⟩) n c) e size n xs:=⟨hxl,.inr ⟨g,0,c,xs++sp,rfl,hb,hn,hm,by rw[tA6];omega,by rw[List.drop_zero,←hxl,List.take_left]⟩⟩;rcases qmm (P:=P) w t tx ty e i z size bytes ht hi hz hsize hby hzs _ n xs hr x m news hsrc h63 hbytes with⟨-,hv,-⟩|⟨g1,o,c1,cur,hv,hc,hb1,hf,hrun,hrw⟩|⟨c',cs,hc,hm',hl,htk,hrun,hrw⟩
 · cases hv
 ·
  injection hv with e1 e2 e3;injection e1 with e1;injection e1 with e4 e5;subst e3 e4 e5;have hcn:(n+m)*size≤c*size:=Nat.mul_le_mul_right _ hc;rw[Nat.add_mul]at hcn;refine⟨g,c,_,col,hrun,⟨hk,sp.drop news.length,?_,by rw[tA6,hxl,hnl,Nat.add_mul],hc,hm,?_⟩,Turns.setCells news (by simp[hk]),fun hf=>hf.mono (Turns.setCells (p:=(· ==k)) (col:=col) news (by simp[hk])).size⟩
  · have h2:=qmi news (0+n*size) w _ hb (by rw[tA6];omega)
    have e9:over (xs++sp) (0+n*size) news=xs++news++sp.drop news.length:=by
     unfold over;rw[Nat.zero_add,←hxl,List.take_left,List.append_assoc,List.drop_append,List.drop_eq_nil_of_le (by omega)];simp
    rwa[e9]at h2
  rw[tA6,List.length_drop];omega
 refine⟨w.heap.size,c',_,col.put w.heap.size k,hrun,⟨Col.put_at ..,cs.drop ((n+m)*size),?_,by rw[tA6,hxl,hnl,Nat.add_mul],hc,hm',?_⟩,?_,fun hf=>hf.put (by simp) (by simp)⟩
 · rw[←htk,List.take_append_drop]
   exact Blk.new w.drew e _
 · have:(xs++news).length=(n+m)*size:=by rw[tA6,hxl,hnl,Nat.add_mul]
   rw[this,List.length_drop,hl];have:=Nat.mul_le_mul_right size hc;omega
 exact⟨rfl,rfl,rfl,by simp,fun b hb _=>Below.heap_alloc w.drew _ b hb,fun b hb=>Col.put_old _ _ hb⟩
theorem qr8 {P:Program}{o:Oper}{a:Act}{K:Act→World→Prop}{Q:Exit→Act→World→Prop}(w:World)(s x:Operand)(t tx:TypeId)
 (ho:o.op=.call {callee:=.builtin .append,args:=#[s,x],argTypes:=#[t,tx]})
 (col:Col)(k:Nat)(e:TypeId)(i:TypeInfo)(z:Value)(size bytes:Nat)(ht:P.underlying t=some (.slice e))(hi:P.info? e=some i)(hz:i.zero=some z)
 (hsize:i.size=size)(hby:i.bytes=bytes)(hzs:z.cells.size=size)
 (g c n:Nat)(xs:List Value)(hs:a.eval s=.slice (some ⟨g,0,none⟩) n c)(hrow:TopAt w col k e g c size n xs)(xv:Value)(m:Nat)(news:List Value)(hx:a.eval x=xv)(hsrc:Src P size tx xv m news w)
 (h63:n+m≤maxLen)(hbytes:(n+m)*bytes≤140737488355328)
 (h:∀g' c' w' col',TopAt w' col' k e g' c' size (n+m) (xs++news)→Turns (· ==k) w col w' col'→(Fin_ col w→Fin_ col' w')→K (a.put o.dst (.slice (some ⟨g',0,none⟩) (n+m) c')) w'):o.wp P a w K Q:=by
 obtain⟨g',c',w',col',hrun,h2,h3,h4⟩:=qr7 (P:=P) w col k t tx o.type e i z size bytes ht hi hz hsize hby hzs g c n xs hrow xv m news hsrc h63 hbytes;unfold Oper.wp execOp;simp only[ho,resolve,invoke,builtin,Sem.run_bind,Sem.run_pure,Result.andThen_ok,List.map_toArray,List.map_cons,List.map_nil,hs,hx,hrun];exact h g' c' w' col' h2 h3 h4
theorem qr9 (l:List Gra)(x:Gra):(l++[x]).flatMap grav=l.flatMap grav++grav x:=by simp
theorem Mdl.graAdd {w w':World}{col col':Col}{k g:Nat}{c:Cfg}{s:Sta}{L:Loc}{css:List (List Value)}(h:Mdl w col k g c s L css)(hk:Kind k){g' c':Nat}{x:Gra}
 (ha:TopAt w' col' (k+2) 66 g' c' 4 (s.gras.length+1) (s.gras.flatMap grav++grav x))(hT:Turns (· ==k+2) w col w' col')(hf:Fin_ col' w'):
 Mdl (w'.setCell ⟨g,9,none⟩ (.slice (some ⟨g',0,none⟩) (s.gras.length+1) c')) col' k g c {s with gras:=s.gras++[x]} {L with gg:=g',gc:=c'} css:=by
 have keepA:∀i,i≠k+2→KeepsCol i w col w' col':=fun i hi=>hT.keeps (by simpa using hi)
 have own':col' g=1:=(hT.same g h.blk.lt).trans h.own;have blk':Blk w' g 117 (mdlv c s L):=(hT.block g h.blk.lt (by rw[h.own];rcases hk with rfl|rfl<;>rfl)).trans h.blk;have hT2:Turns (· ==1) w' col' (w'.setCell ⟨g,9,none⟩ (.slice (some ⟨g',0,none⟩) (s.gras.length+1) c')) col':=Turns.setCell _ (by simp[own']);have keepB:∀i,i≠1→KeepsCol i w' col' (w'.setCell ⟨g,9,none⟩ (.slice (some ⟨g',0,none⟩) (s.gras.length+1) c')) col':=fun i hi=>hT2.keeps (by simpa using hi)
 have k1:k≠1∧k+1≠1∧k+2≠1:=by rcases hk with rfl|rfl<;>omega
 refine⟨?_,own',⟨Nat.le_trans (Nat.le_trans h.base.1 hT.size) hT2.size,fun b hb=>(hT.same b (Nat.lt_of_lt_of_le hb h.base.1)).trans (h.base.2 b hb)⟩,hf.mono hT2.size,(h.seed.keep (keepA 5 (by rcases hk with rfl|rfl<;>omega))).keep (keepB 5 (by omega)),?_⟩
 · have h2:=blk'.set_ 9 (.slice (some ⟨g',0,none⟩) (s.gras.length+1) c')
   have e:(mdlv c s L).setIfInBounds 9 (.slice (some ⟨g',0,none⟩) (s.gras.length+1) c')=mdlv c {s with gras:=s.gras++[x]} {L with gg:=g',gc:=c'}:=by
    unfold mdlv;simp
   rwa[e]at h2
 refine⟨(h.st.tens.keep (keepA k (by omega))).keep (keepB k k1.1),(h.st.tres.keep (keepA (k+1) (by omega))).keep (keepB (k+1) k1.2.1),?_,?_⟩
 · have h2:=ha.keep (keepB (k+2) k1.2.2)
   rw[←qr9]at h2;simpa using h2
 exact(h.st.trs.keep fun i hi=>keepA i (by rcases hk with rfl|rfl<;>omega)).keep fun i hi=>keepB i (by omega)
theorem qra (n:Int)(id:Nat)(a0 a1 a2 a3 a4 a5 a6 a7 a8 a9 a10 a11 a12 a13 a14 a15 a16 a17 a18 a19 a20 a21 a22 a23 a24 a25 a26 a27 a28 a29 a30 a31:Nat):Tryz.prog.built 57 [(1,.int .u64 n),(5,.agg (tokv id (.slice none 0 0) [a0,a1,a2,a3,a4,a5,a6,a7,a8,a9,a10,a11,a12,a13,a14,a15,a16,a17,a18,a19,a20,a21,a22,a23,a24,a25,a26,a27,a28,a29,a30,a31]).toArray)]=some (Value.int .i64 0::.int .u64 n::.slice none 0 0::.slice none 0 0::(hdv Hd.zero++tokv id (.slice none 0 0) [a0,a1,a2,a3,a4,a5,a6,a7,a8,a9,a10,a11,a12,a13,a14,a15,a16,a17,a18,a19,a20,a21,a22,a23,a24,a25,a26,a27,a28,a29,a30,a31])).toArray:=by kernel_rfl
theorem qrb (n:Int)(id:Nat):∀(tag:List Nat),tag.length=32→Tryz.prog.built 57 [(1,.int .u64 n),(5,.agg (tokv id (.slice none 0 0) tag).toArray)]=some (Value.int .i64 0::.int .u64 n::.slice none 0 0::.slice none 0 0::(hdv Hd.zero++tokv id (.slice none 0 0) tag)).toArray
 |[a0,a1,a2,a3,a4,a5,a6,a7,a8,a9,a10,a11,a12,a13,a14,a15,a16,a17,a18,a19,a20,a21,a22,a23,a24,a25,a26,a27,a28,a29,a30,a31],_=>qra n id a0 a1 a2 a3 a4 a5 a6 a7 a8 a9 a10 a11 a12 a13 a14 a15 a16 a17 a18 a19 a20 a21 a22 a23 a24 a25 a26 a27 a28 a29 a30 a31
theorem qrc (tn ro:Int)(ex:Nat):Tryz.prog.built 66 [(0,.int .i64 tn),(1,.int .i64 ro),(2,.int .u64 (ex:Int))]=some (grav ⟨tn,ro,ex,false⟩).toArray:=by kernel_rfl
theorem Tryz.gra_info:(Tryz.prog.info? 66).map (fun i=>(i.zero,i.size,i.bytes))=some (some (.agg #[.int .i64 0,.int .i64 0,.int .u64 0,.bool false]),4,32):=by kernel_rfl
theorem qrd (c:Cfg)(s:Sta)(L:Loc)(col:Col)(k g:Nat)(css:List (List Value))(R:Req)(Ac:Option Addr)(cc:Nat)(Al:Option Addr)(cl:Nat)(w:World)(hk:Kind k)(hc:c.Ok)(hs:s.Ok)(h:Mdl w col k g c s L css)
 (hr:Asked w col R Ac cc Al cl)(hT:Tabs w):
 Calls Tryz.prog 138 #[.pointer (some ⟨g,0,none⟩),.agg (reqv R (.slice Ac R.cavs.length cc) (.slice Al R.leaf.length cl)).toArray] w fun e w'=>∃v col',e=.returned v∧RspV w' col' w.heap.size v (qma c s R).2∧Did w col w' col' k g c css s (qma c s R).1:=by
 have rlen:=qis R (.slice Ac R.cavs.length cc) (.slice Al R.leaf.length cl) hr.good.tag;have rest:=qgu R (.slice Ac R.cavs.length cc) (.slice Al R.leaf.length cl) hr.good.tag;obtain⟨Q,hQ⟩:=xeq (reqv R (.slice Ac R.cavs.length cc) (.slice Al R.leaf.length cl));rw[hQ]at rlen rest ⊢;obtain⟨W0,hW0⟩:=eqx ((w.alloc (.cells Q.toArray 34)).alloc (.cells Tryz.zeroCells57 57));have q0:Blk W0 w.heap.size 34 Q.toArray:=by rw[hW0];exact(Blk.new w _ _).alloc _
 have z0:Blk W0 (w.heap.size+1) 57 Tryz.zeroCells57:=by
  have h:=Blk.new (w.alloc (.cells Q.toArray 34)) 57 Tryz.zeroCells57;rw[qar]at h;rw[hW0];exact h
 have b0:Below w.heap.size w W0:=by rw[hW0];exact qah (qah (tA5 _ _) _) _
 have hG0:col (w.heap.size+1)=0:=by
  by_cases e:col (w.heap.size+1)=0
  · exact e
  have:=h.fin _ e;omega
 have D0:=Did.same (css:=css) h b0;obtain⟨H,AF,Q0,Z0,B0,A1,A8,HK⟩:=zh8 h hW0 q0 z0 b0 hG0 D0 hk;obtain⟨HS,HR,RL,A3,HQ⟩:=zh5 hs hr rlen rest hQ;clear h hW0 q0 z0 b0 hG0 D0 hk hs hr rlen rest hQ;obtain⟨HC,TT⟩:=zh2 hc hT;clear hc hT;obtain⟨tn,htn⟩:=xeq R.tenant;obtain⟨ro,hro⟩:=xeq R.role;obtain⟨ex,hex⟩:=xeq R.expires;obtain⟨ng,hng⟩:=xeq s.gras.length;have k36:=(Q0.out.cell 36).trans (show Q.toArray[36]? =some (.int .i64 tn) by rw[tA3,←htn];exact A3.out 1);have k37:=(Q0.out.cell 37).trans (show Q.toArray[37]? =some (.int .i64 ro) by rw[tA3,←hro];exact A3.out 2);have k46:=(Q0.out.cell 46).trans (show Q.toArray[46]? =some (.int .u64 (ex:Int)) by rw[tA3,←hex];exact A3.out 11);have c9:=H.out.c9;rw[hng]at c9;obtain⟨AA,A9,AB,C9,AH⟩:=zh5 k36 k37 k46 (qai c9 B0.out) (qpk tn c s L col k g css W0 (H.out.call B0.out));have gb:ng≤64:=by rw[←hng];exact HS.out.grasn
 obtain⟨A4,A6,AI,A7⟩:=zh4 htn hro hex hng;rw[AF.out]at k36;clear htn hro hex hng k37 k46 c9;go_enter Tryz.func138,Tryz.ntmps138
 go_wp2_with fail
 rw[←AF.out];refine AH.out.mono ?_;rintro e w' ⟨rfl,rfl⟩;clear k36;have k37:=A9.out;by_cases hrole:ro<1∨4<ro
 ·
  have hdo:qma c s R=(s,rWhy 25):=by unfold qma;rw[if_pos (by rw[A6.out];exact hrole)]
  have A0:=zh1 hdo;clear hdo;by_cases h16:0≤tn∧tn<16
  all_goals
   first|rw[if_pos h16]|rw[if_neg h16]
   clear h16;by_cases h1:ro<1
   ·
    clear hrole;go_wp2_with fail
    refine(qpj 25 W0).mono ?_;rintro e w9 ⟨rfl,b9⟩;obtain⟨X,hX,pk⟩:=qpn (rWhy 25) Hd.zero_Ok (by simp[qlz,rWhy,qih,qft]);rw[hX];obtain⟨Z9,HX,DD⟩:=zh3 ((Z0.out).below b9 (Z0.out).lt) hX ((A8.out).call b9);clear hX b9;go_wp2_with (refine qpo (.tmp 4) (.tmp 28) (w.heap.size+1) X Z9.out pk ?_)
    exact qpp (Z9.out.setRow X.toArray) pk ⟨_,col,rfl,(by rw[A0.out,←HX.out];exact RspV.plain _ _ _ _ rfl rfl rfl),(by (try rw[A0.out]);exact DD.out.row0 HK.out X.toArray (A1.out) (by omega))⟩
   have h4:4<ro:=by omega
   clear hrole;go_wp2_with fail
   refine(qpj 25 W0).mono ?_;rintro e w9 ⟨rfl,b9⟩;obtain⟨X,hX,pk⟩:=qpn (rWhy 25) Hd.zero_Ok (by simp[qlz,rWhy,qih,qft]);rw[hX];obtain⟨Z9,HX,DD⟩:=zh3 ((Z0.out).below b9 (Z0.out).lt) hX ((A8.out).call b9);clear hX b9;go_wp2_with (refine qpo (.tmp 4) (.tmp 28) (w.heap.size+1) X Z9.out pk ?_)
   exact qpp (Z9.out.setRow X.toArray) pk ⟨_,col,rfl,(by rw[A0.out,←HX.out];exact RspV.plain _ _ _ _ rfl rfl rfl),(by (try rw[A0.out]);exact DD.out.row0 HK.out X.toArray (A1.out) (by omega))⟩
 have h1:¬ro<1:=by omega
 have h4:¬4<ro:=by omega
 have A5:=zh1 hrole;by_cases h16:0≤tn∧tn<16
 ·
  rw[if_pos h16];obtain⟨m,rfl⟩:∃m:Nat,tn=m:=⟨tn.toNat,by omega⟩;rw[Int.toNat_natCast];have hm16:m<16:=by omega
  obtain⟨x,hx⟩:∃x,s.tens[m]? =some x:=⟨_,tA7 (by rw[HS.out.tensn];omega)⟩;have hten:s.tenant R.tenant=some x:=by unfold Sta.tenant;rw[A4.out,if_pos (by omega),Int.toNat_natCast];exact hx
  have con:w.cell? ⟨L.tg,m*6,none⟩=some (.bool x.on):=H.out.st.tens.cell ((qmy hx (by omega:(0:Nat)<6)).trans rfl);have con2:=qai con B0.out;obtain⟨on,hon⟩:=xeq x.on;rw[hon]at con2;clear hrole con;cases on with
  |false=>
   have hdo:qma c s R=(s,rWhy 23):=by
    unfold qma;rw[if_neg (by rw[A6.out];exact A5.out),hten];simp[hon]
   have A0:=zh1 hdo;clear hdo hx hten;go_wp2_with fail
   refine(qpj 23 W0).mono ?_;rintro e w9 ⟨rfl,b9⟩;obtain⟨X,hX,pk⟩:=qpn (rWhy 23) Hd.zero_Ok (by simp[qlz,rWhy,qih,qft]);rw[hX];obtain⟨Z9,HX,DD⟩:=zh3 ((Z0.out).below b9 (Z0.out).lt) hX ((A8.out).call b9);clear hX b9;go_wp2_with (refine qpo (.tmp 4) (.tmp 35) (w.heap.size+1) X Z9.out pk ?_)
   exact qpp (Z9.out.setRow X.toArray) pk ⟨_,col,rfl,(by rw[A0.out,←HX.out];exact RspV.plain _ _ _ _ rfl rfl rfl),(by (try rw[A0.out]);exact DD.out.row0 HK.out X.toArray (A1.out) (by omega))⟩
  |true=>
   have c9:=C9.out;by_cases h64:64≤ng
   ·
    have p1:(64:Int)≤ng:=by omega
    have hdo:qma c s R=(s,rWhy 4):=by
     unfold qma;rw[if_neg (by rw[A6.out];exact A5.out),hten];simp only[hon];rw[if_neg (by simp),if_pos (by rw[A7.out];exact h64)]
    have A0:=zh1 hdo;clear hdo hx hten;go_wp2_with fail
    refine(qpj 4 W0).mono ?_;rintro e w9 ⟨rfl,b9⟩;obtain⟨X,hX,pk⟩:=qpn (rWhy 4) Hd.zero_Ok (by simp[qlz,rWhy,qih,qft]);rw[hX];obtain⟨Z9,HX,DD⟩:=zh3 ((Z0.out).below b9 (Z0.out).lt) hX ((A8.out).call b9);clear hX b9;go_wp2_with (refine qpo (.tmp 4) (.tmp 44) (w.heap.size+1) X Z9.out pk ?_)
    exact qpp (Z9.out.setRow X.toArray) pk ⟨_,col,rfl,(by rw[A0.out,←HX.out];exact RspV.plain _ _ _ _ rfl rfl rfl),(by (try rw[A0.out]);exact DD.out.row0 HK.out X.toArray (A1.out) (by omega))⟩
   have p1:¬(64:Int)≤ng:=by omega
   have hdo:qma c s R=({s with gras:=s.gras++[⟨(m:Int),ro,ex,false⟩]},{qlz ng with tok:=(ng,[],qjs (qlr c.seed) ng)}):=by
    unfold qma;rw[if_neg (by rw[A6.out];exact A5.out),hten];simp only[hon];rw[if_neg (by simp),if_neg (by rw[A7.out];exact h64),A4.out,A6.out,AI.out,A7.out]
   have A0:=zh1 hdo;clear hdo hx hten;go_upto_region 9 with(fail)
   clear con2 c9 k37;have cW:col w.heap.size=0:=by
    by_cases e:col w.heap.size=0
    · exact e
    have:=H.out.fin _ e;omega
   obtain⟨CW,BG⟩:=zh2 cW (qrc (m:Int) ro ex);obtain⟨i0,hi0,hz0,hz1,hz2⟩:=info_parts Tryz.gra_info;clear cW;obtain⟨S,A2⟩:∃S:World→Prop,Hid (∀w',S w'=(w'.cell? ⟨g,9,none⟩=some (.slice (some ⟨L.gg,0,none⟩) ng L.gc)∧w'.cell? ⟨w.heap.size,36,none⟩=some (.int .i64 (m:Int))∧w'.cell? ⟨w.heap.size,37,none⟩=some (.int .i64 ro)∧w'.cell? ⟨w.heap.size,46,none⟩=some (.int .u64 (ex:Int)))):=⟨_,fun _=>rfl⟩;refine zrs S 18 [(0,false),(1,false),(2,false),(3,false),(4,false),(5,false),(6,false),(7,false),(8,false),(9,false),(10,false),(11,false),(12,false),(13,true),(14,true),(15,false),(16,false),(17,false),(18,true)] ((A2.out _).mpr (⟨C9.out,AA.out,A9.out,AB.out⟩)) ?_;obtain⟨F0,F1,F2,F3⟩:=zh4 (fun(w':World)(h:S w')=>((A2.out w').mp h).1) (fun(w':World)(h:S w')=>((A2.out w').mp h).2.1) (fun(w':World)(h:S w')=>((A2.out w').mp h).2.2.1) (fun(w':World)(h:S w')=>((A2.out w').mp h).2.2.2);iterate 12 (refine zrd rfl rfl (fun w1 hS=>by have g0:=F0.out w1 hS;have g1:=F1.out w1 hS;have g2:=F2.out w1 hS;have g3:=F3.out w1 hS;clear hS;go_simp;try rfl) ?_;simp only[Act.put,tA0,tA1,tA2])
   refine qbh rfl rfl ⟨.agg (grav ⟨(m:Int),ro,ex,false⟩).toArray,fun w1 hS=>qfq 66 _ rfl _ _ BG.out (by simp[Act.eval]),?_⟩;try simp only[Act.put,tA0,tA1,tA2]
   obtain⟨Wd,hWd⟩:=eqx W0.drew;have BD:=zh1 (show Below W0.heap.size W0 Wd by rw[hWd];exact(tA5 _ _).drew);rw[←hWd];clear hWd;refine qbj rfl rfl ?_;refine qqq 47 66 (.tmp 63) rfl (grav ⟨(m:Int),ro,ex,false⟩) rfl i0 _ 4 Tryz.underlying47 hi0 hz0 hz1 rfl rfl (by decide) (by decide) ?_;obtain⟨wB,hwB⟩:=eqx (Wd.alloc (.cells (grav ⟨(m:Int),ro,ex,false⟩).toArray 66));rw[←hwB];have bB:Below Wd.heap.size Wd wB:=by rw[hwB];exact qah (tA5 _ _) _
   have blB:Blk wB Wd.heap.size 66 (grav ⟨(m:Int),ro,ex,false⟩).toArray:=by rw[hwB];exact Blk.new Wd _ _
   have BB:=zh1 (BD.out.trans (bB.mono BD.out.size));have AC:=zh1 (B0.out.trans (BB.out.mono B0.out.size));have hr1:Reads wB wB.heap.size 4 (some ⟨Wd.heap.size,0,none⟩) 1 (grav ⟨(m:Int),ro,ex,false⟩):=⟨rfl,fun _=>⟨_,rfl,blB.lt,fun j u hu=>by rw[Addr.add_mid,blB.cell (0+j)];simpa using hu⟩⟩;clear hwB bB blB;refine⟨fun _=>(A2.out _).mpr ⟨qai C9.out BB.out,qai AA.out BB.out,qai A9.out BB.out,qai AB.out BB.out⟩,?_⟩;try simp only[Act.put,tA0,tA1,tA2]
   have HB:=H.out.call AC.out;have htop:=HB.st.gras;rw[A7.out]at htop;refine qbj rfl rfl ?_;refine qr8 wB (.tmp 56) (.tmp 64) _ _ rfl col (k+2) 66 i0 _ 4 32 Tryz.underlying47 hi0 hz0 hz1 hz2 rfl L.gg L.gc ng _ rfl htop (.slice (some ⟨Wd.heap.size,0,none⟩) 1 1) 1 (grav ⟨(m:Int),ro,ex,false⟩) rfl (Src.reads wB Tryz.underlying47 hr1 (by simp[grav,Value.oneCell']) (by decide)) (by simp only[maxLen];omega) (by omega) ?_;intro g9 c9 wC col2 ha hTC hfC;rw[←A7.out]at ha;have N1:=HB.graAdd HK.out (x:=⟨(m:Int),ro,ex,false⟩) ha hTC (hfC HB.fin);have own2:col2 g=1:=(hTC.same g HB.blk.lt).trans H.out.own;have blkC:Blk wC g 117 (mdlv c s L):=(hTC.block g HB.blk.lt (by rw[H.out.own];have:=HK.out;rcases this with rfl|rfl<;>rfl)).trans HB.blk;rw[A7.out]at N1;have f9:=blkC.frozen 9;have cg:w.heap.size<wB.heap.size:=by have:=AC.out.size;have:=Z0.out.lt;have:=BB.out.size;omega
   have x9:=qne (qai C9.out BB.out) hTC (by rw[H.out.own];have:=HK.out;rcases this with rfl|rfl<;>rfl);have x36:=qne (qai AA.out BB.out) hTC (by rw[CW.out];simp);have x37:=qne (qai A9.out BB.out) hTC (by rw[CW.out];simp);have x46:=qne (qai AB.out BB.out) hTC (by rw[CW.out];simp);have T1:Turns (· ==1) wC col2 (wC.setCell ⟨g,9,none⟩ (.slice (some ⟨g9,0,none⟩) (ng+1) c9)) col2:=Turns.setCell _ (by simp[own2]);have AD:Turns (inP k) w col (wC.setCell ⟨g,9,none⟩ (.slice (some ⟨g9,0,none⟩) (ng+1) c9)) col2:=
    ((Turns.of_below (inP k) AC.out).trans (hTC.mono fun i hi=>(show i=k+2 by simpa using hi)▸(by unfold inP;simp))).trans (T1.mono fun i hi=>(show i=1 by simpa using hi)▸rfl)
   have old1:TrsAt (wC.setCell ⟨g,9,none⟩ (.slice (some ⟨g9,0,none⟩) (ng+1) c9)) col2 css s.tres:=
    (HB.st.trs.keep fun i hi=>hTC.keeps (by have:=HK.out;rcases this with rfl|rfl<;>simp<;>omega)).keep fun i hi=>T1.keeps (by simp;omega)
   have D1:Did w col (wC.setCell ⟨g,9,none⟩ (.slice (some ⟨g9,0,none⟩) (ng+1) c9)) col2 k g c css s {s with gras:=s.gras++[⟨(m:Int),ro,ex,false⟩]}:=⟨⟨_,_,N1⟩,old1,AD⟩;have z1:Blk (wC.setCell ⟨g,9,none⟩ (.slice (some ⟨g9,0,none⟩) (ng+1) c9)) (w.heap.size+1) 57 Tryz.zeroCells57:=by
    have z2:=Z0.out.below BB.out Z0.out.lt;have z3:=(hTC.block _ z2.lt (by rw[A1.out];simp)).trans z2;exact(T1.block _ (show w.heap.size+1<wC.heap.size from Nat.lt_of_lt_of_le z2.lt hTC.size) (by rw[(hTC.same _ z2.lt).trans A1.out];rfl)).trans z3
   have g1:col2 (w.heap.size+1)=0:=(hTC.same _ (Z0.out.below BB.out Z0.out.lt).lt).trans A1.out;have ttt:=TT.out.turns AD (qq7 HK.out) H.out.base;refine⟨fun _=>(A2.out _).mpr ⟨x9,x36,x37,x46⟩,?_⟩;try simp only[Act.put,tA0,tA1,tA2]
   iterate 3 (refine zrd rfl rfl (fun w1 hS=>by have g0:=F0.out w1 hS;clear hS;go_simp;try rfl) ?_;simp only[Act.put,tA0,tA1,tA2])
   clear x36 x37 x46;refine qbj rfl rfl ?_;go_simp;refine qbg ?_;clear A2 F0 F1 F2 F3 hi0 hz0 hz1 hz2;obtain⟨W4,hW4⟩:=eqx (wC.setCell ⟨g,9,none⟩ (.slice (some ⟨g9,0,none⟩) (ng+1) c9));rw[←hW4]at N1 D1 z1 ttt ⊢;obtain⟨CR,SR,Z4,D4,G4,T4⟩:=zh6 N1.cfgRange N1.seedR z1 D1 g1 ttt;clear hW4 N1 own2 blkC f9 cg x9 T1 AD old1 D1 z1 g1 ttt ha hTC hfC hr1 HB htop;have u1:IntKind.u64.wrap (ng:Int)=(ng:Int):=IntWalk.u64_in _ (by omega);have u2:IntKind.u32.wrap (ng:Int)=(ng:Int):=IntWalk.u32_in _ (by omega);have IC:=zh1 (show (Tryz.prog.info? 25).map (·.size)=some 4 by kernel_rfl);go_wp2_with (refine qaq rfl 25 (.tmp 73) rfl g 0 rfl [.int .i64 c.width,.int .i64 c.quantum,.int .u32 (c.store:Int),.slice L.sa L.sn L.sc] _ CR.out Tryz.underlying25 rfl IC.out ?_)
   refine(qnt c (.slice L.sa L.sn L.sc) L.sa L.sn L.sc W4 SR.out HC.out.seedb (by have:=HC.out.seed;have:=SR.out.1;simp[byv]at this;omega) T4.out).mono ?_;rintro e W5 ⟨rfl,b5⟩;obtain⟨Z5,D5,T5,S5⟩:=zh4 (Z4.out.below b5 Z4.out.lt) (D4.out.call b5) (T4.out.below b5 T4.out.size) b5.size;clear b5;go_wp2_with fail
   refine(qjx (qlr c.seed) ng W5 (qjt _ _) (qju _ _) (by omega) T5.out).mono ?_;rintro e W6 ⟨rfl,b6⟩;obtain⟨Z6,D6⟩:=zh2 (Z5.out.below b6 Z5.out.lt) (D5.out.call b6);clear b6;have ltg:(qjs (qlr c.seed) ng).length=32:=qjt _ _;obtain⟨tg,htg⟩:=xeq (qjs (qlr c.seed) ng);rw[htg]at ltg A0 ⊢;obtain⟨X,hX⟩:=eqx (qpe ({qlz ng with tok:=(ng,[],tg)}:Rsp));have lX:X.length=106:=by rw[hX];exact qpf _ Hd.zero_Ok ltg
   have oX:∀u∈X,u.oneCell'=true:=by rw[hX];exact qpg _
   have bT:Tryz.prog.built 57 [(1,.int .u64 (ng:Int)),(5,.agg (tokv ng (.slice none 0 0) tg).toArray)]=some X.toArray:=by rw[hX];exact qrb (ng:Int) ng tg ltg
   obtain⟨LX,OX,HX,BT,AG,AE⟩:=zh6 lX oX hX bT (zI 57 lX) qph;clear lX oX hX bT htg ltg;go_wp2_with (first
    |(refine qbk rfl ⟨.agg X.toArray,qfq 57 _ rfl _ _ BT.out (by simp[Act.eval]),?_⟩)
    |(refine zst 57 (.tmp 4) (.tmp 79) (w.heap.size+1) X Z6.out AG.out (by simp[LX.out,AE.out]) OX.out ?_))
   have z9:=Z6.out.setRow X.toArray;have AJ:=qap z9 0 X (fun j u h=>by simpa using h);refine zrt AJ Tryz.underlying57 AG.out ?_;have dd9:=D6.out.row0 HK.out X.toArray G4.out (by omega);have rr9:RspV (W6.setRow (w.heap.size+1) X.toArray) col2 w.heap.size (.agg X.toArray) (qma c s R).2:=by rw[A0.out,HX.out];exact RspV.plain _ _ _ _ rfl rfl rfl
   have dd8:Did w col (W6.setRow (w.heap.size+1) X.toArray) col2 k g c css s (qma c s R).1:=by rw[A0.out];exact dd9
   first
    |exact⟨_,rfl,col2,rr9,dd8⟩
    |exact⟨_,col2,rfl,rr9,dd8⟩
 rw[if_neg h16];have hdo:qma c s R=(s,rWhy 25):=by
  unfold qma;rw[if_neg (by rw[A6.out];exact hrole)];unfold Sta.tenant;rw[A4.out];by_cases h0:0≤tn
  · rw[if_pos h0,List.getElem?_eq_none (by rw[HS.out.tensn];omega)]
  rw[if_neg h0]
 have A0:=zh1 hdo;clear hdo h16 hrole;go_wp2_with fail
 refine(qpj 25 W0).mono ?_;rintro e w9 ⟨rfl,b9⟩;obtain⟨X,hX,pk⟩:=qpn (rWhy 25) Hd.zero_Ok (by simp[qlz,rWhy,qih,qft]);rw[hX];obtain⟨Z9,HX,DD⟩:=zh3 ((Z0.out).below b9 (Z0.out).lt) hX ((A8.out).call b9);clear hX b9;go_wp2_with (refine qpo (.tmp 4) (.tmp 28) (w.heap.size+1) X Z9.out pk ?_)
 exact qpp (Z9.out.setRow X.toArray) pk ⟨_,col,rfl,(by rw[A0.out,←HX.out];exact RspV.plain _ _ _ _ rfl rfl rfl),(by (try rw[A0.out]);exact DD.out.row0 HK.out X.toArray (A1.out) (by omega))⟩
end
section
open Go.RowKit
theorem qre (c:Cfg)(s:Sta)(L:Loc)(col:Col)(k g:Nat)(css:List (List Value))(n:Nat)(t:Tre)(R:Req)(Ac:Option Addr)(cc:Nat)(Al:Option Addr)(cl:Nat)(w:World)(hk:Kind k)(hs:s.Ok)(h:Mdl w col k g c s L css)
 (hr:Asked w col R Ac cc Al cl)(ht:s.tres[n]? =some t)(hrt:R.tree=(n:Int))(hn0:n≠0)(hop:R.op=8):
 Calls Tryz.prog 137 #[.pointer (some ⟨g,0,none⟩),.pointer (some ⟨L.rg,n*75,none⟩),.agg (reqv R (.slice Ac R.cavs.length cc) (.slice Al R.leaf.length cl)).toArray] w fun e w'=>∃v col',e=.returned v∧RspV w' col' w.heap.size v (qm8 s R).2∧Did w col w' col' k g c css s (qm8 s R).1:=by
 obtain⟨hn16,Ad,cd,Al',cl',Aq,cq,hcs,hcell,hrd,hrl,hrq⟩:=h.st.tree hs ht;have rlen:=qis R (.slice Ac R.cavs.length cc) (.slice Al R.leaf.length cl) hr.good.tag;have rest:=qgu R (.slice Ac R.cavs.length cc) (.slice Al R.leaf.length cl) hr.good.tag;obtain⟨Q,hQ⟩:=xeq (reqv R (.slice Ac R.cavs.length cc) (.slice Al R.leaf.length cl));rw[hQ]at rlen rest ⊢;obtain⟨W0,hW0⟩:=eqx ((w.alloc (.cells Q.toArray 34)).alloc (.cells Tryz.zeroCells57 57));have q0:Blk W0 w.heap.size 34 Q.toArray:=by rw[hW0];exact(Blk.new w _ _).alloc _
 have z0:Blk W0 (w.heap.size+1) 57 Tryz.zeroCells57:=by
  have h:=Blk.new (w.alloc (.cells Q.toArray 34)) 57 Tryz.zeroCells57;rw[qar]at h;rw[hW0];exact h
 have b0:Below w.heap.size w W0:=by rw[hW0];exact qah (qah (tA5 _ _) _) _
 have hG0:col (w.heap.size+1)=0:=by
  by_cases e:col (w.heap.size+1)=0
  · exact e
  have:=h.fin _ e;omega
 have D0:=Did.same (css:=css) h b0;obtain⟨H,A6,Q0,Z0,B0,A0,A7,HK⟩:=zh8 h hW0 q0 z0 b0 hG0 D0 hk;obtain⟨HS,HR,RL,A2,HQ⟩:=zh5 hs hr rlen rest hQ;clear h hW0 q0 z0 b0 hG0 D0 hk hs hr rlen rest hQ;obtain⟨wg,hwg⟩:=xeq R.weight;have k0:=(Q0.out.cell 0).trans (show Q.toArray[0]? =some (.int .i64 8) by rw[tA3,←hop,←HQ.out];rfl);have k39:=(Q0.out.cell 39).trans (show Q.toArray[39]? =some (.int .i64 wg) by rw[tA3,←hwg];exact A2.out 4);obtain⟨K0,A8,HT,A3,A9,A4,E2,E3⟩:=zh8 k0 k39 ht hrt hn0 hwg (qai (hcell 2 (.int .i64 t.weight) rfl) B0.out) (qai (hcell 3 (.int .i64 t.deficit) rfl) B0.out);have k0:=K0.out;rw[A6.out]at k0;clear hrt hn0 hop hwg ht hcs hcell hrd hrl hrq k39;go_enter Tryz.func137,Tryz.ntmps137
 go_upto_region 19 with(fail)
 rw[←A6.out];clear k0;have k39:=A8.out;by_cases hbad:wg<1∨4<wg
 ·
  have hdo:qm8 s R=(s,rWhy 25):=by
   unfold qm8;rw[if_neg (by rw[A3.out];have:=A9.out;omega),if_pos (by rw[A4.out];exact hbad)]
  have A1:=zh1 hdo;clear hdo;by_cases h1:wg<1
  ·
   clear hbad;go_wp2_with fail
   refine(qpj 25 W0).mono ?_;rintro e w9 ⟨rfl,b9⟩;obtain⟨X,hX,pk⟩:=qpn (rWhy 25) Hd.zero_Ok (by simp[qlz,rWhy,qih,qft]);rw[hX];obtain⟨Z9,HX,DD⟩:=zh3 ((Z0.out).below b9 (Z0.out).lt) hX ((A7.out).call b9);clear hX b9;go_wp2_with (refine qpo (.tmp 6) (.tmp 94) (w.heap.size+1) X Z9.out pk ?_)
   exact qpp (Z9.out.setRow X.toArray) pk ⟨_,col,rfl,(by rw[A1.out,←HX.out];exact RspV.plain _ _ _ _ rfl rfl rfl),(by (try rw[A1.out]);exact DD.out.row0 HK.out X.toArray (A0.out) (by omega))⟩
  have h4:4<wg:=by omega
  clear hbad;go_wp2_with fail
  refine(qpj 25 W0).mono ?_;rintro e w9 ⟨rfl,b9⟩;obtain⟨X,hX,pk⟩:=qpn (rWhy 25) Hd.zero_Ok (by simp[qlz,rWhy,qih,qft]);rw[hX];obtain⟨Z9,HX,DD⟩:=zh3 ((Z0.out).below b9 (Z0.out).lt) hX ((A7.out).call b9);clear hX b9;go_wp2_with (refine qpo (.tmp 6) (.tmp 94) (w.heap.size+1) X Z9.out pk ?_)
  exact qpp (Z9.out.setRow X.toArray) pk ⟨_,col,rfl,(by rw[A1.out,←HX.out];exact RspV.plain _ _ _ _ rfl rfl rfl),(by (try rw[A1.out]);exact DD.out.row0 HK.out X.toArray (A0.out) (by omega))⟩
 have h1:¬wg<1:=by omega
 have h4:¬4<wg:=by omega
 obtain⟨m,rfl⟩:∃m:Nat,wg=m:=⟨wg.toNat,by omega⟩;have hm4:m≤4:=by omega
 have hdo:qm8 s R=(s.setT n fun t=>{t with weight:=(m:Int),deficit:=0},qlz m):=by
  unfold qm8;rw[if_neg (by rw[A3.out];have:=A9.out;omega),if_neg (by rw[A4.out];exact hbad),A4.out,A3.out,Int.toNat_natCast,Int.toNat_natCast]
 have A1:=zh1 hdo;clear hdo hbad;have H0:=H.out.call B0.out;have e2:=E2.out;have f2:=H0.st.tres.frozen (n*75+2);have M1:=H0.treOver HK.out HS.out HT.out (j:=2) (cs:=[.int .i64 (m:Int),.int .i64 0]) (f:=fun t=>{t with weight:=(m:Int),deficit:=0}) (by simp) (fun vd vl vq=>by simp[over,trev]) rfl rfl rfl;have T1:Turns (· ==k+1) W0 col (W0.setCells L.rg (n*75+2) [.int .i64 (m:Int),.int .i64 0]) col:=Turns.setCells _ (by simp[H0.st.tres.1]);rw[show W0.setCells L.rg (n*75+2) [.int .i64 (m:Int),.int .i64 0]=(W0.setCell ⟨L.rg,n*75+2,none⟩ (.int .i64 (m:Int))).setCell ⟨L.rg,n*75+3,none⟩ (.int .i64 0) from rfl]at M1 T1;have f3:=(H0.st.tres.set1 (o:=n*75+2) (.int .i64 (m:Int)) (by rw[qmr (H0.st.trs.lens (fun t ht=>(HS.out.tres t ht).hd)),H0.st.trs.1,HS.out.tresn];omega)).frozen (n*75+3);have e3:=(World.cell?_setCell_other W0 ⟨L.rg,n*75+2,none⟩ ⟨L.rg,n*75+3,none⟩ (.int .i64 (m:Int)) (by intro e;injection e with e1 e2;omega)).trans E3.out;have cW:col w.heap.size=0:=by
  by_cases e:col w.heap.size=0
  · exact e
  have:=H.out.fin _ e;omega
 have x39:=qne A8.out T1 (by rw[cW];simp);have z1:Blk ((W0.setCell ⟨L.rg,n*75+2,none⟩ (.int .i64 (m:Int))).setCell ⟨L.rg,n*75+3,none⟩ (.int .i64 0)) (w.heap.size+1) 57 Tryz.zeroCells57:=(T1.block _ Z0.out.lt (by rw[A0.out];simp)).trans Z0.out;have D1:=Did.turned H.out B0.out T1 (by unfold inP;simp) (by have:=HK.out;rcases this with rfl|rfl<;>omega) M1;obtain⟨AA,AB,A5⟩:=zh3 x39 D1 z1;clear M1 T1 H0 x39 z1 D1 cW;go_upto_region 22 with(fail)
 clear f3 e3 f2 e2 k39;obtain⟨W9,hW9⟩:=eqx ((W0.setCell ⟨L.rg,n*75+2,none⟩ (.int .i64 (m:Int))).setCell ⟨L.rg,n*75+3,none⟩ (.int .i64 0));rw[←hW9]at AB A5 AA ⊢;clear hW9;have k39:=AA.out;go_wp2_with fail
 refine(qpi m W9 (by omega)).mono ?_;rintro e w9 ⟨rfl,b9⟩;obtain⟨X,hX,pk⟩:=qpn (qlz m) Hd.zero_Ok (by simp[qlz,rWhy,qih,qft]);rw[hX];obtain⟨Z9,HX,DD⟩:=zh3 ((A5.out).below b9 (A5.out).lt) hX ((AB.out).call b9);clear hX b9;go_wp2_with (refine qpo (.tmp 6) (.tmp 105) (w.heap.size+1) X Z9.out pk ?_)
 exact qpp (Z9.out.setRow X.toArray) pk ⟨_,col,rfl,(by rw[A1.out,←HX.out];exact RspV.plain _ _ _ _ rfl rfl rfl),(by (try rw[A1.out]);exact DD.out.row0 HK.out X.toArray (A0.out) (by omega))⟩
end
section
open Go.RowKit
theorem Mdl.drawAdd {w w':World}{col col':Col}{k g:Nat}{c:Cfg}{s:Sta}{L:Loc}{css:List (List Value)}(h:Mdl w col k g c s L css)(hk:Kind k)(hs:s.Ok){n:Nat}{t:Tre}(ht:s.tres[n]? =some t){vd vl vq:Value}(hcs:css[n]? =some (trev t vd vl vq))
 {v':Value}{d:Nat}(ha:AppendedC w col w' col' (10+3*n) vd v' 22 1 t.draws.length 1 (drwv t.draws) [.int .u32 (d:Int)]):
 Mdl (w'.setCell ⟨L.rg,n*75+4,none⟩ v') col' k g c (s.setT n fun t=>{t with draws:=t.draws++[d]}) L (css.modify n fun x=>x.set 4 v')∧TrsAt (w'.setCell ⟨L.rg,n*75+4,none⟩ v') col' css s.tres∧Turns (inP k) w col (w'.setCell ⟨L.rg,n*75+4,none⟩ v') col':=by
 obtain⟨r1,r2,r3⟩:=h.rows ht hcs;have kp:∀i,i≠10+3*n→KeepsCol i w col w' col':=fun i hi=>ha.turns.keeps (by simpa using hi)
 have hrow:=ha.row;rw[show drwv t.draws++[Value.int .u32 (d:Int)]=drwv (t.draws++[d]) by simp[drwv],show t.draws.length+1=(t.draws++[d]).length by simp]at hrow;exact h.treRow hk hs ht hcs (.inl rfl) ha.turns (ha.fin h.fin) _ v' (by omega)
  ⟨vd,vl,vq,rfl,ha.old,r2.keep (kp _ (by omega)) (kp 5 (by omega)),r3.keep (kp _ (by omega)) (kp 5 (by omega))⟩
  ⟨v',vl,vq,rfl,hrow,r2.keep (kp _ (by omega)) (kp 5 (by omega)),r3.keep (kp _ (by omega)) (kp 5 (by omega))⟩
theorem Tryz.mrot_info:(Tryz.prog.info? 22).map (fun i=>(i.zero,i.size,i.bytes))=some (some (.int .u32 0),1,4):=by kernel_rfl
theorem qrf (c:Cfg)(s:Sta)(L:Loc)(col:Col)(k g:Nat)(css:List (List Value))(n:Nat)(t:Tre)(R:Req)(Ac:Option Addr)(cc:Nat)(Al:Option Addr)(cl:Nat)(w:World)(hk:Kind k)(hc:c.Ok)(hs:s.Ok)(h:Mdl w col k g c s L css)
 (hr:Asked w col R Ac cc Al cl)(hT:Tabs w)(ht:s.tres[n]? =some t)(hrt:R.tree=(n:Int))(hop:R.op=9):
 Calls Tryz.prog 137 #[.pointer (some ⟨g,0,none⟩),.pointer (some ⟨L.rg,n*75,none⟩),.agg (reqv R (.slice Ac R.cavs.length cc) (.slice Al R.leaf.length cl)).toArray] w fun e w'=>∃v col',e=.returned v∧RspV w' col' w.heap.size v (qm9 c s R t).2∧Did w col w' col' k g c css s (qm9 c s R t).1:=by
 obtain⟨hn16,Ad,cd,Al',cl',Aq,cq,hcs,hcell,hrd,hrl,hrq⟩:=h.st.tree hs ht;have rlen:=qis R (.slice Ac R.cavs.length cc) (.slice Al R.leaf.length cl) hr.good.tag;have rest:=qgu R (.slice Ac R.cavs.length cc) (.slice Al R.leaf.length cl) hr.good.tag;obtain⟨Q,hQ⟩:=xeq (reqv R (.slice Ac R.cavs.length cc) (.slice Al R.leaf.length cl));rw[hQ]at rlen rest ⊢;obtain⟨W0,hW0⟩:=eqx ((w.alloc (.cells Q.toArray 34)).alloc (.cells Tryz.zeroCells57 57));have q0:Blk W0 w.heap.size 34 Q.toArray:=by rw[hW0];exact(Blk.new w _ _).alloc _
 have z0:Blk W0 (w.heap.size+1) 57 Tryz.zeroCells57:=by
  have h:=Blk.new (w.alloc (.cells Q.toArray 34)) 57 Tryz.zeroCells57;rw[qar]at h;rw[hW0];exact h
 have b0:Below w.heap.size w W0:=by rw[hW0];exact qah (qah (tA5 _ _) _) _
 have hG0:col (w.heap.size+1)=0:=by
  by_cases e:col (w.heap.size+1)=0
  · exact e
  have:=h.fin _ e;omega
 have D0:=Did.same (css:=css) h b0;obtain⟨H,A8,Q0,Z0,B0,A2,AJ,HK⟩:=zh8 h hW0 q0 z0 b0 hG0 D0 hk;obtain⟨HS,HR,RL,A4,HQ⟩:=zh5 hs hr rlen rest hQ;clear h hW0 q0 z0 b0 hG0 D0 hk hs hr rlen rest hQ;obtain⟨HC,TT,AK⟩:=zh3 hc hT (HS.out.tre ht);clear hc hT;obtain⟨nd,hnd⟩:=xeq t.draws.length;obtain⟨dr,hdr⟩:=xeq s.draw;have k0:=(Q0.out.cell 0).trans (show Q.toArray[0]? =some (.int .i64 9) by rw[tA3,←hop,←HQ.out];rfl);have k35:=(Q0.out.cell 35).trans (show Q.toArray[35]? =some (.int .i64 (n:Int)) by rw[tA3,←hrt];exact A4.out 0);obtain⟨K0,A5,HT,AL,A0,AA,AB⟩:=zh7 k0 k35 ht hrt hnd hdr hcs;have e4:=qai (hcell 4 (.slice Ad t.draws.length cd) rfl) B0.out;rw[hnd]at e4;have c5:=qai H.out.c5 B0.out;rw[hdr]at c5;obtain⟨E4,C5⟩:=zh2 e4 c5;have k0:=K0.out;rw[A8.out]at k0;clear hrt hop ht hcs hcell hrd hrl hrq k35 hnd hdr e4 c5;go_enter Tryz.func137,Tryz.ntmps137
 go_upto_region 23 with(fail)
 rw[←A8.out];clear k0;have e4:=E4.out;by_cases hbad:32≤nd
 ·
  have p1:(32:Int)≤nd:=by omega
  have hdo:qm9 c s R t=(s,rWhy 4):=by
   unfold qm9;rw[if_pos (by rw[A0.out];exact hbad)]
  have A3:=zh1 hdo;clear hdo;go_wp2_with fail
  clear e4;refine(qpj 4 W0).mono ?_;rintro e w9 ⟨rfl,b9⟩;obtain⟨X,hX,pk⟩:=qpn (rWhy 4) Hd.zero_Ok (by simp[qlz,rWhy,qih,qft]);rw[hX];obtain⟨Z9,HX,DD⟩:=zh3 ((Z0.out).below b9 (Z0.out).lt) hX ((AJ.out).call b9);clear hX b9;go_wp2_with (refine qpo (.tmp 6) (.tmp 112) (w.heap.size+1) X Z9.out pk ?_)
  exact qpp (Z9.out.setRow X.toArray) pk ⟨_,col,rfl,(by rw[A3.out,←HX.out];exact RspV.plain _ _ _ _ rfl rfl rfl),(by (try rw[A3.out]);exact DD.out.row0 HK.out X.toArray (A2.out) (by omega))⟩
 have p1:¬(32:Int)≤nd:=by omega
 have hdo:qm9 c s R t=((s.setT n fun t=>{t with draws:=t.draws++[dr]}).pub c n,qlz nd):=by
  unfold qm9;rw[if_neg (by rw[A0.out];exact hbad),AL.out,Int.toNat_natCast,AA.out,A0.out]
 have A3:=zh1 hdo;clear hdo;go_upto_region 25 with(fail)
 clear e4;obtain⟨S,A1⟩:∃S:World→Prop,Hid (∀w',S w'=(w'.cell? ⟨L.rg,n*75+4,none⟩=some (.slice Ad nd cd)∧w'.cell? ⟨g,5,none⟩=some (.int .u32 (dr:Int))∧w'.cell? ⟨w.heap.size,35,none⟩=some (.int .i64 (n:Int)))):=⟨_,fun _=>rfl⟩;refine zrs S 14 [(0,false),(1,false),(2,false),(3,false),(4,false),(5,false),(6,false),(7,false),(8,false),(9,false),(10,true),(11,true),(12,false),(13,false),(14,true)] ((A1.out _).mpr (⟨E4.out,C5.out,A5.out⟩)) ?_;obtain⟨F0,F1⟩:=zh2 (fun(w':World)(h:S w')=>((A1.out w').mp h).1) (fun(w':World)(h:S w')=>((A1.out w').mp h).2.1);iterate 10 (refine zrd rfl rfl (fun w1 hS=>by have g0:=F0.out w1 hS;have g1:=F1.out w1 hS;clear hS;go_simp;try rfl) ?_;simp only[Act.put,tA0,tA1,tA2])
 obtain⟨Wd,hWd⟩:=eqx W0.drew;have BD:=zh1 (show Below W0.heap.size W0 Wd by rw[hWd];exact(tA5 _ _).drew);rw[←hWd];clear hWd;refine qbj rfl rfl ?_;go_simp;obtain⟨wB,hwB⟩:=eqx (Wd.alloc (.cells #[.int .u32 (dr:Int)] 22));rw[←hwB];have bB:Below Wd.heap.size Wd wB:=by rw[hwB];exact qah (tA5 _ _) _
 have blB:Blk wB Wd.heap.size 22 #[.int .u32 (dr:Int)]:=by rw[hwB];exact Blk.new Wd _ _
 have BB:=zh1 (BD.out.trans (bB.mono BD.out.size));have AC:=zh1 (B0.out.trans (BB.out.mono B0.out.size));have hr1:Reads wB wB.heap.size 1 (some ⟨Wd.heap.size,0,none⟩) 1 [.int .u32 (dr:Int)]:=⟨rfl,fun _=>⟨_,rfl,blB.lt,fun j u hu=>by rw[Addr.add_mid,blB.cell (0+j)];simpa using hu⟩⟩;clear hwB bB blB;refine⟨(A1.out _).mpr ⟨qai E4.out BB.out,qai C5.out BB.out,qai A5.out BB.out⟩,?_⟩;try simp only[Act.put,tA0,tA1,tA2]
 have HB:=H.out.call AC.out;have hrow:=(HB.rows HT.out AB.out).1;rw[A0.out]at hrow;obtain⟨i0,hi0,hz0,hz1,hz2⟩:=info_parts Tryz.mrot_info;refine qbj rfl rfl ?_;refine qmp wB (.tmp 117) (.tmp 123) _ _ rfl col (10+3*n) 22 i0 _ 1 4 Tryz.underlying71 hi0 hz0 hz1 hz2 rfl (.slice Ad nd cd) nd _ rfl hrow (.slice (some ⟨Wd.heap.size,0,none⟩) 1 1) 1 [.int .u32 (dr:Int)] rfl (Src.reads wB Tryz.underlying71 hr1 (by simp[Value.oneCell']) (by decide)) (by simp only[maxLen];omega) (by omega) ?_;intro v' wC col2 ap;obtain⟨A9,c9,rfl,-,-,-,-⟩:=ap.row.sl;have ap2:AppendedC wB col wC col2 (10+3*n) (.slice Ad t.draws.length cd) (.slice A9 (nd+1) c9) 22 1 t.draws.length 1 (drwv t.draws) [.int .u32 (dr:Int)]:=by rw[A0.out];exact ap
 obtain⟨N1,N2,N3⟩:=HB.drawAdd HK.out HS.out HT.out AB.out ap2;have colR:col L.rg=k+1:=H.out.st.tres.1;have cW:col w.heap.size=0:=by
  by_cases e:col w.heap.size=0
  · exact e
  have:=H.out.fin _ e;omega
 have hkk:=HK.out;have x4:=qne (qai E4.out BB.out) ap.turns (by rw[colR];rcases hkk with rfl|rfl<;>simp<;>omega);have x5:=qne (qai C5.out BB.out) ap.turns (by rw[H.out.own];simp;omega);have x35:=qne (qai A5.out BB.out) ap.turns (by rw[cW];simp;omega);have f4:=(HB.st.tres.keep (ap.turns.keeps (k:=k+1) (by rcases hkk with rfl|rfl<;>simp<;>omega))).frozen (n*75+4);have zB:=Z0.out.below BB.out Z0.out.lt;have g2:col2 (w.heap.size+1)=0:=(ap.turns.same _ zB.lt).trans A2.out;have zC:Blk wC (w.heap.size+1) 57 Tryz.zeroCells57:=(ap.turns.block _ zB.lt (by rw[A2.out];simp;omega)).trans zB;have z9:Blk (wC.setCell ⟨L.rg,n*75+4,none⟩ (.slice A9 (nd+1) c9)) (w.heap.size+1) 57 Tryz.zeroCells57:=zC.far (by intro e;have e':w.heap.size+1=L.rg:=e;rw[←e']at colR;have:=A2.out;omega) _;have cW2:col2 w.heap.size=0:=(ap.turns.same _ (by have:=zB.lt;omega)).trans cW;have cR2:col2 L.rg=k+1:=(ap.turns.same _ (HB.st.tres.lt)).trans colR;have k9:(wC.setCell ⟨L.rg,n*75+4,none⟩ (.slice A9 (nd+1) c9)).cell? ⟨w.heap.size,35,none⟩=some (.int .i64 (n:Int)):=qne (p:=(· ==k+1)) (col:=col2) x35 (Turns.setCell _ (by simp[cR2])) (by rw[cW2];simp);have hto:=AK.out;have sok:(s.setT n fun t=>{t with draws:=t.draws++[dr]}).Ok:=HS.out.setT (fun y hy o=>by
  rw[HT.out]at hy;injection hy with hy;subst hy;exact⟨o.state,o.tenant,o.weight,o.deficit,fun h=>⟨(o.live h).1,by simp⟩,by simp;have:=A0.out;omega,by
   intro x hx;rcases List.mem_append.1 hx with h|h
   · exact o.drawb x h
   have:=HS.out.draw;have:=AA.out;simp at h;omega,o.leaves,o.leafb,o.queue,o.queueb,o.hd,o.hdt,o.hde,o.hds⟩) (fun _ y _ h1 h2=>⟨h1,h2⟩)
 have ht2:(s.setT n fun t=>{t with draws:=t.draws++[dr]}).tres[n]? =some {t with draws:=t.draws++[dr]}:=qnc _ HT.out;have T9:=(Turns.of_below (inP k) AC.out).trans N3;have AD:=TT.out.turns T9 (qq7 HK.out) H.out.base;obtain⟨AE,AF,AG,A6,AH,A7,AP,AM⟩:=zh8 (qol c _ L col2 k g _ n _ _ HK.out HC.out sok N1 ht2 (by simp) AD) N2 T9 z9 k9 g2 cW2 sok;have AN:=zh1 ht2;clear N1 N2 N3 T9 AD z9 k9 g2 cW2 cR2 sok ht2 zC zB cW colR ap ap2 hi0 hz0 hz1 hz2 hr1 hrow HB hkk hto;refine⟨fun _=>(A1.out _).mpr ⟨x4,x5,x35⟩,?_⟩;try simp only[Act.put,tA0,tA1,tA2]
 iterate 2 (refine zrd rfl rfl (fun w1 hS=>by have g0:=F0.out w1 hS;clear hS;go_simp;try rfl) ?_;simp only[Act.put,tA0,tA1,tA2])
 clear x5 x35;refine qbj rfl rfl ?_;go_simp;refine qbg ?_;clear A1 F0 F1 x4 f4;obtain⟨W9,hW9⟩:=eqx (wC.setCell ⟨L.rg,n*75+4,none⟩ (.slice A9 (nd+1) c9));rw[←hW9]at AE AF AG A6 AH ⊢;clear hW9;have k35:=AH.out;go_wp2_with fail
 refine AE.out.mono ?_;rintro e W5 ⟨rfl,⟨css5,M5⟩,T5⟩;have sok2:=AM.out.pub c (n:=n) hn16;have ht5:((s.setT n fun t=>{t with draws:=t.draws++[dr]}).pub c n).tres[n]? =some _:=qnc _ AN.out;obtain⟨-,Ad5,cd5,Al5,cl5,Aq5,cq5,-,hcell5,-,-,-⟩:=M5.st.tree sok2 ht5;have e5:=hcell5 4 (.slice Ad5 (t.draws++[dr]).length cd5) rfl;rw[show (t.draws++[dr]).length=nd+1 by simp[A0.out]]at e5;have D5:Did w col W5 col2 k g c css s ((s.setT n fun t=>{t with draws:=t.draws++[dr]}).pub c n):=
  ⟨⟨L,css5,M5⟩,AF.out.keep fun i hi=>T5.keeps (by have:=HK.out;rcases this with rfl|rfl<;>simp<;>omega),AG.out.trans (T5.mono fun i hi=>(show i=k+1 by simpa using hi)▸(by unfold inP;simp))⟩
 have z5:Blk W5 (w.heap.size+1) 57 Tryz.zeroCells57:=(T5.block _ A6.out.lt (by rw[A7.out];simp)).trans A6.out;obtain⟨AO,AI⟩:=zh2 D5 z5;clear D5 z5 M5 T5 hcell5 ht5 sok2 k35;have v1:wrap64 (((nd+1:Nat):Int) - 1)=(nd:Int):=by rw[IntWalk.wrap64_in _ (by omega)];omega
 have v2:IntKind.i64.wrap (((nd+1:Nat):Int) - 1)=(nd:Int):=by rw[IntWalk.i64_in _ (by omega)];omega
 have v3:((nd:Int)+1) - 1=(nd:Int):=by omega
 go_wp2_with fail
 clear e5;refine(qpi nd W5 (by omega)).mono ?_;rintro e w9 ⟨rfl,b9⟩;obtain⟨X,hX,pk⟩:=qpn (qlz nd) Hd.zero_Ok (by simp[qlz,rWhy,qih,qft]);rw[hX];obtain⟨Z9,HX,DD⟩:=zh3 ((AI.out).below b9 (AI.out).lt) hX ((AO.out).call b9);clear hX b9;go_wp2_with (refine qpo (.tmp 6) (.tmp 137) (w.heap.size+1) X Z9.out pk ?_)
 exact qpp (Z9.out.setRow X.toArray) pk ⟨_,col2,rfl,(by rw[A3.out,←HX.out];exact RspV.plain _ _ _ _ rfl rfl rfl),(by (try rw[A3.out]);exact DD.out.row0 HK.out X.toArray (A7.out) (by omega))⟩
end
end Go.Proofs.YthomgopipiomhaaGreatDoor

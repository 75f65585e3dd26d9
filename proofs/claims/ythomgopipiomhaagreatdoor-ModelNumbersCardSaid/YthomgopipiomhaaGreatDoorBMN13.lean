/-
  Lemmas for ModelNumbers, shortened by program.
-/
import Derived.Test.YthomgopipiomhaaGreatDoorBMN12
namespace Go.Proofs.YthomgopipiomhaaGreatDoor
set_option linter.unusedVariables false
set_option linter.unusedSimpArgs false
set_option maxRecDepth 100000
set_option maxHeartbeats 32000000
section
open Go.RowKit
theorem Rd.blk {w:World}{B g:Nat}{bs:List Nat}{s:RSt}(h:Rd w B g bs s):∃cs,Blk w g 239 cs:=by
 obtain⟨A,n,c,p,hg,-⟩:=h;exact⟨_,hg⟩
theorem RspAt.read {w0 w w':World}{G B g:Nat}{bs:List Nat}{s:RSt}{R:Rsp}{bv hv cav:Value}(h:RspAt w0 w G R bv hv cav)(hg:w.grownBy w' (some g))(hr:Rd w B g bs s)(hne:g<G)(hlt:w0.heap.size<g):RspAt w0 w' G R bv hv cav:=by
 obtain⟨cs,hb⟩:=hr.blk;exact h.grown hg hb (by decide) (by decide) (by decide) (by omega) hlt
theorem xb5 (bs:List Nat)(A:Option Addr)(n c:Nat)(w:World)(hr:Reads w w.heap.size 1 A n (byv bs))(hn:n≤140737488355328)(hb:∀x∈bs,x<256)(hE:w.cell? ⟨0,0,none⟩=some (.iface 327 (.agg #[.pointer (some ⟨3,81,none⟩)]))):
 Calls Tryz.prog 29 #[.slice A n c] w fun e w'=>∃bv hv cav r,e=.returned (.tuple #[.agg (rspv (qim bs).2 bv hv cav).toArray,r])∧OwnB w' w.heap.size bv (qim bs).2.bytes∧OwnD w' w.heap.size hv (qim bs).2.hashes∧OwnC w' w.heap.size cav (qim bs).2.tok.2.1∧RErr w' w.heap.size r (qim bs).1∧Below w.heap.size w w':=by
 obtain⟨HB,HE,HR,R0⟩:=zh4 hb hE (hr.laid (.cells Tryz.zeroCells57 57)) (Blk.new w 57 Tryz.zeroCells57);have A5:Below w.heap.size w (w.alloc (.cells Tryz.zeroCells57 57)):=(tA5 _ _).alloc (tA4 _) _;obtain⟨W0,hW0⟩:=eqx (w.alloc (.cells Tryz.zeroCells57 57));rw[←hW0]at R0 HR A5;obtain⟨AJ,B0⟩:=zh2 hW0 A5;clear hE hr hW0 A5 hb;go_enter Tryz.func29,Tryz.ntmps29
 go_upto_region 1 with(fail)
 rw[←AJ.out];go_wp2_with fail
 refine(qf9 bs A n c W0 HR.out hn).mono ?_;rintro e w1 ⟨g,rfl,h1,b1⟩;obtain⟨B,hB⟩:=xeq W0.heap.size;have hBw:w.heap.size<B:=by rw[←hB];exact R0.out.lt
 rw[hB]at h1;have r1:=R0.out.below b1 R0.out.lt;have bl1:Below w.heap.size w w1:=B0.out.trans (b1.mono (by omega));have hBg:=h1.le;have hwg:w.heap.size<g:=by omega
 obtain⟨H1,Z1,AK⟩:=zh3 h1 r1 bl1;clear h1 r1 bl1 b1 hB R0 HR AJ B0;go_wp2_with fail
 refine(qfi B g bs (0,none) 1 w1 H1.out HB.out).mono ?_;rintro e w2 ⟨rfl,h2,g2⟩;have hl1:=qfh bs (0,none) 1 HB.out;rw[show qb0 1=1 from rfl]at h2 ⊢;obtain⟨⟨s1,k1⟩,hk1⟩:∃x,rNum bs (0,none) 1=x:=⟨_,rfl⟩;rw[hk1]at h2 hl1 ⊢;dsimp only at h2 hl1 ⊢;have k1b:k1<256:=Nat.lt_of_lt_of_eq hl1 (by decide);have kw:IntKind.i64.wrap (k1:Int)=k1:=IntWalk.i64_in _ (by omega);obtain⟨K1,H2,Z2,AL⟩:=zh4 (show rp1 bs=(s1,k1) from hk1) h2 (Z1.out.grown g2 (by simp;omega)) (adv AK.out g2 (by omega) H1.out.lt);clear hk1 hl1 h2 g2 H1 Z1 AK;go_wp2_with fail
 refine(qfi B g bs s1 8 w2 H2.out HB.out).mono ?_;rintro e w3 ⟨rfl,h3,g3⟩;have hl2:=qfh bs s1 8 HB.out;rw[show qb0 8=8 from rfl]at h3 ⊢;obtain⟨⟨s2,k2⟩,hk2⟩:∃x,rNum bs s1 8=x:=⟨_,rfl⟩;rw[hk2]at h3 hl2 ⊢;dsimp only at h3 hl2 ⊢;have k2b:k2<18446744073709551616:=Nat.lt_of_lt_of_eq hl2 (by decide);obtain⟨K2,H3,Z3,A6⟩:=zh4 (show rp2 bs=(s2,k2) by unfold rp2;rw[K1.out];exact hk2) h3 (Z2.out.grown g3 (by simp;omega)) (adv AL.out g3 (by omega) H2.out.lt);clear hk2 hl2 h3 g3 H2 Z2 AL;go_wp2_with fail
 refine(qgk B g bs s2 65536 w3 H3.out HB.out (by omega)).mono ?_;rintro e w4 ⟨v4,rfl,own4,h4,g4⟩;have hl3:=qgj bs s2 65536 HB.out;obtain⟨A4,n4,c4,rfl,-,-,-⟩:=own4.sl;obtain⟨⟨s3,k3⟩,hk3⟩:∃x,qgi bs s2 65536=x:=⟨_,rfl⟩;rw[hk3]at h4 own4 hl3;dsimp only at h4 own4 hl3;obtain⟨K3,H4,O4,Z4,A7,N4⟩:=zh6 (show rp3 bs=(s3,k3) by unfold rp3;rw[K2.out];exact hk3) h4 (own4.mono A6.out.size) (Z3.out.grown g4 (by simp;omega)) (adv A6.out g4 (by omega) H3.out.lt) (Blk.new w4 57 Tryz.zeroCells57);clear hk3 h4 g4 own4 H3 Z3 A6;have bD:=qp2 (k1:Int) (k2:Int) A4 n4 c4;have eD:rspv ⟨(k1:Int),k2,k3,[],Hd.zero,qft⟩ (.slice A4 n4 c4) (.slice none 0 0) (.slice none 0 0)=Value.int .i64 (k1:Int)::.int .u64 (k2:Int)::.slice A4 n4 c4::.slice none 0 0::(hdv Hd.zero++tokv qft.1 (.slice none 0 0) qft.2.2):=rfl;rw[←eD]at bD;have lD:=qp0 ⟨(k1:Int),k2,k3,[],Hd.zero,qft⟩ (.slice A4 n4 c4) (.slice none 0 0) (.slice none 0 0) (ql2 _ Hd.zero_Ok) (by simp[qft]);have oD:=qp1 ⟨(k1:Int),k2,k3,[],Hd.zero,qft⟩ (.slice A4 n4 c4) (.slice none 0 0) (.slice none 0 0) rfl rfl rfl;clear eD;obtain⟨D,hD⟩:=xeq (rspv ⟨(k1:Int),k2,k3,[],Hd.zero,qft⟩ (.slice A4 n4 c4) (.slice none 0 0) (.slice none 0 0));rw[hD]at bD lD oD;obtain⟨ID,BD,LD,OD,HD⟩:=zh5 (show (Tryz.prog.info? 57).map (·.size)=some D.toArray.size by rw[List.size_toArray,lD];exact Tryz.rsp_info) bD lD oD hD;clear bD lD oD hD;go_upto_region 3 with(first
  |(refine qbk rfl ⟨.agg D.toArray,qfq 57 _ rfl _ _ BD.out (by simp[Act.eval]),?_⟩)
  |(refine wpList_store_row rfl 57 (.tmp 5) (.tmp 19) rfl w4.heap.size D.toArray rfl rfl 57 _ N4.out ID.out (by simp[LD.out]) (by simpa using OD.out) ?_))
 obtain⟨w5,h5⟩:=eqx ((w4.alloc (.cells Tryz.zeroCells57 57)).setRow w4.heap.size D.toArray);rw[←h5];have b5:Below w4.heap.size w4 w5:=by rw[h5];exact below_setRow ((tA5 _ _).alloc (tA4 _) _) (tA4 _) _
 have q5:Blk w5 w4.heap.size 57 D.toArray:=by rw[h5];exact N4.out.setRow _
 have hgG:=H4.out.lt;obtain⟨G5,hG5⟩:=xeq w4.heap.size;rw[hG5]at q5 hgG ⊢;have H5:=zh1 (H4.out.below b5);have Q5:Hid (RspAt w w5 G5 ⟨(k1:Int),k2,k3,[],Hd.zero,qft⟩ (.slice A4 n4 c4) (.slice none 0 0) (.slice none 0 0)):=⟨by rw[HD.out];exact q5,O4.out.kept b5,OwnD.nil _ _,OwnC.nil _ _,Z4.out.below b5 Z4.out.lt,A7.out.trans (b5.mono A7.out.size)⟩;have hwG:w.heap.size<G5:=by omega
 clear h5 b5 q5 hG5 N4 Z4 A7 H4 O4 ID BD LD OD HD kw;go_wp2_with fail
 refine(qfi B g bs s3 1 w5 H5.out HB.out).mono ?_;rintro e w6 ⟨rfl,hw6,gw6⟩;have hlk4:=qfh bs s3 1 HB.out;rw[show qb0 1=1 from rfl]at hw6 ⊢;obtain⟨⟨s4,k4⟩,hkk4⟩:∃x,rNum bs s3 1=x:=⟨_,rfl⟩;rw[hkk4]at hw6 hlk4 ⊢;dsimp only at hw6 hlk4 ⊢;obtain⟨Kk4,Hw6,Qw6⟩:=zh3 hkk4 hw6 (Q5.out.read gw6 H5.out hgG hwg);clear hkk4 hw6 gw6;have k4b:k4<256:=Nat.lt_of_lt_of_eq hlk4 (by decide);have K4:=zh1 (show rp4 bs=(s4,k4) by unfold rp4;rw[K3.out];exact Kk4.out);clear hlk4 Kk4 H5 Q5;go_wp2_with fail
 go_loopw [22] (fun i wr=>∃(j:Nat) (s:RSt) (l:List (List Nat)) (hv:Value),j≤k4∧i=.int .u64 j∧l.length=j∧Hid (qij bs (k4 - j) s l=qij bs k4 s4 [])∧Hid (∀d∈l,d.length=32∧∀x∈d,x<256)∧Hid (Rd wr B g bs s)∧Hid (RspAt w wr G5 ⟨(k1:Int),k2,k3,l,Hd.zero,qft⟩ (.slice A4 n4 c4) hv (.slice none 0 0))) (fun i _=>k4 - (intOf i).toNat)
 case atStart=>exact⟨0,s4,[],.slice none 0 0,by omega,rfl,rfl,rfl,fun d hd=>(nomatch hd),Hw6.out,Qw6.out⟩
 case round=>
  clear Hw6 Qw6;obtain⟨j,s,l,hv,hj,rfl,hl,hdec,hdl,hrd,hq⟩:=hrel;by_cases hjm:j<k4
  ·
   have qk:(j:Int)<k4:=by omega
   go_upto_region 5 with(fail)
   obtain⟨Ah,nh,ch,rfl,-,-,-,-⟩:=hq.out.ho.sl;have q3:=hq.out.q.cell 3;rw[show (rspv ⟨(k1:Int),k2,k3,l,Hd.zero,qft⟩ (.slice A4 n4 c4) (.slice Ah nh ch) (.slice none 0 0)).toArray[3]? =some (.slice Ah nh ch) from rfl]at q3;have RN:=fun w h=>qfl B g bs s w h
   have ldg:=qfj bs s;have lbg:=qfk bs s HB.out;obtain⟨⟨s',d⟩,hd⟩:∃x,rDig bs s=x:=⟨_,rfl⟩;simp only[hd]at RN ldg lbg;obtain⟨AP,KD,A2,AQ⟩:=zh4 RN hd ldg lbg;clear RN hd ldg lbg;obtain⟨S,HS⟩:∃S:World→Prop,Hid (∀w',S w'=(w'.cell? ⟨G5,3,none⟩=some (.slice Ah nh ch))):=⟨_,fun _=>rfl⟩;refine zrs S 7 [(0,false),(1,false),(2,false),(3,true),(4,true),(5,true),(6,false),(7,true)] ((HS.out _).mpr q3) ?_;repeat(refine zrd rfl rfl (fun w1 hS=>by rw[HS.out]at hS;go_split_ands;go_simp;(try go_bits);try rfl) ?_;simp only[Act.put,tA0,tA1,tA2])
   refine qbj rfl rfl ?_;go_simp;refine(AP.out wr.drew (show Rd wr.drew B g bs s from hrd.out)).mono ?_;rintro e wb ⟨rfl,hbb,gb⟩;have Qb:=(hq.out.drew).read gb (show Rd wr.drew B g bs s from hrd.out) hgG hwg;have qb3:=Qb.q.cell 3;rw[show (rspv ⟨(k1:Int),k2,k3,l,Hd.zero,qft⟩ (.slice A4 n4 c4) (.slice Ah nh ch) (.slice none 0 0)).toArray[3]? =some (.slice Ah nh ch) from rfl]at qb3;refine⟨(HS.out _).mpr qb3,?_⟩;try simp only[Act.put,tA0,tA1,tA2]
   repeat(refine zrd rfl rfl (fun w1 hS=>by rw[HS.out]at hS;go_split_ands;go_simp;(try go_bits);try rfl) ?_;simp only[Act.put,tA0,tA1,tA2])
   refine qbj rfl rfl ?_;refine qqr (.tmp 27) rfl d A2.out rfl ?_;refine⟨fun _=>(HS.out _).mpr (qaj qb3 _),?_⟩;try simp only[Act.put,tA0,tA1,tA2]
   have rc:=qqt wb d A2.out;refine qbj rfl rfl ?_;refine qow (.tmp 25) (.tmp 28) rfl w.heap.size (.slice Ah nh ch) l rfl (Qb.ho.alloc _) _ 1 1 [d] rfl rfl (by simp[A2.out]) rc (by omega) (by rw[qar];have:=Qb.z.lt;omega) ?_;intro v9 wd od bd gd;obtain⟨A9,n9,c9,rfl,-,-,-,-⟩:=od.sl;have neo:=qa3 Qb.ho.2 Qb.q (by decide);have nez:=qa3 Qb.ho.2 Qb.z (by decide);have td:=(Qb.q.alloc (.cells (byv d).toArray 29)).grown gd (Ne.symm neo);have zd:=(Qb.z.alloc (.cells (byv d).toArray 29)).grown gd (Ne.symm nez);have td3:=td.cell 3;rw[show (rspv ⟨(k1:Int),k2,k3,l,Hd.zero,qft⟩ (.slice A4 n4 c4) (.slice Ah nh ch) (.slice none 0 0)).toArray[3]? =some (.slice Ah nh ch) from rfl]at td3;refine⟨fun _=>(HS.out _).mpr td3,?_⟩;try simp only[Act.put,tA0,tA1,tA2]
   repeat(refine zrd rfl rfl (fun w1 hS=>by rw[HS.out]at hS;go_split_ands;go_simp;(try go_bits);try rfl) ?_;simp only[Act.put,tA0,tA1,tA2])
   have td3f:=td.frozen 3;have hdd:=(hbb.below ((tA5 _ _).alloc (tA4 _) (.cells (byv d).toArray 29))).grownD (Qb.ho.alloc _) gd;have bld:Below w.heap.size w wd:=(qah Qb.bl _).trans bd;have bod:OwnB wd w.heap.size (.slice A4 n4 c4) k3:=World.ownsRow.kept (Qb.bo.alloc (.cells (byv d).toArray 29)) gd (qqu (Qb.bo.alloc (.cells (byv d).toArray 29)) (Qb.ho.alloc (.cells (byv d).toArray 29)).2 (by decide));refine qbj rfl rfl ?_;go_simp;refine qbg ?_;have gs:=qab (p:=⟨G5,3,none⟩) (World.grownBy.refl wd (some G5)) (.inl rfl) (.slice A9 n9 c9);have AR:=zh1 (hdd.kept gs td (by decide) (by decide) (by omega));have AS:Hid (RspAt w (wd.setCell ⟨G5,3,none⟩ (.slice A9 n9 c9)) G5 ⟨(k1:Int),k2,k3,l++[d],Hd.zero,qft⟩ (.slice A4 n4 c4) (.slice A9 n9 c9) (.slice none 0 0)):=by
    refine⟨?_,World.ownsRow.kept bod gs (.inr (qa3 bod td (by decide))),od.grown gs td (by decide),OwnC.nil _ _,zd.grown gs (fun e=>by injection e;omega),adv bld gs (by omega) td.lt⟩;have:=td.set_ 3 (.slice A9 n9 c9);rw[qox _ _ _ _ _ (l++[d])]at this;exact this
   have AT:Hid (qij bs (k4 - (j+1)) s' (l++[d])=qij bs k4 s4 []):=by
    show _=_;rw[←hdec.out,show k4 - j=(k4 - (j+1))+1 by omega];show _=qij bs (k4 - (j+1)) (rDig bs s).1 (l++[(rDig bs s).2]);rw[KD.out]
   have A8:Hid (∀x∈l++[d],x.length=32∧∀y∈x,y<256):=by
    intro x hx;rcases List.mem_append.1 hx with hx|hx
    · exact hdl.out x hx
    obtain rfl:=List.mem_singleton.1 hx;exact⟨A2.out,AQ.out⟩
   clear hdd bld bod gs td zd td3 td3f neo nez od bd gd Qb qb3 hbb gb rc q3;go_wp2
   go_roundw
   case rel=>exact⟨j+1,s',l++[d],.slice A9 n9 c9,by omega,by go_num,by rw[tA6];simp;omega,AT,A8,AR,AS⟩
   case measure=>simp[intOf];omega
  have qk:¬(j:Int)<k4:=by omega
  obtain rfl:j=k4:=by omega
  have hd:=hdec.out;rw[Nat.sub_self]at hd;have K5:=zh1 (show rp5 bs=(s,l) by unfold rp5;rw[K4.out];exact hd.symm);have AX:=hdl;clear hd hdec;go_wp2_with fail
  refine(qfi B g bs s 1 wr hrd.out HB.out).mono ?_;rintro e w7 ⟨rfl,hw7,gw7⟩;have hlk6:=qfh bs s 1 HB.out;rw[show qb0 1=1 from rfl]at hw7 ⊢;obtain⟨⟨s6,k6⟩,hkk6⟩:∃x,rNum bs s 1=x:=⟨_,rfl⟩;rw[hkk6]at hw7 hlk6 ⊢;dsimp only at hw7 hlk6 ⊢;obtain⟨Kk6,Hw7,Qw7⟩:=zh3 hkk6 hw7 (hq.out.read gw7 hrd.out hgG hwg);clear hkk6 hw7 gw7;have k6b:k6<256:=Nat.lt_of_lt_of_eq hlk6 (by decide);have K6:=zh1 (show rp6 bs=(s6,k6) by unfold rp6;rw[K5.out];exact Kk6.out);clear hlk6 Kk6 hrd hq;obtain⟨s7,hs7⟩:=eqx (if 3<k6 then qf6 s6 s6.1 12 else s6);obtain⟨AA,K7⟩:=zh2 hs7 (show rp7 bs=s7 by unfold rp7;rw[K6.out];exact hs7.symm);clear hs7;go_upto_if 35 with(fail)
  go_cut [] (fun wx=>Hid (Rd wx B g bs s7)∧Hid (RspAt w wx G5 ⟨(k1:Int),k2,k3,l,Hd.zero,qft⟩ (.slice A4 n4 c4) hv (.slice none 0 0)))
  case first=>
   by_cases h3:3<k6
   ·
    have q:(3:Int)<k6:=by omega
    have e7:=AA.out;rw[if_pos h3]at e7;subst e7;go_wp2_with fail
    refine(qfb B g bs s6 12 w7 Hw7.out (by decide)).mono ?_;rintro e wa ⟨rfl,ha,ga⟩;obtain⟨Ha,Qa⟩:=zh2 ha (Qw7.out.read ga Hw7.out hgG hwg);clear ha ga;go_wp2
    go_meet
    case rel=>exact⟨Ha,Qa⟩
   have q:¬(3:Int)<k6:=by omega
   have e7:=AA.out;rw[if_neg h3]at e7;subst e7;go_wp2
   go_meet
   case rel=>exact⟨Hw7,Qw7⟩
  case rest=>
   obtain⟨H8,Q8⟩:=hcut;obtain⟨w8,rfl⟩:=eqx wc;clear Hw7 Qw7 AA;obtain⟨b1,hb1⟩:=xeq (decide (k6 % 2=1));obtain⟨b2,hb2⟩:=xeq (decide (k6 / 2 % 2=1));obtain⟨AB,AC⟩:=zh2 hb1 hb2;clear hb1 hb2;obtain⟨⟨s8,hd8⟩,h8⟩:∃x:RSt × Hd,x=(if b1 then qik bs s7 else(s7,Hd.zero)):=⟨_,rfl⟩;obtain⟨AD,K8⟩:=zh2 h8 (show rp8 bs=(s8,hd8) by unfold rp8;rw[K6.out,K7.out,h8,←AB.out];simp);have AE:Hid ((hdv hd8).length=68):=by
    show _=_;have e:=congrArg Prod.snd h8;cases b1 with
    |true=>
     have e2:hd8=rhH bs s7:=e;rw[e2];exact ql2 _ (qio bs HB.out s7)
    |false=>
     have e2:hd8=Hd.zero:=e;rw[e2];exact ql2 _ Hd.zero_Ok
   clear h8;go_upto_region 10 with(fail)
   go_cut [40] (fun s wx=>s=.bool b1∧wx=w8)
   case first=>
    by_cases h1:k6 % 2=1
    · have eb:b1=true:=by rw[←AB.out];simp[h1]
      subst eb;have e1:bits .and .u64 (k6:Int) 1=1:=by rw[qp5 k6 (by omega),h1];rfl
      go_wp2
      go_meet
      case rel=>exact⟨rfl,rfl⟩
    have eb:b1=false:=by rw[←AB.out];simp[h1]
    subst eb;have e1:bits .and .u64 (k6:Int) 1=0:=by rw[qp5 k6 (by omega),show k6 % 2=0 from by omega];rfl
    go_wp2
    go_meet
    case rel=>exact⟨rfl,rfl⟩
   case rest=>
    obtain⟨rfl,rfl⟩:=hcut;obtain⟨w8,rfl⟩:=eqx wc;go_upto_if 40 with(fail)
    go_cut [] (fun wx=>Hid (Rd wx B g bs s8)∧Hid (RspAt w wx G5 ⟨(k1:Int),k2,k3,l,hd8,qft⟩ (.slice A4 n4 c4) hv (.slice none 0 0)))
    case first=>
     cases b1 with
     |true=>
      have e8:=AD.out;simp only[if_true]at e8;go_wp2_with fail
      refine(xb4 B g bs s7 w8 H8.out HB.out).mono ?_;rintro e w9 ⟨rfl,h9,g9⟩;have ok8:=qio bs HB.out s7;rw[show rhH bs s7=(qik bs s7).2 from rfl]at ok8;rw[←e8]at h9 ok8 ⊢;dsimp only at h9 ok8 ⊢;have q9:=Q8.out.read g9 H8.out hgG hwg;have lV:=ql2 hd8 ok8;have lR:=qp0 ⟨(k1:Int),k2,k3,l,Hd.zero,qft⟩ (.slice A4 n4 c4) hv (.slice none 0 0) (ql2 _ Hd.zero_Ok) (by simp[qft]);have qn:=RspAt.laid 4 (hdv hd8) hwG q9 (by rw[lR,lV];decide) (qoy _ _ _ _ hd8 (ql2 _ Hd.zero_Ok) lV) q9.bo q9.ho q9.co;have gs:=qf4 G5 (hdv hd8) 4 w9;obtain⟨H9,TH⟩:=zh2 (h9.kept gs q9.q (by decide) (by decide) (by omega)) (qf5 q9.q 4 68 (by rw[lR];decide));have oV:=qlm hd8;obtain⟨V,hV⟩:=xeq (hdv hd8);rw[hV]at lV qn gs H9 oV ⊢;obtain⟨QN,TH',IV,OV⟩:=zh4 qn (show w9.there G5 4 V.toArray.size by rw[List.size_toArray,lV];exact TH.out) (show (Tryz.prog.info? 55).map (·.size)=some V.toArray.size by rw[List.size_toArray,lV];exact Tryz.sig_info) (all_oneCell_toArray oV);clear e8 h9 g9 ok8 q9 lV lR qn gs TH oV hV;go_wp2_with (refine wpList_store_mid rfl 55 (.tmp 43) (.tmp 42) rfl G5 4 V.toArray rfl rfl TH'.out IV.out OV.out ?_)
      go_meet
      case rel=>exact⟨H9,QN⟩
     |false=>
      have e8:=AD.out;simp only[Bool.false_eq_true,if_false]at e8;injection e8 with e81 e82;subst e81;subst e82;go_wp2
      go_meet
      case rel=>exact⟨H8,Q8⟩
    case rest=>
     obtain⟨H9,Q9⟩:=hcut;obtain⟨w9,rfl⟩:=eqx wc;clear H8 Q8 AD;obtain⟨⟨s9,t9⟩,h9⟩:∃x:RSt × Tok,x=(if b2 then qil bs s8 else(s8,qft)):=⟨_,rfl⟩;obtain⟨AF,K9⟩:=zh2 h9 (show rp9 bs=(s9,t9) by unfold rp9;rw[K6.out,K8.out,h9,←AC.out];simp);clear h9;go_upto_region 12 with(fail)
     go_cut [46] (fun s wx=>s=.bool b2∧wx=w9)
     case first=>
      by_cases h2:k6 / 2 % 2=1
      · have eb:b2=true:=by rw[←AC.out];simp[h2]
        subst eb;have e2:bits .and .u64 (k6:Int) 2=2:=by rw[qp6 k6 (by omega),h2];rfl
        go_wp2
        go_meet
        case rel=>exact⟨rfl,rfl⟩
      have eb:b2=false:=by rw[←AC.out];simp[h2]
      subst eb;have e2:bits .and .u64 (k6:Int) 2=0:=by rw[qp6 k6 (by omega),show k6 / 2 % 2=0 from by omega];rfl
      go_wp2
      go_meet
      case rel=>exact⟨rfl,rfl⟩
     case rest=>
      obtain⟨rfl,rfl⟩:=hcut;obtain⟨w9,rfl⟩:=eqx wc;go_upto_if 46 with(fail)
      go_cut [] (fun wx=>∃cav:Value,Hid (Rd wx B g bs s9)∧Hid (RspAt w wx G5 ⟨(k1:Int),k2,k3,l,hd8,t9⟩ (.slice A4 n4 c4) hv cav))
      case first=>
       cases b2 with
       |false=>
        have e9:=AF.out;simp only[Bool.false_eq_true,if_false]at e9;injection e9 with e91 e92;subst e91;subst e92;go_wp2
        go_meet
        case rel=>exact⟨_,H9,Q9⟩
       |true=>
        have e9:=AF.out;simp only[if_true]at e9;go_wp2_with fail
        refine(qgk B g bs s8 65536 w9 H9.out HB.out (by omega)).mono ?_;rintro e wa ⟨va,rfl,owna,ha,ga⟩;obtain⟨Aa,na,ca,rfl,nca,mca,rda⟩:=owna.sl;have raw:=qgj bs s8 65536 HB.out;have hle:=qi5 bs s8 65536 HB.out;have hln:=qb5 rda;have qa:=Q9.out.read ga H9.out hgG hwg;have hDE:=qg9 (qgi bs s8 65536).2 Aa na ca wa rda (by omega) raw ((qa.bl.cell (p:=⟨0,0,none⟩) (World.block_lt_of_cell? _ _ HE.out)).trans HE.out);have hrt:qil bs s8=(if (qg4 (qgi bs s8 65536).2).1=none∧(qg4 (qgi bs s8 65536).2).2≠qft then(qgi bs s8 65536).1 else qf6 (qgi bs s8 65536).1 (qgi bs s8 65536).1.1 12,(qg4 (qgi bs s8 65536).2).2):=rfl;rw[←e9]at hrt;have hok:=(qgt (qgi bs s8 65536).2 raw).1;obtain⟨⟨E,T⟩,hET⟩:∃x,qg4 (qgi bs s8 65536).2=x:=⟨_,rfl⟩;rw[hET]at hDE hrt hok;dsimp only at hDE hrt hok;obtain⟨sa,hsa⟩:=xeq ((qgi bs s8 65536).1);rw[hsa]at ha hrt;injection hrt with hr1 hr2;rw[←hr2]at hDE hok hr1;obtain⟨AM,A3,AG,HA,QA⟩:=zh5 hDE hok hr1 ha qa;clear e9 raw hle hln hDE hok hET hsa hr1 hr2 ha ga qa rda owna;go_wp2_with fail
        refine AM.out.mono ?_;rintro e wb ⟨cav,er,rfl,ownb,her,bb⟩;obtain⟨Ac,nc,cc,rfl,enc,ncc,mcc,rdc⟩:=OwnC.sl ownb;have hb:=HA.out.below bb;have qb:=QA.out.below bb;have ownb':OwnC wb w.heap.size (.slice Ac nc cc) t9.2.1:=OwnC.mono ownb QA.out.bl.size;have lV:=qer t9.1 (.slice Ac nc cc) t9.2.2 A3.out.2.2.1;have oV:=qf3 t9.1 (.slice Ac nc cc) rfl t9.2.2;have knone:∀w',Calls Tryz.prog 75 #[.agg (tokv t9.1 (.slice Ac nc cc) t9.2.2).toArray] w' fun e w''=>e=.returned (.bool (decide (t9=qft)))∧Below w'.heap.size w' w'':=fun w'=>by
         have:=qln t9.1 Ac nc cc t9.2.2 w' A3.out.2.2.1 A3.out.2.2.2;have hzt:(t9.1=0∧nc=0∧t9.2.2=List.replicate 32 0) ↔ t9=qft:=by
          rw[enc];obtain⟨a,b,c⟩:=t9;simp[qft,List.length_eq_zero_iff]
         simp only[hzt]at this;exact this
        have hst:=fun R bv hv (h1:(hdv R.hd).length=68) (h2:R.tok.2.2.length=32)=>qoz R bv hv (.slice none 0 0) t9 (.slice Ac nc cc) h1 h2 A3.out.2.2.1
        obtain⟨V,hV⟩:=xeq (tokv t9.1 (.slice Ac nc cc) t9.2.2);rw[hV]at lV oV ⊢;simp only[hV]at knone hst;obtain⟨KN,AU,Z,IV,IV',OV,LV,AH⟩:=zh8 knone hst (Blk.new wb 31 zLT) (zI 31 lV) (show (Tryz.prog.info? 31).map (·.size)=some V.toArray.size by rw[List.size_toArray,lV];exact Tryz.tok_info) (all_oneCell_toArray oV) lV her;obtain⟨HB',QB,AN⟩:=zh3 hb qb ownb';clear knone hst lV oV hV her hb qb ownb ownb' rdc enc ncc mcc bb;go_upto_region 14 with(refine wpList_store_row rfl 31 (.tmp 7) (.tmp 51) rfl wb.heap.size V.toArray rfl rfl 31 _ Z.out IV'.out (by simp[LV.out]) OV.out ?_)
        obtain⟨wd,hwd⟩:=eqx ((wb.alloc (.cells zLT 31)).setRow wb.heap.size V.toArray);rw[←hwd];have td:Blk wd wb.heap.size 31 V.toArray:=by rw[hwd];exact Z.out.setRow _
        have bd:Below wb.heap.size wb wd:=by rw[hwd];exact below_setRow ((tA5 _ _).alloc (tA4 _) _) (tA4 _) _
        obtain⟨g7,hg7⟩:=xeq wb.heap.size;obtain⟨HD',QD,AI⟩:=zh3 (HB'.out.below bd) (QB.out.below bd) (AN.out.kept bd);have hg7w:w.heap.size<g7:=by have:=QB.out.z.lt;omega
        have hg7g:g<g7:=by have:=HB'.out.lt;omega
        rw[hg7]at td ⊢;obtain⟨TD,RG⟩:=zh2 td (qap td 0 V (fun j u h=>by simpa using h));clear hwd bd hg7 td Z HB' QB AN;obtain⟨b3,hb3⟩:=xeq (E.isSome||decide (t9=qft));have A1:=zh1 hb3;clear hb3;go_cut [58] (fun s wx=>s=.bool b3∧Hid (Rd wx B g bs sa)∧Hid (RspAt w wx G5 ⟨(k1:Int),k2,k3,l,hd8,qft⟩ (.slice A4 n4 c4) hv (.slice none 0 0))∧Hid (Blk wx g7 31 V.toArray)∧Hid (OwnC wx w.heap.size (.slice Ac nc cc) t9.2.1))
        case first=>
         cases E with
         |none=>
          have he:er=.nilIface:=AH.out;subst he;have e3:=A1.out;simp only[Option.isSome_none,Bool.false_or]at e3;have AV:=zh1 e3;clear e3;go_wp2_with (refine qaq rfl 31 (.tmp 7) rfl g7 0 rfl V _ RG.out Tryz.underlying31 rfl IV.out ?_)
          refine(KN.out wd).mono ?_;rintro e we ⟨rfl,be⟩;rw[AV.out];obtain⟨HE',QE,TE,OE⟩:=zh4 (HD'.out.below be) (QD.out.below be) (TD.out.below be TD.out.lt) (AI.out.kept be);clear be;go_wp2
          go_meet
          case rel=>exact⟨rfl,HE',QE,TE,OE⟩
         |some x=>
          obtain⟨hh,he,-,-⟩:=AH.out;subst he;have e3:=A1.out;simp only[Option.isSome_some,Bool.true_or]at e3;subst e3;go_wp2
          go_meet
          case rel=>exact⟨rfl,HD',QD,TD,AI⟩
        case rest=>
         obtain⟨rfl,H1,Q1,T1,O1⟩:=hcut;obtain⟨we,rfl⟩:=eqx wc;clear HD' QD TD AI AH RG KN AM HA QA;go_upto_if 58 with(fail)
         go_cut [] (fun wx=>Hid (Rd wx B g bs s9)∧Hid (RspAt w wx G5 ⟨(k1:Int),k2,k3,l,hd8,qft⟩ (.slice A4 n4 c4) hv (.slice none 0 0))∧Hid (Blk wx g7 31 V.toArray)∧Hid (OwnC wx w.heap.size (.slice Ac nc cc) t9.2.1))
         case first=>
          cases b3 with
          |true=>
           have e1:=AG.out;rw[if_neg (by
            intro h;have:=A1.out;rw[h.1]at this;simp[h.2]at this)]at e1
           subst e1;go_wp2_with fail
           refine(qfb B g bs sa 12 we H1.out (by decide)).mono ?_;rintro e wf ⟨rfl,hf,gf⟩;obtain⟨HF,QF,TF⟩:=zh3 hf (Q1.out.read gf H1.out hgG hwg) (T1.out.grown gf (by simp;omega));have OF:=zh1 (show OwnC wf w.heap.size (.slice Ac nc cc) t9.2.1 from World.ownsRow.kept O1.out gf (.inr (fun e=>by
            obtain⟨A',n',c',p',hgb,-⟩:=H1.out;exact qa3 O1.out hgb (by decide) e)))
           clear hf gf;go_wp2
           go_meet
           case rel=>exact⟨HF,QF,TF,OF⟩
          |false=>
           have e1:=AG.out;rw[if_pos (by
            have:=A1.out;simp only[Bool.or_eq_false_iff,Option.isSome_eq_false_iff,Option.isNone_iff_eq_none,decide_eq_false_iff_not]at this;exact this)]at e1
           subst e1;go_wp2
           go_meet
           case rel=>exact⟨H1,Q1,T1,O1⟩
         case rest=>
          obtain⟨HF,QF,TF,OF⟩:=hcut;obtain⟨wf,rfl⟩:=eqx wc;clear H1 Q1 T1 O1 AG A1;have AW:=zh1 (qap TF.out 0 V (fun j u h=>by simpa using h));have lR:=qp0 ⟨(k1:Int),k2,k3,l,hd8,qft⟩ (.slice A4 n4 c4) hv (.slice none 0 0) AE.out (by simp[qft]);obtain⟨TH,QN,HN⟩:=zh3 (show wf.there G5 72 V.toArray.size by rw[List.size_toArray,LV.out];exact qf5 QF.out.q 72 34 (by rw[lR];decide)) (RspAt.laid 72 V hwG QF.out (by rw[lR,LV.out];decide) (AU.out ⟨(k1:Int),k2,k3,l,hd8,qft⟩ (.slice A4 n4 c4) hv AE.out (by simp[qft])) QF.out.bo QF.out.ho OF.out) (HF.out.kept (qf4 G5 V 72 wf) QF.out.q (by decide) (by decide) (by omega));clear lR;go_wp2_with (first
           |(refine qaq rfl 31 (.tmp 7) rfl g7 0 rfl V _ AW.out Tryz.underlying31 rfl IV.out ?_)
           |(refine wpList_store_mid rfl 31 (.tmp 62) (.tmp 61) rfl G5 72 V.toArray rfl rfl TH.out IV'.out OV.out ?_))
          go_meet
          case rel=>exact⟨_,HN,QN⟩
      case rest=>
       obtain⟨cav,HA,QA⟩:=hcut;obtain⟨wa,rfl⟩:=eqx wc;clear H9 Q9 AF AE;have AO:Hid (rpR bs=⟨(k1:Int),k2,k3,l,hd8,t9⟩):=by
        show _=_;unfold rpR;rw[K1.out,K2.out,K3.out,K5.out,K8.out,K9.out]
       have EC:=zh1 (qgl B g bs s9 wa HA.out ((QA.out.bl.cell (p:=⟨0,0,none⟩) (World.block_lt_of_cell? _ _ HE.out)).trans HE.out));go_wp2_with fail
       refine EC.out.mono ?_;rintro e wd ⟨er2,rfl,hed,bd⟩;have QD:=zh1 (QA.out.below bd);have hsz:=QA.out.bl.size;have hzl:=QA.out.z.lt;clear bd HA QA EC;cases hend:rEnd bs s9 with
       |none=>
        rw[hend]at hed;have e0:er2=.nilIface:=hed;subst e0;have A0:Hid (qim bs=(none,⟨(k1:Int),k2,k3,l,hd8,t9⟩)):=by
         show _=_;unfold qim;rw[K9.out];dsimp only;rw[hend];dsimp only;rw[AO.out]
        have hok:=qip bs HB.out;rw[AO.out]at hok;obtain⟨Ah,nh,ch,rfl,-,-,-,-⟩:=QD.out.ho.sl;obtain⟨Ac,nc,cc,rfl,-,-,-,-⟩:=OwnC.sl QD.out.co;have qd:=QD.out.q;have lR:=qlg ⟨(k1:Int),k2,k3,l,hd8,t9⟩ (.slice A4 n4 c4) (.slice Ah nh ch) (.slice Ac nc cc) hok;have oR:=qp1 ⟨(k1:Int),k2,k3,l,hd8,t9⟩ (.slice A4 n4 c4) (.slice Ah nh ch) (.slice Ac nc cc) rfl rfl rfl;obtain⟨M,hM⟩:=xeq (rspv ⟨(k1:Int),k2,k3,l,hd8,t9⟩ (.slice A4 n4 c4) (.slice Ah nh ch) (.slice Ac nc cc));rw[hM]at qd oR lR;obtain⟨RG,IM,IM',LM,OM,EM⟩:=zh6 (qap qd 0 M (fun j u h=>by simpa using h)) (zI 57 lR) (show (Tryz.prog.info? 57).map (·.size)=some M.toArray.size by rw[List.size_toArray,lR];exact Tryz.rsp_info) lR oR hM;clear lR oR hM hend hok qd hed;go_wp2_with (first
         |(refine qaq rfl 57 (.tmp 5) rfl G5 0 rfl M _ RG.out Tryz.underlying57 rfl IM.out ?_)
         |(refine wpList_store_row rfl 57 (.tmp 2) (.tmp 69) rfl w.heap.size M.toArray rfl rfl 57 _ QD.out.z IM'.out (by simp[LM.out]) (by simpa using OM.out) ?_))
        have z:=QD.out.z.setRow M.toArray;refine bodyPost_ret (qfu rfl rfl (qp4 z LM.out)) rfl ⟨.slice A4 n4 c4,.slice Ah nh ch,.slice Ac nc cc,.nilIface,?_,?_,?_,?_,?_,?_⟩
        · rw[A0.out,EM.out]
          rfl
        · rw[A0.out]
          exact World.ownsRow.kept QD.out.bo (qam _ _ _) (.inr (qa3 QD.out.bo QD.out.z (by decide)))
        · rw[A0.out]
          exact QD.out.ho.grown (qam _ _ _) QD.out.z (by decide)
        · rw[A0.out]
          exact World.ownsRow.kept QD.out.co (qam _ _ _) (.inr (qa3 QD.out.co QD.out.z (by decide)))
        · rw[A0.out]
          rfl
        exact below_setRow QD.out.bl (tA4 _) _
       |some x=>
        rw[hend]at hed;obtain⟨hh,rfl,hhB,hkb⟩:=hed;have A0:Hid (qim bs=(some x,qih)):=by
         show _=_;unfold qim;rw[K9.out];dsimp only;rw[hend]
        have HK:=zh1 hkb;have bz:=qp3;have lZ:=qlg qih (.slice none 0 0) (.slice none 0 0) (.slice none 0 0) qiq;have oZ:=qp1 qih (.slice none 0 0) (.slice none 0 0) (.slice none 0 0) rfl rfl rfl;obtain⟨M,hM⟩:=xeq (rspv qih (.slice none 0 0) (.slice none 0 0) (.slice none 0 0));rw[hM]at bz lZ oZ;obtain⟨IM',LM,OM,EM,BZ⟩:=zh5 (show (Tryz.prog.info? 57).map (·.size)=some M.toArray.size by rw[List.size_toArray,lZ];exact Tryz.rsp_info) lZ oZ hM bz;clear hend hkb bz lZ oZ hM;go_wp2_with (first
         |(refine qbk rfl ⟨.agg M.toArray,qfq 57 _ rfl _ _ BZ.out (by simp[Act.eval]),?_⟩)
         |(refine wpList_store_row rfl 57 (.tmp 2) (.tmp 67) rfl w.heap.size M.toArray rfl rfl 57 _ QD.out.z IM'.out (by simp[LM.out]) (by simpa using OM.out) ?_))
        have z:=QD.out.z.setRow M.toArray;have hne:hh≠w.heap.size:=by omega
        refine bodyPost_ret (qfu rfl rfl (qp4 z LM.out)) rfl ⟨.slice none 0 0,.slice none 0 0,.slice none 0 0,.iface 237 (.pointer (some ⟨hh,0,none⟩)),?_,?_,?_,?_,?_,?_⟩
        · rw[A0.out,EM.out]
          rfl
        · rw[A0.out]
          exact OwnB.nil _ _
        · rw[A0.out]
          exact OwnD.nil _ _
        · rw[A0.out]
          exact OwnC.nil _ _
        · rw[A0.out]
          exact⟨hh,rfl,Nat.le_trans hsz hhB,HK.out.setRow_far hne _⟩
        exact below_setRow QD.out.bl (tA4 _) _
end
end Go.Proofs.YthomgopipiomhaaGreatDoor

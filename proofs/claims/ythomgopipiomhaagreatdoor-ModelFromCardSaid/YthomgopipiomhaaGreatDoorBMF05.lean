/- Lemmas. -/
import Derived.Test.YthomgopipiomhaaGreatDoorBMF04
namespace Go.Proofs.YthomgopipiomhaaGreatDoor
open Go.RowKit
set_option linter.unusedVariables false
set_option linter.unusedSimpArgs false
set_option maxRecDepth 100000
set_option maxHeartbeats 32000000
variable {i base b n k id c' N g:Nat}{bs:List Nat}{v vi vo vi' vo':Value}{w w':World}{Q:Exit→Act→World→Prop}{a:Act}{o oi:Oper}{rest l:List Oper}{A:Option Addr}
theorem qyu(g n cc:Nat)(A:Option Addr)(bs:List Nat)(s0:St)(w:World)(hS2:s0.ok)(hb:bs.length=n)(hn:64≤n)(hb2:∀b∈bs,b<256)
 (hT:RTab w g)(hr:Reads w w.heap.size 1 A n (byv bs)):
 Zc 193 #[.pointer (some ⟨g,0,none⟩),.agg #[.int .u32 s0.a,.int .u32 s0.b,.int .u32 s0.c,.int .u32 s0.d,.int .u32 s0.e,.int .u32 s0.f,.int .u32 s0.g,.int .u32 s0.h],.slice A n cc] w fun e w'=>e=.returned (.agg (mixed bs s0).vals)∧Below w.heap.size w w':=by
 have hb2':∀b,b∈bs→b<256:=hb2;obtain⟨gb,ob,rfl,hadB,hr⟩:=hr.mid zo zo;obtain⟨W0,hW0⟩:=eqx (((w.alloc (.cells #[.int .u32 s0.a,.int .u32 s0.b,.int .u32 s0.c,.int .u32 s0.d,.int .u32 s0.e,.int .u32 s0.f,.int .u32 s0.g,.int .u32 s0.h] 209)).alloc (.cells #[.int .u32 0,.int .u32 0,.int .u32 0,.int .u32 0,.int .u32 0,.int .u32 0,.int .u32 0,.int .u32 0] 209)).alloc (.cells #[.int .u32 0,.int .u32 0,.int .u32 0,.int .u32 0,.int .u32 0,.int .u32 0,.int .u32 0,.int .u32 0,.int .u32 0,.int .u32 0,.int .u32 0,.int .u32 0,.int .u32 0,.int .u32 0,.int .u32 0,.int .u32 0,.int .u32 0,.int .u32 0,.int .u32 0,.int .u32 0,.int .u32 0,.int .u32 0,.int .u32 0,.int .u32 0,.int .u32 0,.int .u32 0,.int .u32 0,.int .u32 0,.int .u32 0,.int .u32 0,.int .u32 0,.int .u32 0,.int .u32 0,.int .u32 0,.int .u32 0,.int .u32 0,.int .u32 0,.int .u32 0,.int .u32 0,.int .u32 0,.int .u32 0,.int .u32 0,.int .u32 0,.int .u32 0,.int .u32 0,.int .u32 0,.int .u32 0,.int .u32 0,.int .u32 0,.int .u32 0,.int .u32 0,.int .u32 0,.int .u32 0,.int .u32 0,.int .u32 0,.int .u32 0,.int .u32 0,.int .u32 0,.int .u32 0,.int .u32 0,.int .u32 0,.int .u32 0,.int .u32 0,.int .u32 0] 208));obtain⟨gh,hgh⟩:=xeq w.heap.size;obtain⟨gr,hgr⟩:=xeq (w.heap.size+1);obtain⟨gw,hgw⟩:=xeq (w.heap.size+1+1);have bh0:Blk W0 gh 209 #[.int .u32 s0.a,.int .u32 s0.b,.int .u32 s0.c,.int .u32 s0.d,.int .u32 s0.e,.int .u32 s0.f,.int .u32 s0.g,.int .u32 s0.h]:=by rw[hW0,←hgh];exact((Blk.new w _ _).alloc _).alloc _
 have br0:Blk W0 gr 209 #[.int .u32 0,.int .u32 0,.int .u32 0,.int .u32 0,.int .u32 0,.int .u32 0,.int .u32 0,.int .u32 0]:=by
  have h:=Blk.new (w.alloc (.cells #[.int .u32 s0.a,.int .u32 s0.b,.int .u32 s0.c,.int .u32 s0.d,.int .u32 s0.e,.int .u32 s0.f,.int .u32 s0.g,.int .u32 s0.h] 209)) 209 #[.int .u32 0,.int .u32 0,.int .u32 0,.int .u32 0,.int .u32 0,.int .u32 0,.int .u32 0,.int .u32 0];rw[qar]at h;rw[hW0,←hgr];exact h.alloc _
 have bw0:Blk W0 gw 208 (qbp (qbv (qbr bs 0))).toArray:=by
  have h:=Blk.new ((w.alloc (.cells #[.int .u32 s0.a,.int .u32 s0.b,.int .u32 s0.c,.int .u32 s0.d,.int .u32 s0.e,.int .u32 s0.f,.int .u32 s0.g,.int .u32 s0.h] 209)).alloc (.cells #[.int .u32 0,.int .u32 0,.int .u32 0,.int .u32 0,.int .u32 0,.int .u32 0,.int .u32 0,.int .u32 0] 209)) 208 (qbp (qbv (qbr bs 0))).toArray;rw[qar,qar]at h;rw[hW0,←hgw];exact h
 have B0:=zMc hW0;have T0:RTab W0 g:=Blk.below hT B0 (Blk.lt hT);have glt:g<gh:=by rw[←hgh];exact Blk.lt hT
 have hadB':gb<gh:=by rw[←hgh];exact hadB
 have hrw:gr<gw:=zo;have hhr:gh<gr:=zo;have hgw0:gw<W0.heap.size:=bw0.lt;obtain⟨A0,AB,AC,A8,AD,AE,AF,AG⟩:=zh8 hgh hgr hgw B0 bw0 bh0 br0 T0;clear hT hgh hgr hgw;go_enter Tryz.func193,Tryz.ntmps193
 go_upto_region 3 with(fail)
 rw[←hW0,show w.heap.size+1+1=gw from AC.o,show w.heap.size+1=gr from AB.o,show w.heap.size=gh from A0.o];clear hW0 B0 bw0 bh0 br0 T0;go_loopw [8] (fun i wr=>∃k:Nat,k≤16∧i=.int .i64 k∧Blk wr gw 208 (qbp (qbv (qbr bs k))).toArray∧Below gw W0 wr) (fun i _=>16 - (intOf i).toNat)
 case atStart=>exact⟨0,by omega,rfl,AD.o,tA5 _ _⟩
 case round=>
  obtain⟨k,hk,rfl,hw,hbl⟩:=hrel;have hbl0:Below w.heap.size w wr:=A8.trans (hbl.mono (by rw[A0.o];omega));by_cases h16:k<16
  ·
   have hwc:=hw.cell k;rw[qbw (qbs bs k) zo]at hwc;have hwf:=hw.frozen k;have hk64:k<64:=zo;have h16':k<16:=h16;obtain⟨j,hj⟩:=xeq (4*k);obtain⟨b0,q0,e0⟩:=qcf hr hb hbl0 (tA4 _) hadB (j:=j) zo;obtain⟨b1,q1,e1⟩:=qcf hr hb hbl0 (tA4 _) hadB (j:=j+1) zo;obtain⟨b2,q2,e2⟩:=qcf hr hb hbl0 (tA4 _) hadB (j:=j+2) zo;obtain⟨b3,q3,e3⟩:=qcf hr hb hbl0 (tA4 _) hadB (j:=j+3) zo;obtain⟨a1,a2,a3,l3,j60,hm,⟨w1,w2,w3⟩,⟨p0,p1,p2,p3⟩,⟨t1,t2,t3⟩,⟨v0,v1,v2,v3⟩,⟨x0,x1,x2,x3⟩,⟨y0,y1,y2⟩,⟨n2,n3⟩,⟨o1,o2,o3⟩,k64,k16⟩:=qcg hb2 hn hj h16 q0 q1 q2 q3;obtain⟨L3,HJ⟩:=zh2 l3 hj;clear q0 q1 q2 q3 l3 hj hr;go_wp2_with fail
   go_still_tail 35,zk
   change wpList _ _ _ _ _ wr.drew;go_wp2
   go_roundw
   case rel=>
    refine⟨k+1,by omega,by go_num,?_,?_⟩
    · rw[qbr,←qbx (qbs bs k) hk64,qbq,if_pos h16',←L3.o]
      exact hw.drew.set_ k _
    exact hbl.drew.setCell (tA4 _) _
   case measure=>simp[intOf];omega
  have k16:¬(k:Int)<16:=zo;have hk':k=16:=zo;rw[hk']at hw;obtain⟨W1,rfl⟩:=eqx wr;obtain⟨AH,AI⟩:=zh2 hw hbl;have l1:W0.heap.size≤W1.heap.size:=hbl.size;clear hw hbl hbl0 hr hk hk' h16;go_wp2_with fail
  go_loopw [9,10,11] (fun i _ _ wr=>∃k:Nat,16≤k∧k≤64∧i=.int .i64 k∧Blk wr gw 208 (qbp (qbv (qbr bs k))).toArray∧Below gw W0 wr) (fun i _ _ _=>64 - (intOf i).toNat)
  case atStart=>exact⟨16,by omega,by omega,rfl,AH.o,AI.o⟩
  case round=>
   obtain⟨k,h16,hk,rfl,hw,hbl⟩:=hrel;by_cases hk64:k<64
   ·
    obtain⟨m2,m7,m15,m16,x2,x7,x15,x16,hwx,⟨e2,e7,e15,e16,ek⟩,⟨u2,u7,u15,u16⟩,⟨i2,i7,i15,i16⟩,⟨q2,q7,q15,q16,qk⟩,z2,z7,z15,z16⟩:=qch hb2 zo hk64;have c2:=(hw.cell m2).trans e2;have c7:=(hw.cell m7).trans e7;have c15:=(hw.cell m15).trans e15;have c16:=(hw.cell m16).trans e16;have hwc:=(hw.cell k).trans ek;have hwf:=hw.frozen k;have AJ:=zh1 hwx;clear hwx e2 e7 e15 e16 ek;obtain⟨r17,A1⟩:=xeq (rotr x2 17);obtain⟨r19,A2⟩:=xeq (rotr x2 19);obtain⟨r7,R7⟩:=xeq (rotr x15 7);obtain⟨r18,A3⟩:=xeq (rotr x15 18);have b17:r17<4294967296:=A1▸qbk _ _ u2;have b19:r19<4294967296:=A2▸qbk _ _ u2;have b7:r7<4294967296:=R7▸qbk _ _ u15;have b18:r18<4294967296:=A3▸qbk _ _ u15;obtain⟨p1,hp1,op1⟩:∃p:Nat,p=(r17^^^r19)∧bits .xor .u32 (r17:Int) (r19:Int)=p:=⟨_,rfl,u32_xor_nat _ _ b17 b19⟩;have lp1:p1<4294967296:=by rw[hp1];exact Nat.xor_lt_two_pow (n:=32) zo zo
    obtain⟨p2,hp2,op2⟩:∃p:Nat,p=(p1^^^x2 / 2^10)∧bits .xor .u32 (p1:Int) ((x2:Int) / 1024)=p:=⟨_,rfl,by
     rw[show ((x2:Int) / 1024)=((x2 / 2^10:Nat):Int) by push_cast;rfl];exact u32_xor_nat _ _ lp1 (Nat.lt_of_le_of_lt (Nat.div_le_self _ _) u2)⟩
    obtain⟨p3,hp3,op3⟩:∃p:Nat,p=(r7^^^r18)∧bits .xor .u32 (r7:Int) (r18:Int)=p:=⟨_,rfl,u32_xor_nat _ _ b7 b18⟩;have lp3:p3<4294967296:=by rw[hp3];exact Nat.xor_lt_two_pow (n:=32) zo zo
    obtain⟨p4,hp4,op4⟩:∃p:Nat,p=(p3^^^x15 / 2^3)∧bits .xor .u32 (p3:Int) ((x15:Int) / 8)=p:=⟨_,rfl,by
     rw[show ((x15:Int) / 8)=((x15 / 2^3:Nat):Int) by push_cast;rfl];exact u32_xor_nat _ _ lp3 (Nat.lt_of_le_of_lt (Nat.div_le_self _ _) u15)⟩
    have AK:Hid (sig1 x2=p2):=zh1 (by unfold sig1;rw[A1,A2,hp2,hp1]);have A4:Hid (sig0 x15=p4):=zh1 (by unfold sig0;rw[R7,A3,hp4,hp3]);have K1:∀w,Zc 228 #[.int .u32 x2,.int .u64 17] w fun e w'=>e=.returned (.int .u32 (r17:Nat))∧w=w':=fun w=>A1▸qyr x2 17 w u2 zo zo
    have K2:∀w,Zc 228 #[.int .u32 x2,.int .u64 19] w fun e w'=>e=.returned (.int .u32 (r19:Nat))∧w=w':=fun w=>A2▸qyr x2 19 w u2 zo zo
    have K3:∀w,Zc 228 #[.int .u32 x15,.int .u64 7] w fun e w'=>e=.returned (.int .u32 (r7:Nat))∧w=w':=fun w=>R7▸qyr x15 7 w u15 zo zo
    have K4:∀w,Zc 228 #[.int .u32 x15,.int .u64 18] w fun e w'=>e=.returned (.int .u32 (r18:Nat))∧w=w':=fun w=>A3▸qyr x15 18 w u15 zo zo
    obtain⟨AL,A5⟩:=zh2 hw hbl;clear A1 A2 R7 A3 hp1 hp2 hp3 hp4 hw hbl;go_upto_region 11 with(fail)
    go_region_held3 (fun w'=>w'.cell? ⟨gw,m7,none⟩=some (.int .u32 x7)∧w'.cell? ⟨gw,m16,none⟩=some (.int .u32 x16))
     (first|exact⟨c7,c16⟩|exact⟨qbz z7 c7,qbz z16 c16⟩)
     (first|(go_at_call 228;(with_reducible refine(K1 _).mono ?_);rintro e w2 ⟨rfl,rfl⟩;go_split_ands)|(go_at_call 228;(with_reducible refine(K2 _).mono ?_);rintro e w2 ⟨rfl,rfl⟩;go_split_ands)|(go_at_call 228;(with_reducible refine(K3 _).mono ?_);rintro e w2 ⟨rfl,rfl⟩;go_split_ands)|(go_at_call 228;(with_reducible refine(K4 _).mono ?_);rintro e w2 ⟨rfl,rfl⟩;go_split_ands))
    all_goals
     go_wp2
     go_roundw
     case rel=>
      refine⟨k+1,by omega,by omega,by go_num,?_,?_⟩
      · rw[qbr,←qbx (qbs bs k) hk64,AJ.o,AK.o,A4.o,←add4]
        exact AL.set_ k _
      first|exact(qa8 A5.o _).setCell (tA4 _) _|exact A5.drew.setCell (tA4 _) _|exact Below.setCell (p:=⟨gw,k,none⟩) A5.o (tA4 _) _
     case measure=>simp[intOf];omega
   have hk':k=64:=zo;have hk2:¬(k:Int)<64:=zo;obtain⟨wo,rfl⟩:=eqx wr;rw[hk',qc0 (qbs bs 64)]at hw;obtain⟨W,hW⟩:=xeq (qbr bs 64);have hWl:=qbs bs 64;have hWu:=qbu bs hb2 64;rw[hW]at hw hWl hWu;obtain⟨HW,HWl,HWu,A6⟩:=zh4 hW hWl hWu hS2;have hg2:Blk wo gh 209 #[.int .u32 s0.a,.int .u32 s0.b,.int .u32 s0.c,.int .u32 s0.d,.int .u32 s0.e,.int .u32 s0.f,.int .u32 s0.g,.int .u32 s0.h]:=AE.below hbl zo;have hr2:Blk wo gr 209 #[.int .u32 0,.int .u32 0,.int .u32 0,.int .u32 0,.int .u32 0,.int .u32 0,.int .u32 0,.int .u32 0]:=AF.below hbl zo;have hT2:RTab wo g:=Blk.below AG.o hbl zo;have hbo:Below w.heap.size w wo:=A8.trans (hbl.mono (by rw[A0.o];omega));obtain⟨AM,A7,AN⟩:=zh3 hr2 hT2 hbo;have hgwo:gw<wo.heap.size:=hw.lt;have c0:=hg2.cell 0;have c1:=hg2.cell 1;have c2:=hg2.cell 2;have c3:=hg2.cell 3;have c4:=hg2.cell 4;have c5:=hg2.cell 5;have c6:=hg2.cell 6;have c7:=hg2.cell 7;simp at c0 c1 c2 c3 c4 c5 c6 c7;obtain⟨AO,HWo⟩:=zh2 hg2 hw;clear hW hWl hWu hS2 hk h16 hk64 hk' hb hb2 hb2' hw hg2 hr2 hT2 hbo hbl;go_wp2_with fail
   go_loopw [13,14,15,16,17] (fun i _ _ _ _ wr=>∃(k:Nat) (s:St),k≤64∧i=.int .i64 k∧s=rounds W s0 k∧s.ok∧Blk wr wo.heap.size 209 #[.int .u32 s.a,.int .u32 s.b,.int .u32 s.c,.int .u32 s.d,.int .u32 s.e,.int .u32 s.f,.int .u32 s.g,.int .u32 s.h]∧Below wo.heap.size wo wr) (fun i _ _ _ _ _=>64 - (intOf i).toNat)
   case atStart=>exact⟨0,s0,by omega,rfl,rfl,A6.o,Blk.new ..,(tA5 _ wo).alloc (tA4 _) _⟩
   case round=>
    clear c0 c1 c2 c3 c4 c5 c6 c7;obtain⟨k,s,hk,rfl,hs,hok,hst,hb3⟩:=hrel;obtain⟨Hs,Hok⟩:=zh2 hs hok;clear hs;obtain⟨a,b,c,d,e,f,g',h⟩:=s;obtain⟨oa,ob',oc,od,oe,of,og,oh⟩:=hok;dsimp only at oa ob' oc od oe of og oh hst;by_cases hk64:k<64
    ·
     have c0:=hst.cell 0;have c1:=hst.cell 1;have c2:=hst.cell 2;have c3:=hst.cell 3;have c4:=hst.cell 4;have c5:=hst.cell 5;have c6:=hst.cell 6;have c7:=hst.cell 7;simp at c0 c1 c2 c3 c4 c5 c6 c7;have qk:(k:Int)<64:=zo;have ckk:wr.cell? ⟨g,k,none⟩=some (.int .u32 (Kt.getD k 0:Nat)):=qys (Blk.below A7.o hb3 zo) hk64;have cww:wr.cell? ⟨gw,k,none⟩=some (.int .u32 (W.getD k 0:Nat)):=by
      have hx:=qby HWl.o hk64;rw[qc0 HWl.o]at hx;rw[(HWo.below hb3 hgwo).cell];exact hx
     obtain⟨kk,hkk⟩:=xeq (Kt.getD k 0);obtain⟨ww,hww⟩:=xeq (W.getD k 0);rw[hkk]at ckk;rw[hww]at cww;have okk:kk<4294967296:=hkk▸Kt_lt k;have oww:ww<4294967296:=hww▸HWu.getD k;obtain⟨AP,AQ⟩:=zh2 hkk hww;clear hkk hww;obtain⟨Hst,Hb3⟩:=zh2 hst hb3;clear hst hb3;obtain⟨n1,p1,p2,p3,q1,q2,q3,q4,q5,⟨hch,hmj,ln1⟩,on1,op1,op2,op3,oq1,oq2,oq3,oq4,oq5⟩:=qci (d:=d) (h:=h) oa ob' oc oe of og;obtain⟨AR,AS⟩:=zh2 hch hmj;clear hch hmj;obtain⟨fe,hfe⟩:∃f:Int→Nat,∀n,f n=rotr e n.toNat:=⟨_,fun _=>rfl⟩;obtain⟨fa,hfa⟩:∃f:Int→Nat,∀n,f n=rotr a n.toNat:=⟨_,fun _=>rfl⟩;have be:∀n,fe n<4294967296:=fun n=>by rw[hfe];exact qbk _ _ oe
     have ba:∀n,fa n<4294967296:=fun n=>by rw[hfa];exact qbk _ _ oa
     obtain⟨v1,hv1,ov1⟩:∃p:Nat,p=(fe 6^^^fe 11)∧bits .xor .u32 (fe 6:Int) (fe 11:Int)=p:=⟨_,rfl,u32_xor_nat _ _ (be _) (be _)⟩;have lv1:v1<4294967296:=by rw[hv1];exact Nat.xor_lt_two_pow (n:=32) (be _) (be _)
     obtain⟨t1,ht1,ot1⟩:∃p:Nat,p=(v1^^^fe 25)∧bits .xor .u32 (v1:Int) (fe 25:Int)=p:=⟨_,rfl,u32_xor_nat _ _ lv1 (be _)⟩;have lt1:t1<4294967296:=by rw[ht1];exact Nat.xor_lt_two_pow (n:=32) zo (be _)
     obtain⟨v2,hv2,ov2⟩:∃p:Nat,p=(fa 2^^^fa 13)∧bits .xor .u32 (fa 2:Int) (fa 13:Int)=p:=⟨_,rfl,u32_xor_nat _ _ (ba _) (ba _)⟩;have lv2:v2<4294967296:=by rw[hv2];exact Nat.xor_lt_two_pow (n:=32) (ba _) (ba _)
     obtain⟨t2,ht2,ot2⟩:∃p:Nat,p=(v2^^^fa 22)∧bits .xor .u32 (v2:Int) (fa 22:Int)=p:=⟨_,rfl,u32_xor_nat _ _ lv2 (ba _)⟩;have lt2:t2<4294967296:=by rw[ht2];exact Nat.xor_lt_two_pow (n:=32) zo (ba _)
     have AT:Hid (Sig1 e=t1):=zh1 (by rw[ht1,hv1,hfe,hfe,hfe];rfl);have AU:Hid (Sig0 a=t2):=zh1 (by rw[ht2,hv2,hfa,hfa,hfa];rfl);have KE:∀(n:Int) w,1≤n∧n≤31→Zc 228 #[.int .u32 e,.int .u64 n] w fun e w'=>e=.returned (.int .u32 (fe n:Nat))∧w=w':=fun n w hn=>by
      have h:=qyr e n.toNat w oe zo zo;rw[←hfe,Int.toNat_of_nonneg zo]at h;exact h
     have KA:∀(n:Int) w,1≤n∧n≤31→Zc 228 #[.int .u32 a,.int .u64 n] w fun e w'=>e=.returned (.int .u32 (fa n:Nat))∧w=w':=fun n w hn=>by
      have h:=qyr a n.toNat w oa zo zo;rw[←hfa,Int.toNat_of_nonneg zo]at h;exact h
     have A9:∀(n:Int) k w,1≤n∧n≤31→Zc 228 #[.int .u32 e,.int .u64 n] (World.drewN w k) fun e w''=>e=.returned (.int .u32 (fe n:Nat))∧∃m,w''=w.drewN m:=fun n k w hn=>Calls.quiet_of_same ((KE n _ hn).mono (by rintro _ _ ⟨rfl,rfl⟩;exact⟨rfl,rfl⟩))
     have AA:∀(n:Int) j k w,1≤n∧n≤31→Zc 228 #[.int .u32 a,.int .u64 n] (World.drewN w (j+k)) fun e w''=>e=.returned (.int .u32 (fa n:Nat))∧∃m,w''=w.drewN (j+m):=fun n j k w hn=>(KA n _ hn).mono (by rintro _ _ ⟨rfl,rfl⟩;exact⟨rfl,k,rfl⟩)
     obtain⟨AV,AW⟩:=zh2 A9 AA;clear hfe hfa hv1 hv2 ht1 ht2 be ba KE KA A9 AA;go_upto_region 18 with(fail)
     go_quiet ((go_at_call 228;((refine AV.o _ _ _ ?_));decide))
     go_upto_region 19 with(fail)
     go_quiet ((go_at_call 228;((refine AW.o _ _ _ _ ?_));decide))
     go_upto_region 20 with(fail)
     refine wp_region_lit ?_;iterate 20 (refine qbj rfl ⟨?_,?_,?_⟩;rotate_left;(focus(go_simp;(try go_bits);try rfl));simp only[Act.put,tA0,tA1,tA2])
     refine wpList_store_row rfl 209 _ _ rfl wo.heap.size _ rfl rfl 209 #[.int .u32 a,.int .u32 b,.int .u32 c,.int .u32 d,.int .u32 e,.int .u32 f,.int .u32 g',.int .u32 h] (by exact Hst.o) zk rfl (by simp[Value.oneCell']) ?_;go_wp2
     go_roundw
     case rel=>
      refine⟨k+1,round ⟨a,b,c,d,e,f,g',h⟩ kk ww,by omega,by go_num,?_,?_,?_,?_⟩
      · rw[rounds,←Hs.o,AP.o,AQ.o]
      · exact qcb _ _ _ Hok.o
      · show Blk _ _ _ (round ⟨a,b,c,d,e,f,g',h⟩ kk ww).vals
        rw[qcd a b c d e f g' h kk ww t1 t2 p3 q5 AT.o AU.o AR.o AS.o];exact(Hst.drewN _).setRow _
      exact(qa8 Hb3.o _).grown (qam _ _ _) (Nat.le_of_lt Hst.lt) (fun k hk=>by injection hk with hk;omega)
     case measure=>simp[intOf];omega
    have qk:¬(k:Int)<64:=zo;have hk':k=64:=zo;have hz:(⟨a,b,c,d,e,f,g',h⟩:St)=rounds W s0 64:=by rw[←hk'];exact Hs.o
    obtain⟨z,hzz⟩:∃z:St,z=⟨a,b,c,d,e,f,g',h⟩:=⟨_,rfl⟩;have hzb:Blk wr wo.heap.size 209 (qbp z.list).toArray:=by rw[hzz];exact hst
    rw[←hzz]at hz;obtain⟨Hz,Hzb⟩:=zh2 hz hzb;have hzu:u32s z.list:=by
     rw[hz];exact St.ok_list (qcc W s0 A6.o 64)
    have Hzu:=zh1 hzu;obtain⟨wq,rfl⟩:=eqx wr;have hgq:Blk wq gh 209 (qbp s0.list).toArray:=(AO.below hb3 zo);have Hgq:=zh1 hgq;have hrq:Blk wq gr 209 #[.int .u32 0,.int .u32 0,.int .u32 0,.int .u32 0,.int .u32 0,.int .u32 0,.int .u32 0,.int .u32 0]:=(AM.below hb3 zo);obtain⟨Hrq,Hb3⟩:=zh2 hrq hb3;have hgo:gh≠wo.heap.size:=zo;have Hs0:=zh1 (St.ok_list A6.o);clear hzz hz hzb hzu hst hb3 hgq hk' hk64 oa ob' oc od oe of og oh hrq;go_wp2_with fail
    go_loopw [18] (fun i wr=>∃(k:Nat),k≤8∧i=.int .i64 k∧Blk wr gh 209 (qbp (addl s0.list z.list k)).toArray∧wq.grownBy wr (some gh)) (fun i _=>8 - (intOf i).toNat)
    case atStart=>exact⟨0,by omega,rfl,by rw[qc4];exact Hgq.o,tB9 _ _⟩
    case round=>
     obtain⟨k,hk,rfl,hgk,hgr⟩:=hrel;by_cases hk8:k<8
     ·
      have qk8:(k:Int)<8:=zo;have cg:=hgk.cell k;rw[qc5 (by simp[St.list];omega),if_neg (Nat.lt_irrefl k)]at cg;have cz:=(Hzb.grown hgr (by intro e;injection e with e;exact hgo e.symm)).cell k;rw[qc2 (by simp[St.list];omega)]at cz;have fg:=hgk.frozen k;obtain⟨Hgk,Hgr⟩:=zh2 hgk hgr;obtain⟨x,hx⟩:=xeq (s0.list.getD k 0);obtain⟨y,hy⟩:=xeq (z.list.getD k 0);rw[hx]at cg;rw[hy]at cz;have lx:x<4294967296:=hx▸Hs0.getD k;have ly:y<4294967296:=hy▸Hzu.getD k;obtain⟨Hx,Hy⟩:=zh2 hx hy;clear hx hy hgk hgr;go_wp2_with fail
      go_still_tail 9,zk
      change wpList _ _ _ _ _ wr.drew;go_wp2
      go_roundw
      case rel=>
       refine⟨k+1,by omega,by go_num,?_,?_⟩
       · rw[←qc6 (by simp[St.list];omega),Hx.o,Hy.o]
         have e:(((x+y) % 4294967296:Nat):Int)=((x:Int)+y) % 4294967296:=zo;rw[e];exact Hgk.drew.set_ k _
       exact qab (qa9 Hgr.o) (.inl rfl) _
      case measure=>simp[intOf];omega
     have qk8:¬(k:Int)<8:=zo;have hk8':k=8:=zo;rw[hk8',qc9]at hgk;have hmx:qc8 s0 z=mixed bs s0:=by rw[Hz.o,←HW.o];rfl
     rw[hmx,←St.vals_list]at hgk;obtain⟨z',hz'⟩:=xeq (mixed bs s0);rw[hz']at hgk;have AX:=zh1 hz';clear hz';have hrr:=Hrq.grown hgr (by intro e;injection e with e;omega);have d0:=hgk.cell 0;have d1:=hgk.cell 1;have d2:=hgk.cell 2;have d3:=hgk.cell 3;have d4:=hgk.cell 4;have d5:=hgk.cell 5;have d6:=hgk.cell 6;have d7:=hgk.cell 7;simp[St.vals]at d0 d1 d2 d3 d4 d5 d6 d7;have hend:Below w.heap.size w wr:=(AN.trans (Hb3.mono (by rw[A0.o];omega))).trans (qyp hgr (by rw[A0.o];omega) (by have:=Hgq.lt;omega));obtain⟨HE,Hrr⟩:=zh2 hend hrr;have hwr:gr<wr.heap.size:=hrr.lt;clear hgk hgr hk8' hk8 hrr hend hmx;go_wp2_with (refine wpList_store_row rfl 209 (.tmp 6) _ rfl gr _ rfl rfl 209 _ Hrr.o zk rfl (by simp[Value.oneCell']) ?_)
     have z8:=Hrr.setRow #[.int .u32 z'.a,.int .u32 z'.b,.int .u32 z'.c,.int .u32 z'.d,.int .u32 z'.e,.int .u32 z'.f,.int .u32 z'.g,.int .u32 z'.h];have AY:=qap (l:=[.int .u32 z'.a,.int .u32 z'.b,.int .u32 z'.c,.int .u32 z'.d,.int .u32 z'.e,.int .u32 z'.f,.int .u32 z'.g,.int .u32 z'.h]) z8 0 [.int .u32 z'.a,.int .u32 z'.b,.int .u32 z'.c,.int .u32 z'.d,.int .u32 z'.e,.int .u32 z'.f,.int .u32 z'.g,.int .u32 z'.h] zjq;refine bodyPost_ret (v:=.agg #[.int .u32 z'.a,.int .u32 z'.b,.int .u32 z'.c,.int .u32 z'.d,.int .u32 z'.e,.int .u32 z'.f,.int .u32 z'.g,.int .u32 z'.h]) (qao rfl rfl (run_loadVar_mid _ _ 0 _ _ _ AY Tryz.underlying209 rfl zk)) rfl ⟨?_,below_setRow HE.o (by rw[A0.o];omega) _⟩;rw[AX.o];rfl
theorem qyv{a b:List Nat}(h:∀j,j<64→a.getD j 0=b.getD j 0)(hi:i<16):be32 a (4*i)=be32 b (4*i):=by
 unfold be32;rw[h (4*i) zo,h (4*i+1) zo,h (4*i+2) zo,h (4*i+3) zo]
theorem qyw {a b:List Nat}(h:∀j,j<64→a.getD j 0=b.getD j 0):∀i,qbr a i=qbr b i
 |0=>rfl
 |i+1=>by
  have e:qbq a (qbr b i) i=qbq b (qbr b i) i:=by
   unfold qbq;by_cases hi:i<16
   · rw[if_pos hi,if_pos hi];exact qyv h hi
   rw[if_neg hi,if_neg hi]
  rw[qbr,qyw h i,e];rfl
theorem qyx{a b:List Nat}(h:∀j,j<64→a.getD j 0=b.getD j 0)(s:St):mixed a s=mixed b s:=by
 unfold mixed;rw[qyw h]
theorem qyy {a b:List Nat}(s:St):∀k,(∀j,j<64*k→a.getD j 0=b.getD j 0)→blocks a s k=blocks b s k
 |0,_=>rfl
 |k+1,h=>by
  rw[blocks,blocks,qyy s k (fun j hj=>h j zo)];apply qyx;intro j hj;have:=h (64*k+j) zo;simpa [tB4,List.getElem?_drop] using this
theorem qyz (l:List Nat)(s:St)(m:Nat):∀j,blocks l s (m+j)=blocks (l.drop (64*m)) (blocks l s m) j
 |0=>rfl
 |j+1=>by
  rw[show m+(j+1)=(m+j)+1 by omega,blocks,blocks,qyz l s m j,List.drop_drop,Nat.mul_add]
def padZ (n:Nat):Nat:=qf6 (n % 64) - n % 64 - 9
def qz0 (bs:List Nat):List Nat:=(bs++128::List.replicate (padZ bs.length) 0)++be (8*bs.length) 8
theorem qz1(n:Nat):(n+1+padZ n) % 64=56:=by
 have h:=qfg (n % 64) (Nat.mod_lt _ zdc);unfold padZ;omega
theorem qz2(n z:Nat)(h:z<padZ n):(n+1+z) % 64≠56:=by
 unfold padZ qf6 at h;split at h<;>omega
theorem qz3(bs:List Nat):(qz0 bs).length=64*(bs.length / 64+qf6 (bs.length % 64) / 64):=by
 have h:=qfg (bs.length % 64) (Nat.mod_lt _ zdc);simp only[qz0,padZ,tA6,tBi,List.length_replicate,qaw];omega
theorem qz4(bs:List Nat):(qz0 bs).drop (64*(bs.length / 64))++List.replicate (128 - qf6 (bs.length % 64)) 0=qf7 bs 8:=by
 have h:=qfg (bs.length % 64) (Nat.mod_lt _ zdc);have e:64*(bs.length / 64)=bs.length - bs.length % 64:=zo;unfold qz0 qf7 padZ;dsimp only;rw[e,List.append_assoc,List.drop_append_of_le_length zo,show qf6 (bs.length % 64) - bs.length % 64 - 1 - 8=qf6 (bs.length % 64) - bs.length % 64 - 9 by omega];simp only[List.append_assoc]
theorem qz5(bs:List Nat):blocks (qz0 bs) qc1 (bs.length / 64+qf6 (bs.length % 64) / 64)=qf8 bs:=by
 have h:=qfg (bs.length % 64) (Nat.mod_lt _ zdc);have hl:=qz3 bs;rw[qyz];unfold qf8;have e1:blocks (qz0 bs) qc1 (bs.length / 64)=blocks bs qc1 (bs.length / 64):=by
  apply qyy;intro j hj;unfold qz0;rw[tB4,List.append_assoc,tBm zo,←tB4]
 rw[e1];apply qyy;intro j hj;rw[←qz4,tB4,tB4,tBm (by rw[tBk];omega)]
theorem qz6(bs:List Nat)(h:∀b∈bs,b<256):∀b∈qz0 bs,b<256:=by
 intro b hb;simp only[qz0,tBg,List.mem_cons,List.mem_replicate]at hb;rcases hb with(hb|rfl|⟨_,rfl⟩)|hb
 · exact h b hb
 · decide
 · decide
 exact qaz _ _ b hb
def slen:Value→Nat|.slice _ n _=>n|_=>0
theorem qz7(N j m:Nat)(h:8=j+(m+1)):(be N 8).take (j+1)=(be N 8).take j++[N / 2^(8*m) % 256]:=by
 rw[qax N 8 j zo,show 8 - 1 - j=m by omega];rw[show qav N m=N / 2^(8*m) % 256 from by unfold qav;rw[Nat.pow_mul]]
theorem qz8(g n cc:Nat)(A:Option Addr)(bs:List Nat)(w:World)(hb2:∀b∈bs,b<256)(hT:RTab w g)(hr:Reads w w.heap.size 1 A n (byv bs))(hn:n≤4294967296):
 Zc 144 #[.pointer (some ⟨g,0,none⟩),.slice A n cc] w fun e w'=>e=.returned (.agg (byv (sha bs)).toArray)∧Below w.heap.size w w':=by
 have hlen:bs.length=n:=qb4 hr;obtain⟨N,hN⟩:=xeq (n*8);have d1:IntKind.u64.wrap (n:Int)=n:=tBa _ zo;have d2:IntKind.u64.wrap ((n:Int)*8)=(N:Int):=by rw[show ((n:Int)*8)=(N:Int) by omega];exact tBa _ zo
 have hN2:N<18446744073709551616:=zo;obtain⟨Z,hZ⟩:=xeq (padZ n);have hZ64:Z≤128:=by rw[←hZ];have:=qfg (n % 64) (Nat.mod_lt _ zdc);unfold padZ;omega
 obtain⟨W0,hW0⟩:=eqx (w.alloc (.cells zLD 29));obtain⟨G,hG⟩:=xeq w.heap.size;have z0:Blk W0 G 29 zLD:=by rw[hW0,←hG];exact Blk.new w _ _
 have b0:=zMa hW0;have t0:RTab W0 g:=Blk.below hT b0 (Blk.lt hT);have r0:Reads W0 W0.heap.size 1 A n (byv bs):=hr.call b0;have hr0:=r0.laid (.cells #[] 5);have glt:g<G:=by rw[←hG];exact Blk.lt hT
 have gsz:G<W0.heap.size:=z0.lt;obtain⟨HG,AG,AH,AI,AJ,A6,A0,AK⟩:=zh8 hG z0 b0 t0 hN hZ hlen hb2;clear hT hr hlen hN hZ b0 t0 z0 r0 hG hb2;go_enter Tryz.func144,Tryz.ntmps144
 go_upto_region 1 with(fail)
 rw[←hW0,show w.heap.size=G from HG.o];clear hW0;go_wp2_with (at_builtin;refine qe2 rfl (.tmp 12) (.tmp 13) rfl W0.heap.size _ [] rfl (OwnB.made W0 [] (by simp[maxLen])) A n cc bs rfl hr0 (by simp;omega) zm ?_)
 intro v1 w1 hown1 hb1 hg1;have B1:Below W0.heap.size W0 w1:=((tA5 _ _).alloc (tA4 _) _).trans hb1;have hs1:=B1.size;have l1:([]++bs).length+1≤140737488355328:=by have:=A0.o;simp;omega
 go_wp2_with (at_builtin;refine qe2 rfl (.tmp 14) (.tmp 15) rfl W0.heap.size _ _ rfl (hown1.alloc _) _ 1 1 [128] rfl (by simpa using qe6 w1 128) l1 (by simp;omega) ?_)
 intro v2 w2 hown2 hb2 hg2;obtain⟨A5,AC⟩:=zh2 ((B1.alloc hs1 (.cells #[.int .u8 128] 5)).trans hb2) hown2;clear hown1 hb1 hg1 B1 hs1 l1 hown2 hb2 hg2 hr0;go_wp2_with fail
 go_loopw [5] (fun v wr=>∃z,z≤Z∧Hid (OwnB wr W0.heap.size v (bs++128::List.replicate z 0))∧Hid (Below W0.heap.size W0 wr)) (fun v _=>n+1+Z - slen v)
 case atStart=>exact⟨0,by omega,zh1 (by simpa using AC.o),A5.o⟩
 case round=>
  clear AC A5;obtain⟨z,hz,hown,hbe⟩:=hrel;obtain⟨A1,n1,c1,rfl,hnc,hcm,hrd⟩:=hown.sl;have hn1:n1=n+1+z:=by
   have:=qb4 hrd;have e:=A0.o;simp only[tA6,tBi,List.length_replicate]at this;omega
  obtain⟨q,hq⟩:=xeq (n1 % 64);have q1:Int.tmod (n1:Int) 64=(q:Int):=by rw[Int.tmod_eq_emod_of_nonneg zo];omega
  have q2:IntKind.i64.wrap (q:Int)=q:=tBb _ zo;obtain⟨HQ,AL⟩:=zh2 hq hn1;by_cases hzZ:z<Z
  ·
   have q3:¬(q:Int)=56:=by
    have:=qz2 n z (by rw[A6.o];exact hzZ);omega
   clear hq hn1 hrd;have hbs:=hbe.size;have l2:(bs++128::List.replicate z 0).length+1≤140737488355328:=by have:=A0.o;simp;omega
   go_wp2_with (at_builtin;refine qe2 rfl (.tmp 21) (.tmp 22) rfl W0.heap.size _ _ rfl (hown.alloc _) _ 1 1 [0] rfl (by simpa using qe6 wr 0) l2 (by simp;omega) ?_)
   intro v3 w3 hown3 hb3 hg3;have AD:Hid (OwnB w3 W0.heap.size v3 (bs++128::List.replicate (z+1) 0)):=zh1 (by
    have e:(bs++128::List.replicate z 0)++[0]=bs++128::List.replicate (z+1) 0:=by rw[List.replicate_succ'];simp
    rw[←e];simpa using hown3)
   have A7:=zh1 ((hbe.alloc hbs (.cells #[.int .u8 0] 5)).trans hb3);have hv3:slen v3=n+1+(z+1):=by
    obtain⟨A3,n3,c3,rfl,-,-,rd3⟩:=AD.sl;have:=qb4 rd3;have e:=A0.o;simp only[tA6,tBi,List.length_replicate]at this;simp only[slen];omega
   have AM:=zh1 hv3;clear hown3 hb3 hg3 hv3 l2 hbs;go_wp2
   go_roundw
   case rel=>exact⟨z+1,by omega,AD,A7⟩
   case measure=>rw[AM.o,show n1=n+1+z from AL.o];simp only[slen];omega
  have hzz:z=Z:=zo;have q3:(q:Int)=56:=by
   have:=qz1 n;rw[A6.o]at this;omega
  subst hzz;obtain⟨T,hTT⟩:=xeq (bs++128::List.replicate z 0);have hTl:T.length≤4294967296+200:=by rw[←hTT];have:=A0.o;simp;omega
  have hown':=hown.o;rw[hTT]at hown';obtain⟨AN,AO⟩:=zh2 hTT hTl;obtain⟨W1,rfl⟩:=eqx wr;have HO:=zh1 hown';clear hq hn1 hrd hTT hTl hown' hown;go_wp2_with fail
  go_loopw [5,7] (fun v i wr=>∃j m:Nat,8=j+m∧i=.int .i64 (8*(m:Int) - 8)∧Hid (OwnB wr W0.heap.size v (T++(be N 8).take j))∧Hid (Below W0.heap.size W0 wr)) (fun _ i _=>(intOf i+8).toNat)
  case atStart=>exact⟨0,8,by omega,rfl,zh1 (by simpa using HO.o),hbe.o⟩
  case round=>
   clear hbe;obtain⟨j,m,hjm,rfl,hown,hbe⟩:=hrel;cases m with
   |zero=>
    obtain rfl:j=8:=zo;rw[show 8*((0:Nat):Int) - 8= -8 from by decide];have hO:=hown.o;rw[tB5 (by rw[qaw];exact tA4 _)]at hO;have hX:T++be N 8=qz0 bs:=by unfold qz0;rw[A0.o,A6.o,AN.o,show 8*n=N by have:=AJ.o;omega]
    rw[hX]at hO;have hXl:=qz3 bs;obtain⟨X,hXX⟩:=xeq (qz0 bs);obtain⟨M,hM⟩:=xeq (bs.length / 64+qf6 (bs.length % 64) / 64);have hM2:M≤67108870:=by rw[←hM];have:=A0.o;have:=qfg (bs.length % 64) (Nat.mod_lt _ zdc);omega
    have hsh:=qz5 bs;have hXlt:=qz6 bs AK.o;rw[hXX]at hO hXl hsh hXlt;rw[hM]at hXl hsh;obtain⟨A2,n2,c2,rfl,hnc2,hcm2,hrd2⟩:=OwnB.sl hO;have hn2:n2=64*M:=by have:=qb4 hrd2;omega
    obtain⟨AE,AP,AQ,A8⟩:=zh4 hn2 hsh hXl hXlt;obtain⟨wo,rfl⟩:=eqx wr;have tab:=(show RTab W0 g from AI.o).below hbe.o zo;have c0:=qyt (i:=0) tab zo;have c1:=qyt (i:=1) tab zo;have c2':=qyt (i:=2) tab zo;have c3:=qyt (i:=3) tab zo;have c4:=qyt (i:=4) tab zo;have c5:=qyt (i:=5) tab zo;have c6:=qyt (i:=6) tab zo;have c7:=qyt (i:=7) tab zo;simp[St.vals,qc1]at c0 c1 c2' c3 c4 c5 c6 c7;have hM1:1≤M:=by rw[←hM];have:=qfg (bs.length % 64) (Nat.mod_lt _ zdc);omega
    obtain⟨gb,ob,hA2,hgb,-⟩:=hrd2.mid zo zo;have AR:=zh1 hrd2;subst hA2;have A9:=zh1 tab;have hzo:Blk wo G 29 zLD:=AG.below hbe.o gsz;obtain⟨AS,AT⟩:=zh2 hzo (AH.trans (hbe.mono (by have:=HG.o;omega)));have B6:=hbe;have glo:g<wo.heap.size:=Blk.lt tab;have gho:G<wo.heap.size:=hzo.lt;clear hO hX hXl hsh hXlt hXX hM hn2 hrd2 tab hzo hown hbe hjm;go_wp2_with fail
    go_loopw [9] (fun i wr=>∃k p:Nat,k≤M∧Hid (64*k=p)∧i=.int .i64 p∧Hid (Blk wr wo.heap.size 209 (blocks X qc1 k).vals)∧Hid (Below wo.heap.size wo wr)) (fun i _=>n2 - (intOf i).toNat)
    case atStart=>exact⟨0,0,by omega,rfl,rfl,Blk.new ..,(tA5 _ _).alloc (tA4 _) _⟩
    case round=>
     clear c0 c1 c2' c3 c4 c5 c6 c7;obtain⟨k,p,hk,hp,rfl,hst,hbw⟩:=hrel;by_cases hkM:k<M
     ·
      obtain⟨s,hs⟩:=xeq (blocks X qc1 k);have hok:s.ok:=hs▸qf4 X qc1 qf5 k;have hstv:=hst.o;rw[hs]at hstv;have hp':=hp.o;have hn2':=AE.o;have p1:(p:Int)<n2:=zo;have p2:p+64≤n2:=zo;have p4:¬c2=p:=zo;have p5:p≤n2:=zo;have p6:(p:Int)≤(p:Int)+64:=zo;have p7:(p:Int)+64≤c2:=zo;have p10:0≤(p:Int)+64:=zo;have p11:((p:Int)+64).toNat=p+64:=zo;have p12:(p:Int)+64 - p=64:=zo;have p3':IntKind.i64.wrap ((p:Int)+64)=(p:Int)+64:=tBb _ zo;have hrp:=((AR.below hbw.o).cut (k:=p) (cap:=c2) p5 hnc2);rw[if_neg p4,Nat.mul_one,show (byv X).drop p=byv (X.drop p) by simp[byv],Option.map_some,Addr.add_mid]at hrp;have hrq:=(hrp.pre (k:=64) zo).more hbw.size;rw[show (byv (X.drop p)).take 64=byv ((X.drop p).take 64) by simp[byv]]at hrq;have htw:RTab wr g:=(show RTab wo g from A9.o).below hbw.o glo;obtain⟨s',hs'⟩:=xeq (mixed ((X.drop p).take 64) s);have hnx:s'=blocks X qc1 (k+1):=by
       rw[←hs',blocks,hp',hs];apply qyx;intro j hj;rw[tB4,tB4,List.getElem?_take_of_lt hj]
      have K:=qyu g 64 (c2 - p) (some ⟨gb,ob+p,none⟩) ((X.drop p).take 64) s wr.drew hok (by rw[tBd,tBk,AQ.o];omega) (tA4 _) (fun b hb=>A8.o b (List.mem_of_mem_drop (tB7 hb))) htw hrq;rw[hs']at K;obtain⟨HK,AU,A4⟩:=zh3 K hnx hstv;have p8:((p+64:Nat):Int) - p=64:=zo;have p9:p+64 - p=64:=zo;clear K hrp hrq htw hs' hnx hp' hn2' hstv hst hs;go_upto_region 13 with(fail)
      obtain⟨S,HS⟩:=zS fun w'=>w'.rangeAt wo.heap.size 0 [.int .u32 s.a,.int .u32 s.b,.int .u32 s.c,.int .u32 s.d,.int .u32 s.e,.int .u32 s.f,.int .u32 s.g,.int .u32 s.h]
      refine zrs S 7 (zq 0 7 [(7,true),(8,true)]) ((HS.o _).mpr (qap (l:=[.int .u32 s.a,.int .u32 s.b,.int .u32 s.c,.int .u32 s.d,.int .u32 s.e,.int .u32 s.f,.int .u32 s.g,.int .u32 s.h]) A4.o 0 _ zjq)) ?_;iterate 1 (refine zrb ?_)
      refine qoc rfl rfl 209 (.tmp 8) rfl wo.heap.size 0 rfl [.int .u32 s.a,.int .u32 s.b,.int .u32 s.c,.int .u32 s.d,.int .u32 s.e,.int .u32 s.f,.int .u32 s.g,.int .u32 s.h] _ (fun w1 hS=>(HS.o w1).mp hS) Tryz.underlying209 rfl zk ?_;refine zP ?_;iterate 1 (refine zrb ?_)
      iterate 1 (refine zrb ?_)
      iterate 1 (refine zrb ?_)
      iterate 1 (refine zrb ?_)
      refine qbg rfl rfl ⟨.slice (some ⟨gb,ob+p,none⟩) 64 (c2 - p),fun w1 hS=>?_,?_⟩
      · go_simp
        trace_state
      refine zP ?_;refine zw ?_;go_simp;refine zcb HK.o fun w2 b2=>?_
      have b2':=qe5 b2;have s2:=A4.below b2' A4.lt;obtain⟨AF,A7⟩:=zh2 s2 (below_setRow ((hbw.o).trans (b2'.mono hbw.size)) (tA4 wo.heap.size) s'.vals);refine zP ?_;refine zw ?_;refine wp_store_row 209 (.tmp 8) (.tmp 57) rfl wo.heap.size s'.vals rfl rfl 209 _ AF.o zk rfl (by simp[St.vals,Value.oneCell']) ?_;refine⟨fun h=>absurd h zdc,?_⟩;refine qbf ?_;clear b2 b2' s2;go_wp2
      go_roundw
      case rel=>exact⟨k+1,p+64,by omega,zh1 (by have:=hp.o;omega),by go_num,zh1 (by rw[←AU.o];exact AF.setRow _),A7⟩
      case measure=>simp only[intOf];omega
     have hk':k=M:=zo;have q1:¬(p:Int)<n2:=by have:=hp.o;have:=AE.o;omega
     have hsq:=hst.o;rw[hk',AP.o]at hsq;obtain⟨st,hst'⟩:=xeq (qf8 bs);rw[hst']at hsq;obtain⟨W6,rfl⟩:=eqx wr;have hok:st.ok:=by rw[←hst'];exact qf4 _ _ (qf4 _ _ qf5 _) _
     have hlist:=St.ok_list hok;have hZ6:Blk W6 G 29 zLD:=AS.below hbw.o gho;have hB6:Below w.heap.size w W6:=AT.trans (hbw.mono (by have:=HG.o;omega));obtain⟨AV,AW,AX,AA,AY⟩:=zh5 hsq hZ6 hB6 hst' hlist;have lW6:wo.heap.size<W6.heap.size:=hsq.lt;have gW6:G<W6.heap.size:=hZ6.lt;have hD7:Blk (W6.alloc (.cells zLD 29)) W6.heap.size 29 (byv (qfc (qf9 st) 0)).toArray:=by
      have h:=Blk.new W6 29 zLD;exact h
     have AZ:=zh1 hD7;clear hsq hZ6 hB6 hst' hlist hok hD7 hst hbw hk' hp hkM;go_wp2_with fail
     go_loopw [11] (fun i wr=>∃k:Nat,k≤32∧i=.int .i64 k∧Blk wr W6.heap.size 29 (byv (qfc (qf9 st) k)).toArray∧Below W6.heap.size W6 wr) (fun i _=>32 - (intOf i).toNat)
     case atStart=>exact⟨0,by omega,rfl,AZ.o,(tA5 _ _).alloc (tA4 _) _⟩
     case round=>
      obtain⟨k,hk,rfl,hdk,hbk⟩:=hrel;by_cases hk32:k<32
      ·
       have qk:(k:Int)<32:=zo;obtain⟨a,ha⟩:=xeq (k / 4);obtain⟨b,hb⟩:=xeq (k % 4);obtain⟨s,hs⟩:=xeq (24 - 8*b);have u1:Int.tdiv (k:Int) 4=(a:Int):=by rw[Int.tdiv_eq_ediv_of_nonneg zo];omega
       have u2:Int.tmod (k:Int) 4=(b:Int):=by rw[Int.tmod_eq_emod_of_nonneg zo];omega
       have u3:IntKind.i64.wrap (a:Int)=a:=tBb _ zo;have u4:IntKind.i64.wrap (b:Int)=b:=tBb _ zo;have u5:IntKind.i64.wrap (8*(b:Int))=8*(b:Int):=tBb _ zo;have u6:IntKind.i64.wrap (24 - 8*(b:Int))=(s:Int):=by rw[show (24 - 8*(b:Int))=(s:Int) by omega];exact tBb _ zo
       have u7:(a:Int)<8:=zo;have u8':IntKind.u64.wrap (s:Int)=s:=tBa _ zo;have u9:min s 32=s:=zo;have cs:=(AV.below hbk lW6).cell a;rw[St.vals_list,qc2 (by simp[St.list];omega)]at cs;obtain⟨x,hx⟩:=xeq (st.list.getD a 0);rw[hx]at cs;have lx:x<4294967296:=hx▸AY.getD a;have cd:=hdk.cell k;rw[qfa (by simp[qfc,qf9];omega)]at cd;have fd:=hdk.frozen k;obtain⟨Hdk,Hbk,Hx,Ha,Hb,Hs⟩:=zh6 hdk hbk hx ha hb hs;clear hdk hbk hx ha hb hs;go_wp2
       go_roundw
       case rel=>
        refine⟨k+1,by omega,by go_num,?_,Hbk.setCell (tA4 _) _⟩;have e:((x:Int) / 2^s % 256)=((x / 2^s % 256:Nat):Int):=by
         push_cast
         rfl
        rw[e,←qfd (L:=qf9 st) (k:=k) (v:=x / 2^s % 256) (by simp[qf9];omega) (by rw[qff st hk32,Ha.o,Hb.o,Hs.o,Hx.o])];exact Hdk.set_ k _
       case measure=>simp[intOf];omega
      have qk:¬(k:Int)<32:=zo;have hk':k=(qf9 st).length:=by simp[qf9];omega
      rw[hk',qfe]at hdk;have hV:(byv (qf9 st)).length=32:=by simp[byv,qf9]
      have hV1:=qau (qf9 st);obtain⟨V,hVV⟩:=xeq (byv (qf9 st));rw[hVV]at hdk hV hV1;have B0:=zh1 (qap hdk 0 V zjq);have z7:=AW.below hbk gW6;obtain⟨HV,B2,B3,Hbk,HI⟩:=zh5 hV hV1 hVV hbk (zI 29 hV);clear hdk hV hV1 hVV hbk hk' hk32;go_wp2_with (first
       |(refine zld B0.o zu29 HI.o ?_)
       |(refine zst z7 HI.o (by simp[HV.o]) B2.o ?_))
      have z8:=z7.setRow V.toArray;have B4:=qap z8 0 V zjq;refine zrt B4 zu29 HI.o ⟨?_,below_setRow (AX.trans (Hbk.mono (by have:=HG.o;omega))) (by rw[HG.o];exact tA4 _) _⟩;rw[←B3.o,←AA.o];rfl
   |succ m=>
    have em:8*(((m+1:Nat)):Int) - 8=((8*m:Nat):Int):=zo;rw[em];clear em;have hlj:(T++(be N 8).take j).length+1≤140737488355328:=by have:=AO.o;rw[tA6,tBd,qaw];omega
    have Hjm:=zh1 hjm;have hm8:m≤7:=zo;have hbs:=hbe.size;obtain⟨s,hs⟩:=xeq (8*m);rw[hs];have s56:s≤56:=zo;have s1:IntKind.u64.wrap (s:Int)=s:=tBa _ zo;have s2:min s 64=s:=zo;have s3:IntKind.i64.wrap ((s:Int) - 8)=(s:Int) - 8:=tBb _ zo;obtain⟨bv,hbv⟩:=xeq (N / 2^s % 256);have s4:((N:Int) / 2^s % 256)=(bv:Int):=by rw[←hbv];push_cast;rfl
    obtain⟨B5,AB⟩:=zh2 hbv hs;clear hbv hjm hs;go_wp2_with (at_builtin;refine qe2 rfl (.tmp 32) (.tmp 38) rfl W0.heap.size _ _ rfl (hown.alloc _) _ 1 1 [bv] rfl (by simpa using qe6 wr bv) hlj (by simp;omega) ?_)
    intro v3 w3 hown3 hb3 hg3;have HW:Hid (OwnB w3 W0.heap.size v3 (T++(be N 8).take (j+1))):=zh1 (by
     rw[qz7 N j m Hjm.o,AB.o,B5.o];exact hown3)
    have HB:=zh1 ((hbe.alloc hbs (.cells #[.int .u8 (bv:Int)] 5)).trans hb3);clear hown3 hb3 hg3 hbe hown;go_wp2
    go_roundw
    case rel=>exact⟨j+1,m,by have:=Hjm.o;omega,by have:=AB.o;congr 1;omega,HW,HB⟩
    case measure=>simp only[intOf];have:=AB.o;omega
theorem OwnB.grownNe{r:Option Nat}(h:OwnB w base v bs)(hg:w.grownBy w' r)(hne:∀b,v.ownBlock=some b→r≠some b):OwnB w' base v bs:=by
 refine⟨h.1,?_⟩;rcases h.2 with h|⟨g,cap,cur,hv,hb,hh,rest⟩
 · exact .inl h
 refine .inr ⟨g,cap,cur,hv,hb,?_,rest⟩;subst hv;exact(hg.block g (by
  rcases Nat.lt_or_ge g w.heap.size with hlt|hge
  · exact hlt
  rw[Array.getElem?_eq_none hge]at hh;cases hh) (fun e=>hne g rfl e.symm)).trans hh
theorem OwnB.blk_lt(h:OwnB w base v bs)(e:v.ownBlock=some b):b<w.heap.size:=by
 rcases h.2 with⟨rfl,_⟩|⟨g,cap,cur,rfl,hb,hh,rest⟩
 · cases e
 injection e with e;subst e;rcases Nat.lt_or_ge g w.heap.size with hlt|hge
 · exact hlt
 rw[Array.getElem?_eq_none hge]at hh;cases hh
def Apart (v v':Value):Prop:=∀b,v.ownBlock=some b→v'.ownBlock≠some b
theorem qz9(h:Apart vi vo)(ho:OwnB w base vo bs)(he:vi'.ownBlock=vi.ownBlock∨vi'.ownBlock=some n)(hn:w.heap.size≤n):Apart vi' vo:=by
 intro b hb e;rcases he with he|he
 · exact h b (he▸hb) e
 rw[he]at hb;injection hb with hb;have:=ho.blk_lt e;omega
theorem qza(h:Apart vi vo)(ho:OwnB w base vi bs)(he:vo'.ownBlock=vo.ownBlock∨vo'.ownBlock=some n)(hn:w.heap.size≤n):Apart vi vo':=by
 intro b hb e;rcases he with he|he
 · exact h b hb (he▸e)
 rw[he]at e;injection e with e;have:=ho.blk_lt hb;omega
theorem qzb{ops:Array Oper}(hgd:o.guard=none)(s x:Operand)
 (ho:o.op=.call {callee:=.builtin .append,args:=#[s,x],argTypes:=#[23,23]})
 (base:Nat)(v:Value)(bs:List Nat)(hs:a.eval s=v)(hown:OwnB w base v bs)(A:Option Addr)(m c:Nat)(news:List Nat)(hx:a.eval x=.slice A m c)(hr:Reads w w.heap.size 1 A m (byv news))
 (hlen:bs.length+m≤8589934592)(hbase:base≤w.heap.size)
 (h:∀v' w',OwnB w' base v' (bs++news)→Below base w w'→w.grownBy w' v.ownBlock→(v'.ownBlock=v.ownBlock∨v'.ownBlock=some w.heap.size)→wpList Tryz.prog ops Q rest (a.put o.dst v') w'):wpList Tryz.prog ops Q (o::rest) a w:=by
 obtain⟨i0,hi0,hz0,hz1,hz2⟩:=info_parts Tryz.u8_info;have hm:=qb4 hr;refine qa7 (P:=Tryz.prog) w hgd s x _ ho base 5 i0 _ 1 1 Tryz.underlying23 hi0 hz0 hz1 hz2 rfl zo v bs.length (byv bs) hs hown w.heap.size A m c (byv news) hx hr (qau _) (by simp only[maxLen];omega) zo hbase ?_;intro v' w' h1 h2 h3;refine h v' w' ?_ ?_ h2 h3
 · unfold OwnB
   rw[qas,tA6,hm];exact h1
 exact qae (tA5 _ _) hown h2 (tA4 _) hbase
theorem qzc{K:List Nat}{x:Nat}(f:Nat→Nat)(h:K[k]? =some x):(K.take (k+1)).map f=(K.take k).map f++[f x]:=by
 rw[List.take_add_one,h];simp
theorem qzd(g nk ck n cc:Nat)(Ak A:Option Addr)(key b:List Nat)(w:World)(hT:RTab w g)(hk:Reads w w.heap.size 1 Ak nk (byv key))(hb:Reads w w.heap.size 1 A n (byv b))(hk2:∀x∈key,x<256)(hb2:∀x∈b,x<256)
 (hnk:nk≤64)(hn:n≤65536):
 Zc 60 #[.pointer (some ⟨g,0,none⟩),.slice Ak nk ck,.slice A n cc] w fun e w'=>e=.returned (.agg (byv (mac key b)).toArray)∧Below w.heap.size w w':=by
 have lk:=qb4 hk;have lb:=qb4 hb;obtain⟨W0,hW0⟩:=eqx (w.alloc (.cells zLD 29));obtain⟨G,hG⟩:=xeq w.heap.size;have z0:Blk W0 G 29 zLD:=by rw[hW0,←hG];exact Blk.new w _ _
 have b0:=zMa hW0;have t0:RTab W0 g:=Blk.below hT b0 (Blk.lt hT);have hk0:=(hk.call b0).laid (.cells #[] 5);have hbr0:Reads W0 W0.heap.size 1 A n (byv b):=hb.call b0;have gsz:G<W0.heap.size:=z0.lt;have glt:g<W0.heap.size:=Blk.lt t0;obtain⟨HG,AV,AW,AP,AX,A0,AY,AB⟩:=zh8 hG z0 b0 t0 hbr0 lk lb hk2;have AZ:=zh1 hb2;clear hT hk hb lk lb hk2 hb2 b0 t0 z0 hbr0 hG;go_enter Tryz.func60,Tryz.ntmps60
 go_upto_region 1 with(fail)
 rw[←hW0,show w.heap.size=G from HG.o];clear hW0;go_wp2_with (at_builtin;refine qe2 rfl (.tmp 13) (.tmp 14) rfl W0.heap.size _ [] rfl (OwnB.made W0 [] (by simp[maxLen])) Ak nk ck key rfl hk0 (by simp;omega) zm ?_)
 intro v1 w1 hown1 hb1 hg1;have B1:Below W0.heap.size W0 w1:=((tA5 _ _).alloc (tA4 _) _).trans hb1;obtain⟨A1,n1,c1,rfl,hnc1,hcm1,hrd1⟩:=hown1.sl;have hn1:n1=nk:=by have:=qb4 hrd1;have:=A0.o;omega
 subst hn1;have q64:¬(n1:Int)>64:=zo;have q64':(n1:Int)≤64:=zo;obtain⟨AQ,AR⟩:=zh2 hown1 B1;clear hb1 hg1 hown1 B1 hrd1 hk0;go_wp2_with fail
 go_loopw [7] (fun v wr=>∃z,n1+z≤64∧Hid (OwnB wr W0.heap.size v (key++List.replicate z 0))∧Hid (Below W0.heap.size W0 wr)) (fun v _=>64 - slen v)
 case atStart=>exact⟨0,by omega,zh1 (by simpa using AQ.o),AR.o⟩
 case round=>
  clear AQ AR;obtain⟨z,hz,hown,hbe⟩:=hrel;obtain⟨A2,n2,c2,rfl,hnc,hcm,hrd⟩:=hown.sl;have hn2:n2=n1+z:=by
   have:=qb4 hrd;have e:=A0.o;simp only[tA6,List.length_replicate]at this;omega
  have AS:=zh1 hn2;by_cases hzZ:n1+z<64
  ·
   have q3:(n2:Int)<64:=zo;clear hn2 hrd;have hbs:=hbe.size;have l2:(key++List.replicate z 0).length+1≤140737488355328:=by have:=A0.o;simp;omega
   go_wp2_with (at_builtin;refine qe2 rfl (.tmp 28) (.tmp 29) rfl W0.heap.size _ _ rfl (hown.alloc _) _ 1 1 [0] rfl (by simpa using qe6 wr 0) l2 (by simp;omega) ?_)
   intro v3 w3 hown3 hb3 hg3;have AT:Hid (OwnB w3 W0.heap.size v3 (key++List.replicate (z+1) 0)):=zh1 (by
    have e:(key++List.replicate z 0)++[0]=key++List.replicate (z+1) 0:=by rw[List.replicate_succ'];simp
    rw[←e];simpa using hown3)
   have AA:=zh1 ((hbe.alloc hbs (.cells #[.int .u8 0] 5)).trans hb3);have hv3:slen v3=n1+(z+1):=by
    obtain⟨A3,n3,c3,rfl,-,-,rd3⟩:=AT.sl;have:=qb4 rd3;have e:=A0.o;simp only[tA6,List.length_replicate]at this;simp only[slen];omega
   have B0:=zh1 hv3;clear hown3 hb3 hg3 hv3 l2 hbs;go_wp2
   go_roundw
   case rel=>exact⟨z+1,by omega,AT,AA⟩
   case measure=>rw[B0.o,show n2=n1+z from AS.o];simp only[slen];omega
  have q3:¬(n2:Int)<64:=zo;obtain⟨K,hKK⟩:=xeq (key++List.replicate z 0);have hz':z=64 - key.length:=by have:=A0.o;omega
  have hKl:K.length=64:=by rw[←hKK];have:=A0.o;simp;omega
  have hKb:∀x∈K,x<256:=by
   intro x hx;rw[←hKK]at hx;rcases List.mem_append.1 hx with h|h
   · exact AB.o x h
   rw[(List.mem_replicate.1 h).2];decide
  have hp1:K.map (fun x=>x^^^54)=qj4 key 54:=by unfold qj4;rw[←hKK,hz']
  have hp2:K.map (fun x=>x^^^92)=qj4 key 92:=by unfold qj4;rw[←hKK,hz']
  rw[hKK]at hrd;have hn64:n2=64:=by have:=qb4 hrd;omega
  obtain⟨W1,rfl⟩:=eqx wr;obtain⟨gk,ok,rfl,hgk,hck⟩:=hrd.mid zo zo;obtain⟨B2,B3,B4,AC,B6⟩:=zh5 hck hp1 hp2 hKl hKb;subst hn64;have hw01:=hbe.size;clear hn2 hrd hKK hz' hKl hKb hp1 hp2 hck AS hown;go_wp2_with fail
  go_loopw [9,10,11] (fun vi vo i wr=>∃k:Nat,k≤64∧i=.int .i64 k∧Hid (OwnB wr W1.heap.size vi ((K.take k).map (fun x=>x^^^54)))∧Hid (OwnB wr W1.heap.size vo ((K.take k).map (fun x=>x^^^92)))∧Hid (Apart vi vo)∧Hid (Below W1.heap.size W1 wr)) (fun _ _ i _=>64 - (intOf i).toNat)
  case atStart=>exact⟨0,by omega,rfl,zh1 (OwnB.nil _ _),zh1 (OwnB.nil _ _),zh1 (fun b h=>nomatch h),zh1 (tA5 _ _)⟩
  case round=>
   obtain⟨k,hk,rfl,hvi,hvo,hne,hbw⟩:=hrel;by_cases hk64:k<64
   ·
    have qk:(k:Int)<64:=zo;obtain⟨x,hx⟩:∃x,K[k]? =some x:=⟨_,tA7 (by rw[AC.o];exact hk64)⟩;have lx:=B6.o x (tB2 hx);have ck1:W1.cell? ⟨gk,ok+k,none⟩=some (.int .u8 (x:Int)):=B2.o k _ (by simp[byv,hx]);have ck:=(hbw.cell (p:=⟨gk,ok+k,none⟩) hgk).trans ck1;obtain⟨y1,hy1,oy1⟩:∃y:Nat,x^^^54=y∧bits .xor .u8 (x:Int) 54=y:=⟨_,rfl,u8_xor_nat x 54 lx zdc⟩;obtain⟨y2,hy2,oy2⟩:∃y:Nat,x^^^92=y∧bits .xor .u8 (x:Int) 92=y:=⟨_,rfl,u8_xor_nat x 92 lx zdc⟩;have hm1:=qzc (fun x=>x^^^54) hx;have hm2:=qzc (fun x=>x^^^92) hx;rw[hy1]at hm1;rw[hy2]at hm2;obtain⟨BA,BB⟩:=zh2 hm1 hm2;have hbs:=hbw.size;have la:((K.take k).map (fun x=>x^^^54)).length+1≤8589934592:=by rw[tBl,tBd];omega
    have lb:((K.take k).map (fun x=>x^^^92)).length+1≤8589934592:=by rw[tBl,tBd];omega
    have AD:=zh1 ck1;clear hx hy1 hy2 hm1 hm2 ck1;go_wp2_with (at_builtin;refine qzb rfl (.tmp 35) (.tmp 41) rfl W1.heap.size _ _ rfl (hvi.alloc _) _ 1 1 [y1] rfl (by simpa using qe6 wr y1) la (by simp;omega) ?_)
    intro v3 w3 hown3 hb3 hg3 he3;have hB3:=(hbw.alloc hbs (.cells #[.int .u8 (y1:Int)] 5)).trans hb3;obtain⟨A7,A4⟩:=zh2 ((hvo.alloc (.cells #[.int .u8 (y1:Int)] 5)).grownNe hg3 (fun b h e=>hne.o b e h)) (qz9 hne.o hvo.o he3 zm);have hb3s:=hB3.size;have ck:=(hB3.cell (p:=⟨gk,ok+k,none⟩) hgk).trans AD.o;have A6:Hid (OwnB w3 W1.heap.size v3 ((K.take (k+1)).map (fun x=>x^^^54))):=zh1 (by rw[BA.o,List.map_take];exact hown3);have AA:=zh1 hB3;clear hown3 hb3 hg3 he3 hB3 hvi hvo hne hbw;go_wp2_with (at_builtin;refine qzb rfl (.tmp 43) (.tmp 49) rfl W1.heap.size _ _ rfl (A7.alloc _) _ 1 1 [y2] rfl (by simpa using qe6 w3 y2) lb (by simp;omega) ?_)
    intro v4 w4 hown4 hb4 hg4 he4;have BC:=zh1 ((AA.alloc hb3s (.cells #[.int .u8 (y2:Int)] 5)).trans hb4);have AE:Hid (OwnB w4 W1.heap.size v4 ((K.take (k+1)).map (fun x=>x^^^92))):=zh1 (by rw[BB.o,List.map_take];exact hown4);have AF:Hid (OwnB w4 W1.heap.size v3 ((K.take (k+1)).map (fun x=>x^^^54))):=zh1 ((A6.alloc (.cells #[.int .u8 (y2:Int)] 5)).grownNe hg4 (fun b h e=>A4.o b h e));have AG:=zh1 (qza A4.o A6.o he4 zm);clear hown4 hb4 hg4 he4 AA A7 A4 A6;go_wp2
    go_roundw
    case rel=>exact⟨k+1,by omega,by go_num,AF,AE,AG,BC⟩
    case measure=>simp[intOf];omega
   have qk:¬(k:Int)<64:=zo;obtain rfl:k=64:=zo;have hvi':=hvi.o;have hvo':=hvo.o;rw[tB5 (by rw[AC.o];exact tA4 _),B3.o]at hvi';rw[tB5 (by rw[AC.o];exact tA4 _),B4.o]at hvo';obtain⟨P1,hP1⟩:=xeq (qj4 key 54);obtain⟨P2,hP2⟩:=xeq (qj4 key 92);have lP1:P1.length=64:=by rw[←hP1];exact qjd key (by have:=A0.o;omega) 54
   have lP2:P2.length=64:=by rw[←hP2];exact qjd key (by have:=A0.o;omega) 92
   have bP1:∀x∈P1,x<256:=by rw[←hP1];exact qjc key AB.o 54 zdc
   have bP2:∀x∈P2,x<256:=by rw[←hP2];exact qjc key AB.o 92 zdc
   rw[hP1]at hvi';rw[hP2]at hvo';obtain⟨W2,rfl⟩:=eqx wr;have b02:Below W0.heap.size W0 W2:=hbe.trans (hbw.mono hw01);have rb2:=AX.call b02;have hw12:=hbw.size;obtain⟨BD,BE,AH,AI,AJ,A9,AK,AL⟩:=zh8 hvi' hvo' hP1 hP2 lP1 lP2 bP1 bP2;have AM:=zh1 b02;have l5:P1.length+n≤8589934592:=by rw[lP1];omega
   clear hvi' hvo' hP1 hP2 lP1 lP2 bP1 bP2 b02 hvi hvo hbw hbe;go_wp2_with (at_builtin;refine qzb rfl (.tmp 52) (.tmp 53) rfl W1.heap.size _ _ rfl BD.o A n cc b rfl rb2 l5 hw12 ?_)
   intro v5 w5 hown5 hb5 hg5 he5;have B5:=AM.trans (hb5.mono hw01);have vo5:=BE.grownNe hg5 (fun b h e=>hne.o b e h);obtain⟨A5,n5,c5,rfl,hnc5,hcm5,hrd5⟩:=hown5.sl;have hn5:n5=64+n:=by have:=qb4 hrd5;rw[tA6,AJ.o]at this;have:=AY.o;omega
   have T5:RTab w5 g:=(show RTab W0 g from AP.o).below B5 glt;have K5:=qz8 g n5 c5 A5 (P1++b) w5 (by intro x hx;rcases List.mem_append.1 hx with h|h;exact AK.o x h;exact AZ.o x h) T5 hrd5 zo;obtain⟨D,hD⟩:=xeq (sha (P1++b));rw[hD]at K5;have lD:D.length=32:=by rw[←hD];exact qja _
   have bD:∀x∈D,x<256:=by rw[←hD];exact qjb _
   obtain⟨V,hV⟩:=xeq (byv D);rw[hV]at K5;have lV:V.length=32:=by rw[←hV,qat];exact lD
   have oV:∀u∈V,u.oneCell'=true:=by rw[←hV];exact qau D
   obtain⟨BF,AN,BG,HD,HlD,HbD,HV,HlV⟩:=zh8 K5 vo5 B5 hD lD bD hV lV;obtain⟨HoV,HI⟩:=zh2 oV (zI 29 lV);have hw15:W1.heap.size≤w5.heap.size:=tB1 hw12 hb5.size;clear K5 vo5 B5 hown5 hb5 hg5 he5 hrd5 T5 hD lD bD hV lV oV hne rb2 hn5;go_wp2_with fail
   refine zcb BF.o fun w6 b6=>?_
   have hb56:=b6.size;obtain⟨AO,BH,Hz6⟩:=zh3 (AN.kept b6) (BG.trans (b6.mono (tB1 hw01 hw15))) (Blk.new w6 29 zLD);clear b6;go_upto_region 14 with(refine zst Hz6.o HI.o (by simp[HlV.o]) HoV.o ?_)
   obtain⟨w7,hw7⟩:=eqx ((w6.alloc (.cells zLD 29)).setRow w6.heap.size V.toArray);rw[←hw7];have d7:Blk w7 w6.heap.size 29 V.toArray:=by rw[hw7];exact Hz6.setRow _
   have b67:Below w6.heap.size w6 w7:=by rw[hw7];exact below_setRow ((tA5 _ _).alloc (tA4 _) _) (tA4 _) _
   have hb67:=b67.size;have vo7:=AO.kept b67;have B7:=BH.trans (b67.mono (tB1 (tB1 hw01 hw15) hb56));rw[←HV.o]at d7;have rd:=qfb d7 (p:=0) zo;rw[HlD.o,List.drop_zero]at rd;have l8:P2.length+32≤8589934592:=by rw[A9.o];omega
   have hw17:W1.heap.size≤w7.heap.size:=tB1 (tB1 hw15 hb56) hb67;have BI:=zh1 B7;clear d7 b67 B7 hw7;go_wp2_with (at_builtin;refine qzb rfl (.tmp 57) (.tmp 58) rfl W1.heap.size _ _ rfl vo7 _ 32 32 D rfl rd l8 hw17 ?_)
   intro v8 w8 hown8 hb8 hg8 he8;have B8:=BI.trans (hb8.mono hw01);obtain⟨A8,n8,c8,rfl,hnc8,hcm8,hrd8⟩:=hown8.sl;have hn8:n8=96:=by have:=qb4 hrd8;rw[tA6,A9.o,HlD.o]at this;omega
   have T8:RTab w8 g:=(show RTab W0 g from AP.o).below B8 glt;have K8:=qz8 g n8 c8 A8 (P2++D) w8 (by intro x hx;rcases List.mem_append.1 hx with h|h;exact AL.o x h;exact HbD.o x h) T8 hrd8 zo;have hm:sha (P2++D)=mac key b:=by unfold mac;rw[←HD.o,←AH.o,←AI.o]
   rw[hm]at K8;have lM:(byv (mac key b)).length=32:=by rw[qat];exact qja _
   have oM:=qau (mac key b);obtain⟨M,hM⟩:=xeq (byv (mac key b));rw[hM]at K8 lM oM;have HM:=zh1 hM;have z8:=AV.below B8 gsz;obtain⟨BJ,BK,BL,HlM,HoM,AU⟩:=zh6 K8 B8 z8 lM oM (zI 29 lM);have gw8:G<w8.heap.size:=z8.lt;clear K8 B8 z8 lM oM hM hm T8 hrd8 hown8 hb8 hg8 he8 vo7 rd hn8;go_wp2_with fail
   refine zcb BJ.o fun w9 b9=>?_
   have z9:=BL.below b9 gw8;have B9:Below w.heap.size w w9:=(AW.trans (BK.mono (by have:=HG.o;omega))).trans (b9.mono (by have:=HG.o;omega));go_wp2_with (refine zst z9 AU.o (by simp[HlM.o]) HoM.o ?_)
   have z10:=z9.setRow M.toArray;have BM:=qap z10 0 M zjq;exact zrt BM zu29 AU.o ⟨by rw[HM.o],below_setRow B9 (by rw[HG.o];exact tA4 _) _⟩
theorem qze(g:Nat)(root:List Nat)(id:Nat)(w:World)(hl:root.length=32)(hr:∀x∈root,x<256)(hid:id<4294967296)(hT:RTab w g):
 Zc 58 #[.pointer (some ⟨g,0,none⟩),.agg (byv root).toArray,.int .u32 id] w fun e w'=>e=.returned (.agg (tokv id (.slice none 0 0) (qjy root id)).toArray)∧Zb w w':=by
 have lR:(byv root).length=32:=by rw[qat];exact hl
 obtain⟨V,hV⟩:=xeq (byv root);rw[hV]at lR ⊢;obtain⟨W0,hW0⟩:=eqx ((w.alloc (.cells V.toArray 29)).alloc (.cells zLT 31));have k0:=zNb hW0;have z0:=zNc hW0;have b0:=zMb hW0;have u0:IntKind.u64.wrap (id:Int)=id:=by rw[IntKind.wrap_u64];omega
 have lW:w.heap.size+1<W0.heap.size:=z0.lt;have glt:g<w.heap.size:=Blk.lt hT;obtain⟨AC,HV,A2,Ht,Hr,Hl,A4,A5⟩:=zh8 lR hV hW0 hT hr hl k0 z0;have A6:=zh1 b0;clear lR hV hW0 hT hr hl k0 z0 b0;go_enter Tryz.func58,Tryz.ntmps58
 go_upto_region 1 with(fail)
 rw[←A2.o];obtain⟨S,HS⟩:∃S:World→Prop,Hid (∀w',S w'):=⟨fun _=>True,fun _=>trivial⟩;refine zrs S 10 (zq 0 3 [(5,false),(6,false),(3,true),(4,true),(7,true),(8,true),(9,false),(10,true)]) (HS.o _) ?_;iterate 5 (refine zrb ?_)
 obtain⟨Wd,hWd⟩:=eqx W0.drew;rw[←hWd];have kd:Blk Wd w.heap.size 29 V.toArray:=by rw[hWd];exact A4.o
 have zd:Blk Wd (w.heap.size+1) 31 zLT:=by rw[hWd];exact A5.o
 have bd:Zb w Wd:=by rw[hWd];exact A6.drew
 have ld:w.heap.size+1<Wd.heap.size:=zd.lt;clear hWd A4 A5 A6 A2;obtain⟨w1,hw1⟩:=eqx (Wd.alloc (.cells (byv qjw).toArray 5));have e1:w1.heap[Wd.heap.size]? =some (.cells (byv qjw).toArray 5 (0,0)):=by rw[hw1];exact heap_alloc_new Wd _
 have b1:=zMa hw1;have s1:w1.heap.size=Wd.heap.size+1:=by rw[hw1,qar]
 obtain⟨E1,S1⟩:=zh2 hw1 s1;clear hw1 s1;refine zw ?_;go_simp;refine⟨by first|exact HS.o _|exact fun _=>HS.o _,?_⟩;change qb9 _ _ _ _ _ _ _ (Wd.alloc (.cells (byv qjw).toArray 5));rw[←E1.o];refine zP ?_;refine zw ?_;refine qk3 (.tmp 10) rfl Wd.heap.size 5 5 rfl _ e1 ?_;intro w2 g2 l2;refine⟨by first|exact HS.o _|exact fun _=>HS.o _,?_⟩;have b2:Zb Wd w2:=b1.grown g2 (by have:=S1.o;omega) (by intro g hg;injection hg with hg;omega);have r2:=l2.reads;rw[show qjw.length=5 from rfl]at r2;have N2:=qhb (some ⟨Wd.heap.size,0,none⟩) 5 5 id 4 qjw w2 r2 zdc zo;rw[show qb0 4=4 from rfl]at N2;obtain⟨A8,A7⟩:=zh2 N2 b2;clear N2 r2 b2 b1 e1 g2 l2;refine zP ?_;refine zw ?_;go_simp;refine A8.o.mono ?_;rintro e w3 ⟨v3,rfl,own3,b3⟩;obtain⟨A3,n3,c3,rfl,nc3,-,r3⟩:=own3.sl;have ln3:=qb4 r3;rw[tA6,qaw,show qjw.length=5 from rfl]at ln3;have B3:=A7.trans (b3.mono A7.size);have k3:=kd.below B3 kd.lt;rw[←HV.o]at k3;have rk:=qfb k3 (p:=0) zo;rw[Hl.o,List.drop_zero]at rk;have A1:=bd.trans (B3.mono bd.size);have T3:RTab w3 g:=(show RTab w g from Ht.o).below A1 glt;have M3:=qzd g 32 32 n3 c3 _ A3 root (qjw++be id 4) w3 T3 rk r3 Hr.o (by intro x hx;rcases List.mem_append.1 hx with h|h;exact qjx x h;exact qaz _ _ x h) zo zo;obtain⟨A9,Z3,A0⟩:=zh3 M3 (zd.below B3 ld) A1;clear M3 ln3 own3 r3 rk k3 b3 B3 A1 T3 kd zd bd;refine⟨by first|exact HS.o _|exact fun _=>HS.o _,zput ?_⟩;refine zw ?_;go_simp;refine zcb A9.o fun w7 b7=>?_
 rw[show mac root (qjw++be id 4)=qjy root id from rfl];have lM:(byv (qjy root id)).length=32:=by rw[qat];exact qjz _ _
 have oT:=qeg id (.slice none 0 0) rfl (qjy root id);have bT:=qgr id (byv (qjy root id)) lM (qau _);have hT:(Value.int .u32 (id:Int)::Value.slice none 0 0::byv (qjy root id))=tokv id (.slice none 0 0) (qjy root id):=rfl;have lT:=qdf id (.slice none 0 0) (qjy root id) (qjz _ _);rw[hT]at bT;obtain⟨T,hTT⟩:=xeq (tokv id (.slice none 0 0) (qjy root id));rw[hTT]at bT oT lT;obtain⟨D,hD⟩:=xeq (byv (qjy root id));rw[hD]at bT ⊢;obtain⟨BT,AA,HI⟩:=zh3 bT hTT (zI 31 lT);have z7:=Z3.below b7 Z3.lt;have b77:=A0.trans (b7.mono A0.size);clear bT hTT hD hT lM;refine⟨by first|exact HS.o _|exact fun _=>HS.o _,zput ?_⟩;refine qbg rfl rfl ⟨.agg T.toArray,fun w1 hS=>?_,?_⟩
 · exact qgq 31 _ rfl _ _ BT.o (by simp[Act.eval])
 refine zP ?_;refine zw ?_;refine wp_store_row 31 (.tmp 6) (.tmp 16) rfl (w.heap.size+1) T.toArray rfl rfl 31 _ z7 (by simpa using HI.o) (by simp[lT]) (by simpa using oT) ?_;refine⟨fun h=>absurd h zo,?_⟩;refine qbf ?_;go_wp2_with fail
 have z8:=z7.setRow T.toArray;have AB:=qap z8 0 T zjq;exact zrt AB zu31 HI.o ⟨by rw[AA.o],below_setRow b77 zo _⟩
section
open Go.Extern.Stop (cell)
theorem qzf(R:Req)(cav cav' leafv:Value)(ht:R.tag.length=32):(reqv R cav leafv).take 1++(tokv R.tid cav' R.tag++(reqv R cav leafv).drop (1+(tokv R.tid cav' R.tag).length))=reqv R cav' leafv:=by
 have h:(Value.int .i64 R.op::tokv R.tid cav R.tag).length=35:=by rw[tBi,qdf _ _ _ ht]
 rw[qdf _ _ _ ht];have hd:(reqv R cav leafv).drop (1+34)=R.rest leafv:=by
  unfold reqv;rw[List.drop_left' h]
 rw[hd];rfl
theorem qzg(R:Req)(cav leafv leafv':Value)(ht:R.tag.length=32):(reqv R cav leafv).set 47 leafv'=reqv R cav leafv':=by
 have h:(Value.int .i64 R.op::tokv R.tid cav R.tag).length=35:=by rw[tBi,qdf _ _ _ ht]
 unfold reqv;rw[List.set_append_right _ _ (by rw[h];omega),h];rfl
theorem qzh(R:Req)(cav leafv:Value)(hc:cav.oneCell'=true)(hl:leafv.oneCell'=true):∀u∈reqv R cav leafv,u.oneCell'=true:=by
 intro u hu;unfold reqv at hu;rcases List.mem_append.1 hu with hu|hu
 · rcases List.mem_cons.1 hu with rfl|hu
   · rfl
   exact qeg _ _ hc _ u hu
 simp[Req.rest]at hu;rcases hu with rfl|rfl|rfl|rfl|rfl|rfl|rfl|rfl|rfl|rfl|rfl|rfl|rfl<;>first|rfl|exact hl
theorem qzi(R:Req)(Ac:Option Addr)(n cc:Nat)(Al:Option Addr)(m cl:Nat)(w:World)(ht:R.tag.length=32)(hc:Reads w w.heap.size 2 Ac n (cavv R.cavs))(hn:n≤8796093022208)(hl:Reads w w.heap.size 1 Al m (byv R.leaf))(hm:m≤140737488355328):
 Zc 91 #[.agg (reqv R (.slice Ac n cc) (.slice Al m cl)).toArray] w fun e w'=>∃v u,e=.returned (.agg (reqv R v u).toArray)∧OwnC w' w.heap.size v R.cavs∧OwnB w' w.heap.size u R.leaf∧Zb w w':=by
 have hlen:=qix R (.slice Ac n cc) (.slice Al m cl) ht;have hrt:=qiy R (.slice Ac n cc) (.slice Al m cl);have h47:=(qdk R (.slice Ac n cc) (.slice Al m cl) ht 12).trans (show _=some (.slice Al m cl) from rfl);have hcopy:=fun w' h=>qeh R.tid R.cavs Ac n cc R.tag w' h hn ht
 have hspl:=fun v=>qzf R (.slice Ac n cc) v (.slice Al m cl) ht
 obtain⟨L,hL⟩:=xeq (reqv R (.slice Ac n cc) (.slice Al m cl));have hlenT:=qdf R.tid (.slice Ac n cc) R.tag ht;obtain⟨T,hT⟩:=xeq (tokv R.tid (.slice Ac n cc) R.tag);rw[hL]at hlen hrt h47 ⊢;rw[hT]at hrt hlenT;simp only[hT]at hcopy;simp only[hL]at hspl;obtain⟨A6,A7,AC,A0,AD⟩:=zh5 hcopy hspl h47 hlen (zI 31 hlenT);have t0:Blk ((w.alloc (.cells L.toArray 34)).alloc (.cells zLQ 34)) w.heap.size 34 L.toArray:=(Blk.new w _ _).alloc _;have z0:Blk ((w.alloc (.cells L.toArray 34)).alloc (.cells zLQ 34)) (w.heap.size+1) 34 zLQ:=by
  have:=Blk.new (w.alloc (.cells L.toArray 34)) 34 zLQ;rwa[qar]at this
 have A5:=zh1 (qap t0 1 T hrt);have hc0:=(hc.laid (.cells L.toArray 34)).laid (.cells zLQ 34);clear hcopy hspl h47 hlen hlenT hrt hL hT;go_enter Tryz.func91,Tryz.ntmps91
 go_wp2_with (refine zld A5.o zu31 AD.o ?_)
 refine(A6.o _ hc0).mono ?_;rintro e w1 ⟨v1,rfl,hown1,hb1⟩;simp only[qar,Zb]at hown1 hb1;have B1:Zb w w1:=(qah (qah (tA5 _ _) _) _).trans (hb1.mono zo);have t1:=t0.below hb1 zo;have z1:=z0.below hb1 zo;have hsz1:=hb1.size;simp only[qar]at hsz1;clear hb1 t0 z0 hc0 A5 hc;obtain⟨A1,n1,c1,rfl,-,-,-,-⟩:=hown1.sl;have hlenT2:=qdf R.tid (.slice A1 n1 c1) R.tag ht;have honeT2:=qeg R.tid (.slice A1 n1 c1) rfl R.tag;have hsp2:=A7.o (.slice A1 n1 c1);obtain⟨T2,hT2⟩:=xeq (tokv R.tid (.slice A1 n1 c1) R.tag);rw[hT2]at hlenT2 honeT2 hsp2 ⊢;clear hT2;have t2:=Blk.setCells T2 1 w1 L t1 (by rw[hlenT2,A0.o];decide);rw[hsp2]at t2;have hth:=qek t1 1 T2.toArray.size (by rw[tB6,hlenT2,A0.o];decide);have z2:=z1.grown (qei w.heap.size T2 1 w1) zm;have B2:=qej B1 (tA4 _) B1.size 1 T2;have hown2:OwnC (w1.setCells w.heap.size 1 T2) (w.heap.size+2) (.slice A1 n1 c1) R.cavs:=tB3 hown1 (qei w.heap.size T2 1 w1) (.inr (qa3 hown1 t1 zdc));have h47':=(qdk R (.slice A1 n1 c1) (.slice Al m cl) ht 12).trans (show _=some (.slice Al m cl) from rfl);have hsz2:w.heap.size+2≤(w1.setCells w.heap.size 1 T2).heap.size:=tB1 hsz1 (qei w.heap.size T2 1 w1).size;have hset:=fun u=>qzg R (.slice A1 n1 c1) (.slice Al m cl) u ht
 obtain⟨w2,hw2⟩:=xeq (w1.setCells w.heap.size 1 T2);obtain⟨M,hM⟩:=xeq (reqv R (.slice A1 n1 c1) (.slice Al m cl));rw[hw2]at z2 B2 hown2 hsz2;rw[hM]at h47';simp only[hM]at hset;rw[hw2,hM]at t2;obtain⟨A4,A8,A9,AA,AB,A2⟩:=zh6 hset hw2 hth (show (Tryz.prog.info? 31).map (·.size)=some T2.toArray.size by rw[tB6,hlenT2];exact Tryz.tok_info) (all_oneCell_toArray honeT2) h47';clear hM hset hw2 hth hlenT2 honeT2 hsp2 h47' A7 AC A0 t1 z1 hown1 hsz1 A6 B1;have hl2:=(hl.call B2).laid (.cells #[] 5);have t2l:=t2.lt;have c47:=(t2.cell 47).trans (show M.toArray[47]? =some (.slice Al m cl) by simpa using A2.o);clear hl;go_wp2_with (first
  |(refine wpList_store_mid rfl 31 (.tmp 6) (.tmp 5) rfl w.heap.size 1 T2.toArray rfl rfl A9.o AA.o AB.o ?_;rw[show T2.toArray.toList=T2 from rfl,A8.o])
  |(at_builtin;refine qe2 rfl _ _ rfl w2.heap.size _ [] rfl (OwnB.made w2 [] (by simp[maxLen])) Al m cl R.leaf rfl hl2 (by simp;omega) zm ?_))
 intro v3 w3 hown3 hb3 hg3;have B3:Zb w w3:=(B2.alloc B2.size _).trans (hb3.mono B2.size);have hb3':Zb w2 w3:=((tA5 _ _).alloc (tA4 _) _).trans hb3;have t3:=t2.below hb3' t2l;have z3:=z2.below hb3' zo;have hownc3:=hown2.kept hb3';clear hb3 hg3 hl2 c47 t2 z2 hown2 B2 A9 AA AB A8;obtain⟨A3,n3,c3,rfl,-,-,-⟩:=hown3.sl;have cc:=(t3.cell 47).trans (show M.toArray[47]? =some (.slice Al m cl) by simpa using A2.o);have ff:=t3.frozen 47;have hlt:=t3.lt;have t4:=t3.set_ 47 (.slice A3 n3 c3);rw[List.setIfInBounds_toArray,A4.o]at t4;have z4:=z3.far (p:=⟨w.heap.size,47,none⟩) zm (.slice A3 n3 c3);have B4:=B3.setCell (p:=⟨w.heap.size,47,none⟩) (tA4 _) (.slice A3 n3 c3);have hownc4:OwnC _ (w.heap.size+2) _ R.cavs:=qal hownc3 (p:=⟨w.heap.size,47,none⟩) (qa3 hownc3 t3 zdc) (.slice A3 n3 c3);have hownb4:OwnB _ w2.heap.size _ R.leaf:=qal hown3 (p:=⟨w.heap.size,47,none⟩) (qa3 hown3 t3 zdc) (.slice A3 n3 c3);have hlen4:=qix R (.slice A1 n1 c1) (.slice A3 n3 c3) ht;have hone4:=qzh R (.slice A1 n1 c1) (.slice A3 n3 c3) rfl rfl;obtain⟨N,hN⟩:=xeq (reqv R (.slice A1 n1 c1) (.slice A3 n3 c3));rw[hN]at t4 hlen4 hone4;obtain⟨HN,A5,HI,AE,HO⟩:=zh5 hN (qap t4 0 N zjq) (zI 34 hlen4) hlen4 (all_oneCell_toArray hone4);clear hN hlen4 hone4 A4 A2 t3 z3 hownc3 hown3 B3;go_wp2_with (first
  |(refine zld A5.o zu34 HI.o ?_)
  |(refine wpList_store_row rfl 34 (.tmp 2) (.tmp 12) rfl (w.heap.size+1) N.toArray rfl rfl 34 _ z4 (by simpa using HI.o) (by simp[AE.o]) HO.o ?_))
 have z5:=z4.setRow N.toArray;have AF:=qap z5 0 N zjq;refine zrt AF zu34 HI.o ⟨_,_,by rw[←HN.o],?_,?_,below_setRow B4 zo _⟩
 · exact qde (tB3 hownc4 (qam _ (w.heap.size+1) N.toArray) (.inr (qa3 hownc4 z4 zdc))) zo
 exact qde (tB3 hownb4 (qam _ (w.heap.size+1) N.toArray) (.inr (qa3 hownb4 z4 zdc))) zo
end
section
open Go
section
variable {P : Program} {ops : Array Oper} {Q : Exit → Act → World → Prop} {md : Region.Mode} {S : World → Prop} {p : Nat → Bool}
def xat (P:Program)(md:Region.Mode)(ops:Array Oper)(Q:Exit→Act→World→Prop)(S:World→Prop)(p:Nat→Bool):Nat→Array Bool→Act→World→Prop
 |0,listed,a,w=>Region.ready md ops listed=[]∧Q .normal a w
 |fuel+1,listed,a,w=>
  (Region.ready md ops listed=[]→Q .normal a w)∧
  ∀i∈Region.ready md ops listed,wpOp P ops Q i (fun a' w'=>(p i=true→S w→S w')∧xat P md ops Q S p fuel (listed.setIfInBounds i true) a' w') a w
theorem xau:∀(fuel:Nat) (listed:Array Bool) (a:Act) (w:World),xat P md ops Q S p fuel listed a w→wpAny P md ops Q fuel listed a w
 |0,_,_,_,h=>h
 |fuel+1,_,_,_,h=>⟨h.1,fun i hi=>wpOp_mono (fun a' w' h'=>xau fuel _ a' w' h'.2) (h.2 i hi)⟩
theorem xav(T:World→Prop)(hi:ops[i]? =some oi)(hsel:∀(j:Nat) (o:Oper) cs b,ops[j]? =some o→o.op≠.select cs b)
 (hQ:∀c a w,Q (.panic c) (a.put oi.dst v) w→Q (.panic c) a w)
 (hT:(∀w,T w)∨((∀w,S w→T w)∧∀j oj,ops[j]? =some oj→j≠i→p j=false→∃e∈oj.after,Region.binds md e=true∧e.on=i)):
 ∀(fuel:Nat) (listed:Array Bool) (a:Act) (w:World),
  (∀j oj,ops[j]? =some oj→j≠i→listed.getD j true=false→(∀e∈oj.after,Region.binds md e=true→e.on≠i)→oi.apart ops oj=true)→
  i∈Region.ready md ops listed→YieldsIf P ops T oi v a→((∀w,T w)∨S w)→
  xat P md ops Q S p fuel (listed.setIfInBounds i true) (a.put oi.dst v) w→xat P md ops Q S p (fuel+1) listed a w:=by
 intro fuel;induction fuel with
 |zero=>
  intro listed a w _ hr hy hS H;have hTw:T w:=by
   rcases hS with h|h
   · exact h w
   rcases hT with h'|h'
   · exact h' w
   exact h'.1 w h
  refine⟨fun h=>(by rw[h]at hr;cases hr),fun j hj=>?_⟩;by_cases hji:j=i
  · subst hji;exact hy.wpOp hi hTw ⟨fun _ h=>h,H⟩
  have:=ready_mono hj hji;rw[H.1]at this;cases this
 |succ fuel ih=>
  intro listed a w hfree hr hy hS H;have hTw:T w:=by
   rcases hS with h|h
   · exact h w
   rcases hT with h'|h'
   · exact h' w
   exact h'.1 w h
  refine⟨fun h=>(by rw[h]at hr;cases hr),fun j hj=>?_⟩;by_cases hji:j=i
  · subst hji;exact hy.wpOp hi hTw ⟨fun _ h=>h,H⟩
  have h1:=H.2 j (ready_mono hj hji);obtain⟨hjun,oj,hoj,hall⟩:=mem_ready.1 hj;have hnot:∀e∈oj.after,Region.binds md e=true→e.on≠i:=fun e he hb heq=>by
   have h1:=hall e he hb;have h0:=(mem_ready.1 hr).1;rw[heq]at h1;rcases Nat.lt_or_ge i listed.size with h'|h'
   · simp[h']at h0 h1;rw[h0]at h1;cases h1
   simp[Array.getElem?_eq_none h']at h1
  have h2:=wpOp_putIf hoj (hfree j oj hoj hji hjun hnot) (fun cs b=>hsel i oi cs b hi) (fun cs b=>hsel j oj cs b hoj) hQ hy h1;have hfree':∀k ok,ops[k]? =some ok→k≠i→(listed.setIfInBounds j true).getD k true=false→
   (∀e∈ok.after,Region.binds md e=true→e.on≠i)→oi.apart ops ok=true:=fun k ok hk hki hun hno=>by
   refine hfree k ok hk hki ?_ hno;by_cases hjk:j=k
   · subst hjk;exact hjun
   rw[getD_set_ne true hjk]at hun;exact hun
  refine wpOp_mono (fun a' w' h3=>⟨h3.2.1,ih (listed.setIfInBounds j true) a' w' hfree' (ready_mono hr (Ne.symm hji)) h3.1 ?_ ?_⟩) h2
  ·
   rcases hS with h|h
   · exact .inl h
   rcases hT with h'|h'
   · exact .inl h'
   right;refine h3.2.1 ?_ h;cases hp:p j with
   |true=>rfl
   |false=>
    obtain⟨e,he,hb,heq⟩:=h'.2 j oj hoj hji hp;exact absurd heq (hnot e he hb)
  rw[Array.setIfInBounds_comm _ _ hji];exact h3.2.2
def xaw (md:Region.Mode)(ops:Array Oper)(p:Nat→Bool)(i:Nat):Bool:=
 (List.range ops.size).all fun j=>p j||j==i||(match ops[j]? with|none=>true|some o=>o.after.any fun e=>Region.binds md e&&e.on==i)
def xax (md:Region.Mode)(ops:Array Oper)(p:Nat→Bool):Bool→List (Nat × Option Bool)→Array Bool→Bool
 |_,[],listed=>(Region.ready md ops listed).isEmpty
 |b,(i,none)::r,listed=>(Region.ready md ops listed).contains i&&Region.free md ops listed i&&xax md ops p b r (listed.setIfInBounds i true)
 |b,(i,some false)::r,listed=>b&&xaw md ops p i&&(Region.ready md ops listed).contains i&&Region.free md ops listed i&&xax md ops p b r (listed.setIfInBounds i true)
 |b,(i,some true)::r,listed=>(Region.ready md ops listed==[i])&&xax md ops p (b&&p i) r (listed.setIfInBounds i true)
def xay (P:Program)(ops:Array Oper)(Q:Exit→Act→World→Prop)(S:World→Prop)(p:Nat→Bool):List (Nat × Option Bool)→Act→World→Prop
 |[],a,w=>Q .normal a w
 |(i,none)::r,a,w=>∃o v,ops[i]? =some o∧YieldsIf P ops (fun _=>True) o v a∧xay P ops Q S p r (a.put o.dst v) w
 |(i,some false)::r,a,w=>∃o v,ops[i]? =some o∧YieldsIf P ops S o v a∧xay P ops Q S p r (a.put o.dst v) w
 |(i,some true)::r,a,w=>wpOp P ops Q i (fun a' w'=>(p i=true→S w')∧xay P ops Q S p r a' w') a w
theorem xaz(hsel:Region.noSelect ops=true)(hQ:∀c a d v w,Q (.panic c) (a.put d v) w→Q (.panic c) a w):
 ∀(r:List (Nat × Option Bool)) (b:Bool) (listed:Array Bool) (a:Act) (w:World),(b=true→S w)→xax md ops p b r listed=true→xay P ops Q S p r a w→xat P md ops Q S p r.length listed a w:=by
 intro r;induction r with
 |nil=>
  intro b listed a w _ ho h;simp only[xax,List.isEmpty_iff]at ho;exact⟨ho,h⟩
 |cons x r ih=>
  obtain⟨i,k⟩:=x;intro b listed a w hS ho h;rcases k with _|_|_
  · simp only[xax,Bool.and_eq_true]at ho
    obtain⟨⟨hr,hf⟩,ho⟩:=ho;obtain⟨o,v,hi,hy,h⟩:=h;have hr':i∈Region.ready md ops listed:=by simpa using hr
    exact xav (fun _=>True) hi (Region.noSelect_spec hsel) (fun c a w=>hQ c a o.dst v w) (.inl fun _=>trivial) r.length listed a w (Region.free_spec hi hf) hr' hy (.inl fun _=>trivial) (ih b _ _ _ hS ho h)
  ·
   simp only[xax,Bool.and_eq_true]at ho;obtain⟨⟨⟨⟨hb,hw⟩,hr⟩,hf⟩,ho⟩:=ho;obtain⟨o,v,hi,hy,h⟩:=h;have hr':i∈Region.ready md ops listed:=by simpa using hr
   refine xav S hi (Region.noSelect_spec hsel) (fun c a w=>hQ c a o.dst v w) (.inr ⟨fun _ h=>h,fun j oj hj hji hp=>?_⟩) r.length listed a w (Region.free_spec hi hf) hr' hy (.inr (hS hb)) (ih b _ _ _ hS ho h);unfold xaw at hw;obtain⟨hjs,_⟩:=Array.getElem?_eq_some_iff.1 hj;have:=List.all_eq_true.1 hw j (List.mem_range.2 hjs);rw[hj]at this;simp only[Bool.or_eq_true,beq_iff_eq,hp,Array.any_eq_true',Bool.and_eq_true]at this;rcases this with(h0|h0)|⟨e,he,h1,h2⟩
   · cases h0
   · exact absurd h0 hji
   exact⟨e,he,h1,h2⟩
  simp only[xax,Bool.and_eq_true,beq_iff_eq]at ho;obtain⟨hr,ho⟩:=ho;have hr':i∈Region.ready md ops listed:=by rw[hr];simp
  refine⟨fun h0=>(by rw[hr]at h0;cases h0),fun j hj=>?_⟩;obtain rfl:j=i:=by rw[hr]at hj;simpa using hj
  refine wpOp_mono (fun a' w' h'=>⟨fun hp _=>h'.1 hp,ih (b&&p j) _ _ _ (fun hbp=>h'.1 (by simp only[Bool.and_eq_true]at hbp;exact hbp.2)) ho h'.2⟩) h
theorem xb0(S:World→Prop)(pl:List Nat)(r:List (Nat × Option Bool))(hm:P.follows .mixedOrders=true)(hlen:(r.length==ops.size)=true)(hsel:Region.noSelect ops=true)
 (ho:xax .any ops (fun i=>pl.contains i) true r (Array.replicate ops.size false)=true)(hQ:∀c a d v w,Q (.panic c) (a.put d v) w→Q (.panic c) a w)(hS:S w.drew)
 (h:xay P ops Q S (fun i=>pl.contains i) r a w.drew):(Code.region id ops true).wp P Q a w:=by
 have hl:r.length=ops.size:=by simpa using hlen
 refine wp_region_any hm (xau (S:=S) (p:=fun i=>pl.contains i) _ _ _ _ ?_);have:=xaz (P:=P) (Q:=Q) (S:=S) (md:=.any) hsel hQ r true (Array.replicate ops.size false) a w.drew (fun _=>hS) ho h;rw[hl]at this;exact this
theorem xb1(h:Q .normal a w):xay P ops Q S p [] a w:=h
theorem xb2{r:List (Nat × Option Bool)}(hi:nth l i=some o)(hw:Region.wanted o (yielded l.toArray a.tmps)=true)
 (h:∃v,(∀w1:World,(execOp a.eval o).run P w1=.ok (.value v) w1)∧xay P l.toArray Q S p r (a.put o.dst v) w):xay P l.toArray Q S p ((i,none)::r) a w:=
 h.elim fun v hv=>⟨o,v,(qb8 l i).symm.trans hi,.inl ⟨hw,fun w _=>hv.1 w⟩,hv.2⟩
theorem xb3{r:List (Nat × Option Bool)}(hi:nth l i=some o)(hw:Region.wanted o (yielded l.toArray a.tmps)=true)
 (h:∃v,(∀w,S w→(execOp a.eval o).run P w=.ok (.value v) w)∧xay P l.toArray Q S p r (a.put o.dst v) w):xay P l.toArray Q S p ((i,some false)::r) a w:=
 h.elim fun v hv=>⟨o,v,(qb8 l i).symm.trans hi,.inl ⟨hw,hv.1⟩,hv.2⟩
theorem xb4{r:List (Nat × Option Bool)}(hi:nth l i=some o)(hw:Region.wanted o (yielded l.toArray a.tmps)=true)
 (h:o.wp P a w (fun a' w'=>(p i=true→S w')∧xay P l.toArray Q S p r a' w') Q):xay P l.toArray Q S p ((i,some true)::r) a w:=by
 show wpOp P l.toArray Q i _ a w;unfold wpOp;simp only[(qb8 l i).symm.trans hi,hw,if_true];exact .inl h
end
end
theorem xbh:∀(l:List (List Nat)) (k:Nat),(∀d∈l,d.length=32)→(l.take k).flatten.length=min k l.length*32
 |[],k,_=>by simp
 |d::l,0,_=>by simp
 |d::l,k+1,h=>by
  rw[List.take_succ_cons,List.flatten_cons,tA6,xbh l k (fun x hx=>h x (List.mem_cons_of_mem _ hx)),h d zm,tBi];omega
theorem xbi(R:Rsp)(Ab:Option Addr)(cb:Nat)(Ah:Option Addr)(ch:Nat)(Ac:Option Addr)(cc:Nat)(w:World)(hR:R.Ok)
 (hrb:Reads w w.heap.size 1 Ab R.bytes.length (byv R.bytes))(hbc:R.bytes.length≤cb)(hbm:cb≤maxLen)
 (hrh:Reads w w.heap.size 32 Ah R.hashes.length (digv R.hashes))(hhc:R.hashes.length≤ch)(hhm:ch≤maxLen)
 (hrc:Reads w w.heap.size 2 Ac R.tok.2.1.length (cavv R.tok.2.1))(hcc:R.tok.2.1.length≤cc)(hcm:cc≤maxLen):
 Zc 78 #[.agg (rspv R (.slice Ab R.bytes.length cb) (.slice Ah R.hashes.length ch) (.slice Ac R.tok.2.1.length cc)).toArray] w fun e w'=>∃v,e=.returned (.tuple #[v,.int .i64 ((qiv R).1:Int)])∧OwnB w' w.heap.size v (qiv R).2∧Below w.heap.size w w':=by
 have kenc:=fun w' h=>qdj R.tok.1 R.tok.2.1 Ac cc R.tok.2.2 w' h hcc hcm hR.tok.1 hR.tok.2.1 hR.tok.2.2.1
 have knone:=fun w'=>qmc R.tok.1 Ac R.tok.2.1.length cc R.tok.2.2 w' hR.tok.2.2.1 hR.tok.2.2.2
 have kneq:=fun w'=>qly w' R.hd Hd.zero hR.hd Hd.zero_Ok
 have tl:=qea R.tok.1 R.tok.2.1 R.tok.2.2 hR.tok.2.2.1;have d0:(rspv R (.slice Ab R.bytes.length cb) (.slice Ah R.hashes.length ch) (.slice Ac R.tok.2.1.length cc))[0]? =some (.int .i64 R.why):=rfl;have d1:(rspv R (.slice Ab R.bytes.length cb) (.slice Ah R.hashes.length ch) (.slice Ac R.tok.2.1.length cc))[1]? =some (.int .u64 (R.n:Int)):=rfl;have d2:(rspv R (.slice Ab R.bytes.length cb) (.slice Ah R.hashes.length ch) (.slice Ac R.tok.2.1.length cc))[2]? =some (.slice Ab R.bytes.length cb):=rfl;have d3:(rspv R (.slice Ab R.bytes.length cb) (.slice Ah R.hashes.length ch) (.slice Ac R.tok.2.1.length cc))[3]? =some (.slice Ah R.hashes.length ch):=rfl;have dh:=qm6 R (.slice Ab R.bytes.length cb) (.slice Ah R.hashes.length ch) (.slice Ac R.tok.2.1.length cc) hR;have dt:=qm7 R (.slice Ab R.bytes.length cb) (.slice Ah R.hashes.length ch) (.slice Ac R.tok.2.1.length cc) hR;have lT:=qdf R.tok.1 (.slice Ac R.tok.2.1.length cc) R.tok.2.2 hR.tok.2.2.1;have lS:=qlp R.hd hR.hd;have lH:=qlo R.hd hR.hd.rootl;have hh:∀j u,(qlm R.hd)[j]? =some u→(hdv R.hd)[j]? =some u:=fun j u hu=>by rw[qln];exact qm8 j u hu
 have hg:∀j u,(byv R.hd.tag)[j]? =some u→(hdv R.hd)[36+j]? =some u:=fun j u hu=>by rw[qln];exact qm9 36 lH j u hu
 have hq:∀j u,(byv R.hd.root)[j]? =some u→(qlm R.hd)[4+j]? =some u:=fun j u hu=>by
  rw[show 4+j=j+1+1+1+1 from by omega];exact hu
 have oneH:=qma R.hd;have e0:(qlm R.hd)[0]? =some (.int .i64 R.hd.tree):=rfl;have e1:(qlm R.hd)[1]? =some (.int .i64 R.hd.epoch):=rfl;have e2:(qlm R.hd)[2]? =some (.int .u64 (R.hd.size:Int)):=rfl;have e3:(qlm R.hd)[3]? =some (.int .u64 (R.hd.clock:Int)):=rfl;have gR:(byv R.hd.root).length=32:=by rw[qat,hR.hd.rootl]
 have gT:(byv R.hd.tag).length=32:=by rw[qat,hR.hd.tagl]
 have hans:qiv R=if 255<R.hashes.length∨(qda R.tok.1 R.tok.2.1 R.tok.2.2).1=4 then(4,[]) else if 65536≤R.bytes.length then(3,[]) else if R.fits=true∧(qda R.tok.1 R.tok.2.1 R.tok.2.2).1=0 then(0,ansB R) else(1,[]):=rfl
 have hab:ansB R=be R.why.toNat 1++(be R.n 8++(txt R.bytes++(be R.hashes.length 1++(R.hashes.flatten++(be (flagsOf R) 1++((if R.hd=Hd.zero then [] else hdB R.hd)++(if R.tok=qgt then [] else txt (qda R.tok.1 R.tok.2.1 R.tok.2.2).2))))))):=rfl;have hfl:flagsOf R=(if R.hd=Hd.zero then 0 else 1)+(if R.tok=qgt then 0 else 2):=rfl;have hhB:hdB R.hd=be R.hd.tree.toNat 1++(be R.hd.epoch.toNat 4++(be R.hd.size 8++(be R.hd.clock 8++(R.hd.root++R.hd.tag)))):=rfl;have hft:R.fits=(decide (0≤R.why∧R.why≤255)&&decide (0≤R.hd.tree∧R.hd.tree≤255)&&decide (0≤R.hd.epoch∧R.hd.epoch≤2147483647)):=rfl;have hzt:(R.tok.1=0∧R.tok.2.1.length=0∧R.tok.2.2=List.replicate 32 0) ↔ R.tok=qgt:=by
  obtain⟨a,b,c⟩:=R.tok;simp[qgt,List.length_eq_zero_iff]
 have knone:∀w',Zc 75 #[.agg (tokv R.tok.1 (.slice Ac R.tok.2.1.length cc) R.tok.2.2).toArray] w' fun e w''=>e=.returned (.bool (decide (R.tok=qgt)))∧Below w'.heap.size w' w'':=fun w'=>by
  have:=knone w';simp only[hzt]at this;exact this
 have hn64:=hR.n;have hs64:=hR.hd.size;have hc64:=hR.hd.clock;have hok:=hR.hashes;obtain⟨L,hL⟩:=xeq (rspv R (.slice Ab R.bytes.length cb) (.slice Ah R.hashes.length ch) (.slice Ac R.tok.2.1.length cc));rw[hL]at d0 d1 d2 d3 dh dt ⊢;obtain⟨T,hT⟩:=xeq (tokv R.tok.1 (.slice Ac R.tok.2.1.length cc) R.tok.2.2);rw[hT]at dt lT;simp only[hT]at kenc knone;obtain⟨S,hS⟩:=xeq (hdv R.hd);rw[hS]at dh hh hg lS;simp only[hS]at kneq;obtain⟨H,hH⟩:=xeq (qlm R.hd);rw[hH]at hh hq lH oneH e0 e1 e2 e3;obtain⟨y,hy⟩:=xeq R.why;obtain⟨ny,hny⟩:=xeq R.n;obtain⟨kt,hkt⟩:=xeq R.hd.tree;obtain⟨ke,hke⟩:=xeq R.hd.epoch;obtain⟨ks,hks⟩:=xeq R.hd.size;obtain⟨kc,hkc⟩:=xeq R.hd.clock;obtain⟨rt,hrt⟩:=xeq R.hd.root;obtain⟨tg,htg⟩:=xeq R.hd.tag;obtain⟨bs,hbs⟩:=xeq R.bytes;obtain⟨hs,hhs⟩:=xeq R.hashes;obtain⟨nb,hnb⟩:=xeq R.bytes.length;obtain⟨nh,hnh⟩:=xeq R.hashes.length;obtain⟨nc,hnc⟩:=xeq R.tok.2.1.length;obtain⟨zh,hzh⟩:=xeq (decide (R.hd=Hd.zero));obtain⟨zt,hzt2⟩:=xeq (decide (R.tok=qgt));obtain⟨cv,hcv⟩:=xeq R.tok.2.1;obtain⟨⟨tw,tb⟩,htr⟩:∃y,qda R.tok.1 R.tok.2.1 R.tok.2.2=y:=⟨_,rfl⟩;have ezh:(if R.hd=Hd.zero then 0 else 1)=(if zh then 0 else 1):=by rw[←hzh];simp
 have ezt:(if R.tok=qgt then 0 else 2)=(if zt then 0 else 2):=by rw[←hzt2];simp
 have ezh2:(if R.hd=Hd.zero then [] else hdB R.hd)=(if zh then [] else hdB R.hd):=by rw[←hzh];simp
 have ezt2:(if R.tok=qgt then [] else txt (qda R.tok.1 R.tok.2.1 R.tok.2.2).2)=(if zt then [] else txt (qda R.tok.1 R.tok.2.1 R.tok.2.2).2):=by rw[←hzt2];simp
 rw[ezh2,ezt2]at hab;rw[ezh,ezt]at hfl;simp only[hzh]at kneq;simp only[hzt2]at knone;rw[htr]at tl hans;simp only[htr]at kenc hab;rw[hnb]at hans hbc hrb;rw[hnh]at hans hrh hhc hab;rw[hnc,hcv]at hrc;rw[hnc]at hcc;simp only[hnc]at kenc;simp only[hcv]at kenc;rw[hnb]at d2;rw[hnh]at d3;rw[hy]at d0 hft hab;rw[hny]at d1 hab hn64;rw[hkt]at e0 hft hhB;rw[hke]at e1 hft hhB;rw[hks]at e2 hhB hs64;rw[hkc]at e3 hhB hc64;rw[hrt]at hq gR hhB;rw[htg]at hg gT hhB;rw[hbs]at hrb hab;rw[hhs]at hrh hab hok;have hnb':bs.length=nb:=by rw[←hbs];exact hnb
 have hnh':hs.length=nh:=by rw[←hhs];exact hnh
 have lrt:rt.length=32:=by rw[←hrt];exact hR.hd.rootl
 have ltg:tg.length=32:=by rw[←htg];exact hR.hd.tagl
 dsimp only at tl kenc hans hab;have lt60:tb.length≤60:=tl;obtain⟨AO,AA,AP,D0,D1,D2,D3,DH⟩:=zh8 kenc knone kneq d0 d1 d2 d3 dh;obtain⟨DT,IT,IS,IH,IH',LH,OH,IR⟩:=zh8 dt (zI 31 lT) (zI 55 lS) (zI 53 lH) (show (Tryz.prog.info? 53).map (·.size)=some H.toArray.size by rw[tB6,lH];exact Tryz.hd_info) lH oneH (show (Tryz.prog.info? 29).map (·.size)=some (byv rt).length by rw[gR];exact Tryz.digest_info);obtain⟨IG,HH,HG,HQ,E0,E1,E2,E3⟩:=zh8 (show (Tryz.prog.info? 29).map (·.size)=some (byv tg).length by rw[gT];exact Tryz.digest_info) hh hg hq e0 e1 e2 e3;obtain⟨A0,BL,BM,BA,A7,AB,BB,AQ⟩:=zh8 hans hab hfl hhB hft hok hnb' hnh';obtain⟨AJ,BC,BN,BO,BP⟩:=zh5 lrt ltg hrb hrh hrc;clear kenc knone kneq d0 d1 d2 d3 dh dt lT lS oneH gR gT hh hg hq e0 e1 e2 e3 hans hab hfl hhB hft hok hnb' hnh' lrt ltg hrb hrh hrc hL hT hS hH hy hny hkt hke hks hkc hrt htg hbs hhs hnb hnh hnc hzh hzt2 hcv htr hzt ezh ezt ezh2 ezt2 tl lH;unfold maxLen at hbm hhm hcm;have t0:Blk (w.alloc (.cells L.toArray 57)) w.heap.size 57 L.toArray:=Blk.new w _ _;obtain⟨B0,T0,AR,AS⟩:=zh4 (show Below w.heap.size w (w.alloc (.cells L.toArray 57)) from qah (tA5 _ _) _) t0 (qap t0 72 T DT.o) (BP.laid (.cells L.toArray 57));clear t0;obtain⟨W0,hW0⟩:=eqx (w.alloc (.cells L.toArray 57));rw[←hW0]at B0 T0 AR AS;have BD:=zh1 hW0;clear hW0;go_enter Tryz.func78,Tryz.ntmps78
 go_upto_region 1 with(fail)
 rw[←BD.o];go_wp2_with (refine zld AR.o zu31 IT.o ?_)
 refine(AO.o W0 AS.o).mono ?_;rintro e w1 ⟨v1,rfl,own1,b1⟩;have own1:OwnB w1 W0.heap.size v1 tb:=own1;have b1':=B0.trans (b1.mono B0.size);have t1:=T0.below b1 T0.lt;obtain⟨rg1,Z1⟩:=zh2 (qap t1 4 H (fun j u hu=>DH.o j u (HH.o j u hu))) (Blk.new w1 53 zLS);have hgw:w.heap.size<w1.heap.size:=t1.lt;obtain⟨T1,B1,AC⟩:=zh3 t1 b1' own1;clear t1 b1' own1 AR AS T0 B0 BD b1;go_upto_region 3 with(first
  |(refine zld rg1.o zu53 IH.o ?_)
  |(refine wpList_store_row rfl 53 (.tmp 6) (.tmp 19) rfl w1.heap.size H.toArray rfl rfl 53 _ Z1.o IH'.o (by simp[LH.o]) (all_oneCell_toArray OH.o) ?_))
 obtain⟨w4,h4⟩:=eqx ((w1.alloc (.cells zLS 53)).setRow w1.heap.size H.toArray);rw[←h4];have u4:Blk w4 w1.heap.size 53 H.toArray:=by rw[h4];exact Z1.setRow _
 have b4:Below w1.heap.size w1 w4:=by rw[h4];exact below_setRow ((tA5 _ _).alloc (tA4 _) _) (tA4 _) _
 have B4:=zh1 (B1.trans (b4.mono B1.size));have t4:=T1.below b4 T1.lt;have own4:=AC.kept b4;obtain⟨At,nt,ct,rfl,nct,mct,rdt⟩:=own4.sl;have hnt:tb.length=nt:=qb4 rdt;obtain⟨gh,hgh⟩:=xeq w1.heap.size;rw[hgh]at u4 hgw ⊢;obtain⟨U4,U4lt,T4,T4lt,AT,BQ,AK,AL⟩:=zh8 u4 u4.lt t4 t4.lt rdt hnt (BN.call B4.o) (BO.call B4.o);have c0:=(t4.cell 0).trans (show L.toArray[0]? =some (.int .i64 y) by simpa using D0.o);have c2:=(t4.cell 2).trans (show L.toArray[2]? =some (.slice Ab nb cb) by simpa using D2.o);have c3:=(t4.cell 3).trans (show L.toArray[3]? =some (.slice Ah nh ch) by simpa using D3.o);have h0:=(u4.cell 0).trans (show H.toArray[0]? =some (.int .i64 kt) by simpa using E0.o);have h1:=(u4.cell 1).trans (show H.toArray[1]? =some (.int .i64 ke) by simpa using E1.o);clear h4 b4 u4 t4 own4 rdt hnt hgh rg1 Z1 T1 B1 AC;by_cases q1:255<nh
 ·
  have q:(255:Int)<nh:=zo;have HN:Hid (qiv R=(4,[])):=by
   unfold Hid;rw[A0.o,if_pos (.inl q1)]
  go_wp2
  go_ret2
  exact⟨_,by rw[HN.o];rfl,by rw[HN.o];exact OwnB.nil _ _,B4.o⟩
 have p1:¬(255:Int)<nh:=zo;by_cases q2:tw=4
 ·
  subst q2;have HN:Hid (qiv R=(4,[])):=by
   unfold Hid;rw[A0.o,if_pos (.inr rfl)]
  go_wp2
  go_ret2
  exact⟨_,by rw[HN.o];rfl,by rw[HN.o];exact OwnB.nil _ _,B4.o⟩
 have p2:¬(tw:Int)=4:=zo;have A1:=zh1 (A0.trans (if_neg (fun h=>h.elim q1 q2)));clear A0;by_cases q3:65536≤nb
 ·
  have q:(65536:Int)≤nb:=zo;have HN:Hid (qiv R=(3,[])):=by
   unfold Hid;rw[A1.o,if_pos q3]
  go_wp2
  go_ret2
  exact⟨_,by rw[HN.o];rfl,by rw[HN.o];exact OwnB.nil _ _,B4.o⟩
 have p3:¬(65536:Int)≤nb:=zo;have A2:=zh1 (A1.trans (if_neg q3));clear A1;by_cases q4:0≤y∧y≤255
 ·
  by_cases q5:0≤kt∧kt≤255
  ·
   by_cases q6:ke<0
   ·
    have HN:Hid (qiv R=(1,[])):=by
     unfold Hid;rw[A2.o,if_neg];rw[A7.o];simp;omega
    go_wp2_with fail
    refine zca (qhz _ _) ?_;rw[decide_eq_true q4];go_wp2_with fail
    refine zca (qhz _ _) ?_;rw[decide_eq_true q5];go_wp2
    go_ret2
    exact⟨_,by rw[HN.o];rfl,by rw[HN.o];exact OwnB.nil _ _,B4.o⟩
   by_cases q7:2147483647<ke
   ·
    have HN:Hid (qiv R=(1,[])):=by
     unfold Hid;rw[A2.o,if_neg];rw[A7.o];simp;omega
    go_wp2_with fail
    refine zca (qhz _ _) ?_;rw[decide_eq_true q4];go_wp2_with fail
    refine zca (qhz _ _) ?_;rw[decide_eq_true q5];go_wp2
    go_ret2
    exact⟨_,by rw[HN.o];rfl,by rw[HN.o];exact OwnB.nil _ _,B4.o⟩
   by_cases q8:tw=0
   ·
    subst q8;have A3:=zh1 (A2.trans (if_pos ⟨by rw[A7.o];simp;omega,rfl⟩));have HX:=zh1 (show qiv R=(0,ansB R) from A3.o);clear A2 A3 A7;obtain⟨ky,rfl⟩:∃k:Nat,y=k:=⟨y.toNat,by omega⟩;obtain⟨lt,rfl⟩:∃k:Nat,kt=k:=⟨kt.toNat,by omega⟩;obtain⟨le,rfl⟩:∃k:Nat,ke=k:=⟨ke.toNat,by omega⟩;have f1:ky≤255:=zo;have f2:lt≤255:=zo;have f3:le≤2147483647:=zo;have f4:nh≤255:=zo;have f5:nb<65536:=zo;go_wp2_with fail
    refine zca (qhz _ _) ?_;rw[decide_eq_true q4];go_wp2_with fail
    refine zca (qhz _ _) ?_;rw[decide_eq_true q5];clear q1 q2 q3 q4 q5 q6 q7 p1 p2 p3;go_wp2_with fail
    refine(qd2 _).mono ?_;rintro e w5 ⟨rfl,hw5,hb5⟩;obtain⟨G,hG⟩:=xeq w4.heap.size;have gG1:w.heap.size<G:=by rw[←hG];exact T4lt.o
    have gG2:gh<G:=by rw[←hG];exact U4lt.o
    have gG3:w.heap.size≤G:=zo;have T4:Hid (Blk w4 w.heap.size 57 L.toArray):=T4;have T4lt:Hid (w.heap.size<G):=gG1;have U4lt:Hid (gh<G):=gG2;obtain⟨AK,AL,AT⟩:=zh3 (hG▸AK.o:Reads w4 G 1 Ab nb (byv bs)) (hG▸AL.o:Reads w4 G 32 Ah nh (digv hs)) (hG▸AT.o:Reads w4 G 1 At nt (byv tb));have hnt:=BQ.o;(try simp only[Zb]at hb5);rw[hG]at hw5 hb5 ⊢
    clear hG c0 c2 c3 h0 h1;have AD:=tA5 G w4;have A8:=AD.trans hb5;have t5:=T4.below A8 T4lt.o;have c0:=(t5.cell 0).trans (show L.toArray[0]? =some (.int .i64 (ky:Int)) by simpa using D0.o);have c1:=(t5.cell 1).trans (show L.toArray[1]? =some (.int .u64 (ny:Int)) by simpa using D1.o);have c2:=(t5.cell 2).trans (show L.toArray[2]? =some (.slice Ab nb cb) by simpa using D2.o);have c3:=(t5.cell 3).trans (show L.toArray[3]? =some (.slice Ah nh ch) by simpa using D3.o);go_wp2_with fail
    refine(qd1 G G ky 1 [] _ hw5 zo (by first|omega|simp)).mono ?_;rintro e w6 ⟨rfl,hww6,hbw6,-⟩;rw[show qb0 1=1 from rfl]at hww6;obtain⟨X1,hxX1⟩:=eqx ([]++be ky 1);rw[←hxX1]at hww6;have lxX1:X1.length≤1:=by rw[hxX1,tA6];first|(rw[qaw];omega)|(simp only[List.length_nil];rw[qaw];omega)
    have AE:=zh1 hxX1;clear hxX1;have hb6:=hbw6;have AU:=A8.trans hb6;have t6:=T4.below AU T4lt.o;have c0:=(t6.cell 0).trans (show L.toArray[0]? =some (.int .i64 (ky:Int)) by simpa using D0.o);have c1:=(t6.cell 1).trans (show L.toArray[1]? =some (.int .u64 (ny:Int)) by simpa using D1.o);have c2:=(t6.cell 2).trans (show L.toArray[2]? =some (.slice Ab nb cb) by simpa using D2.o);have c3:=(t6.cell 3).trans (show L.toArray[3]? =some (.slice Ah nh ch) by simpa using D3.o);clear c0 c2 c3 hw5;go_wp2_with fail
    refine(qd1 G G ny 8 X1 _ hww6 zo (by first|omega|simp)).mono ?_;rintro e w7 ⟨rfl,hww7,hbw7,-⟩;rw[show qb0 8=8 from rfl]at hww7;obtain⟨X2,hxX2⟩:=eqx (X1++be ny 8);rw[←hxX2]at hww7;have lxX2:X2.length≤9:=by rw[hxX2,tA6];first|(rw[qaw];omega)|(simp only[List.length_nil];rw[qaw];omega)
    have AF:=zh1 hxX2;clear hxX2;have hb7:=hbw7;clear c1;have AM:=AU.trans hb7;have t7:=T4.below AM T4lt.o;have c0:=(t7.cell 0).trans (show L.toArray[0]? =some (.int .i64 (ky:Int)) by simpa using D0.o);have c1:=(t7.cell 1).trans (show L.toArray[1]? =some (.int .u64 (ny:Int)) by simpa using D1.o);have c2:=(t7.cell 2).trans (show L.toArray[2]? =some (.slice Ab nb cb) by simpa using D2.o);have c3:=(t7.cell 3).trans (show L.toArray[3]? =some (.slice Ah nh ch) by simpa using D3.o);clear c0 c1 c3 hww6;go_wp2_with fail
    refine(qd6 G G X2 bs Ab nb cb _ hww7 zo (AK.below AM) zo (by unfold maxLen;omega)).mono ?_;rintro e w8 ⟨rfl,hww8,hb8,-⟩;obtain⟨X3,hxX3⟩:=eqx (X2++txt bs);rw[←hxX3]at hww8;have lxX3:X3.length≤65546:=by rw[hxX3,tA6];first| (have:=qj1 bs;have:=BB.o;omega)|(simp only[List.length_nil];have:=qj1 bs;have:=BB.o;omega)
    have AG:=zh1 hxX3;clear hxX3;clear c2;have AV:=AM.trans hb8;have t8:=T4.below AV T4lt.o;have c0:=(t8.cell 0).trans (show L.toArray[0]? =some (.int .i64 (ky:Int)) by simpa using D0.o);have c1:=(t8.cell 1).trans (show L.toArray[1]? =some (.int .u64 (ny:Int)) by simpa using D1.o);have c2:=(t8.cell 2).trans (show L.toArray[2]? =some (.slice Ab nb cb) by simpa using D2.o);have c3:=(t8.cell 3).trans (show L.toArray[3]? =some (.slice Ah nh ch) by simpa using D3.o);clear c0 c1 c2 hww7;go_wp2_with fail
    refine(qd1 G G nh 1 X3 _ hww8 zo (by first|omega|simp)).mono ?_;rintro e w9 ⟨rfl,hww9,hbw9,-⟩;rw[show qb0 1=1 from rfl]at hww9;obtain⟨X4,hxX4⟩:=eqx (X3++be nh 1);rw[←hxX4]at hww9;have lxX4:X4.length≤65547:=by rw[hxX4,tA6];first|(rw[qaw];omega)|(simp only[List.length_nil];rw[qaw];omega)
    have AH:=zh1 hxX4;clear hxX4;have hb9:=hbw9;clear c3;have AW:=AV.trans hb9;have t9:=T4.below AW T4lt.o;have c0:=(t9.cell 0).trans (show L.toArray[0]? =some (.int .i64 (ky:Int)) by simpa using D0.o);have c1:=(t9.cell 1).trans (show L.toArray[1]? =some (.int .u64 (ny:Int)) by simpa using D1.o);have c2:=(t9.cell 2).trans (show L.toArray[2]? =some (.slice Ab nb cb) by simpa using D2.o);have c3:=(t9.cell 3).trans (show L.toArray[3]? =some (.slice Ah nh ch) by simpa using D3.o);clear c0 c1 c2 hww8;have BR:Hid (X4=be ky 1++(be ny 8++(txt bs++be nh 1))):=by
     unfold Hid;rw[AH.o,AG.o,AF.o,AE.o];simp[List.append_assoc]
    have C1:=lxX4;obtain⟨HF,BE⟩:=zh2 AW hww9;clear AD A8 AU AM AV hb5 hbw6 hb6 hbw7 hb7 hb8 hbw9 hb9 t5 t6 t7 t8 lxX1 lxX2 lxX3 lxX4 AE AF AG AH AW hww9 AK;go_wp2
    go_loopw [82] (fun i wr=>∃k:Nat,k≤nh∧i=.int .i64 k∧Hid (Wri wr G G (X4++(hs.take k).flatten))∧Hid (Below G w4 wr)) (fun i _=>nh - (intOf i).toNat)
    case atStart=>exact⟨0,by omega,rfl,by simpa using BE,HF⟩
    case round=>
     clear t9 c3 HF BE;obtain⟨k,hk,rfl,hwr,hfr⟩:=hrel;have tr:=T4.below hfr.o T4lt.o;have hlw:w.heap.size<wr.heap.size:=by have:=tr.lt;omega
     by_cases hlt:k<nh
     ·
      have hx:∃d,hs[k]? =some d:=⟨_,tA7 (by rw[AQ.o];exact hlt)⟩;obtain⟨d,hd⟩:=hx;have hdm:=tB2 hd;have hdl:=(AB.o d hdm).1;obtain⟨b,o,rfl,hab,hcell⟩:=(AL.below hfr.o).mid zo zo;have RG:=zh1 (show wr.rangeAt b (o+k*32) (byv d) from fun j u hu=>by
       have:=hcell _ u (qlz hs (fun x hx=>(AB.o x hx).1) k d hd j u hu);rwa[←Nat.add_assoc]at this)
      have m0:wr.cell? ⟨b,o+k*32,none⟩=wr.cell? ⟨b,o+k*32,none⟩:=rfl;obtain⟨ID,ID',Zr,LD⟩:=zh4 (show (Tryz.prog.info? 29).map (·.size)=some (byv d).length by rw[qat,hdl];exact Tryz.digest_info) (show (Tryz.prog.info? 29).map (·.size)=some (byv d).toArray.size by rw[tB6,qat,hdl];exact Tryz.digest_info) (Blk.new wr 29 zLD) (show (byv d).length=32 by rw[qat,hdl]);have hGr:G≤wr.heap.size:=by
       obtain⟨v,hg,hB,-⟩:=hwr.o;have:=hg.lt;omega
      obtain⟨HD,BS,BT⟩:=zh3 hd hdl (xbh hs k (fun x hx=>(AB.o x hx).1));clear m0 hcell hdm hd hdl hab;go_upto_region 17 with(first
       |(refine zld RG.o zu29 ID.o ?_)
       |(refine wpList_store_row rfl 29 (.tmp 9) (.tmp 85) rfl wr.heap.size (byv d).toArray rfl rfl 29 _ Zr.o ID'.o (by simp[LD.o]) (all_oneCell_toArray (qau d)) ?_))
      obtain⟨ws,hs1⟩:=eqx ((wr.alloc (.cells zLD 29)).setRow wr.heap.size (byv d).toArray);rw[←hs1];have us:Blk ws wr.heap.size 29 (byv d).toArray:=by rw[hs1];exact Zr.setRow _
      have bs1:Below wr.heap.size wr ws:=by rw[hs1];exact below_setRow ((tA5 _ _).alloc (tA4 _) _) (tA4 _) _
      have fs:=hfr.trans (bs1.mono hGr);obtain⟨BF,BG,FS⟩:=zh3 (hwr.kept_call bs1) (qap us 0 (byv d) zjq) fs;clear hs1 us bs1 fs Zr RG hwr hfr tr;go_wp2_with (refine zld BG.o zu29 ID.o ?_)
      refine(qd7 G G _ d ws BF.o (by rw[tA6,BT.o];omega) BS.o).mono ?_;rintro e wt ⟨rfl,hwt,hbt,-⟩;have BU:=zh1 (show Wri wt G G (X4++(hs.take (k+1)).flatten) by
       rw[List.take_add_one,HD.o];simpa [List.append_assoc] using hwt)
      have FT:=zh1 (FS.trans hbt);clear hwt hbt FS BF BG;go_wp2
      go_roundw
      case rel=>exact⟨k+1,by omega,by go_num,BU.o,FT.o⟩
      case measure=>simp[intOf];omega
     obtain rfl:nh=k:=zo;have hfl:hs.take nh=hs:=tB5 (by rw[AQ.o];exact tA4 _);have lf:=xbh hs nh (fun x hx=>(AB.o x hx).1);rw[hfl]at hwr lf;rw[Nat.min_eq_left (by rw[AQ.o];exact tA4 _)]at lf;obtain⟨X5,hX5⟩:=eqx (X4++hs.flatten);rw[←hX5]at hwr;have lX5:X5.length≤74000:=by rw[hX5,tA6,lf];omega
     obtain⟨BV,RS⟩:=zh2 hX5 (qap tr 4 S DH.o);obtain⟨Z0,hZ0⟩:=xeq (hdv Hd.zero);have kneq:=AP.o;have hbz:=qm5;rw[hZ0]at kneq hbz;have BZ:=zh1 hbz;have GWr:=hwr;clear hX5 hfl lf hZ0 hbz AL AB;go_upto_if 93 with(first
      |(refine zld RS.o zu55 IS.o ?_)
      |(refine qbj rfl ⟨.agg Z0.toArray,qgq 55 _ rfl _ _ BZ.o (by simp[Act.eval]),?_⟩))
     clear kneq;obtain⟨f1,hf1⟩:∃f1:Nat,Hid (f1=if zh then 0 else 1):=⟨_,rfl⟩;go_cut [10] (fun s10 wx=>s10=.int .i64 f1∧wx=wr)
     case first=>
      cases zh<;>(have e1:=hf1.o;simp at e1;subst e1;go_wp2;go_meet;case rel=>exact⟨rfl,rfl⟩)
     case rest=>
      obtain⟨rfl,rfl⟩:=hcut;obtain⟨wr,rfl⟩:=eqx wc;have RT:=zh1 (qap tr 72 T DT.o);go_wp2_with (refine zld RT.o zu31 IT.o ?_)
      refine zcb (AA.o wr) fun wa ba=>?_
      have hGr:G≤wr.heap.size:=by
       obtain⟨v,hg,hB,-⟩:=hwr.o;have:=hg.lt;omega
      obtain⟨BH,FA⟩:=zh2 (hwr.kept_call ba) (hfr.trans (ba.mono hGr));clear ba tr RS RT hwr hfr GWr;go_upto_if 99 with(fail)
      obtain⟨f,hf⟩:∃f:Nat,f=(if zh then 0 else 1)+(if zt then 0 else 2):=⟨_,rfl⟩;have hf3:f≤3:=by rw[hf];cases zh<;>cases zt<;>simp
      have AN:=zh1 hf;clear hf;go_cut [10] (fun s10 wx=>s10=.int .i64 f∧wx=wa)
      case first=>
       cases zh<;>cases zt<;>(have e1:=hf1.o;have e2:=AN.o;simp at e1 e2;subst e1;subst e2;go_wp2;go_meet;case rel=>exact⟨rfl,rfl⟩)
      case rest=>
       obtain⟨rfl,rfl⟩:=hcut;obtain⟨wa,rfl⟩:=eqx wc;have hwa:=BH.o;go_wp2_with fail
       refine(qd1 G G f 1 X5 _ hwa zo (by first|omega|simp)).mono ?_;rintro e wb ⟨rfl,hwwb,hbwb,-⟩;rw[show qb0 1=1 from rfl]at hwwb;obtain⟨X6,hxX6⟩:=eqx (X5++be f 1);rw[←hxX6]at hwwb;have lxX6:X6.length≤74001:=by rw[hxX6,tA6];first|(rw[qaw];omega)|(simp only[List.length_nil];rw[qaw];omega)
       have AX:=zh1 hxX6;clear hxX6;obtain⟨FBb,AY⟩:=zh2 (FA.trans hbwb) hwwb;clear hwa hwwb hbwb BH FA;go_upto_region 25 with(fail)
       go_cut [108] (fun s wx=>s=.bool (!zh)∧wx=wb)
       case first=>
        cases zh<;>cases zt<;>(have e2:=AN.o;simp at e2;subst e2;go_wp2;go_meet;case rel=>exact⟨rfl,rfl⟩)
       case rest=>
        obtain⟨rfl,rfl⟩:=hcut;obtain⟨wb,rfl⟩:=eqx wc;go_upto_if 108 with(fail)
        obtain⟨A4,hHB1⟩:=eqx (if zh then [] else hdB R.hd);have A5:=zh1 hHB1;clear hHB1;go_cut [] (fun wx=>Hid (Wri wx G G (X6++A4))∧Hid (Below G w4 wx))
        case first=>
         cases zh with
         |true=>
          have e:A4=[]:=A5.o;subst e;go_wp2
          go_meet
          case rel=>exact⟨by simpa using AY,FBb⟩
         |false=>
          have e:A4=hdB R.hd:=A5.o;have hww:=AY.o;have BW:=FBb.o;have hb0:=tA5 G wb;have AZ:=BW.trans hb0;have t0:=T4.below AZ T4lt.o;have c0:=(t0.cell 0).trans (show L.toArray[0]? =some (.int .i64 (ky:Int)) by simpa using D0.o);have c1:=(t0.cell 1).trans (show L.toArray[1]? =some (.int .u64 (ny:Int)) by simpa using D1.o);have c2:=(t0.cell 2).trans (show L.toArray[2]? =some (.slice Ab nb cb) by simpa using D2.o);have c3:=(t0.cell 3).trans (show L.toArray[3]? =some (.slice Ah nh ch) by simpa using D3.o);have u0:=U4.below AZ U4lt.o;have h0:=(u0.cell 0).trans (show H.toArray[0]? =some (.int .i64 (lt:Int)) by simpa using E0.o);have h1:=(u0.cell 1).trans (show H.toArray[1]? =some (.int .i64 (le:Int)) by simpa using E1.o);have h2:=(u0.cell 2).trans (show H.toArray[2]? =some (.int .u64 (ks:Int)) by simpa using E2.o);have h3:=(u0.cell 3).trans (show H.toArray[3]? =some (.int .u64 (kc:Int)) by simpa using E3.o);go_wp2_with fail
          refine(qd1 G G lt 1 X6 _ hww zo (by first|omega|simp)).mono ?_;rintro e v1 ⟨rfl,hwv1,hbv1,-⟩;rw[show qb0 1=1 from rfl]at hwv1;obtain⟨Y1,hxY1⟩:=eqx (X6++be lt 1);rw[←hxY1]at hwv1;have lxY1:Y1.length≤74002:=by rw[hxY1,tA6];first|(rw[qaw];omega)|(simp only[List.length_nil];rw[qaw];omega)
          have B2:=zh1 hxY1;clear hxY1;clear c0 c1 c2 c3 h0 h1 h2 h3;have hb1:=hbv1;have BI:=AZ.trans hb1;have u1:=U4.below BI U4lt.o;have h0:=(u1.cell 0).trans (show H.toArray[0]? =some (.int .i64 (lt:Int)) by simpa using E0.o);have h1:=(u1.cell 1).trans (show H.toArray[1]? =some (.int .i64 (le:Int)) by simpa using E1.o);have h2:=(u1.cell 2).trans (show H.toArray[2]? =some (.int .u64 (ks:Int)) by simpa using E2.o);have h3:=(u1.cell 3).trans (show H.toArray[3]? =some (.int .u64 (kc:Int)) by simpa using E3.o);go_wp2_with fail
          refine(qd1 G G le 4 Y1 _ hwv1 zo (by first|omega|simp)).mono ?_;rintro e v2 ⟨rfl,hwv2,hbv2,-⟩;rw[show qb0 4=4 from rfl]at hwv2;obtain⟨Y2,hxY2⟩:=eqx (Y1++be le 4);rw[←hxY2]at hwv2;have lxY2:Y2.length≤74006:=by rw[hxY2,tA6];first|(rw[qaw];omega)|(simp only[List.length_nil];rw[qaw];omega)
          have B3:=zh1 hxY2;clear hxY2;clear h0 h1 h2 h3;have hb2:=hbv2;have BJ:=BI.trans hb2;have u2:=U4.below BJ U4lt.o;have h0:=(u2.cell 0).trans (show H.toArray[0]? =some (.int .i64 (lt:Int)) by simpa using E0.o);have h1:=(u2.cell 1).trans (show H.toArray[1]? =some (.int .i64 (le:Int)) by simpa using E1.o);have h2:=(u2.cell 2).trans (show H.toArray[2]? =some (.int .u64 (ks:Int)) by simpa using E2.o);have h3:=(u2.cell 3).trans (show H.toArray[3]? =some (.int .u64 (kc:Int)) by simpa using E3.o);go_wp2_with fail
          refine(qd1 G G ks 8 Y2 _ hwv2 zo (by first|omega|simp)).mono ?_;rintro e v3 ⟨rfl,hwv3,hbv3,-⟩;rw[show qb0 8=8 from rfl]at hwv3;obtain⟨Y3,hxY3⟩:=eqx (Y2++be ks 8);rw[←hxY3]at hwv3;have lxY3:Y3.length≤74014:=by rw[hxY3,tA6];first|(rw[qaw];omega)|(simp only[List.length_nil];rw[qaw];omega)
          have B5:=zh1 hxY3;clear hxY3;clear h0 h1 h2 h3;have hb3:=hbv3;have BK:=BJ.trans hb3;have u3:=U4.below BK U4lt.o;have h0:=(u3.cell 0).trans (show H.toArray[0]? =some (.int .i64 (lt:Int)) by simpa using E0.o);have h1:=(u3.cell 1).trans (show H.toArray[1]? =some (.int .i64 (le:Int)) by simpa using E1.o);have h2:=(u3.cell 2).trans (show H.toArray[2]? =some (.int .u64 (ks:Int)) by simpa using E2.o);have h3:=(u3.cell 3).trans (show H.toArray[3]? =some (.int .u64 (kc:Int)) by simpa using E3.o);go_wp2_with fail
          refine(qd1 G G kc 8 Y3 _ hwv3 zo (by first|omega|simp)).mono ?_;rintro e v4 ⟨rfl,hwv4,hbv4,-⟩;rw[show qb0 8=8 from rfl]at hwv4;obtain⟨Y4,hxY4⟩:=eqx (Y3++be kc 8);rw[←hxY4]at hwv4;have lxY4:Y4.length≤74022:=by rw[hxY4,tA6];first|(rw[qaw];omega)|(simp only[List.length_nil];rw[qaw];omega)
          have B6:=zh1 hxY4;clear hxY4;clear h0 h1 h2 h3;have hb4:=hbv4;have AD:=BK.trans hb4;have u4:=U4.below AD U4lt.o;have h0:=(u4.cell 0).trans (show H.toArray[0]? =some (.int .i64 (lt:Int)) by simpa using E0.o);have h1:=(u4.cell 1).trans (show H.toArray[1]? =some (.int .i64 (le:Int)) by simpa using E1.o);have h2:=(u4.cell 2).trans (show H.toArray[2]? =some (.int .u64 (ks:Int)) by simpa using E2.o);have h3:=(u4.cell 3).trans (show H.toArray[3]? =some (.int .u64 (kc:Int)) by simpa using E3.o);have RR:=zh1 (qap u4 4 (byv rt) HQ.o);go_wp2_with (refine zld RR.o zu29 IR.o ?_)
          refine(qd7 G G Y4 rt v4 hwv4 zo AJ.o).mono ?_;rintro e v5 ⟨rfl,hwv5,hb5,-⟩;obtain⟨Y5,hxY5⟩:=eqx (Y4++rt);rw[←hxY5]at hwv5;have lxY5:Y5.length≤74054:=by rw[hxY5,tA6];first|(rw[AJ.o];omega)|(simp only[List.length_nil];rw[AJ.o];omega)
          have B7:=zh1 hxY5;clear hxY5;clear h0 h1 h2 h3;have A8:=AD.trans hb5;have t5:=T4.below A8 T4lt.o;have c0:=(t5.cell 0).trans (show L.toArray[0]? =some (.int .i64 (ky:Int)) by simpa using D0.o);have c1:=(t5.cell 1).trans (show L.toArray[1]? =some (.int .u64 (ny:Int)) by simpa using D1.o);have c2:=(t5.cell 2).trans (show L.toArray[2]? =some (.slice Ab nb cb) by simpa using D2.o);have c3:=(t5.cell 3).trans (show L.toArray[3]? =some (.slice Ah nh ch) by simpa using D3.o);have BX:=zh1 (qap t5 40 (byv tg) (fun j u hu=>by
           have:=DH.o (36+j) u (HG.o j u hu);rwa[←Nat.add_assoc]at this))
          go_wp2_with (refine zld BX.o zu29 IG.o ?_)
          refine(qd7 G G Y5 tg v5 hwv5 zo BC.o).mono ?_;rintro e v6 ⟨rfl,hwv6,hb6,-⟩;have BY:=zh1 (show Wri v6 G G (X6++A4) by
           rw[e,BA.o];have:=hwv6;rw[B7.o,B6.o,B5.o,B3.o,B2.o]at this;simpa [List.append_assoc] using this)
          have FV:=zh1 (A8.trans hb6);clear c0 c1 c2 c3 hwv6 hb6;go_wp2
          go_meet
          case rel=>exact⟨BY.o,FV.o⟩
        case rest=>
         obtain⟨B8,FC⟩:=hcut;obtain⟨wd,rfl⟩:=eqx wc;clear AY FBb;have lHB:A4.length≤85:=by
          rw[A5.o];split
          · simp
          rw[BA.o];simp only[tA6,qaw,AJ.o,BC.o];omega
         go_upto_region 32 with(fail)
         go_cut [138] (fun s wx=>s=.bool (!zt)∧wx=wd)
         case first=>
          cases zh<;>cases zt<;>(have e2:=AN.o;simp at e2;subst e2;go_wp2;go_meet;case rel=>exact⟨rfl,rfl⟩)
         case rest=>
          obtain⟨rfl,rfl⟩:=hcut;obtain⟨wd,rfl⟩:=eqx wc;go_upto_if 138 with(fail)
          obtain⟨A9,hTB1⟩:=eqx (if zt then [] else txt tb);have A6:=zh1 hTB1;clear hTB1;go_cut [] (fun wx=>Hid (Wri wx G G (X6++A4++A9))∧Hid (Below G w4 wx))
          case first=>
           cases zt with
           |true=>
            have e:A9=[]:=A6.o;subst e;go_wp2
            go_meet
            case rel=>exact⟨by simpa using B8,FC⟩
           |false=>
            have e:A9=txt tb:=A6.o;subst e;go_wp2_with fail
            refine(qd6 G G (X6++A4) tb At nt ct _ B8.o (by rw[tA6];omega) (AT.below FC.o) nct mct).mono ?_;rintro e we ⟨rfl,hwe,hbe,-⟩;obtain⟨AI,FE⟩:=zh2 hwe (FC.trans hbe);clear hwe hbe;go_wp2
            go_meet
            case rel=>exact⟨AI.o,FE.o⟩
          case rest=>
           obtain⟨AI,FE⟩:=hcut;obtain⟨we,rfl⟩:=eqx wc;clear B8 FC;have lTB:A9.length≤62:=by
            rw[A6.o];split
            · simp
            have:=qj1 tb;omega
           have hAB:X6++A4++A9=ansB R:=by
            rw[BL.o,AX.o,BV.o,BR.o,BM.o,←AN.o,A5.o,A6.o,tBe];simp only[List.append_assoc]
           have hlen:(X6++A4++A9).length≤140737488355328:=by simp only[tA6];omega
           rw[hAB]at AI hlen;have B9:=zh1 hlen;have hGe:w.heap.size≤we.heap.size:=tB1 B4.size FE.size;clear hAB hlen;go_wp2_with fail
           refine(qd4 G G _ we AI.o B9.o).mono ?_;rintro e wf ⟨vf,rfl,ownf,hbf⟩;obtain⟨HO,C0⟩:=zh2 (show OwnB wf w.heap.size vf (ansB R) from qde ownf hGe) ((B4.trans (FE.mono gG3)).trans (hbf.mono hGe));clear ownf hbf AI FE;go_wp2
           go_ret2
           exact⟨_,by rw[HX.o];rfl,by rw[HX.o];exact HO.o,C0.o⟩
   have hn:((tw:Int)==0)=false:=by simpa using q8
   have hn2:((tw:Int) != 0)=true:=by simpa using q8
   have HN:Hid (qiv R=(1,[])):=by
    unfold Hid;rw[A2.o,if_neg (fun h=>q8 h.2)]
   go_wp2_with fail
   refine zca (qhz _ _) ?_;rw[decide_eq_true q4];go_wp2_with fail
   refine zca (qhz _ _) ?_;rw[decide_eq_true q5];go_wp2
   go_ret2
   exact⟨_,by rw[HN.o];rfl,by rw[HN.o];exact OwnB.nil _ _,B4.o⟩
  have HN:Hid (qiv R=(1,[])):=by
   unfold Hid;rw[A2.o,if_neg];rw[A7.o];simp;omega
  go_wp2_with fail
  refine zca (qhz _ _) ?_;rw[decide_eq_true q4];go_wp2_with fail
  refine zca (qhz _ _) ?_;rw[decide_eq_false q5];go_wp2
  go_ret2
  exact⟨_,by rw[HN.o];rfl,by rw[HN.o];exact OwnB.nil _ _,B4.o⟩
 have HN:Hid (qiv R=(1,[])):=by
  unfold Hid;rw[A2.o,if_neg];rw[A7.o];simp;omega
 go_wp2_with fail
 refine zca (qhz _ _) ?_;rw[decide_eq_false q4];go_wp2
 go_ret2
 exact⟨_,by rw[HN.o];rfl,by rw[HN.o];exact OwnB.nil _ _,B4.o⟩
theorem xc4(id:Nat)(v:Value)(t tag:List Nat)(h:t.length=32)(h':tag.length=32):(tokv id v t).take 2++(byv tag++(tokv id v t).drop (2+(byv tag).length))=tokv id v tag:=by
 rw[qat,h',List.drop_eq_nil_of_le (by rw[qdf _ _ _ h];omega)];simp[tokv]
structure NInv (B id:Nat)(l:List (Int × Nat))(c:Int × Nat)(D:Nat→Bool)(x21 x24 x26 x27 x28 x8:Value)(w:World):Prop where
 fB:B≤w.heap.size
 f2:D 2=true→D 5=false→OwnC w B x21 []
 f5:D 5=true→D 8=false→OwnC w B x24 l
 f7:D 7=true→D 8=false→∃h,x26=.slice (some ⟨h,0,none⟩) 1 1∧Blk w h 132 #[.int .i64 c.1,.int .u32 (c.2:Int)]∧(D 2=true→D 5=false→x21.ownBlock≠some h)
 f8:D 8=true→OwnC w B x27 (l++[c])
 f58:D 8=true→D 5=true
 f9:D 9=true→D 8=true∧∃A n c',x27=.slice A n c'∧x28=.agg (tokv id x27 (List.replicate 32 0)).toArray
 f10:D 10=true→∃g,x8=.pointer (some ⟨g,0,none⟩)∧Blk w g 31 qgy.toArray∧B≤g
section
variable {B id : Nat} {l : List (Int × Nat)} {c : Int × Nat} {D : Nat → Bool} {x21 x24 x26 x27 x28 x8 : Value} {w w' : World}
theorem NInv.below(h:NInv B id l c D x21 x24 x26 x27 x28 x8 w)(hb:Zb w w'):NInv B id l c D x21 x24 x26 x27 x28 x8 w':=
 ⟨tB1 h.fB hb.size,fun a b=>(h.f2 a b).kept hb,fun a b=>(h.f5 a b).kept hb,fun a b=>by obtain⟨g,h1,h2,h3⟩:=h.f7 a b;exact⟨g,h1,h2.below hb h2.lt,h3⟩,fun a=>(h.f8 a).kept hb,h.f58,h.f9,
  fun a=>by obtain⟨g,h1,h2,h3⟩:=h.f10 a;exact⟨g,h1,h2.below hb h2.lt,h3⟩⟩
theorem NInv.op2(h:NInv B id l c D x21 x24 x26 x27 x28 x8 w)(h2:D 2=false):
 NInv B id l c (fun j=>D j||j==2) (.slice (some ⟨w.heap.size,0,none⟩) 0 0) x24 x26 x27 x28 x8 (w.alloc (.cells #[] 132)):=by
 have k:=h.below (w':=w.alloc (.cells #[] 132)) ((tA5 _ _).alloc (tA4 _) _);refine⟨k.fB,?_,by simpa using k.f5,?_,by simpa using k.f8,by simpa using k.f58,by simpa using k.f9,by simpa using k.f10⟩
 · intro _ _
   exact OwnC.mono (OwnC.made w [] (by simp[maxLen])) h.fB
 intro a b;obtain⟨g,g1,g2,g3⟩:=h.f7 (by simpa using a) (by simpa using b);refine⟨g,g1,g2.alloc _,fun _ _ e=>?_⟩;have:=g2.lt;simp only[Value.ownBlock,Option.some.injEq]at e;omega
theorem NInv.op7(h:NInv B id l c D x21 x24 x26 x27 x28 x8 w)(h7:D 7=false):
 NInv B id l c (fun j=>D j||j==7) x21 x24 (.slice (some ⟨w.heap.size,0,none⟩) 1 1) x27 x28 x8 (w.alloc (.cells #[.int .i64 c.1,.int .u32 (c.2:Int)] 132)):=by
 have k:=h.below (w':=w.alloc (.cells #[.int .i64 c.1,.int .u32 (c.2:Int)] 132)) ((tA5 _ _).alloc (tA4 _) _);refine⟨k.fB,by simpa using k.f2,by simpa using k.f5,?_,by simpa using k.f8,by simpa using k.f58,by simpa using k.f9,by simpa using k.f10⟩;intro _ _;refine⟨w.heap.size,rfl,Blk.new _ _ _,fun a b e=>?_⟩;have:=(World.ownsRow.lt (h.f2 (by simpa using a) (by simpa using b)) _ e).2;omega
theorem NInv.op5(h:NInv B id l c D x21 x24 x26 x27 x28 x8 w)(h5:D 5=false)(h2:D 2=true)(ho:OwnC w' B v l)(hb:Below B w w')(hg:w.grownBy w' x21.ownBlock):
 NInv B id l c (fun j=>D j||j==5) x21 v x26 x27 x28 x8 w':=by
 have h8:D 8=false:=by
  rcases Bool.eq_false_or_eq_true (D 8) with e|e
  · rw[h.f58 e]at h5;cases h5
  exact e
 refine⟨tB1 h.fB hg.size,by simp,fun _ _=>ho,?_,by simp[h8],by simp,?_,?_⟩
 · intro a b
   obtain⟨g,g1,g2,g3⟩:=h.f7 (by simpa using a) h8;exact⟨g,g1,g2.grown hg (fun e=>g3 h2 h5 e.symm),by simp⟩
 · intro a
   have:=(h.f9 (by simpa using a)).1;rw[h8]at this;cases this
 intro a;obtain⟨g,g1,g2,g3⟩:=h.f10 (by simpa using a);exact⟨g,g1,g2.grown hg (fun e=>qa3 (h.f2 h2 h5) g2 zdc e.symm),g3⟩
theorem NInv.op8(h:NInv B id l c D x21 x24 x26 x27 x28 x8 w)(h8:D 8=false)(h5:D 5=true)(ho:OwnC w' B v (l++[c]))(hb:Below B w w')(hg:w.grownBy w' x24.ownBlock):
 NInv B id l c (fun j=>D j||j==8) x21 x24 x26 v x28 x8 w':=by
 refine⟨tB1 h.fB hg.size,by simp[h5],by simp,by simp,fun _=>ho,by simp[h5],?_,?_⟩
 · intro a
   have:=(h.f9 (by simpa using a)).1;rw[h8]at this;cases this
 intro a;obtain⟨g,g1,g2,g3⟩:=h.f10 (by simpa using a);exact⟨g,g1,g2.grown hg (fun e=>qa3 (h.f5 h5 h8) g2 zdc e.symm),g3⟩
theorem NInv.op9(h:NInv B id l c D x21 x24 x26 x27 x28 x8 w)(h8:D 8=true)(e:x27=.slice A n c'):
 NInv B id l c (fun j=>D j||j==9) x21 x24 x26 x27 (.agg (tokv id x27 (List.replicate 32 0)).toArray) x8 w:=by
 exact⟨h.fB,by simpa using h.f2,by simpa using h.f5,by simpa using h.f7,by simpa using h.f8,by simpa using h.f58,fun _=>⟨by simpa using h8,A,n,c',e,rfl⟩,by simpa using h.f10⟩
theorem NInv.op10(h:NInv B id l c D x21 x24 x26 x27 x28 x8 w):
 NInv B id l c (fun j=>D j||j==10) x21 x24 x26 x27 x28 (.pointer (some ⟨w.heap.size,0,none⟩)) (w.alloc (.cells qgy.toArray 31)):=by
 have k:=h.below (w':=w.alloc (.cells qgy.toArray 31)) ((tA5 _ _).alloc (tA4 _) _);exact⟨k.fB,by simpa using k.f2,by simpa using k.f5,by simpa using k.f7,by simpa using k.f8,by simpa using k.f58,by simpa using k.f9,fun _=>⟨_,rfl,Blk.new _ _ _,h.fB⟩⟩
end
theorem xc5(n m:Int)(hm:0<m)(hn:n<0):(n.tmod m=0∧n % m=0)∨(-m<n.tmod m∧n.tmod m<0∧n % m=n.tmod m+m):=by
 have h1:n.tmod m=n % m - ((if 0≤n∨m ∣ n then 0 else m.natAbs:Nat):Int):=Int.tmod_eq_emod;have h2:=Int.emod_nonneg n (b:=m) zo;have h3:=Int.emod_lt_of_pos n hm;by_cases hd:m ∣ n
 · left
   have h4:=Int.emod_eq_zero_of_dvd hd;rw[if_pos (.inr hd)]at h1;omega
 right;have h4:n % m≠0:=fun h=>hd (Int.dvd_of_emod_eq_zero h)
 rw[if_neg zo]at h1;omega
def xc6 (n lo hi:Int):Int:=lo+n % (hi - lo+1)
theorem xc7(n lo hi:Int)(h:lo≤hi):lo≤xc6 n lo hi∧xc6 n lo hi≤hi:=by
 unfold xc6;have h1:=Int.emod_nonneg n (b:=hi - lo+1) zo;have h2:=Int.emod_lt_of_pos n (show 0<hi - lo+1 by omega);omega
theorem xc8(n lo hi:Int)(w:World)(h0:0≤lo)(h1:lo≤hi)(h2:hi≤1000000)(n1: -9223372036854775808≤n)(n2:n≤9223372036854775807):
 Zc 23 #[.int .i64 n,.int .i64 lo,.int .i64 hi] w fun e w'=>e=.returned (.int .i64 (xc6 n lo hi))∧w=w':=by
 have H:Hid (xc6 n lo hi=lo+n % (hi - lo+1)):=rfl;by_cases hn:0≤n
 ·
  have a1:=Int.emod_nonneg n (b:=hi - lo+1) zo;have a2:=Int.emod_lt_of_pos n (show 0<hi - lo+1 by omega);have hnn:¬n % (hi - lo+1)<0:=zo;go_enter Tryz.func23,Tryz.ntmps23
  go_wp2
  go_ret
  exact⟨qcz (by rw[H.o]),rfl⟩
 have hm:0<hi - lo+1:=zo;rcases xc5 n (hi - lo+1) hm zo with⟨e1,e2⟩|⟨e1,e2,e3⟩
 ·
  have E2:=zh1 e2;clear e2;go_enter Tryz.func23,Tryz.ntmps23
  go_wp2
  go_ret
  exact⟨qcz (by rw[H.o,E2.o];omega),rfl⟩
 have E3:=zh1 e3;clear e3;go_enter Tryz.func23,Tryz.ntmps23
 go_wp2
 go_ret
 exact⟨qcz (by rw[H.o,E3.o];omega),rfl⟩
def rootb (c:Nat):List Nat:=c::1::2::List.replicate 29 0
theorem xc9(id:Nat)(A:Option Addr)(n c:Nat)(tag:List Nat)(h:tag.length=32):
 ∃L,tokv id (.slice A n c) tag=L∧L.length=34∧(∀u∈L,u.oneCell'=true)∧(Tryz.prog.info? 31).map (·.size)=some L.toArray.size:=by
 refine⟨_,rfl,qdf _ _ _ h,qeg _ _ rfl _,?_⟩;rw[tB6,qdf _ _ _ h];exact Tryz.tok_info
theorem xca{k:Int}(h:Blk w g 132 #[.int .i64 k,.int .u32 (N:Int)]):Reads w w.heap.size 2 (some ⟨g,0,none⟩) 1 (cavv [(k,N)]):=by
 refine⟨rfl,fun _=>⟨_,rfl,h.lt,fun j u hu=>?_⟩⟩;rw[Addr.add_mid,h.cell (0+j)];simpa [cavv] using hu
theorem xcb(id:Nat)(A:Option Addr)(n c:Nat):Tryz.prog.built 31 [(0,.int .u32 id),(1,.slice A n c)]=some (tokv id (.slice A n c) (List.replicate 32 0)).toArray:=by kernel_rfl
theorem xcc(tb:Nat)(t:Tok)(A:Option Addr)(n c:Nat)(k:Int)(N:Nat)(w:World)(hr:Reads w w.heap.size 2 A n (cavv t.2.1))(hnc:n≤c)(hn:n≤8796093022000)(ht:t.2.2.length=32)(hb:∀x∈t.2.2,x<256)(hN:N<4294967296)(hT:RTab w tb):
 Zc 59 #[.pointer (some ⟨tb,0,none⟩),.agg (tokv t.1 (.slice A n c) t.2.2).toArray,.agg #[.int .i64 k,.int .u32 N]] w fun e w'=>∃v,e=.returned (.tuple #[.agg (tokv (qk6 t (k,N)).1.1 v (qk6 t (k,N)).1.2.2).toArray,.int .i64 ((qk6 t (k,N)).2:Nat)])∧OwnC w' w.heap.size v (qk6 t (k,N)).1.2.1∧Zb w w':=by
 have hl:t.2.1.length=n:=by have:=hr.1;rw[qed]at this;omega
 have hlen:=qdf t.1 (.slice A n c) t.2.2 ht;have d0:(tokv t.1 (.slice A n c) t.2.2)[0]? =some (.int .u32 (t.1:Int)):=rfl;have d1:(tokv t.1 (.slice A n c) t.2.2)[1]? =some (.slice A n c):=rfl;have d2:∀j u,(byv t.2.2)[j]? =some u→(tokv t.1 (.slice A n c) t.2.2)[2+j]? =some u:=fun j u h=>by
  unfold tokv;rw[show 2+j=j+1+1 by omega,tBc,tBc];exact h
 obtain⟨D,hD⟩:=xeq (tokv t.1 (.slice A n c) t.2.2);rw[hD]at hlen d0 d1 d2 ⊢;obtain⟨W0,hW0⟩:=eqx (((w.alloc (.cells D.toArray 31)).alloc (.cells #[.int .i64 k,.int .u32 N] 132)).alloc (.cells zLT 31));have t0:=zNd hW0;have v0:=zNe hW0;have z0:=zNf hW0;have b0:=zMc hW0;have tb0:RTab W0 tb:=Blk.below hT b0 (Blk.lt hT);have lW:w.heap.size+1+1<W0.heap.size:=z0.lt;have ltb:tb<w.heap.size:=Blk.lt hT;have ck:=v0.cell 0;have cs:=t0.cell 1;rw[show (#[Value.int .i64 k,.int .u32 N]:Array Value)[0]? =some (.int .i64 k) from rfl]at ck;rw[tA3,d1]at cs;obtain⟨AC,HD,AD,D0,D1,D2,T0,V0⟩:=zh8 hW0 hD hlen d0 d1 d2 t0 v0;obtain⟨Z0,B0,HR,HT,Hl⟩:=zh5 z0 b0 (hr.call b0) tb0 hl;clear hW0 hD hlen d0 d1 d2 t0 v0 z0 b0 hr hT tb0 hl;go_enter Tryz.func59,Tryz.ntmps59
 go_upto_region 1 with(fail)
 rw[←AC.o];by_cases hk:qd8 k=true
 ·
  go_upto_region 3 with((with_reducible refine(qhd k _).mono ?_);(rintro _ _ ⟨rfl,rfl⟩))
  by_cases h4:n<4
  ·
   have hres:qk6 t (k,N)=((t.1,t.2.1++[(k,N)],mac t.2.2 (qk5 (k,N))),0):=by unfold qk6;rw[if_pos hk,if_pos (by rw[Hl.o];exact h4)]
   have k13:=qd9 hk;have q4:¬(n:Int) ≥ 4:=zo;have Hres:=zh1 hres;clear hres hk;obtain⟨m,rfl⟩:=Int.eq_ofNat_of_zero_le (by omega:0≤k);have ku:IntKind.u8.wrap (m:Int)=m:=IntWalk.u8_in _ zo;have nu:IntKind.u64.wrap (N:Int)=N:=tBa _ zo;obtain⟨KU,NU⟩:=zh2 ku nu;clear ku nu ck;go_upto_region 5 with(fail)
   obtain⟨S,HS⟩:=zS fun w'=>Zb W0 w'
   have F0:Hid (∀w',S w'→w'.cell? ⟨w.heap.size,0,none⟩=some (.int .u32 (t.1:Int))):=fun w' h=>by
    rw[HS.o]at h;rw[(T0.below h T0.lt).cell,tA3,D0.o]
   have F1:Hid (∀w',S w'→w'.cell? ⟨w.heap.size,1,none⟩=some (.slice A n c)):=fun w' h=>by
    rw[HS.o]at h;rw[(T0.below h T0.lt).cell,tA3,D1.o]
   have F2:Hid (∀w',S w'→w'.cell? ⟨w.heap.size+1,0,none⟩=some (.int .i64 m)):=fun w' h=>by
    rw[HS.o]at h;rw[(V0.below h V0.lt).cell];rfl
   have F3:Hid (∀w',S w'→w'.cell? ⟨w.heap.size+1,1,none⟩=some (.int .u32 N)):=fun w' h=>by
    rw[HS.o]at h;rw[(V0.below h V0.lt).cell];rfl
   have keepS:∀w' w'',S w'→W0.heap.size≤w'.heap.size→Zb w' w''→S w'':=fun w' w'' h hl hb=>by
    rw[HS.o]at h ⊢;exact h.trans (hb.mono hl)
   refine qp0 S 11 [21,24,26,27,28,8] [(0,false),(1,false),(3,false),(4,false),(6,false)] 6 [(2,[]),(5,[2]),(7,[]),(8,[5,7]),(9,[8]),(10,[])] [(11,true)] #[true,true,false,true,true,false,true,false,false,false,false,false] #[true,true,true,true,true,true,true,true,true,true,true,false] zk rfl zk zk zk zk zk zk (fun _ _ d _ _ h=>by cases d<;>exact h) ((HS.o _).mpr (tA5 _ W0).drew) ?_;iterate 5 (refine qju rfl rfl ⟨?_,fun w1 hS=>?_,?_⟩;rotate_left;(focus(have g0:=F0.o w1 hS;have g1:=F1.o w1 hS;have g2:=F2.o w1 hS;have g3:=F3.o w1 hS;go_simp;try rfl));simp only[Act.put,tA0,tA1,tA2])
   refine qjt ?_;refine⟨fun Dn vs w'=>∃x21 x24 x26 x27 x28 x8,vs=[x21,x24,x26,x27,x28,x8]∧NInv W0.heap.size t.1 t.2.1 ((m:Int),N) Dn x21 x24 x26 x27 x28 x8 w',⟨[_,_,_,_,_,_],rfl,_,_,_,_,_,_,rfl,?_⟩,⟨?_,?_,?_,?_,?_,?_,trivial⟩,?_⟩
   · exact⟨tA4 _,fun h=>(nomatch h),fun h=>(nomatch h),fun h=>(nomatch h),fun h=>(nomatch h),fun h=>(nomatch h),fun h=>(nomatch h),fun h=>(nomatch h)⟩
   · rintro Dn vs w' hS ⟨x21,x24,x26,x27,x28,x8,rfl,hI⟩ hD hd
     simp only[puts,Act.put,tA0,tA1,tA2];refine qp3 fun K hK=>qjq rfl rfl ?_
     go_simp;exact hK _ _ ⟨keepS _ _ hS (hI.fB) ((tA5 _ _).alloc (tA4 _) _),[_,_,_,_,_,_],rfl,_,_,_,_,_,_,rfl,hI.op2 hD⟩
   ·
    rintro Dn vs w' hS ⟨x21,x24,x26,x27,x28,x8,rfl,hI⟩ hD hd;simp only[puts,Act.put,tA0,tA1,tA2];have h2:=hd 2 zm;refine qp3 fun K hK=>qjq rfl rfl ?_
    have hb':=hS;rw[HS.o]at hb';refine qgv (.tmp 21) (.tmp 23) rfl W0.heap.size _ [] rfl (hI.f2 h2 hD) A n c t.2.1 rfl (HR.call hb') (by simp;omega) hI.fB ?_;intro v5 w5 o5 b5 g5;exact hK _ _ ⟨(HS.o _).mpr (hb'.trans b5),[_,_,_,_,_,_],rfl,_,_,_,_,_,_,rfl,hI.op5 hD h2 (by simpa using o5) b5 g5⟩
   · rintro Dn vs w' hS ⟨x21,x24,x26,x27,x28,x8,rfl,hI⟩ hD hd
     simp only[puts,Act.put,tA0,tA1,tA2];refine qp3 fun K hK=>qjq rfl rfl ?_
     go_simp;exact hK _ _ ⟨keepS _ _ hS (hI.fB) ((tA5 _ _).alloc (tA4 _) _),[_,_,_,_,_,_],rfl,_,_,_,_,_,_,rfl,hI.op7 hD⟩
   ·
    rintro Dn vs w' hS ⟨x21,x24,x26,x27,x28,x8,rfl,hI⟩ hD hd;simp only[puts,Act.put,tA0,tA1,tA2];have h5:=hd 5 zm;have h7:=hd 7 zm;obtain⟨g,rfl,gb,-⟩:=hI.f7 h7 hD;refine qp3 fun K hK=>qjq rfl rfl ?_
    have hb':=hS;rw[HS.o]at hb';refine qgv (.tmp 24) (.tmp 26) rfl W0.heap.size _ t.2.1 rfl (hI.f5 h5 hD) _ 1 1 [((m:Int),N)] rfl (xca gb) (by have:=Hl.o;omega) hI.fB ?_;intro v5 w5 o5 b5 g5;exact hK _ _ ⟨(HS.o _).mpr (hb'.trans b5),[_,_,_,_,_,_],rfl,_,_,_,_,_,_,rfl,hI.op8 hD h5 o5 b5 g5⟩
   ·
    rintro Dn vs w' hS ⟨x21,x24,x26,x27,x28,x8,rfl,hI⟩ hD hd;simp only[puts,Act.put,tA0,tA1,tA2];have h8:=hd 8 zm;obtain⟨A0,n27,c27,rfl,-,-,-,-⟩:=(hI.f8 h8).sl;have bT:=xcb t.1 A0 n27 c27;refine qp3 fun K hK=>qjq rfl rfl ?_
    refine qp1 (qgq 31 _ rfl _ _ bT (by simp[Act.eval])) ?_;exact hK _ _ ⟨hS,[_,_,_,_,_,_],rfl,_,_,_,_,_,_,rfl,hI.op9 h8 rfl⟩
   · rintro Dn vs w' hS ⟨x21,x24,x26,x27,x28,x8,rfl,hI⟩ hD hd
     simp only[puts,Act.put,tA0,tA1,tA2];refine qp3 fun K hK=>qjq rfl rfl ?_
     go_simp;exact hK _ _ ⟨keepS _ _ hS (hI.fB) ((tA5 _ _).alloc (tA4 _) _),[_,_,_,_,_,_],rfl,_,_,_,_,_,_,rfl,hI.op10⟩
   rintro vs w5 hS5 ⟨x21,x24,x26,x27,x28,x8,rfl,hI⟩;simp only[puts,Act.put,tA0,tA1,tA2];obtain⟨-,A0,n27,c27,rfl,rfl⟩:=hI.f9 rfl;obtain⟨g8,rfl,z8,l8⟩:=hI.f10 rfl;have o27:=hI.f8 rfl;obtain⟨T5,hT5,lT5,oT5,iT5⟩:=xc9 t.1 A0 n27 c27 (List.replicate 32 0) zm;have htt:=xc4 t.1 (.slice A0 n27 c27) (List.replicate 32 0) (mac t.2.2 (qk5 (m,N))) zm (qjz _ _);have ltt:=qdf t.1 (.slice A0 n27 c27) (mac t.2.2 (qk5 (m,N))) (qjz _ _);have ott:=qeg t.1 (.slice A0 n27 c27) rfl (mac t.2.2 (qk5 (m,N)));rw[hT5]at htt ⊢;rw[HS.o]at hS5;have b5:=hS5;clear hT5 hS5 hI F0 F1 F2 F3 keepS HS;refine qbi rfl rfl ?_;refine wp_store_row 31 (.tmp 8) (.tmp 28) rfl g8 T5.toArray rfl rfl 31 _ z8 iT5 (by simp[lT5,qgy,qdf]) (by simpa using oT5) ?_;refine⟨fun h=>absurd h zdc,?_⟩;obtain⟨W6,hW6⟩:=eqx ((w5.setRow g8 T5.toArray).drew);have z6:Blk W6 g8 31 T5.toArray:=by rw[hW6];exact z8.setRow _
   have o6:OwnC W6 W0.heap.size (.slice A0 n27 c27) (t.2.1++[((m:Int),N)]):=by
    rw[hW6];exact OwnC.kept (tB3 o27 (qam _ _ _) (.inr (qa3 o27 z8 zdc))) (tA5 _ _).drew
   have b6:Zb W0 W6:=by rw[hW6];exact(below_setRow b5 l8 _).drew
   have l86:=z6.lt;obtain⟨Z6,O6,B6,A5,AE,AF,AG,L8⟩:=zh8 z6 o6 b6 lT5 htt ltt ott l8;have A6:=zh1 hW6;clear z6 o6 b6 lT5 htt ltt ott oT5 iT5 o27 z8 b5 hW6 l8 l86;refine zP ?_;refine qbf ?_;go_upto_region 6 with(fail)
   obtain⟨S,HS⟩:=zS fun w'=>Zb W6 w'
   have F2:Hid (∀w',S w'→w'.cell? ⟨w.heap.size+1,0,none⟩=some (.int .i64 m)):=fun w' h=>by
    rw[HS.o]at h;have v6:=V0.below B6.o V0.lt;rw[(v6.below h v6.lt).cell];rfl
   have F3:Hid (∀w',S w'→w'.cell? ⟨w.heap.size+1,1,none⟩=some (.int .u32 N)):=fun w' h=>by
    rw[HS.o]at h;have v6:=V0.below B6.o V0.lt;rw[(v6.below h v6.lt).cell];rfl
   refine zrs S 13 (zq 0 6 (zq 7 3 [(6,true),(10,true),(11,true),(12,false),(13,true)])) ((HS.o _).mpr (by rw[A6.o];exact tA5 _ _)) ?_;rw[show (w5.setRow g8 T5.toArray).drew=W6 from A6.symm];iterate 9 (refine zre rfl rfl (fun w1 hS=>by have g2:=F2.o w1 hS;have g3:=F3.o w1 hS;have ku:=KU.o;have nu:=NU.o;go_simp;try rfl) ?_)
   have B6d:=B6.o;have k6:=Z6.o;obtain⟨W7,hW7⟩:=eqx (W6.alloc (.cells #[.int .u8 (m:Int)] 5));have y7:=zNa hW7;have b7:=zMa hW7;have N7:=qhb (some ⟨W6.heap.size,0,none⟩) 1 1 N 4 [m] W7 (qp6 y7) zm zo;rw[show qb0 4=4 from rfl,show [m]++be N 4=qk5 ((m:Int),N) from by simp only[qk5,tBe];rw[qhf,Nat.mod_eq_of_lt zo]]at N7;obtain⟨AH,AI⟩:=zh2 N7 hW7;clear N7 hW7 y7 k6 B6d;refine qbi rfl rfl ?_;refine qp5 (.tmp 34) rfl (m:Int) rfl ?_;rw[show W6.alloc (.cells #[.int .u8 (m:Int)] 5)=W7 from AI.symm];refine⟨fun _=>(HS.o _).mpr b7,?_⟩;refine zP ?_;refine qbi rfl rfl ?_;go_simp;refine AH.o.mono ?_;rintro e w8 ⟨v8,rfl,own8,b8⟩;obtain⟨A8,n8,c8,rfl,nc8,-,r8⟩:=own8.sl;have ln8:=qb4 r8;have lc:(qk5 ((m:Int),N)).length=5:=by simp[qk5,qaw]
   rw[lc]at ln8;have b68:=b7.trans (b8.mono b7.size);have t8:=(T0.below B6.o T0.lt).below b68 (tB0 T0.lt B6.size);have rk:=qgw (n:=32) t8 (by rw[qat];exact ht) D2.o;have M8:=qzd tb 32 32 n8 c8 _ A8 t.2.2 (qk5 ((m:Int),N)) w8 (Blk.below (Blk.below HT.o B6.o (Blk.lt HT.o)) b68 (tB0 (Blk.lt HT.o) B6.size)) rk r8 hb (by intro x hx;rcases List.mem_append.1 hx with h|h<;>exact qaz _ _ x h) zo zo;obtain⟨AJ,A1⟩:=zh2 M8 b68;clear M8 rk t8 ln8 lc own8 r8 b68 b7 b8 nc8;refine⟨(HS.o _).mpr A1.o,?_⟩;refine zP ?_;refine qbi rfl rfl ?_;go_simp;refine zcb AJ.o fun w9 b9=>?_
   have b69:=A1.trans (b9.mono A1.size);have z9:=Z6.below b69 Z6.lt;have o9:=O6.kept b69;have bl9:=B6.trans (b69.mono B6.size);have lV:(byv (mac t.2.2 (qk5 ((m:Int),N)))).length=32:=by rw[qat];exact qjz _ _
   have TH:=qek z9 2 32 (by rw[A5.o];decide);have SC:=Blk.setCells (byv (mac t.2.2 (qk5 ((m:Int),N)))) 2 w9 _ z9 (by rw[A5.o,lV];decide);rw[AE.o]at SC;have OV:=all_oneCell_toArray (qau (mac t.2.2 (qk5 ((m:Int),N))));obtain⟨E,hE⟩:=xeq (byv (mac t.2.2 (qk5 ((m:Int),N))));rw[hE]at SC lV OV ⊢;have IV:(Tryz.prog.info? 29).map (·.size)=some E.toArray.size:=by rw[tB6,lV];exact Tryz.dig_info
   have TH':w9.there g8 2 E.toArray.size:=by rw[tB6,lV];exact TH
   obtain⟨T,hTT⟩:=xeq (tokv t.1 (.slice A0 n27 c27) (mac t.2.2 (qk5 ((m:Int),N))));have LT:=AF.o;have OT:=AG.o;rw[hTT]at SC LT OT;obtain⟨W9,hW9⟩:=eqx (w9.setCells g8 2 E);rw[←hW9]at SC;have gsc:=qei g8 E 2 w9;rw[←hW9]at gsc;have O9:OwnC W9 W0.heap.size (.slice A0 n27 c27) (t.2.1++[((m:Int),N)]):=tB3 o9 gsc (.inr (qa3 o9 z9 zdc));have A2:Zb W0 W9:=bl9.grown gsc (tB1 B6.size b69.size) (fun k hk=>by injection hk with hk;rw[←hk];exact L8.o);have z2:=Z0.below A2 Z0.lt;obtain⟨AR,A7,A3,AK,AL,AM,A9,AN⟩:=zh8 SC O9 A2 TH' IV OV LT OT;obtain⟨AO,A4,AP⟩:=zh3 hTT z2 hW9;have AA:S w9:=(HS.o _).mpr b69;obtain⟨AB,AQ⟩:=zh2 (zI 31 LT) (qap SC 0 T zjq);clear SC O9 A2 TH TH' IV OV LT OT hTT z2 gsc b69 z9 o9 bl9 lV hE F2 F3 hW9;refine⟨AA,?_⟩;clear AA;refine zP ?_;iterate 1 (refine zrb ?_)
   refine qbi rfl rfl ?_;refine wp_store_mid 29 (.tmp 41) (.tmp 40) rfl g8 2 E.toArray rfl rfl AK.o AL.o AM.o ?_;refine⟨fun h=>absurd h zdc,?_⟩;rw[show w9.setCells g8 2 E.toArray.toList=W9 from AP.symm];refine zP ?_;refine qbf ?_;go_wp2_with (first
    |(refine zld AQ.o zu31 AB.o ?_)
    |(refine zst A4.o AB.o (by simp[A9.o]) AN.o ?_))
   have z8:=A4.setRow T.toArray;have O8:OwnC (W9.setRow (w.heap.size+1+1) T.toArray) W0.heap.size (.slice A0 n27 c27) (t.2.1++[((m:Int),N)]):=
    tB3 A7.o (qam _ _ _) (.inr (qa3 A7.o A4.o zdc))
   refine bodyPost_ret (qgu rfl rfl (qgx z8 A9.o)) rfl ⟨.slice A0 n27 c27,by rw[Hres.o,←AO.o];rfl,by rw[Hres.o];exact O8.mono B0.size,?_⟩;exact below_setRow (B0.trans (A3.mono B0.size)) zo _
  have hres:qk6 t (k,N)=(qgt,4):=by unfold qk6;rw[if_pos hk,if_neg (by rw[Hl.o];exact h4)]
  have q4:(n:Int) ≥ 4:=zo;have Hres:=zh1 hres;clear hres hk ck;go_wp2_with (refine wpList_store_row rfl 31 (.tmp 6) (.tmp 18) rfl (w.heap.size+1+1) qgy.toArray rfl rfl 31 _ Z0.o qh0 qh1 qgz ?_)
  have z8:Blk _ _ 31 qgy.toArray:=Z0.setRow qgy.toArray;refine bodyPost_ret (qgu rfl rfl (qgx z8 rfl)) rfl ⟨.slice none 0 0,by rw[Hres.o];rfl,by rw[Hres.o];exact OwnC.nil _ _,?_⟩;exact below_setRow B0.o zo _
 have hk':qd8 k=false:=by simpa using hk
 have hres:qk6 t (k,N)=(qgt,1):=by unfold qk6;rw[if_neg hk]
 have Hres:=zh1 hres;clear hres hk;go_wp2_with (first
  |((with_reducible refine(qhd k _).mono ?_);(rintro _ _ ⟨rfl,rfl⟩))
  |(refine wpList_store_row rfl 31 (.tmp 6) (.tmp 13) rfl (w.heap.size+1+1) qgy.toArray rfl rfl 31 _ Z0.o qh0 qh1 qgz ?_))
 have z8:Blk _ _ 31 qgy.toArray:=Z0.setRow qgy.toArray;refine bodyPost_ret (qgu rfl rfl (qgx z8 rfl)) rfl ⟨.slice none 0 0,by rw[Hres.o];rfl,by rw[Hres.o];exact OwnC.nil _ _,?_⟩;exact below_setRow B0.o zo _
theorem xcm(R:Req)(l:List Fld)(hl:fieldsOf R.op=some l)(h:∀f∈l,qi0 R f=0):qi2 R=(0,be R.op.toNat 1++l.flatMap (fldB R)):=by
 unfold qi2;rw[hl];simp only;rw[qi3 R l l.length _ (by rw[List.take_length];exact h),List.drop_length,List.take_length];rfl
end Go.Proofs.YthomgopipiomhaaGreatDoor

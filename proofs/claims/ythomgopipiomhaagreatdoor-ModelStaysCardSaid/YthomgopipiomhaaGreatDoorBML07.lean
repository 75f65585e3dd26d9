/- Lemmas. -/
import Derived.Test.YthomgopipiomhaaGreatDoorBML06
namespace Go.Proofs.YthomgopipiomhaaGreatDoor
open Go.RowKit
set_option linter.unusedVariables false
set_option linter.unusedSimpArgs false
set_option maxRecDepth 100000
set_option maxHeartbeats 32000000
variable {i base b n k id:Nat}{bs:List Nat}{v vi vo vi' vo':Value}{w w':World}{Q:Exit→Act→World→Prop}{a:Act}{o oi:Oper}{rest l:List Oper}
theorem qyu(g n cc:Nat)(A:Option Addr)(bs:List Nat)(s0:St)(w:World)(hS2:s0.ok)(hb:bs.length=n)(hn:64≤n)(hb2:∀b∈bs,b<256)
 (hT:RTab w g)(hr:Reads w w.heap.size 1 A n (byv bs)):
 Zc 193 #[.pointer (some ⟨g,0,none⟩),.agg #[.int .u32 s0.a,.int .u32 s0.b,.int .u32 s0.c,.int .u32 s0.d,.int .u32 s0.e,.int .u32 s0.f,.int .u32 s0.g,.int .u32 s0.h],.slice A n cc] w fun e w'=>e=.returned (.agg (mixed bs s0).vals)∧Below w.heap.size w w':=by
 have hb2':∀b,b∈bs→b<256:=hb2;obtain⟨gb,ob,rfl,hadB,hr⟩:=hr.mid zo zo;obtain⟨W0,hW0⟩:=eqx (((w.alloc (.cells #[.int .u32 s0.a,.int .u32 s0.b,.int .u32 s0.c,.int .u32 s0.d,.int .u32 s0.e,.int .u32 s0.f,.int .u32 s0.g,.int .u32 s0.h] 209)).alloc (.cells #[.int .u32 0,.int .u32 0,.int .u32 0,.int .u32 0,.int .u32 0,.int .u32 0,.int .u32 0,.int .u32 0] 209)).alloc (.cells #[.int .u32 0,.int .u32 0,.int .u32 0,.int .u32 0,.int .u32 0,.int .u32 0,.int .u32 0,.int .u32 0,.int .u32 0,.int .u32 0,.int .u32 0,.int .u32 0,.int .u32 0,.int .u32 0,.int .u32 0,.int .u32 0,.int .u32 0,.int .u32 0,.int .u32 0,.int .u32 0,.int .u32 0,.int .u32 0,.int .u32 0,.int .u32 0,.int .u32 0,.int .u32 0,.int .u32 0,.int .u32 0,.int .u32 0,.int .u32 0,.int .u32 0,.int .u32 0,.int .u32 0,.int .u32 0,.int .u32 0,.int .u32 0,.int .u32 0,.int .u32 0,.int .u32 0,.int .u32 0,.int .u32 0,.int .u32 0,.int .u32 0,.int .u32 0,.int .u32 0,.int .u32 0,.int .u32 0,.int .u32 0,.int .u32 0,.int .u32 0,.int .u32 0,.int .u32 0,.int .u32 0,.int .u32 0,.int .u32 0,.int .u32 0,.int .u32 0,.int .u32 0,.int .u32 0,.int .u32 0,.int .u32 0,.int .u32 0,.int .u32 0,.int .u32 0] 208));obtain⟨gh,hgh⟩:=xeq w.heap.size;obtain⟨gr,hgr⟩:=xeq (w.heap.size+1);obtain⟨gw,hgw⟩:=xeq (w.heap.size+1+1);have bh0:Blk W0 gh 209 #[.int .u32 s0.a,.int .u32 s0.b,.int .u32 s0.c,.int .u32 s0.d,.int .u32 s0.e,.int .u32 s0.f,.int .u32 s0.g,.int .u32 s0.h]:=by rw[hW0,←hgh];exact((Blk.new w _ _).alloc _).alloc _
 have br0:Blk W0 gr 209 #[.int .u32 0,.int .u32 0,.int .u32 0,.int .u32 0,.int .u32 0,.int .u32 0,.int .u32 0,.int .u32 0]:=by
  have h:=Blk.new (w.alloc (.cells #[.int .u32 s0.a,.int .u32 s0.b,.int .u32 s0.c,.int .u32 s0.d,.int .u32 s0.e,.int .u32 s0.f,.int .u32 s0.g,.int .u32 s0.h] 209)) 209 #[.int .u32 0,.int .u32 0,.int .u32 0,.int .u32 0,.int .u32 0,.int .u32 0,.int .u32 0,.int .u32 0];rw[qar]at h;rw[hW0,←hgr];exact h.alloc _
 have bw0:Blk W0 gw 208 (qbp (qbv (qbr bs 0))).toArray:=by
  have h:=Blk.new ((w.alloc (.cells #[.int .u32 s0.a,.int .u32 s0.b,.int .u32 s0.c,.int .u32 s0.d,.int .u32 s0.e,.int .u32 s0.f,.int .u32 s0.g,.int .u32 s0.h] 209)).alloc (.cells #[.int .u32 0,.int .u32 0,.int .u32 0,.int .u32 0,.int .u32 0,.int .u32 0,.int .u32 0,.int .u32 0] 209)) 208 (qbp (qbv (qbr bs 0))).toArray;rw[qar,qar]at h;rw[hW0,←hgw];exact h
 have B0:=zMc hW0;have T0:RTab W0 g:=Blk.below hT B0 (Blk.lt hT);have glt:g<gh:=by rw[←hgh];exact Blk.lt hT
 have hadB':gb<gh:=by rw[←hgh];exact hadB
 have hrw:gr<gw:=zo;have hhr:gh<gr:=zo;have hgw0:gw<W0.heap.size:=bw0.lt;obtain⟨A0,AD,AE,AA,AF,AG,AH,AI⟩:=zh8 hgh hgr hgw B0 bw0 bh0 br0 T0;clear hT hgh hgr hgw;go_enter Tryz.func193,Tryz.ntmps193
 go_upto_region 3 with(fail)
 rw[←hW0,show w.heap.size+1+1=gw from AE.o,show w.heap.size+1=gr from AD.o,show w.heap.size=gh from A0.o];clear hW0 B0 bw0 bh0 br0 T0;go_loopw [8] (fun i wr=>∃k:Nat,k≤16∧i=.int .i64 k∧Blk wr gw 208 (qbp (qbv (qbr bs k))).toArray∧Below gw W0 wr) (fun i _=>16 - (intOf i).toNat)
 case atStart=>exact⟨0,by omega,rfl,AF.o,tA5 _ _⟩
 case round=>
  obtain⟨k,hk,rfl,hw,hbl⟩:=hrel;have hbl0:Below w.heap.size w wr:=AA.trans (hbl.mono (by rw[A0.o];omega));by_cases h16:k<16
  ·
   have hwc:=hw.cell k;rw[qbw (qbs bs k) zo]at hwc;have hwf:=hw.frozen k;have hk64:k<64:=zo;have h16':k<16:=h16;obtain⟨j,hj⟩:=xeq (4*k);obtain⟨b0,q0,e0⟩:=qcf hr hb hbl0 (tA4 _) hadB (j:=j) zo;obtain⟨b1,q1,e1⟩:=qcf hr hb hbl0 (tA4 _) hadB (j:=j+1) zo;obtain⟨b2,q2,e2⟩:=qcf hr hb hbl0 (tA4 _) hadB (j:=j+2) zo;obtain⟨b3,q3,e3⟩:=qcf hr hb hbl0 (tA4 _) hadB (j:=j+3) zo;have Q0:=zh1 q0;have Q1:=zh1 q1;have Q2:=zh1 q2;have Q3:=zh1 q3;clear q0 q1 q2 q3;have j60:j≤60:=zo;have hm:IntKind.i64.wrap (4*(k:Int))=(j:Int):=by rw[show (4*(k:Int))=(j:Int) by omega];exact tBb _ zo
   have w1:IntKind.i64.wrap ((j:Int)+1)=(j:Int)+1:=tBb _ zo;have w2:IntKind.i64.wrap ((j:Int)+2)=(j:Int)+2:=tBb _ zo;have w3:IntKind.i64.wrap ((j:Int)+3)=(j:Int)+3:=tBb _ zo;have p0:(j:Int)<n:=zo;have p1:(j:Int)+1<n:=zo;have p2:(j:Int)+2<n:=zo;have p3:(j:Int)+3<n:=zo;have t1:(0:Int)≤(j:Int)+1:=zo;have t2:(0:Int)≤(j:Int)+2:=zo;have t3:(0:Int)≤(j:Int)+3:=zo;have v0:=hb2' b0 (tB2 Q0.o);have v1:=hb2' b1 (tB2 Q1.o);have v2:=hb2' b2 (tB2 Q2.o);have v3:=hb2' b3 (tB2 Q3.o);have x0:IntKind.u32.wrap (b0:Int)=b0:=tBf _ zo;have x1:IntKind.u32.wrap (b1:Int)=b1:=tBf _ zo;have x2:IntKind.u32.wrap (b2:Int)=b2:=tBf _ zo;have x3:IntKind.u32.wrap (b3:Int)=b3:=tBf _ zo;have y0:IntKind.u32.wrap ((b0:Int)*16777216)=b0*16777216:=tBf _ zo;have y1:IntKind.u32.wrap ((b1:Int)*65536)=b1*65536:=tBf _ zo;have y2:IntKind.u32.wrap ((b2:Int)*256)=b2*256:=tBf _ zo;have n2:((j:Int)+2).toNat=j+2:=zo;have n3:((j:Int)+3).toNat=j+3:=zo;obtain⟨a1,ha1,o1⟩:∃a1:Nat,a1=(b0*16777216|||b1*65536)∧bits .or .u32 ((b0:Int)*16777216) ((b1:Int)*65536)=a1:=⟨_,rfl,u32_or_nat (b0*16777216) (b1*65536) zo zo⟩;have l1:a1<4294967296:=by rw[ha1];exact Nat.or_lt_two_pow (n:=32) zo zo
   obtain⟨a2,ha2,o2⟩:∃a2:Nat,a2=(a1|||b2*256)∧bits .or .u32 (a1:Int) ((b2:Int)*256)=a2:=⟨_,rfl,u32_or_nat a1 (b2*256) zo zo⟩;have l2:a2<4294967296:=by rw[ha2];exact Nat.or_lt_two_pow (n:=32) zo zo
   obtain⟨a3,ha3,o3⟩:∃a3:Nat,a3=(a2|||b3)∧bits .or .u32 (a2:Int) (b3:Int)=a3:=⟨_,rfl,u32_or_nat a2 b3 zo zo⟩;have l3:a3=be32 bs (4*k):=by
    have HJ':4*k=j:=hj;unfold be32;rw[HJ',ha3,ha2,ha1,qce Q0.o,qce Q1.o,qce Q2.o,qce Q3.o]
   clear ha1 ha2 ha3;have L3:=zh1 l3;clear l3;have k64:(k:Int)<64:=zo;have HJ:=zh1 hj;have k16:(k:Int)<16:=zo;clear hj hr;go_wp2_with fail
   go_still_tail 35,zk
   change wpList _ _ _ _ _ wr.drew;go_wp2
   go_roundw
   case rel=>
    refine⟨k+1,by omega,by go_num,?_,?_⟩
    · rw[qbr,←qbx (qbs bs k) hk64,qbq,if_pos h16',←L3.o]
      exact hw.drew.set_ k _
    exact hbl.drew.setCell (tA4 _) _
   case measure=>simp[intOf];omega
  have k16:¬(k:Int)<16:=zo;have hk':k=16:=zo;rw[hk']at hw;obtain⟨W1,rfl⟩:=eqx wr;obtain⟨AJ,AK⟩:=zh2 hw hbl;have l1:W0.heap.size≤W1.heap.size:=hbl.size;clear hw hbl hbl0 hr hk hk' h16;go_wp2_with fail
  go_loopw [9,10,11] (fun i _ _ wr=>∃k:Nat,16≤k∧k≤64∧i=.int .i64 k∧Blk wr gw 208 (qbp (qbv (qbr bs k))).toArray∧Below gw W0 wr) (fun i _ _ _=>64 - (intOf i).toNat)
  case atStart=>exact⟨16,by omega,by omega,rfl,AJ.o,AK.o⟩
  case round=>
   obtain⟨k,h16,hk,rfl,hw,hbl⟩:=hrel;by_cases hk64:k<64
   ·
    have hl:=qbs bs k;have hu:=qbu bs hb2 k;obtain⟨m2,h2⟩:=xeq (k - 2);obtain⟨m7,h7⟩:=xeq (k - 7);obtain⟨m15,h15⟩:=xeq (k - 15);obtain⟨m16,h16'⟩:=xeq (k - 16);have c2:=hw.cell m2;have c7:=hw.cell m7;have c15:=hw.cell m15;have c16:=hw.cell m16;rw[qby hl zo]at c2 c7 c15 c16;have u2:=hu.getD m2;have u7:=hu.getD m7;have u15:=hu.getD m15;have u16:=hu.getD m16;obtain⟨x2,X2⟩:=xeq ((qbr bs k).getD m2 0);obtain⟨x7,X7⟩:=xeq ((qbr bs k).getD m7 0);obtain⟨x15,A4⟩:=xeq ((qbr bs k).getD m15 0);obtain⟨x16,A5⟩:=xeq ((qbr bs k).getD m16 0);have hwc:=hw.cell k;rw[qbw hl zo]at hwc;have hwf:=hw.frozen k;have i2:IntKind.i64.wrap ((k:Int) - 2)=(m2:Int):=by rw[show ((k:Int) - 2)=(m2:Int) by omega];exact tBb _ zo
    have i7:IntKind.i64.wrap ((k:Int) - 7)=(m7:Int):=by rw[show ((k:Int) - 7)=(m7:Int) by omega];exact tBb _ zo
    have i15:IntKind.i64.wrap ((k:Int) - 15)=(m15:Int):=by rw[show ((k:Int) - 15)=(m15:Int) by omega];exact tBb _ zo
    have i16:IntKind.i64.wrap ((k:Int) - 16)=(m16:Int):=by rw[show ((k:Int) - 16)=(m16:Int) by omega];exact tBb _ zo
    have q2:(m2:Int)<64:=zo;have q7:(m7:Int)<64:=zo;have q15:(m15:Int)<64:=zo;have q16:(m16:Int)<64:=zo;have qk:(k:Int)<64:=zo;have z7:m7≠k:=zo;have z16:m16≠k:=zo;have hwx:qbq bs (qbr bs k) k=(sig1 x2+x7+sig0 x15+x16) % 4294967296:=by
     unfold qbq;rw[if_neg zo,h2,h7,h15,h16',X2,X7,A4,A5]
    have AL:=zh1 hwx;rw[X2]at c2 u2;rw[X7]at c7 u7;rw[A4]at c15 u15;rw[A5]at c16 u16;clear hwx X2 X7 A4 A5 h2 h7 h15 h16' hl hu;obtain⟨r17,A1⟩:=xeq (rotr x2 17);obtain⟨r19,A2⟩:=xeq (rotr x2 19);obtain⟨r7,R7⟩:=xeq (rotr x15 7);obtain⟨r18,A3⟩:=xeq (rotr x15 18);have b17:r17<4294967296:=A1▸qbk _ _ u2;have b19:r19<4294967296:=A2▸qbk _ _ u2;have b7:r7<4294967296:=R7▸qbk _ _ u15;have b18:r18<4294967296:=A3▸qbk _ _ u15;obtain⟨p1,hp1,op1⟩:∃p:Nat,p=(r17^^^r19)∧bits .xor .u32 (r17:Int) (r19:Int)=p:=⟨_,rfl,u32_xor_nat _ _ b17 b19⟩;have lp1:p1<4294967296:=by rw[hp1];exact Nat.xor_lt_two_pow (n:=32) zo zo
    obtain⟨p2,hp2,op2⟩:∃p:Nat,p=(p1^^^x2 / 2^10)∧bits .xor .u32 (p1:Int) ((x2:Int) / 1024)=p:=⟨_,rfl,by
     rw[show ((x2:Int) / 1024)=((x2 / 2^10:Nat):Int) by push_cast;rfl];exact u32_xor_nat _ _ lp1 (Nat.lt_of_le_of_lt (Nat.div_le_self _ _) u2)⟩
    obtain⟨p3,hp3,op3⟩:∃p:Nat,p=(r7^^^r18)∧bits .xor .u32 (r7:Int) (r18:Int)=p:=⟨_,rfl,u32_xor_nat _ _ b7 b18⟩;have lp3:p3<4294967296:=by rw[hp3];exact Nat.xor_lt_two_pow (n:=32) zo zo
    obtain⟨p4,hp4,op4⟩:∃p:Nat,p=(p3^^^x15 / 2^3)∧bits .xor .u32 (p3:Int) ((x15:Int) / 8)=p:=⟨_,rfl,by
     rw[show ((x15:Int) / 8)=((x15 / 2^3:Nat):Int) by push_cast;rfl];exact u32_xor_nat _ _ lp3 (Nat.lt_of_le_of_lt (Nat.div_le_self _ _) u15)⟩
    have AM:Hid (sig1 x2=p2):=zh1 (by unfold sig1;rw[A1,A2,hp2,hp1]);have A6:Hid (sig0 x15=p4):=zh1 (by unfold sig0;rw[R7,A3,hp4,hp3]);have K1:∀w,Zc 228 #[.int .u32 x2,.int .u64 17] w fun e w'=>e=.returned (.int .u32 (r17:Nat))∧w=w':=fun w=>A1▸qyr x2 17 w u2 zo zo
    have K2:∀w,Zc 228 #[.int .u32 x2,.int .u64 19] w fun e w'=>e=.returned (.int .u32 (r19:Nat))∧w=w':=fun w=>A2▸qyr x2 19 w u2 zo zo
    have K3:∀w,Zc 228 #[.int .u32 x15,.int .u64 7] w fun e w'=>e=.returned (.int .u32 (r7:Nat))∧w=w':=fun w=>R7▸qyr x15 7 w u15 zo zo
    have K4:∀w,Zc 228 #[.int .u32 x15,.int .u64 18] w fun e w'=>e=.returned (.int .u32 (r18:Nat))∧w=w':=fun w=>A3▸qyr x15 18 w u15 zo zo
    obtain⟨AN,A7⟩:=zh2 hw hbl;clear A1 A2 R7 A3 hp1 hp2 hp3 hp4 hw hbl;go_upto_region 11 with(fail)
    go_region_held3 (fun w'=>w'.cell? ⟨gw,m7,none⟩=some (.int .u32 x7)∧w'.cell? ⟨gw,m16,none⟩=some (.int .u32 x16))
     (first|exact⟨c7,c16⟩|exact⟨qbz z7 c7,qbz z16 c16⟩)
     (first|(go_at_call 228;(with_reducible refine(K1 _).mono ?_);rintro e w2 ⟨rfl,rfl⟩;go_split_ands)|(go_at_call 228;(with_reducible refine(K2 _).mono ?_);rintro e w2 ⟨rfl,rfl⟩;go_split_ands)|(go_at_call 228;(with_reducible refine(K3 _).mono ?_);rintro e w2 ⟨rfl,rfl⟩;go_split_ands)|(go_at_call 228;(with_reducible refine(K4 _).mono ?_);rintro e w2 ⟨rfl,rfl⟩;go_split_ands))
    all_goals
     go_wp2
     go_roundw
     case rel=>
      refine⟨k+1,by omega,by omega,by go_num,?_,?_⟩
      · rw[qbr,←qbx (qbs bs k) hk64,AL.o,AM.o,A6.o,←add4]
        exact AN.set_ k _
      first|exact(qa8 A7.o _).setCell (tA4 _) _|exact A7.drew.setCell (tA4 _) _|exact Below.setCell (p:=⟨gw,k,none⟩) A7.o (tA4 _) _
     case measure=>simp[intOf];omega
   have hk':k=64:=zo;have hk2:¬(k:Int)<64:=zo;obtain⟨wo,rfl⟩:=eqx wr;rw[hk',qc0 (qbs bs 64)]at hw;obtain⟨W,hW⟩:=xeq (qbr bs 64);have hWl:=qbs bs 64;have hWu:=qbu bs hb2 64;rw[hW]at hw hWl hWu;obtain⟨HW,HWl,HWu,A8⟩:=zh4 hW hWl hWu hS2;have hg2:Blk wo gh 209 #[.int .u32 s0.a,.int .u32 s0.b,.int .u32 s0.c,.int .u32 s0.d,.int .u32 s0.e,.int .u32 s0.f,.int .u32 s0.g,.int .u32 s0.h]:=AG.below hbl zo;have hr2:Blk wo gr 209 #[.int .u32 0,.int .u32 0,.int .u32 0,.int .u32 0,.int .u32 0,.int .u32 0,.int .u32 0,.int .u32 0]:=AH.below hbl zo;have hT2:RTab wo g:=Blk.below AI.o hbl zo;have hbo:Below w.heap.size w wo:=AA.trans (hbl.mono (by rw[A0.o];omega));obtain⟨AO,A9,AP⟩:=zh3 hr2 hT2 hbo;have hgwo:gw<wo.heap.size:=hw.lt;have c0:=hg2.cell 0;have c1:=hg2.cell 1;have c2:=hg2.cell 2;have c3:=hg2.cell 3;have c4:=hg2.cell 4;have c5:=hg2.cell 5;have c6:=hg2.cell 6;have c7:=hg2.cell 7;simp at c0 c1 c2 c3 c4 c5 c6 c7;obtain⟨AQ,HWo⟩:=zh2 hg2 hw;clear hW hWl hWu hS2 hk h16 hk64 hk' hb hb2 hb2' hw hg2 hr2 hT2 hbo hbl;go_wp2_with fail
   go_loopw [13,14,15,16,17] (fun i _ _ _ _ wr=>∃(k:Nat) (s:St),k≤64∧i=.int .i64 k∧s=rounds W s0 k∧s.ok∧Blk wr wo.heap.size 209 #[.int .u32 s.a,.int .u32 s.b,.int .u32 s.c,.int .u32 s.d,.int .u32 s.e,.int .u32 s.f,.int .u32 s.g,.int .u32 s.h]∧Below wo.heap.size wo wr) (fun i _ _ _ _ _=>64 - (intOf i).toNat)
   case atStart=>exact⟨0,s0,by omega,rfl,rfl,A8.o,Blk.new ..,(tA5 _ wo).alloc (tA4 _) _⟩
   case round=>
    clear c0 c1 c2 c3 c4 c5 c6 c7;obtain⟨k,s,hk,rfl,hs,hok,hst,hb3⟩:=hrel;obtain⟨Hs,Hok⟩:=zh2 hs hok;clear hs;obtain⟨a,b,c,d,e,f,g',h⟩:=s;obtain⟨oa,ob',oc,od,oe,of,og,oh⟩:=hok;dsimp only at oa ob' oc od oe of og oh hst;by_cases hk64:k<64
    ·
     have c0:=hst.cell 0;have c1:=hst.cell 1;have c2:=hst.cell 2;have c3:=hst.cell 3;have c4:=hst.cell 4;have c5:=hst.cell 5;have c6:=hst.cell 6;have c7:=hst.cell 7;simp at c0 c1 c2 c3 c4 c5 c6 c7;have qk:(k:Int)<64:=zo;have ckk:wr.cell? ⟨g,k,none⟩=some (.int .u32 (Kt.getD k 0:Nat)):=qys (Blk.below A9.o hb3 zo) hk64;have cww:wr.cell? ⟨gw,k,none⟩=some (.int .u32 (W.getD k 0:Nat)):=by
      have hx:=qby HWl.o hk64;rw[qc0 HWl.o]at hx;rw[(HWo.below hb3 hgwo).cell];exact hx
     obtain⟨kk,hkk⟩:=xeq (Kt.getD k 0);obtain⟨ww,hww⟩:=xeq (W.getD k 0);rw[hkk]at ckk;rw[hww]at cww;have okk:kk<4294967296:=hkk▸Kt_lt k;have oww:ww<4294967296:=hww▸HWu.getD k;obtain⟨AR,AS⟩:=zh2 hkk hww;clear hkk hww;obtain⟨Hst,Hb3⟩:=zh2 hst hb3;clear hst hb3;obtain⟨n1,hn1,on1⟩:∃p:Nat,(4294967295^^^e)=p∧bits .xor .u32 (if IntKind.u32.signed=true then -1 else IntKind.u32.max) (e:Int)=p:=⟨_,rfl,u32_xor_nat 4294967295 e zo oe⟩;have ln1:n1<4294967296:=by rw[←hn1];exact Nat.xor_lt_two_pow (n:=32) zo zo
     obtain⟨p1,hp1,op1⟩:∃p:Nat,p=(e&&& f)∧bits .and .u32 (e:Int) (f:Int)=p:=⟨_,rfl,u32_and_nat e f oe of⟩;have lp1:p1<4294967296:=by rw[hp1];exact Nat.and_lt_two_pow (n:=32) _ zo
     obtain⟨p2,hp2,op2⟩:∃p:Nat,p=(n1&&& g')∧bits .and .u32 (n1:Int) (g':Int)=p:=⟨_,rfl,u32_and_nat n1 g' ln1 og⟩;have lp2:p2<4294967296:=by rw[hp2];exact Nat.and_lt_two_pow (n:=32) _ zo
     obtain⟨p3,hp3,op3⟩:∃p:Nat,p=(p1^^^p2)∧bits .xor .u32 (p1:Int) (p2:Int)=p:=⟨_,rfl,u32_xor_nat p1 p2 lp1 lp2⟩;obtain⟨q1,hq1,oq1⟩:∃p:Nat,p=(a&&& b)∧bits .and .u32 (a:Int) (b:Int)=p:=⟨_,rfl,u32_and_nat a b oa ob'⟩;have lq1:q1<4294967296:=by rw[hq1];exact Nat.and_lt_two_pow (n:=32) _ zo
     obtain⟨q2,hq2,oq2⟩:∃p:Nat,p=(a&&& c)∧bits .and .u32 (a:Int) (c:Int)=p:=⟨_,rfl,u32_and_nat a c oa oc⟩;have lq2:q2<4294967296:=by rw[hq2];exact Nat.and_lt_two_pow (n:=32) _ zo
     obtain⟨q3,hq3,oq3⟩:∃p:Nat,p=(q1^^^q2)∧bits .xor .u32 (q1:Int) (q2:Int)=p:=⟨_,rfl,u32_xor_nat q1 q2 lq1 lq2⟩;have lq3:q3<4294967296:=by rw[hq3];exact Nat.xor_lt_two_pow (n:=32) zo zo
     obtain⟨q4,hq4,oq4⟩:∃p:Nat,p=(b&&& c)∧bits .and .u32 (b:Int) (c:Int)=p:=⟨_,rfl,u32_and_nat b c ob' oc⟩;have lq4:q4<4294967296:=by rw[hq4];exact Nat.and_lt_two_pow (n:=32) _ zo
     obtain⟨q5,hq5,oq5⟩:∃p:Nat,p=(q3^^^q4)∧bits .xor .u32 (q3:Int) (q4:Int)=p:=⟨_,rfl,u32_xor_nat q3 q4 lq3 lq4⟩;have hch:chf ⟨a,b,c,d,e,f,g',h⟩=p3:=by unfold chf;dsimp only;rw[hp3,hp1,hp2,hn1]
     have hmj:maj ⟨a,b,c,d,e,f,g',h⟩=q5:=by unfold maj;dsimp only;rw[hq5,hq4,hq3,hq2,hq1]
     obtain⟨AT,AU⟩:=zh2 hch hmj;clear hch hmj hp1 hp2 hp3 hq1 hq2 hq3 hq4 hq5 hn1 lp1 lp2 lq1 lq2 lq3 lq4;obtain⟨fe,hfe⟩:∃f:Int→Nat,∀n,f n=rotr e n.toNat:=⟨_,fun _=>rfl⟩;obtain⟨fa,hfa⟩:∃f:Int→Nat,∀n,f n=rotr a n.toNat:=⟨_,fun _=>rfl⟩;have be:∀n,fe n<4294967296:=fun n=>by rw[hfe];exact qbk _ _ oe
     have ba:∀n,fa n<4294967296:=fun n=>by rw[hfa];exact qbk _ _ oa
     obtain⟨v1,hv1,ov1⟩:∃p:Nat,p=(fe 6^^^fe 11)∧bits .xor .u32 (fe 6:Int) (fe 11:Int)=p:=⟨_,rfl,u32_xor_nat _ _ (be _) (be _)⟩;have lv1:v1<4294967296:=by rw[hv1];exact Nat.xor_lt_two_pow (n:=32) (be _) (be _)
     obtain⟨t1,ht1,ot1⟩:∃p:Nat,p=(v1^^^fe 25)∧bits .xor .u32 (v1:Int) (fe 25:Int)=p:=⟨_,rfl,u32_xor_nat _ _ lv1 (be _)⟩;have lt1:t1<4294967296:=by rw[ht1];exact Nat.xor_lt_two_pow (n:=32) zo (be _)
     obtain⟨v2,hv2,ov2⟩:∃p:Nat,p=(fa 2^^^fa 13)∧bits .xor .u32 (fa 2:Int) (fa 13:Int)=p:=⟨_,rfl,u32_xor_nat _ _ (ba _) (ba _)⟩;have lv2:v2<4294967296:=by rw[hv2];exact Nat.xor_lt_two_pow (n:=32) (ba _) (ba _)
     obtain⟨t2,ht2,ot2⟩:∃p:Nat,p=(v2^^^fa 22)∧bits .xor .u32 (v2:Int) (fa 22:Int)=p:=⟨_,rfl,u32_xor_nat _ _ lv2 (ba _)⟩;have lt2:t2<4294967296:=by rw[ht2];exact Nat.xor_lt_two_pow (n:=32) zo (ba _)
     have AV:Hid (Sig1 e=t1):=zh1 (by rw[ht1,hv1,hfe,hfe,hfe];rfl);have AW:Hid (Sig0 a=t2):=zh1 (by rw[ht2,hv2,hfa,hfa,hfa];rfl);have KE:∀(n:Int) w,1≤n∧n≤31→Zc 228 #[.int .u32 e,.int .u64 n] w fun e w'=>e=.returned (.int .u32 (fe n:Nat))∧w=w':=fun n w hn=>by
      have h:=qyr e n.toNat w oe zo zo;rw[←hfe,Int.toNat_of_nonneg zo]at h;exact h
     have KA:∀(n:Int) w,1≤n∧n≤31→Zc 228 #[.int .u32 a,.int .u64 n] w fun e w'=>e=.returned (.int .u32 (fa n:Nat))∧w=w':=fun n w hn=>by
      have h:=qyr a n.toNat w oa zo zo;rw[←hfa,Int.toNat_of_nonneg zo]at h;exact h
     have AB:∀(n:Int) k w,1≤n∧n≤31→Zc 228 #[.int .u32 e,.int .u64 n] (World.drewN w k) fun e w''=>e=.returned (.int .u32 (fe n:Nat))∧∃m,w''=w.drewN m:=fun n k w hn=>Calls.quiet_of_same ((KE n _ hn).mono (by rintro _ _ ⟨rfl,rfl⟩;exact⟨rfl,rfl⟩))
     have AC:∀(n:Int) j k w,1≤n∧n≤31→Zc 228 #[.int .u32 a,.int .u64 n] (World.drewN w (j+k)) fun e w''=>e=.returned (.int .u32 (fa n:Nat))∧∃m,w''=w.drewN (j+m):=fun n j k w hn=>(KA n _ hn).mono (by rintro _ _ ⟨rfl,rfl⟩;exact⟨rfl,k,rfl⟩)
     obtain⟨AX,AY⟩:=zh2 AB AC;clear hfe hfa hv1 hv2 ht1 ht2 be ba KE KA AB AC;go_upto_region 18 with(fail)
     go_quiet ((go_at_call 228;((refine AX.o _ _ _ ?_));decide))
     go_upto_region 19 with(fail)
     go_quiet ((go_at_call 228;((refine AY.o _ _ _ _ ?_));decide))
     go_upto_region 20 with(fail)
     refine wp_region_lit ?_;iterate 20 (refine qbj rfl ⟨?_,?_,?_⟩;rotate_left;(focus(go_simp;(try go_bits);try rfl));simp only[Act.put,tA0,tA1,tA2])
     refine wpList_store_row rfl 209 _ _ rfl wo.heap.size _ rfl rfl 209 #[.int .u32 a,.int .u32 b,.int .u32 c,.int .u32 d,.int .u32 e,.int .u32 f,.int .u32 g',.int .u32 h] (by exact Hst.o) zk rfl (by simp[Value.oneCell']) ?_;go_wp2
     go_roundw
     case rel=>
      refine⟨k+1,round ⟨a,b,c,d,e,f,g',h⟩ kk ww,by omega,by go_num,?_,?_,?_,?_⟩
      · rw[rounds,←Hs.o,AR.o,AS.o]
      · exact qcb _ _ _ Hok.o
      · show Blk _ _ _ (round ⟨a,b,c,d,e,f,g',h⟩ kk ww).vals
        rw[qcd a b c d e f g' h kk ww t1 t2 p3 q5 AV.o AW.o AT.o AU.o];exact(Hst.drewN _).setRow _
      exact(qa8 Hb3.o _).grown (qam _ _ _) (Nat.le_of_lt Hst.lt) (fun k hk=>by injection hk with hk;omega)
     case measure=>simp[intOf];omega
    have qk:¬(k:Int)<64:=zo;have hk':k=64:=zo;have hz:(⟨a,b,c,d,e,f,g',h⟩:St)=rounds W s0 64:=by rw[←hk'];exact Hs.o
    obtain⟨z,hzz⟩:∃z:St,z=⟨a,b,c,d,e,f,g',h⟩:=⟨_,rfl⟩;have hzb:Blk wr wo.heap.size 209 (qbp z.list).toArray:=by rw[hzz];exact hst
    rw[←hzz]at hz;obtain⟨Hz,Hzb⟩:=zh2 hz hzb;have hzu:u32s z.list:=by
     rw[hz];exact St.ok_list (qcc W s0 A8.o 64)
    have Hzu:=zh1 hzu;obtain⟨wq,rfl⟩:=eqx wr;have hgq:Blk wq gh 209 (qbp s0.list).toArray:=(AQ.below hb3 zo);have Hgq:=zh1 hgq;have hrq:Blk wq gr 209 #[.int .u32 0,.int .u32 0,.int .u32 0,.int .u32 0,.int .u32 0,.int .u32 0,.int .u32 0,.int .u32 0]:=(AO.below hb3 zo);obtain⟨Hrq,Hb3⟩:=zh2 hrq hb3;have hgo:gh≠wo.heap.size:=zo;have Hs0:=zh1 (St.ok_list A8.o);clear hzz hz hzb hzu hst hb3 hgq hk' hk64 oa ob' oc od oe of og oh hrq;go_wp2_with fail
    go_loopw [18] (fun i wr=>∃(k:Nat),k≤8∧i=.int .i64 k∧Blk wr gh 209 (qbp (addl s0.list z.list k)).toArray∧wq.grownBy wr (some gh)) (fun i _=>8 - (intOf i).toNat)
    case atStart=>exact⟨0,by omega,rfl,by rw[qc4];exact Hgq.o,tB9 _ _⟩
    case round=>
     obtain⟨k,hk,rfl,hgk,hgr⟩:=hrel;by_cases hk8:k<8
     ·
      have qk8:(k:Int)<8:=zo;have cg:=hgk.cell k;rw[qc5 (by simp[St.list];omega),if_neg (Nat.lt_irrefl k)]at cg;have cz:=(Hzb.grown hgr (by intro e;injection e with e;exact hgo e.symm)).cell k;rw[qc2 (by simp[St.list];omega)]at cz;have fg:=hgk.frozen k;obtain⟨Hgk,Hgr⟩:=zh2 hgk hgr;obtain⟨x,hx⟩:=xeq (s0.list.getD k 0);obtain⟨y,hy⟩:=xeq (z.list.getD k 0);rw[hx]at cg;rw[hy]at cz;have lx:x<4294967296:=hx▸Hs0.getD k;have ly:y<4294967296:=hy▸Hzu.getD k;obtain⟨Hx,Hy⟩:=zh2 hx hy;clear hx hy hgk hgr;go_wp2_with fail
      go_still_tail 9,zk
      change wpList _ _ _ _ _ wr.drew;go_wp2
      go_roundw
      case rel=>
       refine⟨k+1,by omega,by go_num,?_,?_⟩
       · rw[←qc6 (by simp[St.list];omega),Hx.o,Hy.o]
         have e:(((x+y) % 4294967296:Nat):Int)=((x:Int)+y) % 4294967296:=zo;rw[e];exact Hgk.drew.set_ k _
       exact qab (qa9 Hgr.o) (.inl rfl) _
      case measure=>simp[intOf];omega
     have qk8:¬(k:Int)<8:=zo;have hk8':k=8:=zo;rw[hk8',qc9]at hgk;have hmx:qc8 s0 z=mixed bs s0:=by rw[Hz.o,←HW.o];rfl
     rw[hmx,←St.vals_list]at hgk;obtain⟨z',hz'⟩:=xeq (mixed bs s0);rw[hz']at hgk;have AZ:=zh1 hz';clear hz';have hrr:=Hrq.grown hgr (by intro e;injection e with e;omega);have d0:=hgk.cell 0;have d1:=hgk.cell 1;have d2:=hgk.cell 2;have d3:=hgk.cell 3;have d4:=hgk.cell 4;have d5:=hgk.cell 5;have d6:=hgk.cell 6;have d7:=hgk.cell 7;simp[St.vals]at d0 d1 d2 d3 d4 d5 d6 d7;have hend:Below w.heap.size w wr:=(AP.trans (Hb3.mono (by rw[A0.o];omega))).trans (qyp hgr (by rw[A0.o];omega) (by have:=Hgq.lt;omega));obtain⟨HE,Hrr⟩:=zh2 hend hrr;have hwr:gr<wr.heap.size:=hrr.lt;clear hgk hgr hk8' hk8 hrr hend hmx;go_wp2_with (refine wpList_store_row rfl 209 (.tmp 6) _ rfl gr _ rfl rfl 209 _ Hrr.o zk rfl (by simp[Value.oneCell']) ?_)
     have z8:=Hrr.setRow #[.int .u32 z'.a,.int .u32 z'.b,.int .u32 z'.c,.int .u32 z'.d,.int .u32 z'.e,.int .u32 z'.f,.int .u32 z'.g,.int .u32 z'.h];have B1:=qap (l:=[.int .u32 z'.a,.int .u32 z'.b,.int .u32 z'.c,.int .u32 z'.d,.int .u32 z'.e,.int .u32 z'.f,.int .u32 z'.g,.int .u32 z'.h]) z8 0 [.int .u32 z'.a,.int .u32 z'.b,.int .u32 z'.c,.int .u32 z'.d,.int .u32 z'.e,.int .u32 z'.f,.int .u32 z'.g,.int .u32 z'.h] zjq;refine bodyPost_ret (v:=.agg #[.int .u32 z'.a,.int .u32 z'.b,.int .u32 z'.c,.int .u32 z'.d,.int .u32 z'.e,.int .u32 z'.f,.int .u32 z'.g,.int .u32 z'.h]) (qao rfl rfl (run_loadVar_mid _ _ 0 _ _ _ B1 Tryz.underlying209 rfl zk)) rfl ⟨?_,below_setRow HE.o (by rw[A0.o];omega) _⟩;rw[AZ.o];rfl
theorem qyv{a b:List Nat}(h:∀j,j<64→a.getD j 0=b.getD j 0)(hi:i<16):be32 a (4*i)=be32 b (4*i):=by
 unfold be32;rw[h (4*i) zo,h (4*i+1) zo,h (4*i+2) zo,h (4*i+3) zo]
theorem qyw {a b:List Nat}(h:∀j,j<64→a.getD j 0=b.getD j 0):∀i,qbr a i=qbr b i
 |0=>rfl
 |i+1=>by
  have e:qbq a (qbr b i) i=qbq b (qbr b i) i:=by
   unfold qbq;by_cases hi:i<16
   · rw[if_pos hi,if_pos hi];exact qyv h hi
   rw[if_neg hi,if_neg hi]
  rw[qbr,qyw h i,e];rfl
theorem qyx{a b:List Nat}(h:∀j,j<64→a.getD j 0=b.getD j 0)(s:St):mixed a s=mixed b s:=by
 unfold mixed;rw[qyw h]
theorem qyy {a b:List Nat}(s:St):∀k,(∀j,j<64*k→a.getD j 0=b.getD j 0)→blocks a s k=blocks b s k
 |0,_=>rfl
 |k+1,h=>by
  rw[blocks,blocks,qyy s k (fun j hj=>h j zo)];apply qyx;intro j hj;have:=h (64*k+j) zo;simpa [tB4,List.getElem?_drop] using this
theorem qyz (l:List Nat)(s:St)(m:Nat):∀j,blocks l s (m+j)=blocks (l.drop (64*m)) (blocks l s m) j
 |0=>rfl
 |j+1=>by
  rw[show m+(j+1)=(m+j)+1 by omega,blocks,blocks,qyz l s m j,List.drop_drop,Nat.mul_add]
def padZ (n:Nat):Nat:=qf3 (n % 64) - n % 64 - 9
def qz0 (bs:List Nat):List Nat:=(bs++128::List.replicate (padZ bs.length) 0)++be (8*bs.length) 8
theorem qz1(n:Nat):(n+1+padZ n) % 64=56:=by
 have h:=qfd (n % 64) (Nat.mod_lt _ zdc);unfold padZ;omega
theorem qz2(n z:Nat)(h:z<padZ n):(n+1+z) % 64≠56:=by
 unfold padZ qf3 at h;split at h<;>omega
theorem qz3(bs:List Nat):(qz0 bs).length=64*(bs.length / 64+qf3 (bs.length % 64) / 64):=by
 have h:=qfd (bs.length % 64) (Nat.mod_lt _ zdc);simp only[qz0,padZ,tA6,tBi,List.length_replicate,qaw];omega
theorem qz4(bs:List Nat):(qz0 bs).drop (64*(bs.length / 64))++List.replicate (128 - qf3 (bs.length % 64)) 0=qf4 bs 8:=by
 have h:=qfd (bs.length % 64) (Nat.mod_lt _ zdc);have e:64*(bs.length / 64)=bs.length - bs.length % 64:=zo;unfold qz0 qf4 padZ;dsimp only;rw[e,List.append_assoc,List.drop_append_of_le_length zo,show qf3 (bs.length % 64) - bs.length % 64 - 1 - 8=qf3 (bs.length % 64) - bs.length % 64 - 9 by omega];simp only[List.append_assoc]
theorem qz5(bs:List Nat):blocks (qz0 bs) qc1 (bs.length / 64+qf3 (bs.length % 64) / 64)=qf5 bs:=by
 have h:=qfd (bs.length % 64) (Nat.mod_lt _ zdc);have hl:=qz3 bs;rw[qyz];unfold qf5;have e1:blocks (qz0 bs) qc1 (bs.length / 64)=blocks bs qc1 (bs.length / 64):=by
  apply qyy;intro j hj;unfold qz0;rw[tB4,List.append_assoc,tBm zo,←tB4]
 rw[e1];apply qyy;intro j hj;rw[←qz4,tB4,tB4,tBm (by rw[tBk];omega)]
theorem qz6(bs:List Nat)(h:∀b∈bs,b<256):∀b∈qz0 bs,b<256:=by
 intro b hb;simp only[qz0,tBg,List.mem_cons,List.mem_replicate]at hb;rcases hb with(hb|rfl|⟨_,rfl⟩)|hb
 · exact h b hb
 · decide
 · decide
 exact qaz _ _ b hb
def slen:Value→Nat|.slice _ n _=>n|_=>0
theorem qz7(N j m:Nat)(h:8=j+(m+1)):(be N 8).take (j+1)=(be N 8).take j++[N / 2^(8*m) % 256]:=by
 rw[qax N 8 j zo,show 8 - 1 - j=m by omega];rw[show qav N m=N / 2^(8*m) % 256 from by unfold qav;rw[Nat.pow_mul]]
theorem qz8(g n cc:Nat)(A:Option Addr)(bs:List Nat)(w:World)(hb2:∀b∈bs,b<256)(hT:RTab w g)(hr:Reads w w.heap.size 1 A n (byv bs))(hn:n≤4294967296):
 Zc 144 #[.pointer (some ⟨g,0,none⟩),.slice A n cc] w fun e w'=>e=.returned (.agg (byv (sha bs)).toArray)∧Below w.heap.size w w':=by
 have hlen:bs.length=n:=qb4 hr;obtain⟨N,hN⟩:=xeq (n*8);have d1:IntKind.u64.wrap (n:Int)=n:=tBa _ zo;have d2:IntKind.u64.wrap ((n:Int)*8)=(N:Int):=by rw[show ((n:Int)*8)=(N:Int) by omega];exact tBa _ zo
 have hN2:N<18446744073709551616:=zo;obtain⟨Z,hZ⟩:=xeq (padZ n);have hZ64:Z≤128:=by rw[←hZ];have:=qfd (n % 64) (Nat.mod_lt _ zdc);unfold padZ;omega
 obtain⟨W0,hW0⟩:=eqx (w.alloc (.cells zLD 29));obtain⟨G,hG⟩:=xeq w.heap.size;have z0:Blk W0 G 29 zLD:=by rw[hW0,←hG];exact Blk.new w _ _
 have b0:=zMa hW0;have t0:RTab W0 g:=Blk.below hT b0 (Blk.lt hT);have r0:Reads W0 W0.heap.size 1 A n (byv bs):=hr.call b0;have hr0:=r0.laid (.cells #[] 5);have glt:g<G:=by rw[←hG];exact Blk.lt hT
 have gsz:G<W0.heap.size:=z0.lt;obtain⟨HG,AG,AH,AI,AJ,A6,A0,AK⟩:=zh8 hG z0 b0 t0 hN hZ hlen hb2;clear hT hr hlen hN hZ b0 t0 z0 r0 hG hb2;go_enter Tryz.func144,Tryz.ntmps144
 go_upto_region 1 with(fail)
 rw[←hW0,show w.heap.size=G from HG.o];clear hW0;go_wp2_with (at_builtin;refine qdy rfl (.tmp 12) (.tmp 13) rfl W0.heap.size _ [] rfl (OwnB.made W0 [] (by simp[maxLen])) A n cc bs rfl hr0 (by simp;omega) zm ?_)
 intro v1 w1 hown1 hb1 hg1;have B1:Below W0.heap.size W0 w1:=((tA5 _ _).alloc (tA4 _) _).trans hb1;have hs1:=B1.size;have l1:([]++bs).length+1≤140737488355328:=by have:=A0.o;simp;omega
 go_wp2_with (at_builtin;refine qdy rfl (.tmp 14) (.tmp 15) rfl W0.heap.size _ _ rfl (hown1.alloc _) _ 1 1 [128] rfl (by simpa using qe3 w1 128) l1 (by simp;omega) ?_)
 intro v2 w2 hown2 hb2 hg2;obtain⟨A5,AC⟩:=zh2 ((B1.alloc hs1 (.cells #[.int .u8 128] 5)).trans hb2) hown2;clear hown1 hb1 hg1 B1 hs1 l1 hown2 hb2 hg2 hr0;go_wp2_with fail
 go_loopw [5] (fun v wr=>∃z,z≤Z∧Hid (OwnB wr W0.heap.size v (bs++128::List.replicate z 0))∧Hid (Below W0.heap.size W0 wr)) (fun v _=>n+1+Z - slen v)
 case atStart=>exact⟨0,by omega,zh1 (by simpa using AC.o),A5.o⟩
 case round=>
  clear AC A5;obtain⟨z,hz,hown,hbe⟩:=hrel;obtain⟨A1,n1,c1,rfl,hnc,hcm,hrd⟩:=hown.sl;have hn1:n1=n+1+z:=by
   have:=qb4 hrd;have e:=A0.o;simp only[tA6,tBi,List.length_replicate]at this;omega
  obtain⟨q,hq⟩:=xeq (n1 % 64);have q1:Int.tmod (n1:Int) 64=(q:Int):=by rw[Int.tmod_eq_emod_of_nonneg zo];omega
  have q2:IntKind.i64.wrap (q:Int)=q:=tBb _ zo;obtain⟨HQ,AL⟩:=zh2 hq hn1;by_cases hzZ:z<Z
  ·
   have q3:¬(q:Int)=56:=by
    have:=qz2 n z (by rw[A6.o];exact hzZ);omega
   clear hq hn1 hrd;have hbs:=hbe.size;have l2:(bs++128::List.replicate z 0).length+1≤140737488355328:=by have:=A0.o;simp;omega
   go_wp2_with (at_builtin;refine qdy rfl (.tmp 21) (.tmp 22) rfl W0.heap.size _ _ rfl (hown.alloc _) _ 1 1 [0] rfl (by simpa using qe3 wr 0) l2 (by simp;omega) ?_)
   intro v3 w3 hown3 hb3 hg3;have AD:Hid (OwnB w3 W0.heap.size v3 (bs++128::List.replicate (z+1) 0)):=zh1 (by
    have e:(bs++128::List.replicate z 0)++[0]=bs++128::List.replicate (z+1) 0:=by rw[List.replicate_succ'];simp
    rw[←e];simpa using hown3)
   have A7:=zh1 ((hbe.alloc hbs (.cells #[.int .u8 0] 5)).trans hb3);have hv3:slen v3=n+1+(z+1):=by
    obtain⟨A3,n3,c3,rfl,-,-,rd3⟩:=AD.sl;have:=qb4 rd3;have e:=A0.o;simp only[tA6,tBi,List.length_replicate]at this;simp only[slen];omega
   have AM:=zh1 hv3;clear hown3 hb3 hg3 hv3 l2 hbs;go_wp2
   go_roundw
   case rel=>exact⟨z+1,by omega,AD,A7⟩
   case measure=>rw[AM.o,show n1=n+1+z from AL.o];simp only[slen];omega
  have hzz:z=Z:=zo;have q3:(q:Int)=56:=by
   have:=qz1 n;rw[A6.o]at this;omega
  subst hzz;obtain⟨T,hTT⟩:=xeq (bs++128::List.replicate z 0);have hTl:T.length≤4294967296+200:=by rw[←hTT];have:=A0.o;simp;omega
  have hown':=hown.o;rw[hTT]at hown';obtain⟨AN,AO⟩:=zh2 hTT hTl;obtain⟨W1,rfl⟩:=eqx wr;have HO:=zh1 hown';clear hq hn1 hrd hTT hTl hown' hown;go_wp2_with fail
  go_loopw [5,7] (fun v i wr=>∃j m:Nat,8=j+m∧i=.int .i64 (8*(m:Int) - 8)∧Hid (OwnB wr W0.heap.size v (T++(be N 8).take j))∧Hid (Below W0.heap.size W0 wr)) (fun _ i _=>(intOf i+8).toNat)
  case atStart=>exact⟨0,8,by omega,rfl,zh1 (by simpa using HO.o),hbe.o⟩
  case round=>
   clear hbe;obtain⟨j,m,hjm,rfl,hown,hbe⟩:=hrel;cases m with
   |zero=>
    obtain rfl:j=8:=zo;rw[show 8*((0:Nat):Int) - 8= -8 from by decide];have hO:=hown.o;rw[tB5 (by rw[qaw];exact tA4 _)]at hO;have hX:T++be N 8=qz0 bs:=by unfold qz0;rw[A0.o,A6.o,AN.o,show 8*n=N by have:=AJ.o;omega]
    rw[hX]at hO;have hXl:=qz3 bs;obtain⟨X,hXX⟩:=xeq (qz0 bs);obtain⟨M,hM⟩:=xeq (bs.length / 64+qf3 (bs.length % 64) / 64);have hM2:M≤67108870:=by rw[←hM];have:=A0.o;have:=qfd (bs.length % 64) (Nat.mod_lt _ zdc);omega
    have hsh:=qz5 bs;have hXlt:=qz6 bs AK.o;rw[hXX]at hO hXl hsh hXlt;rw[hM]at hXl hsh;obtain⟨A2,n2,c2,rfl,hnc2,hcm2,hrd2⟩:=OwnB.sl hO;have hn2:n2=64*M:=by have:=qb4 hrd2;omega
    obtain⟨AE,AP,AQ,A8⟩:=zh4 hn2 hsh hXl hXlt;obtain⟨wo,rfl⟩:=eqx wr;have tab:=(show RTab W0 g from AI.o).below hbe.o zo;have c0:=qyt (i:=0) tab zo;have c1:=qyt (i:=1) tab zo;have c2':=qyt (i:=2) tab zo;have c3:=qyt (i:=3) tab zo;have c4:=qyt (i:=4) tab zo;have c5:=qyt (i:=5) tab zo;have c6:=qyt (i:=6) tab zo;have c7:=qyt (i:=7) tab zo;simp[St.vals,qc1]at c0 c1 c2' c3 c4 c5 c6 c7;have hM1:1≤M:=by rw[←hM];have:=qfd (bs.length % 64) (Nat.mod_lt _ zdc);omega
    obtain⟨gb,ob,hA2,hgb,-⟩:=hrd2.mid zo zo;have AR:=zh1 hrd2;subst hA2;have A9:=zh1 tab;have hzo:Blk wo G 29 zLD:=AG.below hbe.o gsz;obtain⟨AS,AT⟩:=zh2 hzo (AH.trans (hbe.mono (by have:=HG.o;omega)));have B6:=hbe;have glo:g<wo.heap.size:=Blk.lt tab;have gho:G<wo.heap.size:=hzo.lt;clear hO hX hXl hsh hXlt hXX hM hn2 hrd2 tab hzo hown hbe hjm;go_wp2_with fail
    go_loopw [9] (fun i wr=>∃k p:Nat,k≤M∧Hid (64*k=p)∧i=.int .i64 p∧Hid (Blk wr wo.heap.size 209 (blocks X qc1 k).vals)∧Hid (Below wo.heap.size wo wr)) (fun i _=>n2 - (intOf i).toNat)
    case atStart=>exact⟨0,0,by omega,rfl,rfl,Blk.new ..,(tA5 _ _).alloc (tA4 _) _⟩
    case round=>
     clear c0 c1 c2' c3 c4 c5 c6 c7;obtain⟨k,p,hk,hp,rfl,hst,hbw⟩:=hrel;by_cases hkM:k<M
     ·
      obtain⟨s,hs⟩:=xeq (blocks X qc1 k);have hok:s.ok:=hs▸qf0 X qc1 qf1 k;have hstv:=hst.o;rw[hs]at hstv;have hp':=hp.o;have hn2':=AE.o;have p1:(p:Int)<n2:=zo;have p2:p+64≤n2:=zo;have p4:¬c2=p:=zo;have p5:p≤n2:=zo;have p6:(p:Int)≤(p:Int)+64:=zo;have p7:(p:Int)+64≤c2:=zo;have p10:0≤(p:Int)+64:=zo;have p11:((p:Int)+64).toNat=p+64:=zo;have p12:(p:Int)+64 - p=64:=zo;have p3':IntKind.i64.wrap ((p:Int)+64)=(p:Int)+64:=tBb _ zo;have hrp:=((AR.below hbw.o).cut (k:=p) (cap:=c2) p5 hnc2);rw[if_neg p4,Nat.mul_one,show (byv X).drop p=byv (X.drop p) by simp[byv],Option.map_some,Addr.add_mid]at hrp;have hrq:=(hrp.pre (k:=64) zo).more hbw.size;rw[show (byv (X.drop p)).take 64=byv ((X.drop p).take 64) by simp[byv]]at hrq;have htw:RTab wr g:=(show RTab wo g from A9.o).below hbw.o glo;obtain⟨s',hs'⟩:=xeq (mixed ((X.drop p).take 64) s);have hnx:s'=blocks X qc1 (k+1):=by
       rw[←hs',blocks,hp',hs];apply qyx;intro j hj;rw[tB4,tB4,List.getElem?_take_of_lt hj]
      have K:=qyu g 64 (c2 - p) (some ⟨gb,ob+p,none⟩) ((X.drop p).take 64) s wr.drew hok (by rw[tBd,tBk,AQ.o];omega) (tA4 _) (fun b hb=>A8.o b (List.mem_of_mem_drop (tB7 hb))) htw hrq;rw[hs']at K;obtain⟨HK,AU,A4⟩:=zh3 K hnx hstv;have p8:((p+64:Nat):Int) - p=64:=zo;have p9:p+64 - p=64:=zo;clear K hrp hrq htw hs' hnx hp' hn2' hstv hst hs;go_upto_region 13 with(fail)
      obtain⟨S,HS⟩:=zS fun w'=>w'.rangeAt wo.heap.size 0 [.int .u32 s.a,.int .u32 s.b,.int .u32 s.c,.int .u32 s.d,.int .u32 s.e,.int .u32 s.f,.int .u32 s.g,.int .u32 s.h]
      refine zrs S 7 (zq 0 7 [(7,true),(8,true)]) ((HS.o _).mpr (qap (l:=[.int .u32 s.a,.int .u32 s.b,.int .u32 s.c,.int .u32 s.d,.int .u32 s.e,.int .u32 s.f,.int .u32 s.g,.int .u32 s.h]) A4.o 0 _ zjq)) ?_;iterate 1 (refine zrb ?_)
      refine qo8 rfl rfl 209 (.tmp 8) rfl wo.heap.size 0 rfl [.int .u32 s.a,.int .u32 s.b,.int .u32 s.c,.int .u32 s.d,.int .u32 s.e,.int .u32 s.f,.int .u32 s.g,.int .u32 s.h] _ (fun w1 hS=>(HS.o w1).mp hS) Tryz.underlying209 rfl zk ?_;refine zP ?_;iterate 1 (refine zrb ?_)
      iterate 1 (refine zrb ?_)
      iterate 1 (refine zrb ?_)
      iterate 1 (refine zrb ?_)
      refine qbg rfl rfl ⟨.slice (some ⟨gb,ob+p,none⟩) 64 (c2 - p),fun w1 hS=>?_,?_⟩
      · go_simp
        trace_state
      refine zP ?_;refine zw ?_;go_simp;refine zcb HK.o fun w2 b2=>?_
      have b2':=qe2 b2;have s2:=A4.below b2' A4.lt;obtain⟨AF,A7⟩:=zh2 s2 (below_setRow ((hbw.o).trans (b2'.mono hbw.size)) (tA4 wo.heap.size) s'.vals);refine zP ?_;refine zw ?_;refine wp_store_row 209 (.tmp 8) (.tmp 57) rfl wo.heap.size s'.vals rfl rfl 209 _ AF.o zk rfl (by simp[St.vals,Value.oneCell']) ?_;refine⟨fun h=>absurd h zdc,?_⟩;refine qbf ?_;clear b2 b2' s2;go_wp2
      go_roundw
      case rel=>exact⟨k+1,p+64,by omega,zh1 (by have:=hp.o;omega),by go_num,zh1 (by rw[←AU.o];exact AF.setRow _),A7⟩
      case measure=>simp only[intOf];omega
     have hk':k=M:=zo;have q1:¬(p:Int)<n2:=by have:=hp.o;have:=AE.o;omega
     have hsq:=hst.o;rw[hk',AP.o]at hsq;obtain⟨st,hst'⟩:=xeq (qf5 bs);rw[hst']at hsq;obtain⟨W6,rfl⟩:=eqx wr;have hok:st.ok:=by rw[←hst'];exact qf0 _ _ (qf0 _ _ qf1 _) _
     have hlist:=St.ok_list hok;have hZ6:Blk W6 G 29 zLD:=AS.below hbw.o gho;have hB6:Below w.heap.size w W6:=AT.trans (hbw.mono (by have:=HG.o;omega));obtain⟨AV,AW,AX,AA,AY⟩:=zh5 hsq hZ6 hB6 hst' hlist;have lW6:wo.heap.size<W6.heap.size:=hsq.lt;have gW6:G<W6.heap.size:=hZ6.lt;have hD7:Blk (W6.alloc (.cells zLD 29)) W6.heap.size 29 (byv (qf9 (qf6 st) 0)).toArray:=by
      have h:=Blk.new W6 29 zLD;exact h
     have AZ:=zh1 hD7;clear hsq hZ6 hB6 hst' hlist hok hD7 hst hbw hk' hp hkM;go_wp2_with fail
     go_loopw [11] (fun i wr=>∃k:Nat,k≤32∧i=.int .i64 k∧Blk wr W6.heap.size 29 (byv (qf9 (qf6 st) k)).toArray∧Below W6.heap.size W6 wr) (fun i _=>32 - (intOf i).toNat)
     case atStart=>exact⟨0,by omega,rfl,AZ.o,(tA5 _ _).alloc (tA4 _) _⟩
     case round=>
      obtain⟨k,hk,rfl,hdk,hbk⟩:=hrel;by_cases hk32:k<32
      ·
       have qk:(k:Int)<32:=zo;obtain⟨a,ha⟩:=xeq (k / 4);obtain⟨b,hb⟩:=xeq (k % 4);obtain⟨s,hs⟩:=xeq (24 - 8*b);have u1:Int.tdiv (k:Int) 4=(a:Int):=by rw[Int.tdiv_eq_ediv_of_nonneg zo];omega
       have u2:Int.tmod (k:Int) 4=(b:Int):=by rw[Int.tmod_eq_emod_of_nonneg zo];omega
       have u3:IntKind.i64.wrap (a:Int)=a:=tBb _ zo;have u4:IntKind.i64.wrap (b:Int)=b:=tBb _ zo;have u5:IntKind.i64.wrap (8*(b:Int))=8*(b:Int):=tBb _ zo;have u6:IntKind.i64.wrap (24 - 8*(b:Int))=(s:Int):=by rw[show (24 - 8*(b:Int))=(s:Int) by omega];exact tBb _ zo
       have u7:(a:Int)<8:=zo;have u8':IntKind.u64.wrap (s:Int)=s:=tBa _ zo;have u9:min s 32=s:=zo;have cs:=(AV.below hbk lW6).cell a;rw[St.vals_list,qc2 (by simp[St.list];omega)]at cs;obtain⟨x,hx⟩:=xeq (st.list.getD a 0);rw[hx]at cs;have lx:x<4294967296:=hx▸AY.getD a;have cd:=hdk.cell k;rw[qf7 (by simp[qf9,qf6];omega)]at cd;have fd:=hdk.frozen k;obtain⟨Hdk,Hbk,Hx,Ha,Hb,Hs⟩:=zh6 hdk hbk hx ha hb hs;clear hdk hbk hx ha hb hs;go_wp2
       go_roundw
       case rel=>
        refine⟨k+1,by omega,by go_num,?_,Hbk.setCell (tA4 _) _⟩;have e:((x:Int) / 2^s % 256)=((x / 2^s % 256:Nat):Int):=by
         push_cast
         rfl
        rw[e,←qfa (L:=qf6 st) (k:=k) (v:=x / 2^s % 256) (by simp[qf6];omega) (by rw[qfc st hk32,Ha.o,Hb.o,Hs.o,Hx.o])];exact Hdk.set_ k _
       case measure=>simp[intOf];omega
      have qk:¬(k:Int)<32:=zo;have hk':k=(qf6 st).length:=by simp[qf6];omega
      rw[hk',qfb]at hdk;have hV:(byv (qf6 st)).length=32:=by simp[byv,qf6]
      have hV1:=qau (qf6 st);obtain⟨V,hVV⟩:=xeq (byv (qf6 st));rw[hVV]at hdk hV hV1;have B0:=zh1 (qap hdk 0 V zjq);have z7:=AW.below hbk gW6;obtain⟨HV,B2,B3,Hbk,HI⟩:=zh5 hV hV1 hVV hbk (zI 29 hV);clear hdk hV hV1 hVV hbk hk' hk32;go_wp2_with (first
       |(refine zld B0.o zu29 HI.o ?_)
       |(refine zst z7 HI.o (by simp[HV.o]) B2.o ?_))
      have z8:=z7.setRow V.toArray;have B4:=qap z8 0 V zjq;refine zrt B4 zu29 HI.o ⟨?_,below_setRow (AX.trans (Hbk.mono (by have:=HG.o;omega))) (by rw[HG.o];exact tA4 _) _⟩;rw[←B3.o,←AA.o];rfl
   |succ m=>
    have em:8*(((m+1:Nat)):Int) - 8=((8*m:Nat):Int):=zo;rw[em];clear em;have hlj:(T++(be N 8).take j).length+1≤140737488355328:=by have:=AO.o;rw[tA6,tBd,qaw];omega
    have Hjm:=zh1 hjm;have hm8:m≤7:=zo;have hbs:=hbe.size;obtain⟨s,hs⟩:=xeq (8*m);rw[hs];have s56:s≤56:=zo;have s1:IntKind.u64.wrap (s:Int)=s:=tBa _ zo;have s2:min s 64=s:=zo;have s3:IntKind.i64.wrap ((s:Int) - 8)=(s:Int) - 8:=tBb _ zo;obtain⟨bv,hbv⟩:=xeq (N / 2^s % 256);have s4:((N:Int) / 2^s % 256)=(bv:Int):=by rw[←hbv];push_cast;rfl
    obtain⟨B5,AB⟩:=zh2 hbv hs;clear hbv hjm hs;go_wp2_with (at_builtin;refine qdy rfl (.tmp 32) (.tmp 38) rfl W0.heap.size _ _ rfl (hown.alloc _) _ 1 1 [bv] rfl (by simpa using qe3 wr bv) hlj (by simp;omega) ?_)
    intro v3 w3 hown3 hb3 hg3;have HW:Hid (OwnB w3 W0.heap.size v3 (T++(be N 8).take (j+1))):=zh1 (by
     rw[qz7 N j m Hjm.o,AB.o,B5.o];exact hown3)
    have HB:=zh1 ((hbe.alloc hbs (.cells #[.int .u8 (bv:Int)] 5)).trans hb3);clear hown3 hb3 hg3 hbe hown;go_wp2
    go_roundw
    case rel=>exact⟨j+1,m,by have:=Hjm.o;omega,by have:=AB.o;congr 1;omega,HW,HB⟩
    case measure=>simp only[intOf];have:=AB.o;omega
theorem OwnB.grownNe{r:Option Nat}(h:OwnB w base v bs)(hg:w.grownBy w' r)(hne:∀b,v.ownBlock=some b→r≠some b):OwnB w' base v bs:=by
 refine⟨h.1,?_⟩;rcases h.2 with h|⟨g,cap,cur,hv,hb,hh,rest⟩
 · exact .inl h
 refine .inr ⟨g,cap,cur,hv,hb,?_,rest⟩;subst hv;exact(hg.block g (by
  rcases Nat.lt_or_ge g w.heap.size with hlt|hge
  · exact hlt
  rw[Array.getElem?_eq_none hge]at hh;cases hh) (fun e=>hne g rfl e.symm)).trans hh
theorem OwnB.blk_lt(h:OwnB w base v bs)(e:v.ownBlock=some b):b<w.heap.size:=by
 rcases h.2 with⟨rfl,_⟩|⟨g,cap,cur,rfl,hb,hh,rest⟩
 · cases e
 injection e with e;subst e;rcases Nat.lt_or_ge g w.heap.size with hlt|hge
 · exact hlt
 rw[Array.getElem?_eq_none hge]at hh;cases hh
def Apart (v v':Value):Prop:=∀b,v.ownBlock=some b→v'.ownBlock≠some b
theorem qz9(h:Apart vi vo)(ho:OwnB w base vo bs)(he:vi'.ownBlock=vi.ownBlock∨vi'.ownBlock=some n)(hn:w.heap.size≤n):Apart vi' vo:=by
 intro b hb e;rcases he with he|he
 · exact h b (he▸hb) e
 rw[he]at hb;injection hb with hb;have:=ho.blk_lt e;omega
theorem qza(h:Apart vi vo)(ho:OwnB w base vi bs)(he:vo'.ownBlock=vo.ownBlock∨vo'.ownBlock=some n)(hn:w.heap.size≤n):Apart vi vo':=by
 intro b hb e;rcases he with he|he
 · exact h b hb (he▸e)
 rw[he]at e;injection e with e;have:=ho.blk_lt hb;omega
theorem qzb{ops:Array Oper}(hgd:o.guard=none)(s x:Operand)
 (ho:o.op=.call {callee:=.builtin .append,args:=#[s,x],argTypes:=#[23,23]})
 (base:Nat)(v:Value)(bs:List Nat)(hs:a.eval s=v)(hown:OwnB w base v bs)(A:Option Addr)(m c:Nat)(news:List Nat)(hx:a.eval x=.slice A m c)(hr:Reads w w.heap.size 1 A m (byv news))
 (hlen:bs.length+m≤8589934592)(hbase:base≤w.heap.size)
 (h:∀v' w',OwnB w' base v' (bs++news)→Below base w w'→w.grownBy w' v.ownBlock→(v'.ownBlock=v.ownBlock∨v'.ownBlock=some w.heap.size)→wpList Tryz.prog ops Q rest (a.put o.dst v') w'):wpList Tryz.prog ops Q (o::rest) a w:=by
 obtain⟨i0,hi0,hz0,hz1,hz2⟩:=info_parts Tryz.u8_info;have hm:=qb4 hr;refine qa7 (P:=Tryz.prog) w hgd s x _ ho base 5 i0 _ 1 1 Tryz.underlying23 hi0 hz0 hz1 hz2 rfl zo v bs.length (byv bs) hs hown w.heap.size A m c (byv news) hx hr (qau _) (by simp only[maxLen];omega) zo hbase ?_;intro v' w' h1 h2 h3;refine h v' w' ?_ ?_ h2 h3
 · unfold OwnB
   rw[qas,tA6,hm];exact h1
 exact qae (tA5 _ _) hown h2 (tA4 _) hbase
theorem qzc{K:List Nat}{x:Nat}(f:Nat→Nat)(h:K[k]? =some x):(K.take (k+1)).map f=(K.take k).map f++[f x]:=by
 rw[List.take_add_one,h];simp
theorem qzd(g nk ck n cc:Nat)(Ak A:Option Addr)(key b:List Nat)(w:World)(hT:RTab w g)(hk:Reads w w.heap.size 1 Ak nk (byv key))(hb:Reads w w.heap.size 1 A n (byv b))(hk2:∀x∈key,x<256)(hb2:∀x∈b,x<256)
 (hnk:nk≤64)(hn:n≤65536):
 Zc 60 #[.pointer (some ⟨g,0,none⟩),.slice Ak nk ck,.slice A n cc] w fun e w'=>e=.returned (.agg (byv (mac key b)).toArray)∧Below w.heap.size w w':=by
 have lk:=qb4 hk;have lb:=qb4 hb;obtain⟨W0,hW0⟩:=eqx (w.alloc (.cells zLD 29));obtain⟨G,hG⟩:=xeq w.heap.size;have z0:Blk W0 G 29 zLD:=by rw[hW0,←hG];exact Blk.new w _ _
 have b0:=zMa hW0;have t0:RTab W0 g:=Blk.below hT b0 (Blk.lt hT);have hk0:=(hk.call b0).laid (.cells #[] 5);have hbr0:Reads W0 W0.heap.size 1 A n (byv b):=hb.call b0;have gsz:G<W0.heap.size:=z0.lt;have glt:g<W0.heap.size:=Blk.lt t0;obtain⟨HG,AV,AW,AP,AX,A0,AY,AB⟩:=zh8 hG z0 b0 t0 hbr0 lk lb hk2;have AZ:=zh1 hb2;clear hT hk hb lk lb hk2 hb2 b0 t0 z0 hbr0 hG;go_enter Tryz.func60,Tryz.ntmps60
 go_upto_region 1 with(fail)
 rw[←hW0,show w.heap.size=G from HG.o];clear hW0;go_wp2_with (at_builtin;refine qdy rfl (.tmp 13) (.tmp 14) rfl W0.heap.size _ [] rfl (OwnB.made W0 [] (by simp[maxLen])) Ak nk ck key rfl hk0 (by simp;omega) zm ?_)
 intro v1 w1 hown1 hb1 hg1;have B1:Below W0.heap.size W0 w1:=((tA5 _ _).alloc (tA4 _) _).trans hb1;obtain⟨A1,n1,c1,rfl,hnc1,hcm1,hrd1⟩:=hown1.sl;have hn1:n1=nk:=by have:=qb4 hrd1;have:=A0.o;omega
 subst hn1;have q64:¬(n1:Int)>64:=zo;have q64':(n1:Int)≤64:=zo;obtain⟨AQ,AR⟩:=zh2 hown1 B1;clear hb1 hg1 hown1 B1 hrd1 hk0;go_wp2_with fail
 go_loopw [7] (fun v wr=>∃z,n1+z≤64∧Hid (OwnB wr W0.heap.size v (key++List.replicate z 0))∧Hid (Below W0.heap.size W0 wr)) (fun v _=>64 - slen v)
 case atStart=>exact⟨0,by omega,zh1 (by simpa using AQ.o),AR.o⟩
 case round=>
  clear AQ AR;obtain⟨z,hz,hown,hbe⟩:=hrel;obtain⟨A2,n2,c2,rfl,hnc,hcm,hrd⟩:=hown.sl;have hn2:n2=n1+z:=by
   have:=qb4 hrd;have e:=A0.o;simp only[tA6,List.length_replicate]at this;omega
  have AS:=zh1 hn2;by_cases hzZ:n1+z<64
  ·
   have q3:(n2:Int)<64:=zo;clear hn2 hrd;have hbs:=hbe.size;have l2:(key++List.replicate z 0).length+1≤140737488355328:=by have:=A0.o;simp;omega
   go_wp2_with (at_builtin;refine qdy rfl (.tmp 28) (.tmp 29) rfl W0.heap.size _ _ rfl (hown.alloc _) _ 1 1 [0] rfl (by simpa using qe3 wr 0) l2 (by simp;omega) ?_)
   intro v3 w3 hown3 hb3 hg3;have AT:Hid (OwnB w3 W0.heap.size v3 (key++List.replicate (z+1) 0)):=zh1 (by
    have e:(key++List.replicate z 0)++[0]=key++List.replicate (z+1) 0:=by rw[List.replicate_succ'];simp
    rw[←e];simpa using hown3)
   have AA:=zh1 ((hbe.alloc hbs (.cells #[.int .u8 0] 5)).trans hb3);have hv3:slen v3=n1+(z+1):=by
    obtain⟨A3,n3,c3,rfl,-,-,rd3⟩:=AT.sl;have:=qb4 rd3;have e:=A0.o;simp only[tA6,List.length_replicate]at this;simp only[slen];omega
   have B0:=zh1 hv3;clear hown3 hb3 hg3 hv3 l2 hbs;go_wp2
   go_roundw
   case rel=>exact⟨z+1,by omega,AT,AA⟩
   case measure=>rw[B0.o,show n2=n1+z from AS.o];simp only[slen];omega
  have q3:¬(n2:Int)<64:=zo;obtain⟨K,hKK⟩:=xeq (key++List.replicate z 0);have hz':z=64 - key.length:=by have:=A0.o;omega
  have hKl:K.length=64:=by rw[←hKK];have:=A0.o;simp;omega
  have hKb:∀x∈K,x<256:=by
   intro x hx;rw[←hKK]at hx;rcases List.mem_append.1 hx with h|h
   · exact AB.o x h
   rw[(List.mem_replicate.1 h).2];decide
  have hp1:K.map (fun x=>x^^^54)=qj1 key 54:=by unfold qj1;rw[←hKK,hz']
  have hp2:K.map (fun x=>x^^^92)=qj1 key 92:=by unfold qj1;rw[←hKK,hz']
  rw[hKK]at hrd;have hn64:n2=64:=by have:=qb4 hrd;omega
  obtain⟨W1,rfl⟩:=eqx wr;obtain⟨gk,ok,rfl,hgk,hck⟩:=hrd.mid zo zo;obtain⟨B2,B3,B4,AC,B6⟩:=zh5 hck hp1 hp2 hKl hKb;subst hn64;have hw01:=hbe.size;clear hn2 hrd hKK hz' hKl hKb hp1 hp2 hck AS hown;go_wp2_with fail
  go_loopw [9,10,11] (fun vi vo i wr=>∃k:Nat,k≤64∧i=.int .i64 k∧Hid (OwnB wr W1.heap.size vi ((K.take k).map (fun x=>x^^^54)))∧Hid (OwnB wr W1.heap.size vo ((K.take k).map (fun x=>x^^^92)))∧Hid (Apart vi vo)∧Hid (Below W1.heap.size W1 wr)) (fun _ _ i _=>64 - (intOf i).toNat)
  case atStart=>exact⟨0,by omega,rfl,zh1 (OwnB.nil _ _),zh1 (OwnB.nil _ _),zh1 (fun b h=>nomatch h),zh1 (tA5 _ _)⟩
  case round=>
   obtain⟨k,hk,rfl,hvi,hvo,hne,hbw⟩:=hrel;by_cases hk64:k<64
   ·
    have qk:(k:Int)<64:=zo;obtain⟨x,hx⟩:∃x,K[k]? =some x:=⟨_,tA7 (by rw[AC.o];exact hk64)⟩;have lx:=B6.o x (tB2 hx);have ck1:W1.cell? ⟨gk,ok+k,none⟩=some (.int .u8 (x:Int)):=B2.o k _ (by simp[byv,hx]);have ck:=(hbw.cell (p:=⟨gk,ok+k,none⟩) hgk).trans ck1;obtain⟨y1,hy1,oy1⟩:∃y:Nat,x^^^54=y∧bits .xor .u8 (x:Int) 54=y:=⟨_,rfl,u8_xor_nat x 54 lx zdc⟩;obtain⟨y2,hy2,oy2⟩:∃y:Nat,x^^^92=y∧bits .xor .u8 (x:Int) 92=y:=⟨_,rfl,u8_xor_nat x 92 lx zdc⟩;have hm1:=qzc (fun x=>x^^^54) hx;have hm2:=qzc (fun x=>x^^^92) hx;rw[hy1]at hm1;rw[hy2]at hm2;obtain⟨BA,BB⟩:=zh2 hm1 hm2;have hbs:=hbw.size;have la:((K.take k).map (fun x=>x^^^54)).length+1≤8589934592:=by rw[tBl,tBd];omega
    have lb:((K.take k).map (fun x=>x^^^92)).length+1≤8589934592:=by rw[tBl,tBd];omega
    have AD:=zh1 ck1;clear hx hy1 hy2 hm1 hm2 ck1;go_wp2_with (at_builtin;refine qzb rfl (.tmp 35) (.tmp 41) rfl W1.heap.size _ _ rfl (hvi.alloc _) _ 1 1 [y1] rfl (by simpa using qe3 wr y1) la (by simp;omega) ?_)
    intro v3 w3 hown3 hb3 hg3 he3;have hB3:=(hbw.alloc hbs (.cells #[.int .u8 (y1:Int)] 5)).trans hb3;obtain⟨A7,A4⟩:=zh2 ((hvo.alloc (.cells #[.int .u8 (y1:Int)] 5)).grownNe hg3 (fun b h e=>hne.o b e h)) (qz9 hne.o hvo.o he3 zm);have hb3s:=hB3.size;have ck:=(hB3.cell (p:=⟨gk,ok+k,none⟩) hgk).trans AD.o;have A6:Hid (OwnB w3 W1.heap.size v3 ((K.take (k+1)).map (fun x=>x^^^54))):=zh1 (by rw[BA.o,List.map_take];exact hown3);have AA:=zh1 hB3;clear hown3 hb3 hg3 he3 hB3 hvi hvo hne hbw;go_wp2_with (at_builtin;refine qzb rfl (.tmp 43) (.tmp 49) rfl W1.heap.size _ _ rfl (A7.alloc _) _ 1 1 [y2] rfl (by simpa using qe3 w3 y2) lb (by simp;omega) ?_)
    intro v4 w4 hown4 hb4 hg4 he4;have BC:=zh1 ((AA.alloc hb3s (.cells #[.int .u8 (y2:Int)] 5)).trans hb4);have AE:Hid (OwnB w4 W1.heap.size v4 ((K.take (k+1)).map (fun x=>x^^^92))):=zh1 (by rw[BB.o,List.map_take];exact hown4);have AF:Hid (OwnB w4 W1.heap.size v3 ((K.take (k+1)).map (fun x=>x^^^54))):=zh1 ((A6.alloc (.cells #[.int .u8 (y2:Int)] 5)).grownNe hg4 (fun b h e=>A4.o b h e));have AG:=zh1 (qza A4.o A6.o he4 zm);clear hown4 hb4 hg4 he4 AA A7 A4 A6;go_wp2
    go_roundw
    case rel=>exact⟨k+1,by omega,by go_num,AF,AE,AG,BC⟩
    case measure=>simp[intOf];omega
   have qk:¬(k:Int)<64:=zo;obtain rfl:k=64:=zo;have hvi':=hvi.o;have hvo':=hvo.o;rw[tB5 (by rw[AC.o];exact tA4 _),B3.o]at hvi';rw[tB5 (by rw[AC.o];exact tA4 _),B4.o]at hvo';obtain⟨P1,hP1⟩:=xeq (qj1 key 54);obtain⟨P2,hP2⟩:=xeq (qj1 key 92);have lP1:P1.length=64:=by rw[←hP1];exact qja key (by have:=A0.o;omega) 54
   have lP2:P2.length=64:=by rw[←hP2];exact qja key (by have:=A0.o;omega) 92
   have bP1:∀x∈P1,x<256:=by rw[←hP1];exact qj9 key AB.o 54 zdc
   have bP2:∀x∈P2,x<256:=by rw[←hP2];exact qj9 key AB.o 92 zdc
   rw[hP1]at hvi';rw[hP2]at hvo';obtain⟨W2,rfl⟩:=eqx wr;have b02:Below W0.heap.size W0 W2:=hbe.trans (hbw.mono hw01);have rb2:=AX.call b02;have hw12:=hbw.size;obtain⟨BD,BE,AH,AI,AJ,A9,AK,AL⟩:=zh8 hvi' hvo' hP1 hP2 lP1 lP2 bP1 bP2;have AM:=zh1 b02;have l5:P1.length+n≤8589934592:=by rw[lP1];omega
   clear hvi' hvo' hP1 hP2 lP1 lP2 bP1 bP2 b02 hvi hvo hbw hbe;go_wp2_with (at_builtin;refine qzb rfl (.tmp 52) (.tmp 53) rfl W1.heap.size _ _ rfl BD.o A n cc b rfl rb2 l5 hw12 ?_)
   intro v5 w5 hown5 hb5 hg5 he5;have B5:=AM.trans (hb5.mono hw01);have vo5:=BE.grownNe hg5 (fun b h e=>hne.o b e h);obtain⟨A5,n5,c5,rfl,hnc5,hcm5,hrd5⟩:=hown5.sl;have hn5:n5=64+n:=by have:=qb4 hrd5;rw[tA6,AJ.o]at this;have:=AY.o;omega
   have T5:RTab w5 g:=(show RTab W0 g from AP.o).below B5 glt;have K5:=qz8 g n5 c5 A5 (P1++b) w5 (by intro x hx;rcases List.mem_append.1 hx with h|h;exact AK.o x h;exact AZ.o x h) T5 hrd5 zo;obtain⟨D,hD⟩:=xeq (sha (P1++b));rw[hD]at K5;have lD:D.length=32:=by rw[←hD];exact qj7 _
   have bD:∀x∈D,x<256:=by rw[←hD];exact qj8 _
   obtain⟨V,hV⟩:=xeq (byv D);rw[hV]at K5;have lV:V.length=32:=by rw[←hV,qat];exact lD
   have oV:∀u∈V,u.oneCell'=true:=by rw[←hV];exact qau D
   obtain⟨BF,AN,BG,HD,HlD,HbD,HV,HlV⟩:=zh8 K5 vo5 B5 hD lD bD hV lV;obtain⟨HoV,HI⟩:=zh2 oV (zI 29 lV);have hw15:W1.heap.size≤w5.heap.size:=tB1 hw12 hb5.size;clear K5 vo5 B5 hown5 hb5 hg5 he5 hrd5 T5 hD lD bD hV lV oV hne rb2 hn5;go_wp2_with fail
   refine zcb BF.o fun w6 b6=>?_
   have hb56:=b6.size;obtain⟨AO,BH,Hz6⟩:=zh3 (AN.kept b6) (BG.trans (b6.mono (tB1 hw01 hw15))) (Blk.new w6 29 zLD);clear b6;go_upto_region 14 with(refine zst Hz6.o HI.o (by simp[HlV.o]) HoV.o ?_)
   obtain⟨w7,hw7⟩:=eqx ((w6.alloc (.cells zLD 29)).setRow w6.heap.size V.toArray);rw[←hw7];have d7:Blk w7 w6.heap.size 29 V.toArray:=by rw[hw7];exact Hz6.setRow _
   have b67:Below w6.heap.size w6 w7:=by rw[hw7];exact below_setRow ((tA5 _ _).alloc (tA4 _) _) (tA4 _) _
   have hb67:=b67.size;have vo7:=AO.kept b67;have B7:=BH.trans (b67.mono (tB1 (tB1 hw01 hw15) hb56));rw[←HV.o]at d7;have rd:=qf8 d7 (p:=0) zo;rw[HlD.o,List.drop_zero]at rd;have l8:P2.length+32≤8589934592:=by rw[A9.o];omega
   have hw17:W1.heap.size≤w7.heap.size:=tB1 (tB1 hw15 hb56) hb67;have BI:=zh1 B7;clear d7 b67 B7 hw7;go_wp2_with (at_builtin;refine qzb rfl (.tmp 57) (.tmp 58) rfl W1.heap.size _ _ rfl vo7 _ 32 32 D rfl rd l8 hw17 ?_)
   intro v8 w8 hown8 hb8 hg8 he8;have B8:=BI.trans (hb8.mono hw01);obtain⟨A8,n8,c8,rfl,hnc8,hcm8,hrd8⟩:=hown8.sl;have hn8:n8=96:=by have:=qb4 hrd8;rw[tA6,A9.o,HlD.o]at this;omega
   have T8:RTab w8 g:=(show RTab W0 g from AP.o).below B8 glt;have K8:=qz8 g n8 c8 A8 (P2++D) w8 (by intro x hx;rcases List.mem_append.1 hx with h|h;exact AL.o x h;exact HbD.o x h) T8 hrd8 zo;have hm:sha (P2++D)=mac key b:=by unfold mac;rw[←HD.o,←AH.o,←AI.o]
   rw[hm]at K8;have lM:(byv (mac key b)).length=32:=by rw[qat];exact qj7 _
   have oM:=qau (mac key b);obtain⟨M,hM⟩:=xeq (byv (mac key b));rw[hM]at K8 lM oM;have HM:=zh1 hM;have z8:=AV.below B8 gsz;obtain⟨BJ,BK,BL,HlM,HoM,AU⟩:=zh6 K8 B8 z8 lM oM (zI 29 lM);have gw8:G<w8.heap.size:=z8.lt;clear K8 B8 z8 lM oM hM hm T8 hrd8 hown8 hb8 hg8 he8 vo7 rd hn8;go_wp2_with fail
   refine zcb BJ.o fun w9 b9=>?_
   have z9:=BL.below b9 gw8;have B9:Below w.heap.size w w9:=(AW.trans (BK.mono (by have:=HG.o;omega))).trans (b9.mono (by have:=HG.o;omega));go_wp2_with (refine zst z9 AU.o (by simp[HlM.o]) HoM.o ?_)
   have z10:=z9.setRow M.toArray;have BM:=qap z10 0 M zjq;exact zrt BM zu29 AU.o ⟨by rw[HM.o],below_setRow B9 (by rw[HG.o];exact tA4 _) _⟩
theorem qze(g:Nat)(root:List Nat)(id:Nat)(w:World)(hl:root.length=32)(hr:∀x∈root,x<256)(hid:id<4294967296)(hT:RTab w g):
 Zc 58 #[.pointer (some ⟨g,0,none⟩),.agg (byv root).toArray,.int .u32 id] w fun e w'=>e=.returned (.agg (tokv id (.slice none 0 0) (qju root id)).toArray)∧Zb w w':=by
 have lR:(byv root).length=32:=by rw[qat];exact hl
 obtain⟨V,hV⟩:=xeq (byv root);rw[hV]at lR ⊢;obtain⟨W0,hW0⟩:=eqx ((w.alloc (.cells V.toArray 29)).alloc (.cells zLT 31));have k0:=zNb hW0;have z0:=zNc hW0;have b0:=zMb hW0;have u0:IntKind.u64.wrap (id:Int)=id:=by rw[IntKind.wrap_u64];omega
 have lW:w.heap.size+1<W0.heap.size:=z0.lt;have glt:g<w.heap.size:=Blk.lt hT;obtain⟨AC,HV,A2,Ht,Hr,Hl,A4,A5⟩:=zh8 lR hV hW0 hT hr hl k0 z0;have A6:=zh1 b0;clear lR hV hW0 hT hr hl k0 z0 b0;go_enter Tryz.func58,Tryz.ntmps58
 go_upto_region 1 with(fail)
 rw[←A2.o];obtain⟨S,HS⟩:∃S:World→Prop,Hid (∀w',S w'):=⟨fun _=>True,fun _=>trivial⟩;refine zrs S 10 (zq 0 3 [(5,false),(6,false),(3,true),(4,true),(7,true),(8,true),(9,false),(10,true)]) (HS.o _) ?_;iterate 5 (refine zrb ?_)
 obtain⟨Wd,hWd⟩:=eqx W0.drew;rw[←hWd];have kd:Blk Wd w.heap.size 29 V.toArray:=by rw[hWd];exact A4.o
 have zd:Blk Wd (w.heap.size+1) 31 zLT:=by rw[hWd];exact A5.o
 have bd:Zb w Wd:=by rw[hWd];exact A6.drew
 have ld:w.heap.size+1<Wd.heap.size:=zd.lt;clear hWd A4 A5 A6 A2;obtain⟨w1,hw1⟩:=eqx (Wd.alloc (.cells (byv qjs).toArray 5));have e1:w1.heap[Wd.heap.size]? =some (.cells (byv qjs).toArray 5 (0,0)):=by rw[hw1];exact heap_alloc_new Wd _
 have b1:=zMa hw1;have s1:w1.heap.size=Wd.heap.size+1:=by rw[hw1,qar]
 obtain⟨E1,S1⟩:=zh2 hw1 s1;clear hw1 s1;refine zw ?_;go_simp;refine⟨by first|exact HS.o _|exact fun _=>HS.o _,?_⟩;change qb9 _ _ _ _ _ _ _ (Wd.alloc (.cells (byv qjs).toArray 5));rw[←E1.o];refine zP ?_;refine zw ?_;refine qjy (.tmp 10) rfl Wd.heap.size 5 5 rfl _ e1 ?_;intro w2 g2 l2;refine⟨by first|exact HS.o _|exact fun _=>HS.o _,?_⟩;have b2:Zb Wd w2:=b1.grown g2 (by have:=S1.o;omega) (by intro g hg;injection hg with hg;omega);have r2:=l2.reads;rw[show qjs.length=5 from rfl]at r2;have N2:=qh8 (some ⟨Wd.heap.size,0,none⟩) 5 5 id 4 qjs w2 r2 zdc zo;rw[show qb0 4=4 from rfl]at N2;obtain⟨A8,A7⟩:=zh2 N2 b2;clear N2 r2 b2 b1 e1 g2 l2;refine zP ?_;refine zw ?_;go_simp;refine A8.o.mono ?_;rintro e w3 ⟨v3,rfl,own3,b3⟩;obtain⟨A3,n3,c3,rfl,nc3,-,r3⟩:=own3.sl;have ln3:=qb4 r3;rw[tA6,qaw,show qjs.length=5 from rfl]at ln3;have B3:=A7.trans (b3.mono A7.size);have k3:=kd.below B3 kd.lt;rw[←HV.o]at k3;have rk:=qf8 k3 (p:=0) zo;rw[Hl.o,List.drop_zero]at rk;have A1:=bd.trans (B3.mono bd.size);have T3:RTab w3 g:=(show RTab w g from Ht.o).below A1 glt;have M3:=qzd g 32 32 n3 c3 _ A3 root (qjs++be id 4) w3 T3 rk r3 Hr.o (by intro x hx;rcases List.mem_append.1 hx with h|h;exact qjt x h;exact qaz _ _ x h) zo zo;obtain⟨A9,Z3,A0⟩:=zh3 M3 (zd.below B3 ld) A1;clear M3 ln3 own3 r3 rk k3 b3 B3 A1 T3 kd zd bd;refine⟨by first|exact HS.o _|exact fun _=>HS.o _,zput ?_⟩;refine zw ?_;go_simp;refine zcb A9.o fun w7 b7=>?_
 rw[show mac root (qjs++be id 4)=qju root id from rfl];have lM:(byv (qju root id)).length=32:=by rw[qat];exact qjv _ _
 have oT:=qed id (.slice none 0 0) rfl (qju root id);have bT:=qgo id (byv (qju root id)) lM (qau _);have hT:(Value.int .u32 (id:Int)::Value.slice none 0 0::byv (qju root id))=tokv id (.slice none 0 0) (qju root id):=rfl;have lT:=qdc id (.slice none 0 0) (qju root id) (qjv _ _);rw[hT]at bT;obtain⟨T,hTT⟩:=xeq (tokv id (.slice none 0 0) (qju root id));rw[hTT]at bT oT lT;obtain⟨D,hD⟩:=xeq (byv (qju root id));rw[hD]at bT ⊢;obtain⟨BT,AA,HI⟩:=zh3 bT hTT (zI 31 lT);have z7:=Z3.below b7 Z3.lt;have b77:=A0.trans (b7.mono A0.size);clear bT hTT hD hT lM;refine⟨by first|exact HS.o _|exact fun _=>HS.o _,zput ?_⟩;refine qbg rfl rfl ⟨.agg T.toArray,fun w1 hS=>?_,?_⟩
 · exact qgn 31 _ rfl _ _ BT.o (by simp[Act.eval])
 refine zP ?_;refine zw ?_;refine wp_store_row 31 (.tmp 6) (.tmp 16) rfl (w.heap.size+1) T.toArray rfl rfl 31 _ z7 (by simpa using HI.o) (by simp[lT]) (by simpa using oT) ?_;refine⟨fun h=>absurd h zo,?_⟩;refine qbf ?_;go_wp2_with fail
 have z8:=z7.setRow T.toArray;have AB:=qap z8 0 T zjq;exact zrt AB zu31 HI.o ⟨by rw[AA.o],below_setRow b77 zo _⟩
section
open Go.Extern.Stop (cell)
theorem qzf(R:Req)(cav cav' leafv:Value)(ht:R.tag.length=32):(reqv R cav leafv).take 1++(tokv R.tid cav' R.tag++(reqv R cav leafv).drop (1+(tokv R.tid cav' R.tag).length))=reqv R cav' leafv:=by
 have h:(Value.int .i64 R.op::tokv R.tid cav R.tag).length=35:=by rw[tBi,qdc _ _ _ ht]
 rw[qdc _ _ _ ht];have hd:(reqv R cav leafv).drop (1+34)=R.rest leafv:=by
  unfold reqv;rw[List.drop_left' h]
 rw[hd];rfl
theorem qzg(R:Req)(cav leafv leafv':Value)(ht:R.tag.length=32):(reqv R cav leafv).set 47 leafv'=reqv R cav leafv':=by
 have h:(Value.int .i64 R.op::tokv R.tid cav R.tag).length=35:=by rw[tBi,qdc _ _ _ ht]
 unfold reqv;rw[List.set_append_right _ _ (by rw[h];omega),h];rfl
theorem qzh(R:Req)(cav leafv:Value)(hc:cav.oneCell'=true)(hl:leafv.oneCell'=true):∀u∈reqv R cav leafv,u.oneCell'=true:=by
 intro u hu;unfold reqv at hu;rcases List.mem_append.1 hu with hu|hu
 · rcases List.mem_cons.1 hu with rfl|hu
   · rfl
   exact qed _ _ hc _ u hu
 simp[Req.rest]at hu;rcases hu with rfl|rfl|rfl|rfl|rfl|rfl|rfl|rfl|rfl|rfl|rfl|rfl|rfl<;>first|rfl|exact hl
theorem qzi(R:Req)(Ac:Option Addr)(n cc:Nat)(Al:Option Addr)(m cl:Nat)(w:World)(ht:R.tag.length=32)(hc:Reads w w.heap.size 2 Ac n (cavv R.cavs))(hn:n≤8796093022208)(hl:Reads w w.heap.size 1 Al m (byv R.leaf))(hm:m≤140737488355328):
 Zc 91 #[.agg (reqv R (.slice Ac n cc) (.slice Al m cl)).toArray] w fun e w'=>∃v u,e=.returned (.agg (reqv R v u).toArray)∧OwnC w' w.heap.size v R.cavs∧OwnB w' w.heap.size u R.leaf∧Zb w w':=by
 have hlen:=qiu R (.slice Ac n cc) (.slice Al m cl) ht;have hrt:=qiv R (.slice Ac n cc) (.slice Al m cl);have h47:=(qdh R (.slice Ac n cc) (.slice Al m cl) ht 12).trans (show _=some (.slice Al m cl) from rfl);have hcopy:=fun w' h=>qee R.tid R.cavs Ac n cc R.tag w' h hn ht
 have hspl:=fun v=>qzf R (.slice Ac n cc) v (.slice Al m cl) ht
 obtain⟨L,hL⟩:=xeq (reqv R (.slice Ac n cc) (.slice Al m cl));have hlenT:=qdc R.tid (.slice Ac n cc) R.tag ht;obtain⟨T,hT⟩:=xeq (tokv R.tid (.slice Ac n cc) R.tag);rw[hL]at hlen hrt h47 ⊢;rw[hT]at hrt hlenT;simp only[hT]at hcopy;simp only[hL]at hspl;obtain⟨A6,A7,AC,A0,AD⟩:=zh5 hcopy hspl h47 hlen (zI 31 hlenT);have t0:Blk ((w.alloc (.cells L.toArray 34)).alloc (.cells zLQ 34)) w.heap.size 34 L.toArray:=(Blk.new w _ _).alloc _;have z0:Blk ((w.alloc (.cells L.toArray 34)).alloc (.cells zLQ 34)) (w.heap.size+1) 34 zLQ:=by
  have:=Blk.new (w.alloc (.cells L.toArray 34)) 34 zLQ;rwa[qar]at this
 have A5:=zh1 (qap t0 1 T hrt);have hc0:=(hc.laid (.cells L.toArray 34)).laid (.cells zLQ 34);clear hcopy hspl h47 hlen hlenT hrt hL hT;go_enter Tryz.func91,Tryz.ntmps91
 go_wp2_with (refine zld A5.o zu31 AD.o ?_)
 refine(A6.o _ hc0).mono ?_;rintro e w1 ⟨v1,rfl,hown1,hb1⟩;simp only[qar,Zb]at hown1 hb1;have B1:Zb w w1:=(qah (qah (tA5 _ _) _) _).trans (hb1.mono zo);have t1:=t0.below hb1 zo;have z1:=z0.below hb1 zo;have hsz1:=hb1.size;simp only[qar]at hsz1;clear hb1 t0 z0 hc0 A5 hc;obtain⟨A1,n1,c1,rfl,-,-,-,-⟩:=hown1.sl;have hlenT2:=qdc R.tid (.slice A1 n1 c1) R.tag ht;have honeT2:=qed R.tid (.slice A1 n1 c1) rfl R.tag;have hsp2:=A7.o (.slice A1 n1 c1);obtain⟨T2,hT2⟩:=xeq (tokv R.tid (.slice A1 n1 c1) R.tag);rw[hT2]at hlenT2 honeT2 hsp2 ⊢;clear hT2;have t2:=Blk.setCells T2 1 w1 L t1 (by rw[hlenT2,A0.o];decide);rw[hsp2]at t2;have hth:=qeh t1 1 T2.toArray.size (by rw[tB6,hlenT2,A0.o];decide);have z2:=z1.grown (qef w.heap.size T2 1 w1) zm;have B2:=qeg B1 (tA4 _) B1.size 1 T2;have hown2:OwnC (w1.setCells w.heap.size 1 T2) (w.heap.size+2) (.slice A1 n1 c1) R.cavs:=tB3 hown1 (qef w.heap.size T2 1 w1) (.inr (qa3 hown1 t1 zdc));have h47':=(qdh R (.slice A1 n1 c1) (.slice Al m cl) ht 12).trans (show _=some (.slice Al m cl) from rfl);have hsz2:w.heap.size+2≤(w1.setCells w.heap.size 1 T2).heap.size:=tB1 hsz1 (qef w.heap.size T2 1 w1).size;have hset:=fun u=>qzg R (.slice A1 n1 c1) (.slice Al m cl) u ht
 obtain⟨w2,hw2⟩:=xeq (w1.setCells w.heap.size 1 T2);obtain⟨M,hM⟩:=xeq (reqv R (.slice A1 n1 c1) (.slice Al m cl));rw[hw2]at z2 B2 hown2 hsz2;rw[hM]at h47';simp only[hM]at hset;rw[hw2,hM]at t2;obtain⟨A4,A8,A9,AA,AB,A2⟩:=zh6 hset hw2 hth (show (Tryz.prog.info? 31).map (·.size)=some T2.toArray.size by rw[tB6,hlenT2];exact Tryz.tok_info) (all_oneCell_toArray honeT2) h47';clear hM hset hw2 hth hlenT2 honeT2 hsp2 h47' A7 AC A0 t1 z1 hown1 hsz1 A6 B1;have hl2:=(hl.call B2).laid (.cells #[] 5);have t2l:=t2.lt;have c47:=(t2.cell 47).trans (show M.toArray[47]? =some (.slice Al m cl) by simpa using A2.o);clear hl;go_wp2_with (first
  |(refine wpList_store_mid rfl 31 (.tmp 6) (.tmp 5) rfl w.heap.size 1 T2.toArray rfl rfl A9.o AA.o AB.o ?_;rw[show T2.toArray.toList=T2 from rfl,A8.o])
  |(at_builtin;refine qdy rfl _ _ rfl w2.heap.size _ [] rfl (OwnB.made w2 [] (by simp[maxLen])) Al m cl R.leaf rfl hl2 (by simp;omega) zm ?_))
 intro v3 w3 hown3 hb3 hg3;have B3:Zb w w3:=(B2.alloc B2.size _).trans (hb3.mono B2.size);have hb3':Zb w2 w3:=((tA5 _ _).alloc (tA4 _) _).trans hb3;have t3:=t2.below hb3' t2l;have z3:=z2.below hb3' zo;have hownc3:=hown2.kept hb3';clear hb3 hg3 hl2 c47 t2 z2 hown2 B2 A9 AA AB A8;obtain⟨A3,n3,c3,rfl,-,-,-⟩:=hown3.sl;have cc:=(t3.cell 47).trans (show M.toArray[47]? =some (.slice Al m cl) by simpa using A2.o);have ff:=t3.frozen 47;have hlt:=t3.lt;have t4:=t3.set_ 47 (.slice A3 n3 c3);rw[List.setIfInBounds_toArray,A4.o]at t4;have z4:=z3.far (p:=⟨w.heap.size,47,none⟩) zm (.slice A3 n3 c3);have B4:=B3.setCell (p:=⟨w.heap.size,47,none⟩) (tA4 _) (.slice A3 n3 c3);have hownc4:OwnC _ (w.heap.size+2) _ R.cavs:=qal hownc3 (p:=⟨w.heap.size,47,none⟩) (qa3 hownc3 t3 zdc) (.slice A3 n3 c3);have hownb4:OwnB _ w2.heap.size _ R.leaf:=qal hown3 (p:=⟨w.heap.size,47,none⟩) (qa3 hown3 t3 zdc) (.slice A3 n3 c3);have hlen4:=qiu R (.slice A1 n1 c1) (.slice A3 n3 c3) ht;have hone4:=qzh R (.slice A1 n1 c1) (.slice A3 n3 c3) rfl rfl;obtain⟨N,hN⟩:=xeq (reqv R (.slice A1 n1 c1) (.slice A3 n3 c3));rw[hN]at t4 hlen4 hone4;obtain⟨HN,A5,HI,AE,HO⟩:=zh5 hN (qap t4 0 N zjq) (zI 34 hlen4) hlen4 (all_oneCell_toArray hone4);clear hN hlen4 hone4 A4 A2 t3 z3 hownc3 hown3 B3;go_wp2_with (first
  |(refine zld A5.o zu34 HI.o ?_)
  |(refine wpList_store_row rfl 34 (.tmp 2) (.tmp 12) rfl (w.heap.size+1) N.toArray rfl rfl 34 _ z4 (by simpa using HI.o) (by simp[AE.o]) HO.o ?_))
 have z5:=z4.setRow N.toArray;have AF:=qap z5 0 N zjq;refine zrt AF zu34 HI.o ⟨_,_,by rw[←HN.o],?_,?_,below_setRow B4 zo _⟩
 · exact qdb (tB3 hownc4 (qam _ (w.heap.size+1) N.toArray) (.inr (qa3 hownc4 z4 zdc))) zo
 exact qdb (tB3 hownb4 (qam _ (w.heap.size+1) N.toArray) (.inr (qa3 hownb4 z4 zdc))) zo
end
section
open Go
section
variable {P : Program} {ops : Array Oper} {Q : Exit → Act → World → Prop} {md : Region.Mode} {S : World → Prop} {p : Nat → Bool}
def xat (P:Program)(md:Region.Mode)(ops:Array Oper)(Q:Exit→Act→World→Prop)(S:World→Prop)(p:Nat→Bool):Nat→Array Bool→Act→World→Prop
 |0,listed,a,w=>Region.ready md ops listed=[]∧Q .normal a w
 |fuel+1,listed,a,w=>
  (Region.ready md ops listed=[]→Q .normal a w)∧
  ∀i∈Region.ready md ops listed,wpOp P ops Q i (fun a' w'=>(p i=true→S w→S w')∧xat P md ops Q S p fuel (listed.setIfInBounds i true) a' w') a w
theorem xau:∀(fuel:Nat) (listed:Array Bool) (a:Act) (w:World),xat P md ops Q S p fuel listed a w→wpAny P md ops Q fuel listed a w
 |0,_,_,_,h=>h
 |fuel+1,_,_,_,h=>⟨h.1,fun i hi=>wpOp_mono (fun a' w' h'=>xau fuel _ a' w' h'.2) (h.2 i hi)⟩
theorem xav(T:World→Prop)(hi:ops[i]? =some oi)(hsel:∀(j:Nat) (o:Oper) cs b,ops[j]? =some o→o.op≠.select cs b)
 (hQ:∀c a w,Q (.panic c) (a.put oi.dst v) w→Q (.panic c) a w)
 (hT:(∀w,T w)∨((∀w,S w→T w)∧∀j oj,ops[j]? =some oj→j≠i→p j=false→∃e∈oj.after,Region.binds md e=true∧e.on=i)):
 ∀(fuel:Nat) (listed:Array Bool) (a:Act) (w:World),
  (∀j oj,ops[j]? =some oj→j≠i→listed.getD j true=false→(∀e∈oj.after,Region.binds md e=true→e.on≠i)→oi.apart ops oj=true)→
  i∈Region.ready md ops listed→YieldsIf P ops T oi v a→((∀w,T w)∨S w)→
  xat P md ops Q S p fuel (listed.setIfInBounds i true) (a.put oi.dst v) w→xat P md ops Q S p (fuel+1) listed a w:=by
 intro fuel;induction fuel with
 |zero=>
  intro listed a w _ hr hy hS H;have hTw:T w:=by
   rcases hS with h|h
   · exact h w
   rcases hT with h'|h'
   · exact h' w
   exact h'.1 w h
  refine⟨fun h=>(by rw[h]at hr;cases hr),fun j hj=>?_⟩;by_cases hji:j=i
  · subst hji;exact hy.wpOp hi hTw ⟨fun _ h=>h,H⟩
  have:=ready_mono hj hji;rw[H.1]at this;cases this
 |succ fuel ih=>
  intro listed a w hfree hr hy hS H;have hTw:T w:=by
   rcases hS with h|h
   · exact h w
   rcases hT with h'|h'
   · exact h' w
   exact h'.1 w h
  refine⟨fun h=>(by rw[h]at hr;cases hr),fun j hj=>?_⟩;by_cases hji:j=i
  · subst hji;exact hy.wpOp hi hTw ⟨fun _ h=>h,H⟩
  have h1:=H.2 j (ready_mono hj hji);obtain⟨hjun,oj,hoj,hall⟩:=mem_ready.1 hj;have hnot:∀e∈oj.after,Region.binds md e=true→e.on≠i:=fun e he hb heq=>by
   have h1:=hall e he hb;have h0:=(mem_ready.1 hr).1;rw[heq]at h1;rcases Nat.lt_or_ge i listed.size with h'|h'
   · simp[h']at h0 h1;rw[h0]at h1;cases h1
   simp[Array.getElem?_eq_none h']at h1
  have h2:=wpOp_putIf hoj (hfree j oj hoj hji hjun hnot) (fun cs b=>hsel i oi cs b hi) (fun cs b=>hsel j oj cs b hoj) hQ hy h1;have hfree':∀k ok,ops[k]? =some ok→k≠i→(listed.setIfInBounds j true).getD k true=false→
   (∀e∈ok.after,Region.binds md e=true→e.on≠i)→oi.apart ops ok=true:=fun k ok hk hki hun hno=>by
   refine hfree k ok hk hki ?_ hno;by_cases hjk:j=k
   · subst hjk;exact hjun
   rw[getD_set_ne true hjk]at hun;exact hun
  refine wpOp_mono (fun a' w' h3=>⟨h3.2.1,ih (listed.setIfInBounds j true) a' w' hfree' (ready_mono hr (Ne.symm hji)) h3.1 ?_ ?_⟩) h2
  ·
   rcases hS with h|h
   · exact .inl h
   rcases hT with h'|h'
   · exact .inl h'
   right;refine h3.2.1 ?_ h;cases hp:p j with
   |true=>rfl
   |false=>
    obtain⟨e,he,hb,heq⟩:=h'.2 j oj hoj hji hp;exact absurd heq (hnot e he hb)
  rw[Array.setIfInBounds_comm _ _ hji];exact h3.2.2
def xaw (md:Region.Mode)(ops:Array Oper)(p:Nat→Bool)(i:Nat):Bool:=
 (List.range ops.size).all fun j=>p j||j==i||(match ops[j]? with|none=>true|some o=>o.after.any fun e=>Region.binds md e&&e.on==i)
def xax (md:Region.Mode)(ops:Array Oper)(p:Nat→Bool):Bool→List (Nat × Option Bool)→Array Bool→Bool
 |_,[],listed=>(Region.ready md ops listed).isEmpty
 |b,(i,none)::r,listed=>(Region.ready md ops listed).contains i&&Region.free md ops listed i&&xax md ops p b r (listed.setIfInBounds i true)
 |b,(i,some false)::r,listed=>b&&xaw md ops p i&&(Region.ready md ops listed).contains i&&Region.free md ops listed i&&xax md ops p b r (listed.setIfInBounds i true)
 |b,(i,some true)::r,listed=>(Region.ready md ops listed==[i])&&xax md ops p (b&&p i) r (listed.setIfInBounds i true)
def xay (P:Program)(ops:Array Oper)(Q:Exit→Act→World→Prop)(S:World→Prop)(p:Nat→Bool):List (Nat × Option Bool)→Act→World→Prop
 |[],a,w=>Q .normal a w
 |(i,none)::r,a,w=>∃o v,ops[i]? =some o∧YieldsIf P ops (fun _=>True) o v a∧xay P ops Q S p r (a.put o.dst v) w
 |(i,some false)::r,a,w=>∃o v,ops[i]? =some o∧YieldsIf P ops S o v a∧xay P ops Q S p r (a.put o.dst v) w
 |(i,some true)::r,a,w=>wpOp P ops Q i (fun a' w'=>(p i=true→S w')∧xay P ops Q S p r a' w') a w
theorem xaz(hsel:Region.noSelect ops=true)(hQ:∀c a d v w,Q (.panic c) (a.put d v) w→Q (.panic c) a w):
 ∀(r:List (Nat × Option Bool)) (b:Bool) (listed:Array Bool) (a:Act) (w:World),(b=true→S w)→xax md ops p b r listed=true→xay P ops Q S p r a w→xat P md ops Q S p r.length listed a w:=by
 intro r;induction r with
 |nil=>
  intro b listed a w _ ho h;simp only[xax,List.isEmpty_iff]at ho;exact⟨ho,h⟩
 |cons x r ih=>
  obtain⟨i,k⟩:=x;intro b listed a w hS ho h;rcases k with _|_|_
  · simp only[xax,Bool.and_eq_true]at ho
    obtain⟨⟨hr,hf⟩,ho⟩:=ho;obtain⟨o,v,hi,hy,h⟩:=h;have hr':i∈Region.ready md ops listed:=by simpa using hr
    exact xav (fun _=>True) hi (Region.noSelect_spec hsel) (fun c a w=>hQ c a o.dst v w) (.inl fun _=>trivial) r.length listed a w (Region.free_spec hi hf) hr' hy (.inl fun _=>trivial) (ih b _ _ _ hS ho h)
  ·
   simp only[xax,Bool.and_eq_true]at ho;obtain⟨⟨⟨⟨hb,hw⟩,hr⟩,hf⟩,ho⟩:=ho;obtain⟨o,v,hi,hy,h⟩:=h;have hr':i∈Region.ready md ops listed:=by simpa using hr
   refine xav S hi (Region.noSelect_spec hsel) (fun c a w=>hQ c a o.dst v w) (.inr ⟨fun _ h=>h,fun j oj hj hji hp=>?_⟩) r.length listed a w (Region.free_spec hi hf) hr' hy (.inr (hS hb)) (ih b _ _ _ hS ho h);unfold xaw at hw;obtain⟨hjs,_⟩:=Array.getElem?_eq_some_iff.1 hj;have:=List.all_eq_true.1 hw j (List.mem_range.2 hjs);rw[hj]at this;simp only[Bool.or_eq_true,beq_iff_eq,hp,Array.any_eq_true',Bool.and_eq_true]at this;rcases this with(h0|h0)|⟨e,he,h1,h2⟩
   · cases h0
   · exact absurd h0 hji
   exact⟨e,he,h1,h2⟩
  simp only[xax,Bool.and_eq_true,beq_iff_eq]at ho;obtain⟨hr,ho⟩:=ho;have hr':i∈Region.ready md ops listed:=by rw[hr];simp
  refine⟨fun h0=>(by rw[hr]at h0;cases h0),fun j hj=>?_⟩;obtain rfl:j=i:=by rw[hr]at hj;simpa using hj
  refine wpOp_mono (fun a' w' h'=>⟨fun hp _=>h'.1 hp,ih (b&&p j) _ _ _ (fun hbp=>h'.1 (by simp only[Bool.and_eq_true]at hbp;exact hbp.2)) ho h'.2⟩) h
theorem xb0(S:World→Prop)(pl:List Nat)(r:List (Nat × Option Bool))(hm:P.follows .mixedOrders=true)(hlen:(r.length==ops.size)=true)(hsel:Region.noSelect ops=true)
 (ho:xax .any ops (fun i=>pl.contains i) true r (Array.replicate ops.size false)=true)(hQ:∀c a d v w,Q (.panic c) (a.put d v) w→Q (.panic c) a w)(hS:S w.drew)
 (h:xay P ops Q S (fun i=>pl.contains i) r a w.drew):(Code.region id ops true).wp P Q a w:=by
 have hl:r.length=ops.size:=by simpa using hlen
 refine wp_region_any hm (xau (S:=S) (p:=fun i=>pl.contains i) _ _ _ _ ?_);have:=xaz (P:=P) (Q:=Q) (S:=S) (md:=.any) hsel hQ r true (Array.replicate ops.size false) a w.drew (fun _=>hS) ho h;rw[hl]at this;exact this
theorem xb1(h:Q .normal a w):xay P ops Q S p [] a w:=h
theorem xb2{r:List (Nat × Option Bool)}(hi:nth l i=some o)(hw:Region.wanted o (yielded l.toArray a.tmps)=true)
 (h:∃v,(∀w1:World,(execOp a.eval o).run P w1=.ok (.value v) w1)∧xay P l.toArray Q S p r (a.put o.dst v) w):xay P l.toArray Q S p ((i,none)::r) a w:=
 h.elim fun v hv=>⟨o,v,(qb8 l i).symm.trans hi,.inl ⟨hw,fun w _=>hv.1 w⟩,hv.2⟩
theorem xb3{r:List (Nat × Option Bool)}(hi:nth l i=some o)(hw:Region.wanted o (yielded l.toArray a.tmps)=true)
 (h:∃v,(∀w,S w→(execOp a.eval o).run P w=.ok (.value v) w)∧xay P l.toArray Q S p r (a.put o.dst v) w):xay P l.toArray Q S p ((i,some false)::r) a w:=
 h.elim fun v hv=>⟨o,v,(qb8 l i).symm.trans hi,.inl ⟨hw,hv.1⟩,hv.2⟩
theorem xb4{r:List (Nat × Option Bool)}(hi:nth l i=some o)(hw:Region.wanted o (yielded l.toArray a.tmps)=true)
 (h:o.wp P a w (fun a' w'=>(p i=true→S w')∧xay P l.toArray Q S p r a' w') Q):xay P l.toArray Q S p ((i,some true)::r) a w:=by
 show wpOp P l.toArray Q i _ a w;unfold wpOp;simp only[(qb8 l i).symm.trans hi,hw,if_true];exact .inl h
end
end
end Go.Proofs.YthomgopipiomhaaGreatDoor

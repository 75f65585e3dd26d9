/-
  Lemmas for ModelNumbers, shortened by program.
-/
import Derived.Test.YthomgopipiomhaaGreatDoorBMN08
import Derived.Test.YthomgopipiomhaaGreatDoorBMN10
namespace Go.Proofs.YthomgopipiomhaaGreatDoor
set_option linter.unusedVariables false
set_option linter.unusedSimpArgs false
set_option maxRecDepth 100000
set_option maxHeartbeats 32000000
section
open Go.RowKit
theorem qxr (g n cc:Nat)(A:Option Addr)(bs:List Nat)(s0:St)(w:World)(hS2:s0.ok)(hb:bs.length=n)(hn:64≤n)(hb2:∀b∈bs,b<256)
 (hT:RTab w g)(hr:Reads w w.heap.size 1 A n (byv bs)):
 Calls Tryz.prog 193 #[.pointer (some ⟨g,0,none⟩),.agg #[.int .u32 s0.a,.int .u32 s0.b,.int .u32 s0.c,.int .u32 s0.d,.int .u32 s0.e,.int .u32 s0.f,.int .u32 s0.g,.int .u32 s0.h],.slice A n cc] w fun e w'=>e=.returned (.agg (mixed bs s0).vals)∧Below w.heap.size w w':=by
 have hb2':∀b,b∈bs→b<256:=hb2;obtain⟨gb,ob,rfl,hadB,hr⟩:=hr.mid (by omega) (by omega);obtain⟨W0,hW0⟩:=eqx (((w.alloc (.cells #[.int .u32 s0.a,.int .u32 s0.b,.int .u32 s0.c,.int .u32 s0.d,.int .u32 s0.e,.int .u32 s0.f,.int .u32 s0.g,.int .u32 s0.h] 209)).alloc (.cells #[.int .u32 0,.int .u32 0,.int .u32 0,.int .u32 0,.int .u32 0,.int .u32 0,.int .u32 0,.int .u32 0] 209)).alloc (.cells #[.int .u32 0,.int .u32 0,.int .u32 0,.int .u32 0,.int .u32 0,.int .u32 0,.int .u32 0,.int .u32 0,.int .u32 0,.int .u32 0,.int .u32 0,.int .u32 0,.int .u32 0,.int .u32 0,.int .u32 0,.int .u32 0,.int .u32 0,.int .u32 0,.int .u32 0,.int .u32 0,.int .u32 0,.int .u32 0,.int .u32 0,.int .u32 0,.int .u32 0,.int .u32 0,.int .u32 0,.int .u32 0,.int .u32 0,.int .u32 0,.int .u32 0,.int .u32 0,.int .u32 0,.int .u32 0,.int .u32 0,.int .u32 0,.int .u32 0,.int .u32 0,.int .u32 0,.int .u32 0,.int .u32 0,.int .u32 0,.int .u32 0,.int .u32 0,.int .u32 0,.int .u32 0,.int .u32 0,.int .u32 0,.int .u32 0,.int .u32 0,.int .u32 0,.int .u32 0,.int .u32 0,.int .u32 0,.int .u32 0,.int .u32 0,.int .u32 0,.int .u32 0,.int .u32 0,.int .u32 0,.int .u32 0,.int .u32 0,.int .u32 0,.int .u32 0] 208));obtain⟨gh,hgh⟩:=xeq w.heap.size;obtain⟨gr,hgr⟩:=xeq (w.heap.size+1);obtain⟨gw,hgw⟩:=xeq (w.heap.size+1+1);have bh0:Blk W0 gh 209 #[.int .u32 s0.a,.int .u32 s0.b,.int .u32 s0.c,.int .u32 s0.d,.int .u32 s0.e,.int .u32 s0.f,.int .u32 s0.g,.int .u32 s0.h]:=by rw[hW0,←hgh];exact((Blk.new w _ _).alloc _).alloc _
 have br0:Blk W0 gr 209 #[.int .u32 0,.int .u32 0,.int .u32 0,.int .u32 0,.int .u32 0,.int .u32 0,.int .u32 0,.int .u32 0]:=by
  have h:=Blk.new (w.alloc (.cells #[.int .u32 s0.a,.int .u32 s0.b,.int .u32 s0.c,.int .u32 s0.d,.int .u32 s0.e,.int .u32 s0.f,.int .u32 s0.g,.int .u32 s0.h] 209)) 209 #[.int .u32 0,.int .u32 0,.int .u32 0,.int .u32 0,.int .u32 0,.int .u32 0,.int .u32 0,.int .u32 0];rw[qar]at h;rw[hW0,←hgr];exact h.alloc _
 have bw0:Blk W0 gw 208 (qbq (qbw (qbs bs 0))).toArray:=by
  have h:=Blk.new ((w.alloc (.cells #[.int .u32 s0.a,.int .u32 s0.b,.int .u32 s0.c,.int .u32 s0.d,.int .u32 s0.e,.int .u32 s0.f,.int .u32 s0.g,.int .u32 s0.h] 209)).alloc (.cells #[.int .u32 0,.int .u32 0,.int .u32 0,.int .u32 0,.int .u32 0,.int .u32 0,.int .u32 0,.int .u32 0] 209)) 208 (qbq (qbw (qbs bs 0))).toArray;rw[qar,qar]at h;rw[hW0,←hgw];exact h
 have B0:Below w.heap.size w W0:=by rw[hW0];exact qah (qah (qah (tA5 _ _) _) _) _
 have T0:RTab W0 g:=Blk.below hT B0 (Blk.lt hT);have glt:g<gh:=by rw[←hgh];exact Blk.lt hT
 have hadB':gb<gh:=by rw[←hgh];exact hadB
 have hrw:gr<gw:=by omega
 have hhr:gh<gr:=by omega
 have hgw0:gw<W0.heap.size:=bw0.lt;obtain⟨A0,AD,AE,AA,AF,AG,AH,AI⟩:=zh8 hgh hgr hgw B0 bw0 bh0 br0 T0;clear hT hgh hgr hgw;go_enter Tryz.func193,Tryz.ntmps193
 go_upto_region 3 with(fail)
 rw[←hW0,show w.heap.size+1+1=gw from AE.out,show w.heap.size+1=gr from AD.out,show w.heap.size=gh from A0.out];clear hW0 B0 bw0 bh0 br0 T0;go_loopw [8] (fun i wr=>∃k:Nat,k≤16∧i=.int .i64 k∧Blk wr gw 208 (qbq (qbw (qbs bs k))).toArray∧Below gw W0 wr) (fun i _=>16 - (intOf i).toNat)
 case atStart=>exact⟨0,by omega,rfl,AF.out,tA5 _ _⟩
 case round=>
  obtain⟨k,hk,rfl,hw,hbl⟩:=hrel;have hbl0:Below w.heap.size w wr:=AA.out.trans (hbl.mono (by rw[A0.out];omega));by_cases h16:k<16
  ·
   have hwc:=hw.cell k;rw[qbx (qbt bs k) (by omega)]at hwc;have hwf:=hw.frozen k;have hk64:k<64:=by omega
   have h16':k<16:=h16;obtain⟨j,hj⟩:=xeq (4*k);obtain⟨b0,q0,e0⟩:=qcg hr hb hbl0 (tA4 _) hadB (j:=j) (by omega);obtain⟨b1,q1,e1⟩:=qcg hr hb hbl0 (tA4 _) hadB (j:=j+1) (by omega);obtain⟨b2,q2,e2⟩:=qcg hr hb hbl0 (tA4 _) hadB (j:=j+2) (by omega);obtain⟨b3,q3,e3⟩:=qcg hr hb hbl0 (tA4 _) hadB (j:=j+3) (by omega);have Q0:=zh1 q0;have Q1:=zh1 q1;have Q2:=zh1 q2;have Q3:=zh1 q3;clear q0 q1 q2 q3;have j60:j≤60:=by omega
   have hm:IntKind.i64.wrap (4*(k:Int))=(j:Int):=by rw[show (4*(k:Int))=(j:Int) by omega];exact IntWalk.i64_in _ (by omega)
   have w1:IntKind.i64.wrap ((j:Int)+1)=(j:Int)+1:=IntWalk.i64_in _ (by omega);have w2:IntKind.i64.wrap ((j:Int)+2)=(j:Int)+2:=IntWalk.i64_in _ (by omega);have w3:IntKind.i64.wrap ((j:Int)+3)=(j:Int)+3:=IntWalk.i64_in _ (by omega);have p0:(j:Int)<n:=by omega
   have p1:(j:Int)+1<n:=by omega
   have p2:(j:Int)+2<n:=by omega
   have p3:(j:Int)+3<n:=by omega
   have t1:(0:Int)≤(j:Int)+1:=by omega
   have t2:(0:Int)≤(j:Int)+2:=by omega
   have t3:(0:Int)≤(j:Int)+3:=by omega
   have v0:=hb2' b0 (List.mem_of_getElem? Q0.out);have v1:=hb2' b1 (List.mem_of_getElem? Q1.out);have v2:=hb2' b2 (List.mem_of_getElem? Q2.out);have v3:=hb2' b3 (List.mem_of_getElem? Q3.out);have x0:IntKind.u32.wrap (b0:Int)=b0:=IntWalk.u32_in _ (by omega);have x1:IntKind.u32.wrap (b1:Int)=b1:=IntWalk.u32_in _ (by omega);have x2:IntKind.u32.wrap (b2:Int)=b2:=IntWalk.u32_in _ (by omega);have x3:IntKind.u32.wrap (b3:Int)=b3:=IntWalk.u32_in _ (by omega);have y0:IntKind.u32.wrap ((b0:Int)*16777216)=b0*16777216:=IntWalk.u32_in _ (by omega);have y1:IntKind.u32.wrap ((b1:Int)*65536)=b1*65536:=IntWalk.u32_in _ (by omega);have y2:IntKind.u32.wrap ((b2:Int)*256)=b2*256:=IntWalk.u32_in _ (by omega);have n2:((j:Int)+2).toNat=j+2:=by omega
   have n3:((j:Int)+3).toNat=j+3:=by omega
   obtain⟨a1,ha1,o1⟩:∃a1:Nat,a1=(b0*16777216|||b1*65536)∧bits .or .u32 ((b0:Int)*16777216) ((b1:Int)*65536)=a1:=⟨_,rfl,u32_or_nat (b0*16777216) (b1*65536) (by omega) (by omega)⟩;have l1:a1<4294967296:=by rw[ha1];exact Nat.or_lt_two_pow (n:=32) (by omega) (by omega)
   obtain⟨a2,ha2,o2⟩:∃a2:Nat,a2=(a1|||b2*256)∧bits .or .u32 (a1:Int) ((b2:Int)*256)=a2:=⟨_,rfl,u32_or_nat a1 (b2*256) (by omega) (by omega)⟩;have l2:a2<4294967296:=by rw[ha2];exact Nat.or_lt_two_pow (n:=32) (by omega) (by omega)
   obtain⟨a3,ha3,o3⟩:∃a3:Nat,a3=(a2|||b3)∧bits .or .u32 (a2:Int) (b3:Int)=a3:=⟨_,rfl,u32_or_nat a2 b3 (by omega) (by omega)⟩;have l3:a3=be32 bs (4*k):=by
    have HJ':4*k=j:=hj;unfold be32;rw[HJ',ha3,ha2,ha1,qcf Q0.out,qcf Q1.out,qcf Q2.out,qcf Q3.out]
   clear ha1 ha2 ha3;have L3:=zh1 l3;clear l3;have k64:(k:Int)<64:=by omega
   have HJ:=zh1 hj;have k16:(k:Int)<16:=by omega
   clear hj hr;go_wp2_with fail
   go_still_tail 35,(by kernel_rfl)
   change wpList _ _ _ _ _ wr.drew;go_wp2
   go_roundw
   case rel=>
    refine⟨k+1,by omega,by go_num,?_,?_⟩
    · rw[qbs,←qby (qbt bs k) hk64,qbr,if_pos h16',←L3.out]
      exact hw.drew.set_ k _
    exact hbl.drew.setCell (tA4 _) _
   case measure=>simp[intOf];omega
  have k16:¬(k:Int)<16:=by omega
  have hk':k=16:=by omega
  rw[hk']at hw;obtain⟨W1,rfl⟩:=eqx wr;obtain⟨AJ,AK⟩:=zh2 hw hbl;have l1:W0.heap.size≤W1.heap.size:=hbl.size;clear hw hbl hbl0 hr hk hk' h16;go_wp2_with fail
  go_loopw [9,10,11] (fun i _ _ wr=>∃k:Nat,16≤k∧k≤64∧i=.int .i64 k∧Blk wr gw 208 (qbq (qbw (qbs bs k))).toArray∧Below gw W0 wr) (fun i _ _ _=>64 - (intOf i).toNat)
  case atStart=>exact⟨16,by omega,by omega,rfl,AJ.out,AK.out⟩
  case round=>
   obtain⟨k,h16,hk,rfl,hw,hbl⟩:=hrel;by_cases hk64:k<64
   ·
    have hl:=qbt bs k;have hu:=qbv bs hb2 k;obtain⟨m2,h2⟩:=xeq (k - 2);obtain⟨m7,h7⟩:=xeq (k - 7);obtain⟨m15,h15⟩:=xeq (k - 15);obtain⟨m16,h16'⟩:=xeq (k - 16);have c2:=hw.cell m2;have c7:=hw.cell m7;have c15:=hw.cell m15;have c16:=hw.cell m16;rw[qbz hl (by omega)]at c2 c7 c15 c16;have u2:=hu.getD m2;have u7:=hu.getD m7;have u15:=hu.getD m15;have u16:=hu.getD m16;obtain⟨x2,X2⟩:=xeq ((qbs bs k).getD m2 0);obtain⟨x7,X7⟩:=xeq ((qbs bs k).getD m7 0);obtain⟨x15,A4⟩:=xeq ((qbs bs k).getD m15 0);obtain⟨x16,A5⟩:=xeq ((qbs bs k).getD m16 0);have hwc:=hw.cell k;rw[qbx hl (by omega)]at hwc;have hwf:=hw.frozen k;have i2:IntKind.i64.wrap ((k:Int) - 2)=(m2:Int):=by rw[show ((k:Int) - 2)=(m2:Int) by omega];exact IntWalk.i64_in _ (by omega)
    have i7:IntKind.i64.wrap ((k:Int) - 7)=(m7:Int):=by rw[show ((k:Int) - 7)=(m7:Int) by omega];exact IntWalk.i64_in _ (by omega)
    have i15:IntKind.i64.wrap ((k:Int) - 15)=(m15:Int):=by rw[show ((k:Int) - 15)=(m15:Int) by omega];exact IntWalk.i64_in _ (by omega)
    have i16:IntKind.i64.wrap ((k:Int) - 16)=(m16:Int):=by rw[show ((k:Int) - 16)=(m16:Int) by omega];exact IntWalk.i64_in _ (by omega)
    have q2:(m2:Int)<64:=by omega
    have q7:(m7:Int)<64:=by omega
    have q15:(m15:Int)<64:=by omega
    have q16:(m16:Int)<64:=by omega
    have qk:(k:Int)<64:=by omega
    have z7:m7≠k:=by omega
    have z16:m16≠k:=by omega
    have hwx:qbr bs (qbs bs k) k=(sig1 x2+x7+sig0 x15+x16) % 4294967296:=by
     unfold qbr;rw[if_neg (by omega),h2,h7,h15,h16',X2,X7,A4,A5]
    have AL:=zh1 hwx;rw[X2]at c2 u2;rw[X7]at c7 u7;rw[A4]at c15 u15;rw[A5]at c16 u16;clear hwx X2 X7 A4 A5 h2 h7 h15 h16' hl hu;obtain⟨r17,A1⟩:=xeq (rotr x2 17);obtain⟨r19,A2⟩:=xeq (rotr x2 19);obtain⟨r7,R7⟩:=xeq (rotr x15 7);obtain⟨r18,A3⟩:=xeq (rotr x15 18);have b17:r17<4294967296:=A1▸qbl _ _ u2;have b19:r19<4294967296:=A2▸qbl _ _ u2;have b7:r7<4294967296:=R7▸qbl _ _ u15;have b18:r18<4294967296:=A3▸qbl _ _ u15;obtain⟨p1,hp1,op1⟩:∃p:Nat,p=(r17^^^r19)∧bits .xor .u32 (r17:Int) (r19:Int)=p:=⟨_,rfl,u32_xor_nat _ _ b17 b19⟩;have lp1:p1<4294967296:=by rw[hp1];exact Nat.xor_lt_two_pow (n:=32) (by omega) (by omega)
    obtain⟨p2,hp2,op2⟩:∃p:Nat,p=(p1^^^x2 / 2^10)∧bits .xor .u32 (p1:Int) ((x2:Int) / 1024)=p:=⟨_,rfl,by
     rw[show ((x2:Int) / 1024)=((x2 / 2^10:Nat):Int) by push_cast;rfl];exact u32_xor_nat _ _ lp1 (Nat.lt_of_le_of_lt (Nat.div_le_self _ _) u2)⟩
    obtain⟨p3,hp3,op3⟩:∃p:Nat,p=(r7^^^r18)∧bits .xor .u32 (r7:Int) (r18:Int)=p:=⟨_,rfl,u32_xor_nat _ _ b7 b18⟩;have lp3:p3<4294967296:=by rw[hp3];exact Nat.xor_lt_two_pow (n:=32) (by omega) (by omega)
    obtain⟨p4,hp4,op4⟩:∃p:Nat,p=(p3^^^x15 / 2^3)∧bits .xor .u32 (p3:Int) ((x15:Int) / 8)=p:=⟨_,rfl,by
     rw[show ((x15:Int) / 8)=((x15 / 2^3:Nat):Int) by push_cast;rfl];exact u32_xor_nat _ _ lp3 (Nat.lt_of_le_of_lt (Nat.div_le_self _ _) u15)⟩
    have AM:Hid (sig1 x2=p2):=zh1 (by unfold sig1;rw[A1,A2,hp2,hp1]);have A6:Hid (sig0 x15=p4):=zh1 (by unfold sig0;rw[R7,A3,hp4,hp3]);have K1:∀w,Calls Tryz.prog 228 #[.int .u32 x2,.int .u64 17] w fun e w'=>e=.returned (.int .u32 (r17:Nat))∧w=w':=fun w=>A1▸qxo x2 17 w u2 (by omega) (by omega)
    have K2:∀w,Calls Tryz.prog 228 #[.int .u32 x2,.int .u64 19] w fun e w'=>e=.returned (.int .u32 (r19:Nat))∧w=w':=fun w=>A2▸qxo x2 19 w u2 (by omega) (by omega)
    have K3:∀w,Calls Tryz.prog 228 #[.int .u32 x15,.int .u64 7] w fun e w'=>e=.returned (.int .u32 (r7:Nat))∧w=w':=fun w=>R7▸qxo x15 7 w u15 (by omega) (by omega)
    have K4:∀w,Calls Tryz.prog 228 #[.int .u32 x15,.int .u64 18] w fun e w'=>e=.returned (.int .u32 (r18:Nat))∧w=w':=fun w=>A3▸qxo x15 18 w u15 (by omega) (by omega)
    obtain⟨AN,A7⟩:=zh2 hw hbl;clear A1 A2 R7 A3 hp1 hp2 hp3 hp4 hw hbl;go_upto_region 11 with(fail)
    go_region_held3 (fun w'=>w'.cell? ⟨gw,m7,none⟩=some (.int .u32 x7)∧w'.cell? ⟨gw,m16,none⟩=some (.int .u32 x16))
     (first|exact⟨c7,c16⟩|exact⟨qc0 z7 c7,qc0 z16 c16⟩)
     (first|(go_at_call 228;(with_reducible refine(K1 _).mono ?_);rintro e w2 ⟨rfl,rfl⟩;go_split_ands)|(go_at_call 228;(with_reducible refine(K2 _).mono ?_);rintro e w2 ⟨rfl,rfl⟩;go_split_ands)|(go_at_call 228;(with_reducible refine(K3 _).mono ?_);rintro e w2 ⟨rfl,rfl⟩;go_split_ands)|(go_at_call 228;(with_reducible refine(K4 _).mono ?_);rintro e w2 ⟨rfl,rfl⟩;go_split_ands))
    all_goals
     go_wp2
     go_roundw
     case rel=>
      refine⟨k+1,by omega,by omega,by go_num,?_,?_⟩
      · rw[qbs,←qby (qbt bs k) hk64,AL.out,AM.out,A6.out,←add4]
        exact AN.out.set_ k _
      first|exact(qa8 A7.out _).setCell (tA4 _) _|exact A7.out.drew.setCell (tA4 _) _|exact Below.setCell (p:=⟨gw,k,none⟩) A7.out (tA4 _) _
     case measure=>simp[intOf];omega
   have hk':k=64:=by omega
   have hk2:¬(k:Int)<64:=by omega
   obtain⟨wo,rfl⟩:=eqx wr;rw[hk',qc1 (qbt bs 64)]at hw;obtain⟨W,hW⟩:=xeq (qbs bs 64);have hWl:=qbt bs 64;have hWu:=qbv bs hb2 64;rw[hW]at hw hWl hWu;obtain⟨HW,HWl,HWu,A8⟩:=zh4 hW hWl hWu hS2;have hg2:Blk wo gh 209 #[.int .u32 s0.a,.int .u32 s0.b,.int .u32 s0.c,.int .u32 s0.d,.int .u32 s0.e,.int .u32 s0.f,.int .u32 s0.g,.int .u32 s0.h]:=AG.out.below hbl (by omega);have hr2:Blk wo gr 209 #[.int .u32 0,.int .u32 0,.int .u32 0,.int .u32 0,.int .u32 0,.int .u32 0,.int .u32 0,.int .u32 0]:=AH.out.below hbl (by omega);have hT2:RTab wo g:=Blk.below AI.out hbl (by omega);have hbo:Below w.heap.size w wo:=AA.out.trans (hbl.mono (by rw[A0.out];omega));obtain⟨AO,A9,AP⟩:=zh3 hr2 hT2 hbo;have hgwo:gw<wo.heap.size:=hw.lt;have c0:=hg2.cell 0;have c1:=hg2.cell 1;have c2:=hg2.cell 2;have c3:=hg2.cell 3;have c4:=hg2.cell 4;have c5:=hg2.cell 5;have c6:=hg2.cell 6;have c7:=hg2.cell 7;simp at c0 c1 c2 c3 c4 c5 c6 c7;obtain⟨AQ,HWo⟩:=zh2 hg2 hw;clear hW hWl hWu hS2 hk h16 hk64 hk' hb hb2 hb2' hw hg2 hr2 hT2 hbo hbl;go_wp2_with fail
   go_loopw [13,14,15,16,17] (fun i _ _ _ _ wr=>∃(k:Nat) (s:St),k≤64∧i=.int .i64 k∧s=rounds W s0 k∧s.ok∧Blk wr wo.heap.size 209 #[.int .u32 s.a,.int .u32 s.b,.int .u32 s.c,.int .u32 s.d,.int .u32 s.e,.int .u32 s.f,.int .u32 s.g,.int .u32 s.h]∧Below wo.heap.size wo wr) (fun i _ _ _ _ _=>64 - (intOf i).toNat)
   case atStart=>exact⟨0,s0,by omega,rfl,rfl,A8.out,Blk.new ..,(tA5 _ wo).alloc (tA4 _) _⟩
   case round=>
    clear c0 c1 c2 c3 c4 c5 c6 c7;obtain⟨k,s,hk,rfl,hs,hok,hst,hb3⟩:=hrel;obtain⟨Hs,Hok⟩:=zh2 hs hok;clear hs;obtain⟨a,b,c,d,e,f,g',h⟩:=s;obtain⟨oa,ob',oc,od,oe,of,og,oh⟩:=hok;dsimp only at oa ob' oc od oe of og oh hst;by_cases hk64:k<64
    ·
     have c0:=hst.cell 0;have c1:=hst.cell 1;have c2:=hst.cell 2;have c3:=hst.cell 3;have c4:=hst.cell 4;have c5:=hst.cell 5;have c6:=hst.cell 6;have c7:=hst.cell 7;simp at c0 c1 c2 c3 c4 c5 c6 c7;have qk:(k:Int)<64:=by omega
     have ckk:wr.cell? ⟨g,k,none⟩=some (.int .u32 (Kt.getD k 0:Nat)):=qxp (Blk.below A9.out hb3 (by omega)) hk64;have cww:wr.cell? ⟨gw,k,none⟩=some (.int .u32 (W.getD k 0:Nat)):=by
      have hx:=qbz HWl.out hk64;rw[qc1 HWl.out]at hx;rw[(HWo.out.below hb3 hgwo).cell];exact hx
     obtain⟨kk,hkk⟩:=xeq (Kt.getD k 0);obtain⟨ww,hww⟩:=xeq (W.getD k 0);rw[hkk]at ckk;rw[hww]at cww;have okk:kk<4294967296:=hkk▸Kt_lt k;have oww:ww<4294967296:=hww▸HWu.out.getD k;obtain⟨AR,AS⟩:=zh2 hkk hww;clear hkk hww;obtain⟨Hst,Hb3⟩:=zh2 hst hb3;clear hst hb3;obtain⟨n1,hn1,on1⟩:∃p:Nat,(4294967295^^^e)=p∧bits .xor .u32 (if IntKind.u32.signed=true then -1 else IntKind.u32.max) (e:Int)=p:=⟨_,rfl,u32_xor_nat 4294967295 e (by omega) oe⟩;have ln1:n1<4294967296:=by rw[←hn1];exact Nat.xor_lt_two_pow (n:=32) (by omega) (by omega)
     obtain⟨p1,hp1,op1⟩:∃p:Nat,p=(e&&& f)∧bits .and .u32 (e:Int) (f:Int)=p:=⟨_,rfl,u32_and_nat e f oe of⟩;have lp1:p1<4294967296:=by rw[hp1];exact Nat.and_lt_two_pow (n:=32) _ (by omega)
     obtain⟨p2,hp2,op2⟩:∃p:Nat,p=(n1&&& g')∧bits .and .u32 (n1:Int) (g':Int)=p:=⟨_,rfl,u32_and_nat n1 g' ln1 og⟩;have lp2:p2<4294967296:=by rw[hp2];exact Nat.and_lt_two_pow (n:=32) _ (by omega)
     obtain⟨p3,hp3,op3⟩:∃p:Nat,p=(p1^^^p2)∧bits .xor .u32 (p1:Int) (p2:Int)=p:=⟨_,rfl,u32_xor_nat p1 p2 lp1 lp2⟩;obtain⟨q1,hq1,oq1⟩:∃p:Nat,p=(a&&& b)∧bits .and .u32 (a:Int) (b:Int)=p:=⟨_,rfl,u32_and_nat a b oa ob'⟩;have lq1:q1<4294967296:=by rw[hq1];exact Nat.and_lt_two_pow (n:=32) _ (by omega)
     obtain⟨q2,hq2,oq2⟩:∃p:Nat,p=(a&&& c)∧bits .and .u32 (a:Int) (c:Int)=p:=⟨_,rfl,u32_and_nat a c oa oc⟩;have lq2:q2<4294967296:=by rw[hq2];exact Nat.and_lt_two_pow (n:=32) _ (by omega)
     obtain⟨q3,hq3,oq3⟩:∃p:Nat,p=(q1^^^q2)∧bits .xor .u32 (q1:Int) (q2:Int)=p:=⟨_,rfl,u32_xor_nat q1 q2 lq1 lq2⟩;have lq3:q3<4294967296:=by rw[hq3];exact Nat.xor_lt_two_pow (n:=32) (by omega) (by omega)
     obtain⟨q4,hq4,oq4⟩:∃p:Nat,p=(b&&& c)∧bits .and .u32 (b:Int) (c:Int)=p:=⟨_,rfl,u32_and_nat b c ob' oc⟩;have lq4:q4<4294967296:=by rw[hq4];exact Nat.and_lt_two_pow (n:=32) _ (by omega)
     obtain⟨q5,hq5,oq5⟩:∃p:Nat,p=(q3^^^q4)∧bits .xor .u32 (q3:Int) (q4:Int)=p:=⟨_,rfl,u32_xor_nat q3 q4 lq3 lq4⟩;have hch:chf ⟨a,b,c,d,e,f,g',h⟩=p3:=by unfold chf;dsimp only;rw[hp3,hp1,hp2,hn1]
     have hmj:maj ⟨a,b,c,d,e,f,g',h⟩=q5:=by unfold maj;dsimp only;rw[hq5,hq4,hq3,hq2,hq1]
     obtain⟨AT,AU⟩:=zh2 hch hmj;clear hch hmj hp1 hp2 hp3 hq1 hq2 hq3 hq4 hq5 hn1 lp1 lp2 lq1 lq2 lq3 lq4;obtain⟨fe,hfe⟩:∃f:Int→Nat,∀n,f n=rotr e n.toNat:=⟨_,fun _=>rfl⟩;obtain⟨fa,hfa⟩:∃f:Int→Nat,∀n,f n=rotr a n.toNat:=⟨_,fun _=>rfl⟩;have be:∀n,fe n<4294967296:=fun n=>by rw[hfe];exact qbl _ _ oe
     have ba:∀n,fa n<4294967296:=fun n=>by rw[hfa];exact qbl _ _ oa
     obtain⟨v1,hv1,ov1⟩:∃p:Nat,p=(fe 6^^^fe 11)∧bits .xor .u32 (fe 6:Int) (fe 11:Int)=p:=⟨_,rfl,u32_xor_nat _ _ (be _) (be _)⟩;have lv1:v1<4294967296:=by rw[hv1];exact Nat.xor_lt_two_pow (n:=32) (be _) (be _)
     obtain⟨t1,ht1,ot1⟩:∃p:Nat,p=(v1^^^fe 25)∧bits .xor .u32 (v1:Int) (fe 25:Int)=p:=⟨_,rfl,u32_xor_nat _ _ lv1 (be _)⟩;have lt1:t1<4294967296:=by rw[ht1];exact Nat.xor_lt_two_pow (n:=32) (by omega) (be _)
     obtain⟨v2,hv2,ov2⟩:∃p:Nat,p=(fa 2^^^fa 13)∧bits .xor .u32 (fa 2:Int) (fa 13:Int)=p:=⟨_,rfl,u32_xor_nat _ _ (ba _) (ba _)⟩;have lv2:v2<4294967296:=by rw[hv2];exact Nat.xor_lt_two_pow (n:=32) (ba _) (ba _)
     obtain⟨t2,ht2,ot2⟩:∃p:Nat,p=(v2^^^fa 22)∧bits .xor .u32 (v2:Int) (fa 22:Int)=p:=⟨_,rfl,u32_xor_nat _ _ lv2 (ba _)⟩;have lt2:t2<4294967296:=by rw[ht2];exact Nat.xor_lt_two_pow (n:=32) (by omega) (ba _)
     have AV:Hid (Sig1 e=t1):=zh1 (by rw[ht1,hv1,hfe,hfe,hfe];rfl);have AW:Hid (Sig0 a=t2):=zh1 (by rw[ht2,hv2,hfa,hfa,hfa];rfl);have KE:∀(n:Int) w,1≤n∧n≤31→Calls Tryz.prog 228 #[.int .u32 e,.int .u64 n] w fun e w'=>e=.returned (.int .u32 (fe n:Nat))∧w=w':=fun n w hn=>by
      have h:=qxo e n.toNat w oe (by omega) (by omega);rw[←hfe,Int.toNat_of_nonneg (by omega)]at h;exact h
     have KA:∀(n:Int) w,1≤n∧n≤31→Calls Tryz.prog 228 #[.int .u32 a,.int .u64 n] w fun e w'=>e=.returned (.int .u32 (fa n:Nat))∧w=w':=fun n w hn=>by
      have h:=qxo a n.toNat w oa (by omega) (by omega);rw[←hfa,Int.toNat_of_nonneg (by omega)]at h;exact h
     have AB:∀(n:Int) k w,1≤n∧n≤31→Calls Tryz.prog 228 #[.int .u32 e,.int .u64 n] (World.drewN w k) fun e w''=>e=.returned (.int .u32 (fe n:Nat))∧∃m,w''=w.drewN m:=fun n k w hn=>Calls.quiet_of_same ((KE n _ hn).mono (by rintro _ _ ⟨rfl,rfl⟩;exact⟨rfl,rfl⟩))
     have AC:∀(n:Int) j k w,1≤n∧n≤31→Calls Tryz.prog 228 #[.int .u32 a,.int .u64 n] (World.drewN w (j+k)) fun e w''=>e=.returned (.int .u32 (fa n:Nat))∧∃m,w''=w.drewN (j+m):=fun n j k w hn=>(KA n _ hn).mono (by rintro _ _ ⟨rfl,rfl⟩;exact⟨rfl,k,rfl⟩)
     obtain⟨AX,AY⟩:=zh2 AB AC;clear hfe hfa hv1 hv2 ht1 ht2 be ba KE KA AB AC;go_upto_region 18 with(fail)
     go_quiet ((go_at_call 228;((refine AX.out _ _ _ ?_));decide))
     go_upto_region 19 with(fail)
     go_quiet ((go_at_call 228;((refine AY.out _ _ _ _ ?_));decide))
     go_upto_region 20 with(fail)
     refine wp_region_lit ?_;iterate 20 (refine qbk rfl ⟨?_,?_,?_⟩;rotate_left;(focus(go_simp;(try go_bits);try rfl));simp only[Act.put,tA0,tA1,tA2])
     refine wpList_store_row rfl 209 _ _ rfl wo.heap.size _ rfl rfl 209 #[.int .u32 a,.int .u32 b,.int .u32 c,.int .u32 d,.int .u32 e,.int .u32 f,.int .u32 g',.int .u32 h] (by exact Hst.out) (by kernel_rfl) rfl (by simp[Value.oneCell']) ?_;go_wp2_with fail
     go_roundw
     case rel=>
      refine⟨k+1,round ⟨a,b,c,d,e,f,g',h⟩ kk ww,by omega,by go_num,?_,?_,?_,?_⟩
      · rw[rounds,←Hs.out,AR.out,AS.out]
      · exact qcc _ _ _ Hok.out
      · show Blk _ _ _ (round ⟨a,b,c,d,e,f,g',h⟩ kk ww).vals
        rw[qce a b c d e f g' h kk ww t1 t2 p3 q5 AV.out AW.out AT.out AU.out];exact(Hst.out.drewN _).setRow _
      exact(qa8 Hb3.out _).grown (qam _ _ _) (Nat.le_of_lt Hst.out.lt) (fun k hk=>by injection hk with hk;omega)
     case measure=>simp[intOf];omega
    have qk:¬(k:Int)<64:=by omega
    have hk':k=64:=by omega
    have hz:(⟨a,b,c,d,e,f,g',h⟩:St)=rounds W s0 64:=by rw[←hk'];exact Hs.out
    obtain⟨z,hzz⟩:∃z:St,z=⟨a,b,c,d,e,f,g',h⟩:=⟨_,rfl⟩;have hzb:Blk wr wo.heap.size 209 (qbq z.list).toArray:=by rw[hzz];exact hst
    rw[←hzz]at hz;obtain⟨Hz,Hzb⟩:=zh2 hz hzb;have hzu:u32s z.list:=by
     rw[hz];exact St.ok_list (qcd W s0 A8.out 64)
    have Hzu:=zh1 hzu;obtain⟨wq,rfl⟩:=eqx wr;have hgq:Blk wq gh 209 (qbq s0.list).toArray:=(AQ.out.below hb3 (by omega));have Hgq:=zh1 hgq;have hrq:Blk wq gr 209 #[.int .u32 0,.int .u32 0,.int .u32 0,.int .u32 0,.int .u32 0,.int .u32 0,.int .u32 0,.int .u32 0]:=(AO.out.below hb3 (by omega));obtain⟨Hrq,Hb3⟩:=zh2 hrq hb3;have hgo:gh≠wo.heap.size:=by omega
    have Hs0:=zh1 (St.ok_list A8.out);clear hzz hz hzb hzu hst hb3 hgq hk' hk64 oa ob' oc od oe of og oh hrq;go_wp2_with fail
    go_loopw [18] (fun i wr=>∃(k:Nat),k≤8∧i=.int .i64 k∧Blk wr gh 209 (qbq (addl s0.list z.list k)).toArray∧wq.grownBy wr (some gh)) (fun i _=>8 - (intOf i).toNat)
    case atStart=>exact⟨0,by omega,rfl,by rw[qc5];exact Hgq.out,World.grownBy.refl _ _⟩
    case round=>
     obtain⟨k,hk,rfl,hgk,hgr⟩:=hrel;by_cases hk8:k<8
     ·
      have qk8:(k:Int)<8:=by omega
      have cg:=hgk.cell k;rw[qc6 (by simp[St.list];omega),if_neg (Nat.lt_irrefl k)]at cg;have cz:=(Hzb.out.grown hgr (by intro e;injection e with e;exact hgo e.symm)).cell k;rw[qc3 (by simp[St.list];omega)]at cz;have fg:=hgk.frozen k;obtain⟨Hgk,Hgr⟩:=zh2 hgk hgr;obtain⟨x,hx⟩:=xeq (s0.list.getD k 0);obtain⟨y,hy⟩:=xeq (z.list.getD k 0);rw[hx]at cg;rw[hy]at cz;have lx:x<4294967296:=hx▸Hs0.out.getD k;have ly:y<4294967296:=hy▸Hzu.out.getD k;obtain⟨Hx,Hy⟩:=zh2 hx hy;clear hx hy hgk hgr;go_wp2_with fail
      go_still_tail 9,(by kernel_rfl)
      change wpList _ _ _ _ _ wr.drew;go_wp2
      go_roundw
      case rel=>
       refine⟨k+1,by omega,by go_num,?_,?_⟩
       · rw[←qc7 (by simp[St.list];omega),Hx.out,Hy.out]
         have e:(((x+y) % 4294967296:Nat):Int)=((x:Int)+y) % 4294967296:=by omega
         rw[e];exact Hgk.out.drew.set_ k _
       exact qab (qa9 Hgr.out) (.inl rfl) _
      case measure=>simp[intOf];omega
     have qk8:¬(k:Int)<8:=by omega
     have hk8':k=8:=by omega
     rw[hk8',qca]at hgk;have hmx:qc9 s0 z=mixed bs s0:=by rw[Hz.out,←HW.out];rfl
     rw[hmx,←St.vals_list]at hgk;obtain⟨z',hz'⟩:=xeq (mixed bs s0);rw[hz']at hgk;have AZ:=zh1 hz';clear hz';have hrr:=Hrq.out.grown hgr (by intro e;injection e with e;omega);have d0:=hgk.cell 0;have d1:=hgk.cell 1;have d2:=hgk.cell 2;have d3:=hgk.cell 3;have d4:=hgk.cell 4;have d5:=hgk.cell 5;have d6:=hgk.cell 6;have d7:=hgk.cell 7;simp[St.vals]at d0 d1 d2 d3 d4 d5 d6 d7;have hend:Below w.heap.size w wr:=(AP.out.trans (Hb3.out.mono (by rw[A0.out];omega))).trans (qxm hgr (by rw[A0.out];omega) (by have:=Hgq.out.lt;omega));obtain⟨HE,Hrr⟩:=zh2 hend hrr;have hwr:gr<wr.heap.size:=hrr.lt;clear hgk hgr hk8' hk8 hrr hend hmx;go_wp2_with (refine wpList_store_row rfl 209 (.tmp 6) _ rfl gr _ rfl rfl 209 _ Hrr.out (by kernel_rfl) rfl (by simp[Value.oneCell']) ?_)
     have z8:=Hrr.out.setRow #[.int .u32 z'.a,.int .u32 z'.b,.int .u32 z'.c,.int .u32 z'.d,.int .u32 z'.e,.int .u32 z'.f,.int .u32 z'.g,.int .u32 z'.h];have B1:=qap (l:=[.int .u32 z'.a,.int .u32 z'.b,.int .u32 z'.c,.int .u32 z'.d,.int .u32 z'.e,.int .u32 z'.f,.int .u32 z'.g,.int .u32 z'.h]) z8 0 [.int .u32 z'.a,.int .u32 z'.b,.int .u32 z'.c,.int .u32 z'.d,.int .u32 z'.e,.int .u32 z'.f,.int .u32 z'.g,.int .u32 z'.h] (fun j u h=>by simpa using h);refine bodyPost_ret (v:=.agg #[.int .u32 z'.a,.int .u32 z'.b,.int .u32 z'.c,.int .u32 z'.d,.int .u32 z'.e,.int .u32 z'.f,.int .u32 z'.g,.int .u32 z'.h]) (qao rfl rfl (run_loadVar_mid _ _ 0 _ _ _ B1 Tryz.underlying209 rfl (by kernel_rfl))) rfl ⟨?_,below_setRow HE.out (by rw[A0.out];omega) _⟩;rw[AZ.out];rfl
end
section
open Go.RowKit
theorem qxs {a b:List Nat}(h:∀j,j<64→a.getD j 0=b.getD j 0){i:Nat}(hi:i<16):be32 a (4*i)=be32 b (4*i):=by
 unfold be32;rw[h (4*i) (by omega),h (4*i+1) (by omega),h (4*i+2) (by omega),h (4*i+3) (by omega)]
theorem qxt {a b:List Nat}(h:∀j,j<64→a.getD j 0=b.getD j 0):∀i,qbs a i=qbs b i
 |0=>rfl
 |i+1=>by
  have e:qbr a (qbs b i) i=qbr b (qbs b i) i:=by
   unfold qbr;by_cases hi:i<16
   · rw[if_pos hi,if_pos hi];exact qxs h hi
   rw[if_neg hi,if_neg hi]
  rw[qbs,qxt h i,e];rfl
theorem qxu {a b:List Nat}(h:∀j,j<64→a.getD j 0=b.getD j 0)(s:St):mixed a s=mixed b s:=by
 unfold mixed;rw[qxt h]
theorem qxv {a b:List Nat}(s:St):∀k,(∀j,j<64*k→a.getD j 0=b.getD j 0)→blocks a s k=blocks b s k
 |0,_=>rfl
 |k+1,h=>by
  rw[blocks,blocks,qxv s k (fun j hj=>h j (by omega))];apply qxu;intro j hj;have:=h (64*k+j) (by omega);simpa [List.getD_eq_getElem?_getD,List.getElem?_drop] using this
theorem qxw (l:List Nat)(s:St)(m:Nat):∀j,blocks l s (m+j)=blocks (l.drop (64*m)) (blocks l s m) j
 |0=>rfl
 |j+1=>by
  rw[show m+(j+1)=(m+j)+1 by omega,blocks,blocks,qxw l s m j,List.drop_drop,Nat.mul_add]
def padZ (n:Nat):Nat:=qdb (n % 64) - n % 64 - 9
def qxx (bs:List Nat):List Nat:=(bs++128::List.replicate (padZ bs.length) 0)++be (8*bs.length) 8
theorem qxy (n:Nat):(n+1+padZ n) % 64=56:=by
 have h:=qdl (n % 64) (Nat.mod_lt _ (by decide));unfold padZ;omega
theorem qxz (n z:Nat)(h:z<padZ n):(n+1+z) % 64≠56:=by
 unfold padZ qdb at h;split at h<;>omega
theorem qy0 (bs:List Nat):(qxx bs).length=64*(bs.length / 64+qdb (bs.length % 64) / 64):=by
 have h:=qdl (bs.length % 64) (Nat.mod_lt _ (by decide));simp only[qxx,padZ,tA6,List.length_cons,List.length_replicate,qaw];omega
theorem qy1 (bs:List Nat):(qxx bs).drop (64*(bs.length / 64))++List.replicate (128 - qdb (bs.length % 64)) 0=qdc bs 8:=by
 have h:=qdl (bs.length % 64) (Nat.mod_lt _ (by decide));have e:64*(bs.length / 64)=bs.length - bs.length % 64:=by omega
 unfold qxx qdc padZ;dsimp only;rw[e,List.append_assoc,List.drop_append_of_le_length (by omega),show qdb (bs.length % 64) - bs.length % 64 - 1 - 8=qdb (bs.length % 64) - bs.length % 64 - 9 by omega];simp only[List.append_assoc]
theorem qy2 (bs:List Nat):blocks (qxx bs) qc2 (bs.length / 64+qdb (bs.length % 64) / 64)=qdd bs:=by
 have h:=qdl (bs.length % 64) (Nat.mod_lt _ (by decide));have hl:=qy0 bs;rw[qxw];unfold qdd;have e1:blocks (qxx bs) qc2 (bs.length / 64)=blocks bs qc2 (bs.length / 64):=by
  apply qxv;intro j hj;unfold qxx;rw[List.getD_eq_getElem?_getD,List.append_assoc,List.getElem?_append_left (by omega),←List.getD_eq_getElem?_getD]
 rw[e1];apply qxv;intro j hj;rw[←qy1,List.getD_eq_getElem?_getD,List.getD_eq_getElem?_getD,List.getElem?_append_left (by rw[List.length_drop];omega)]
theorem qy3 (bs:List Nat)(h:∀b∈bs,b<256):∀b∈qxx bs,b<256:=by
 intro b hb;simp only[qxx,List.mem_append,List.mem_cons,List.mem_replicate]at hb;rcases hb with(hb|rfl|⟨_,rfl⟩)|hb
 · exact h b hb
 · decide
 · decide
 exact qaz _ _ b hb
end
section
open Go.RowKit
def slen:Value→Nat|.slice _ n _=>n|_=>0
theorem qy4 (N j m:Nat)(h:8=j+(m+1)):(be N 8).take (j+1)=(be N 8).take j++[N / 2^(8*m) % 256]:=by
 rw[qax N 8 j (by omega),show 8 - 1 - j=m by omega];rw[show qav N m=N / 2^(8*m) % 256 from by unfold qav;rw[Nat.pow_mul]]
theorem qy5 (g n cc:Nat)(A:Option Addr)(bs:List Nat)(w:World)(hb2:∀b∈bs,b<256)(hT:RTab w g)(hr:Reads w w.heap.size 1 A n (byv bs))(hn:n≤4294967296):
 Calls Tryz.prog 144 #[.pointer (some ⟨g,0,none⟩),.slice A n cc] w fun e w'=>e=.returned (.agg (byv (sha bs)).toArray)∧Below w.heap.size w w':=by
 have hlen:bs.length=n:=qb5 hr;obtain⟨N,hN⟩:=xeq (n*8);have d1:IntKind.u64.wrap (n:Int)=n:=IntWalk.u64_in _ (by omega);have d2:IntKind.u64.wrap ((n:Int)*8)=(N:Int):=by rw[show ((n:Int)*8)=(N:Int) by omega];exact IntWalk.u64_in _ (by omega)
 have hN2:N<18446744073709551616:=by omega
 obtain⟨Z,hZ⟩:=xeq (padZ n);have hZ64:Z≤128:=by rw[←hZ];have:=qdl (n % 64) (Nat.mod_lt _ (by decide));unfold padZ;omega
 obtain⟨W0,hW0⟩:=eqx (w.alloc (.cells zLD 29));obtain⟨G,hG⟩:=xeq w.heap.size;have z0:Blk W0 G 29 zLD:=by rw[hW0,←hG];exact Blk.new w _ _
 have b0:Below w.heap.size w W0:=by rw[hW0];exact qah (tA5 _ _) _
 have t0:RTab W0 g:=Blk.below hT b0 (Blk.lt hT);have r0:Reads W0 W0.heap.size 1 A n (byv bs):=hr.call b0;have hr0:=r0.laid (.cells #[] 5);have glt:g<G:=by rw[←hG];exact Blk.lt hT
 have gsz:G<W0.heap.size:=z0.lt;obtain⟨HG,AG,AH,AI,AJ,A6,A0,AK⟩:=zh8 hG z0 b0 t0 hN hZ hlen hb2;clear hT hr hlen hN hZ b0 t0 z0 r0 hG hb2;go_enter Tryz.func144,Tryz.ntmps144
 go_upto_region 1 with(fail)
 rw[←hW0,show w.heap.size=G from HG.out];clear hW0;go_wp2_with (at_builtin;refine qcx rfl (.tmp 12) (.tmp 13) rfl W0.heap.size _ [] rfl (OwnB.made W0 [] (by simp[maxLen])) A n cc bs rfl hr0 (by simp;omega) (by simp) ?_)
 intro v1 w1 hown1 hb1 hg1;have B1:Below W0.heap.size W0 w1:=((tA5 _ _).alloc (tA4 _) _).trans hb1;have hs1:=B1.size;have l1:([]++bs).length+1≤140737488355328:=by have:=A0.out;simp;omega
 go_wp2_with (at_builtin;refine qcx rfl (.tmp 14) (.tmp 15) rfl W0.heap.size _ _ rfl (hown1.alloc _) _ 1 1 [128] rfl (by simpa using qd0 w1 128) l1 (by simp;omega) ?_)
 intro v2 w2 hown2 hb2 hg2;obtain⟨A5,AC⟩:=zh2 ((B1.alloc hs1 (.cells #[.int .u8 128] 5)).trans hb2) hown2;clear hown1 hb1 hg1 B1 hs1 l1 hown2 hb2 hg2 hr0;go_wp2_with fail
 go_loopw [5] (fun v wr=>∃z,z≤Z∧Hid (OwnB wr W0.heap.size v (bs++128::List.replicate z 0))∧Hid (Below W0.heap.size W0 wr)) (fun v _=>n+1+Z - slen v)
 case atStart=>exact⟨0,by omega,zh1 (by simpa using AC.out),A5.out⟩
 case round=>
  clear AC A5;obtain⟨z,hz,hown,hbe⟩:=hrel;obtain⟨A1,n1,c1,rfl,hnc,hcm,hrd⟩:=hown.out.sl;have hn1:n1=n+1+z:=by
   have:=qb5 hrd;have e:=A0.out;simp only[tA6,List.length_cons,List.length_replicate]at this;omega
  obtain⟨q,hq⟩:=xeq (n1 % 64);have q1:Int.tmod (n1:Int) 64=(q:Int):=by rw[Int.tmod_eq_emod_of_nonneg (by omega)];omega
  have q2:IntKind.i64.wrap (q:Int)=q:=IntWalk.i64_in _ (by omega);obtain⟨HQ,AL⟩:=zh2 hq hn1;by_cases hzZ:z<Z
  ·
   have q3:¬(q:Int)=56:=by
    have:=qxz n z (by rw[A6.out];exact hzZ);omega
   clear hq hn1 hrd;have hbs:=hbe.out.size;have l2:(bs++128::List.replicate z 0).length+1≤140737488355328:=by have:=A0.out;simp;omega
   go_wp2_with (at_builtin;refine qcx rfl (.tmp 21) (.tmp 22) rfl W0.heap.size _ _ rfl (hown.out.alloc _) _ 1 1 [0] rfl (by simpa using qd0 wr 0) l2 (by simp;omega) ?_)
   intro v3 w3 hown3 hb3 hg3;have AD:Hid (OwnB w3 W0.heap.size v3 (bs++128::List.replicate (z+1) 0)):=zh1 (by
    have e:(bs++128::List.replicate z 0)++[0]=bs++128::List.replicate (z+1) 0:=by rw[List.replicate_succ'];simp
    rw[←e];simpa using hown3)
   have A7:=zh1 ((hbe.out.alloc hbs (.cells #[.int .u8 0] 5)).trans hb3);have hv3:slen v3=n+1+(z+1):=by
    obtain⟨A3,n3,c3,rfl,-,-,rd3⟩:=AD.out.sl;have:=qb5 rd3;have e:=A0.out;simp only[tA6,List.length_cons,List.length_replicate]at this;simp only[slen];omega
   have AM:=zh1 hv3;clear hown3 hb3 hg3 hv3 l2 hbs;go_wp2_with fail
   go_roundw
   case rel=>exact⟨z+1,by omega,AD,A7⟩
   case measure=>rw[AM.out,show n1=n+1+z from AL.out];simp only[slen];omega
  have hzz:z=Z:=by omega
  have q3:(q:Int)=56:=by
   have:=qxy n;rw[A6.out]at this;omega
  subst hzz;obtain⟨T,hTT⟩:=xeq (bs++128::List.replicate z 0);have hTl:T.length≤4294967296+200:=by rw[←hTT];have:=A0.out;simp;omega
  have hown':=hown.out;rw[hTT]at hown';obtain⟨AN,AO⟩:=zh2 hTT hTl;obtain⟨W1,rfl⟩:=eqx wr;have HO:=zh1 hown';clear hq hn1 hrd hTT hTl hown' hown;go_wp2_with fail
  go_loopw [5,7] (fun v i wr=>∃j m:Nat,8=j+m∧i=.int .i64 (8*(m:Int) - 8)∧Hid (OwnB wr W0.heap.size v (T++(be N 8).take j))∧Hid (Below W0.heap.size W0 wr)) (fun _ i _=>(intOf i+8).toNat)
  case atStart=>exact⟨0,8,by omega,rfl,zh1 (by simpa using HO.out),hbe.out⟩
  case round=>
   clear hbe;obtain⟨j,m,hjm,rfl,hown,hbe⟩:=hrel;cases m with
   |zero=>
    obtain rfl:j=8:=by omega
    rw[show 8*((0:Nat):Int) - 8= -8 from by decide];have hO:=hown.out;rw[List.take_of_length_le (by rw[qaw];exact tA4 _)]at hO;have hX:T++be N 8=qxx bs:=by unfold qxx;rw[A0.out,A6.out,AN.out,show 8*n=N by have:=AJ.out;omega]
    rw[hX]at hO;have hXl:=qy0 bs;obtain⟨X,hXX⟩:=xeq (qxx bs);obtain⟨M,hM⟩:=xeq (bs.length / 64+qdb (bs.length % 64) / 64);have hM2:M≤67108870:=by rw[←hM];have:=A0.out;have:=qdl (bs.length % 64) (Nat.mod_lt _ (by decide));omega
    have hsh:=qy2 bs;have hXlt:=qy3 bs AK.out;rw[hXX]at hO hXl hsh hXlt;rw[hM]at hXl hsh;obtain⟨A2,n2,c2,rfl,hnc2,hcm2,hrd2⟩:=OwnB.sl hO;have hn2:n2=64*M:=by have:=qb5 hrd2;omega
    obtain⟨AE,AP,AQ,A8⟩:=zh4 hn2 hsh hXl hXlt;obtain⟨wo,rfl⟩:=eqx wr;have tab:=(show RTab W0 g from AI.out).below hbe.out (by omega);have c0:=qxq (i:=0) tab (by omega);have c1:=qxq (i:=1) tab (by omega);have c2':=qxq (i:=2) tab (by omega);have c3:=qxq (i:=3) tab (by omega);have c4:=qxq (i:=4) tab (by omega);have c5:=qxq (i:=5) tab (by omega);have c6:=qxq (i:=6) tab (by omega);have c7:=qxq (i:=7) tab (by omega);simp[St.vals,qc2]at c0 c1 c2' c3 c4 c5 c6 c7;have hM1:1≤M:=by rw[←hM];have:=qdl (bs.length % 64) (Nat.mod_lt _ (by decide));omega
    obtain⟨gb,ob,hA2,hgb,-⟩:=hrd2.mid (by omega) (by omega);have AR:=zh1 hrd2;subst hA2;have A9:=zh1 tab;have hzo:Blk wo G 29 zLD:=AG.out.below hbe.out gsz;obtain⟨AS,AT⟩:=zh2 hzo (AH.out.trans (hbe.out.mono (by have:=HG.out;omega)));have B6:=hbe;have glo:g<wo.heap.size:=Blk.lt tab;have gho:G<wo.heap.size:=hzo.lt;clear hO hX hXl hsh hXlt hXX hM hn2 hrd2 tab hzo hown hbe hjm;go_wp2_with fail
    go_loopw [9] (fun i wr=>∃k p:Nat,k≤M∧Hid (64*k=p)∧i=.int .i64 p∧Hid (Blk wr wo.heap.size 209 (blocks X qc2 k).vals)∧Hid (Below wo.heap.size wo wr)) (fun i _=>n2 - (intOf i).toNat)
    case atStart=>exact⟨0,0,by omega,rfl,rfl,Blk.new ..,(tA5 _ _).alloc (tA4 _) _⟩
    case round=>
     clear c0 c1 c2' c3 c4 c5 c6 c7;obtain⟨k,p,hk,hp,rfl,hst,hbw⟩:=hrel;by_cases hkM:k<M
     ·
      obtain⟨s,hs⟩:=xeq (blocks X qc2 k);have hok:s.ok:=hs▸qd9 X qc2 qda k;have hstv:=hst.out;rw[hs]at hstv;have hp':=hp.out;have hn2':=AE.out;have p1:(p:Int)<n2:=by omega
      have p2:p+64≤n2:=by omega
      have p4:¬c2=p:=by omega
      have p5:p≤n2:=by omega
      have p6:(p:Int)≤(p:Int)+64:=by omega
      have p7:(p:Int)+64≤c2:=by omega
      have p10:0≤(p:Int)+64:=by omega
      have p11:((p:Int)+64).toNat=p+64:=by omega
      have p12:(p:Int)+64 - p=64:=by omega
      have p3':IntKind.i64.wrap ((p:Int)+64)=(p:Int)+64:=IntWalk.i64_in _ (by omega);have hrp:=((AR.out.below hbw.out).cut (k:=p) (cap:=c2) p5 hnc2);rw[if_neg p4,Nat.mul_one,show (byv X).drop p=byv (X.drop p) by simp[byv],Option.map_some,Addr.add_mid]at hrp;have hrq:=(hrp.pre (k:=64) (by omega)).more hbw.out.size;rw[show (byv (X.drop p)).take 64=byv ((X.drop p).take 64) by simp[byv]]at hrq;have htw:RTab wr g:=(show RTab wo g from A9.out).below hbw.out glo;obtain⟨s',hs'⟩:=xeq (mixed ((X.drop p).take 64) s);have hnx:s'=blocks X qc2 (k+1):=by
       rw[←hs',blocks,hp',hs];apply qxu;intro j hj;rw[List.getD_eq_getElem?_getD,List.getD_eq_getElem?_getD,List.getElem?_take_of_lt hj]
      have K:=qxr g 64 (c2 - p) (some ⟨gb,ob+p,none⟩) ((X.drop p).take 64) s wr.drew hok (by rw[List.length_take,List.length_drop,AQ.out];omega) (tA4 _) (fun b hb=>A8.out b (List.mem_of_mem_drop (List.mem_of_mem_take hb))) htw hrq;rw[hs']at K;obtain⟨HK,AU,A4⟩:=zh3 K hnx hstv;have p8:((p+64:Nat):Int) - p=64:=by omega
      have p9:p+64 - p=64:=by omega
      clear K hrp hrq htw hs' hnx hp' hn2' hstv hst hs;go_upto_region 13 with(fail)
      obtain⟨S,HS⟩:∃S:World→Prop,Hid (∀w',S w'=(w'.rangeAt wo.heap.size 0 [.int .u32 s.a,.int .u32 s.b,.int .u32 s.c,.int .u32 s.d,.int .u32 s.e,.int .u32 s.f,.int .u32 s.g,.int .u32 s.h])):=⟨_,fun _=>rfl⟩;refine zrs S 7 [(0,false),(1,false),(2,false),(3,false),(4,false),(5,false),(6,false),(7,true),(8,true)] ((HS.out _).mpr (qap (l:=[.int .u32 s.a,.int .u32 s.b,.int .u32 s.c,.int .u32 s.d,.int .u32 s.e,.int .u32 s.f,.int .u32 s.g,.int .u32 s.h]) A4.out 0 _ (fun j u h=>by simpa using h))) ?_;iterate 1 (refine zrd rfl rfl (fun w1 hS=>by go_simp;(try go_bits);try rfl) ?_;simp only[Act.put,tA0,tA1,tA2])
      refine qnf rfl rfl 209 (.tmp 8) rfl wo.heap.size 0 rfl [.int .u32 s.a,.int .u32 s.b,.int .u32 s.c,.int .u32 s.d,.int .u32 s.e,.int .u32 s.f,.int .u32 s.g,.int .u32 s.h] _ (fun w1 hS=>(HS.out w1).mp hS) Tryz.underlying209 rfl (by kernel_rfl) ?_;try simp only[Act.put,tA0,tA1,tA2]
      iterate 1 (refine zrd rfl rfl (fun w1 hS=>by go_simp;(try go_bits);try rfl) ?_;simp only[Act.put,tA0,tA1,tA2])
      iterate 1 (refine zrd rfl rfl (fun w1 hS=>by go_simp;(try go_bits);try rfl) ?_;simp only[Act.put,tA0,tA1,tA2])
      iterate 1 (refine zrd rfl rfl (fun w1 hS=>by go_simp;(try go_bits);try rfl) ?_;simp only[Act.put,tA0,tA1,tA2])
      iterate 1 (refine zrd rfl rfl (fun w1 hS=>by go_simp;(try go_bits);try rfl) ?_;simp only[Act.put,tA0,tA1,tA2])
      refine qbh rfl rfl ⟨.slice (some ⟨gb,ob+p,none⟩) 64 (c2 - p),fun w1 hS=>?_,?_⟩
      · go_simp
        trace_state
      try simp only[Act.put,tA0,tA1,tA2]
      refine qbj rfl rfl ?_;go_simp;refine HK.out.mono ?_;rintro e w2 ⟨rfl,b2⟩;have b2':=qcz b2;have s2:=A4.out.below b2' A4.out.lt;obtain⟨AF,A7⟩:=zh2 s2 (below_setRow ((hbw.out).trans (b2'.mono hbw.out.size)) (tA4 wo.heap.size) s'.vals);try simp only[Act.put,tA0,tA1,tA2]
      refine qbj rfl rfl ?_;refine wp_store_row 209 (.tmp 8) (.tmp 57) rfl wo.heap.size s'.vals rfl rfl 209 _ AF.out (by kernel_rfl) rfl (by simp[St.vals,Value.oneCell']) ?_;refine⟨fun h=>absurd h (by decide),?_⟩;refine qbg ?_;clear b2 b2' s2;go_wp2
      go_roundw
      case rel=>exact⟨k+1,p+64,by omega,zh1 (by have:=hp.out;omega),by go_num,zh1 (by rw[←AU.out];exact AF.out.setRow _),A7⟩
      case measure=>simp only[intOf];omega
     have hk':k=M:=by omega
     have q1:¬(p:Int)<n2:=by have:=hp.out;have:=AE.out;omega
     have hsq:=hst.out;rw[hk',AP.out]at hsq;obtain⟨st,hst'⟩:=xeq (qdd bs);rw[hst']at hsq;obtain⟨W6,rfl⟩:=eqx wr;have hok:st.ok:=by rw[←hst'];exact qd9 _ _ (qd9 _ _ qda _) _
     have hlist:=St.ok_list hok;have hZ6:Blk W6 G 29 zLD:=AS.out.below hbw.out gho;have hB6:Below w.heap.size w W6:=AT.out.trans (hbw.out.mono (by have:=HG.out;omega));obtain⟨AV,AW,AX,AA,AY⟩:=zh5 hsq hZ6 hB6 hst' hlist;have lW6:wo.heap.size<W6.heap.size:=hsq.lt;have gW6:G<W6.heap.size:=hZ6.lt;have hD7:Blk (W6.alloc (.cells zLD 29)) W6.heap.size 29 (byv (qdh (qde st) 0)).toArray:=by
      have h:=Blk.new W6 29 zLD;exact h
     have AZ:=zh1 hD7;clear hsq hZ6 hB6 hst' hlist hok hD7 hst hbw hk' hp hkM;go_wp2_with fail
     go_loopw [11] (fun i wr=>∃k:Nat,k≤32∧i=.int .i64 k∧Blk wr W6.heap.size 29 (byv (qdh (qde st) k)).toArray∧Below W6.heap.size W6 wr) (fun i _=>32 - (intOf i).toNat)
     case atStart=>exact⟨0,by omega,rfl,AZ.out,(tA5 _ _).alloc (tA4 _) _⟩
     case round=>
      obtain⟨k,hk,rfl,hdk,hbk⟩:=hrel;by_cases hk32:k<32
      ·
       have qk:(k:Int)<32:=by omega
       obtain⟨a,ha⟩:=xeq (k / 4);obtain⟨b,hb⟩:=xeq (k % 4);obtain⟨s,hs⟩:=xeq (24 - 8*b);have u1:Int.tdiv (k:Int) 4=(a:Int):=by rw[Int.tdiv_eq_ediv_of_nonneg (by omega)];omega
       have u2:Int.tmod (k:Int) 4=(b:Int):=by rw[Int.tmod_eq_emod_of_nonneg (by omega)];omega
       have u3:IntKind.i64.wrap (a:Int)=a:=IntWalk.i64_in _ (by omega);have u4:IntKind.i64.wrap (b:Int)=b:=IntWalk.i64_in _ (by omega);have u5:IntKind.i64.wrap (8*(b:Int))=8*(b:Int):=IntWalk.i64_in _ (by omega);have u6:IntKind.i64.wrap (24 - 8*(b:Int))=(s:Int):=by rw[show (24 - 8*(b:Int))=(s:Int) by omega];exact IntWalk.i64_in _ (by omega)
       have u7:(a:Int)<8:=by omega
       have u8':IntKind.u64.wrap (s:Int)=s:=IntWalk.u64_in _ (by omega);have u9:min s 32=s:=by omega
       have cs:=(AV.out.below hbk lW6).cell a;rw[St.vals_list,qc3 (by simp[St.list];omega)]at cs;obtain⟨x,hx⟩:=xeq (st.list.getD a 0);rw[hx]at cs;have lx:x<4294967296:=hx▸AY.out.getD a;have cd:=hdk.cell k;rw[qdf (by simp[qdh,qde];omega)]at cd;have fd:=hdk.frozen k;obtain⟨Hdk,Hbk,Hx,Ha,Hb,Hs⟩:=zh6 hdk hbk hx ha hb hs;clear hdk hbk hx ha hb hs;go_wp2_with fail
       go_roundw
       case rel=>
        refine⟨k+1,by omega,by go_num,?_,Hbk.out.setCell (tA4 _) _⟩;have e:((x:Int) / 2^s % 256)=((x / 2^s % 256:Nat):Int):=by
         push_cast
         rfl
        rw[e,←qdi (L:=qde st) (k:=k) (v:=x / 2^s % 256) (by simp[qde];omega) (by rw[qdk st hk32,Ha.out,Hb.out,Hs.out,Hx.out])];exact Hdk.out.set_ k _
       case measure=>simp[intOf];omega
      have qk:¬(k:Int)<32:=by omega
      have hk':k=(qde st).length:=by simp[qde];omega
      rw[hk',qdj]at hdk;have hV:(byv (qde st)).length=32:=by simp[byv,qde]
      have hV1:=qau (qde st);obtain⟨V,hVV⟩:=xeq (byv (qde st));rw[hVV]at hdk hV hV1;have B0:=zh1 (qap hdk 0 V (fun j u h=>by simpa using h));have z7:=AW.out.below hbk gW6;obtain⟨HV,B2,B3,Hbk,HI⟩:=zh5 hV hV1 hVV hbk (zI 29 hV);clear hdk hV hV1 hVV hbk hk' hk32;go_wp2_with (first
       |(refine qaq rfl 29 (.tmp 10) rfl W6.heap.size 0 rfl V _ B0.out Tryz.underlying29 rfl HI.out ?_)
       |(refine zst 29 (.tmp 4) (.tmp 75) G V z7 HI.out (by simp[HV.out]) B2.out ?_))
      have z8:=z7.setRow V.toArray;have B4:=qap z8 0 V (fun j u h=>by simpa using h);refine zrt B4 Tryz.underlying29 HI.out ⟨?_,below_setRow (AX.out.trans (Hbk.out.mono (by have:=HG.out;omega))) (by rw[HG.out];exact tA4 _) _⟩;rw[←B3.out,←AA.out];rfl
   |succ m=>
    have em:8*(((m+1:Nat)):Int) - 8=((8*m:Nat):Int):=by omega
    rw[em];clear em;have hlj:(T++(be N 8).take j).length+1≤140737488355328:=by have:=AO.out;rw[tA6,List.length_take,qaw];omega
    have Hjm:=zh1 hjm;have hm8:m≤7:=by omega
    have hbs:=hbe.out.size;obtain⟨s,hs⟩:=xeq (8*m);rw[hs];have s56:s≤56:=by omega
    have s1:IntKind.u64.wrap (s:Int)=s:=IntWalk.u64_in _ (by omega);have s2:min s 64=s:=by omega
    have s3:IntKind.i64.wrap ((s:Int) - 8)=(s:Int) - 8:=IntWalk.i64_in _ (by omega);obtain⟨bv,hbv⟩:=xeq (N / 2^s % 256);have s4:((N:Int) / 2^s % 256)=(bv:Int):=by rw[←hbv];push_cast;rfl
    obtain⟨B5,AB⟩:=zh2 hbv hs;clear hbv hjm hs;go_wp2_with (at_builtin;refine qcx rfl (.tmp 32) (.tmp 38) rfl W0.heap.size _ _ rfl (hown.out.alloc _) _ 1 1 [bv] rfl (by simpa using qd0 wr bv) hlj (by simp;omega) ?_)
    intro v3 w3 hown3 hb3 hg3;have HW:Hid (OwnB w3 W0.heap.size v3 (T++(be N 8).take (j+1))):=zh1 (by
     rw[qy4 N j m Hjm.out,AB.out,B5.out];exact hown3)
    have HB:=zh1 ((hbe.out.alloc hbs (.cells #[.int .u8 (bv:Int)] 5)).trans hb3);clear hown3 hb3 hg3 hbe hown;go_wp2_with fail
    go_roundw
    case rel=>exact⟨j+1,m,by have:=Hjm.out;omega,by have:=AB.out;congr 1;omega,HW,HB⟩
    case measure=>simp only[intOf];have:=AB.out;omega
end
section
open Go.RowKit
theorem OwnB.grownNe {w w':World}{base:Nat}{v:Value}{bs:List Nat}{r:Option Nat}(h:OwnB w base v bs)(hg:w.grownBy w' r)(hne:∀b,v.ownBlock=some b→r≠some b):OwnB w' base v bs:=by
 refine⟨h.1,?_⟩;rcases h.2 with h|⟨g,cap,cur,hv,hb,hh,rest⟩
 · exact .inl h
 refine .inr ⟨g,cap,cur,hv,hb,?_,rest⟩;subst hv;exact(hg.block g (by
  rcases Nat.lt_or_ge g w.heap.size with hlt|hge
  · exact hlt
  rw[Array.getElem?_eq_none hge]at hh;cases hh) (fun e=>hne g rfl e.symm)).trans hh
theorem OwnB.blk_lt {w:World}{base:Nat}{v:Value}{bs:List Nat}(h:OwnB w base v bs){b:Nat}(e:v.ownBlock=some b):b<w.heap.size:=by
 rcases h.2 with⟨rfl,_⟩|⟨g,cap,cur,rfl,hb,hh,rest⟩
 · cases e
 injection e with e;subst e;rcases Nat.lt_or_ge g w.heap.size with hlt|hge
 · exact hlt
 rw[Array.getElem?_eq_none hge]at hh;cases hh
def Apart (v v':Value):Prop:=∀b,v.ownBlock=some b→v'.ownBlock≠some b
theorem qy6 {w:World}{base n:Nat}{vi vo vi':Value}{bs:List Nat}(h:Apart vi vo)(ho:OwnB w base vo bs)(he:vi'.ownBlock=vi.ownBlock∨vi'.ownBlock=some n)(hn:w.heap.size≤n):Apart vi' vo:=by
 intro b hb e;rcases he with he|he
 · exact h b (he▸hb) e
 rw[he]at hb;injection hb with hb;have:=ho.blk_lt e;omega
theorem qy7 {w:World}{base n:Nat}{vi vo vo':Value}{bs:List Nat}(h:Apart vi vo)(ho:OwnB w base vi bs)(he:vo'.ownBlock=vo.ownBlock∨vo'.ownBlock=some n)(hn:w.heap.size≤n):Apart vi vo':=by
 intro b hb e;rcases he with he|he
 · exact h b hb (he▸e)
 rw[he]at e;injection e with e;have:=ho.blk_lt hb;omega
theorem qy8 {w:World}{ops:Array Oper}{rest:List Oper}{o:Oper}{a:Act}{Q:Exit→Act→World→Prop}(hgd:o.guard=none)(s x:Operand)
 (ho:o.op=.call {callee:=.builtin .append,args:=#[s,x],argTypes:=#[23,23]})
 (base:Nat)(v:Value)(bs:List Nat)(hs:a.eval s=v)(hown:OwnB w base v bs)(A:Option Addr)(m c:Nat)(news:List Nat)(hx:a.eval x=.slice A m c)(hr:Reads w w.heap.size 1 A m (byv news))
 (hlen:bs.length+m≤8589934592)(hbase:base≤w.heap.size)
 (h:∀v' w',OwnB w' base v' (bs++news)→Below base w w'→w.grownBy w' v.ownBlock→(v'.ownBlock=v.ownBlock∨v'.ownBlock=some w.heap.size)→wpList Tryz.prog ops Q rest (a.put o.dst v') w'):wpList Tryz.prog ops Q (o::rest) a w:=by
 obtain⟨i0,hi0,hz0,hz1,hz2⟩:=info_parts Tryz.u8_info;have hm:=qb5 hr;refine qa7 (P:=Tryz.prog) w hgd s x _ ho base 5 i0 _ 1 1 Tryz.underlying23 hi0 hz0 hz1 hz2 rfl (by omega) v bs.length (byv bs) hs hown w.heap.size A m c (byv news) hx hr (qau _) (by simp only[maxLen];omega) (by omega) hbase ?_;intro v' w' h1 h2 h3;refine h v' w' ?_ ?_ h2 h3
 · unfold OwnB
   rw[qas,tA6,hm];exact h1
 exact qae (tA5 _ _) hown h2 (tA4 _) hbase
theorem qy9 {K:List Nat}{k x:Nat}(f:Nat→Nat)(h:K[k]? =some x):(K.take (k+1)).map f=(K.take k).map f++[f x]:=by
 rw[List.take_add_one,h];simp
theorem qya (g nk ck n cc:Nat)(Ak A:Option Addr)(key b:List Nat)(w:World)(hT:RTab w g)(hk:Reads w w.heap.size 1 Ak nk (byv key))(hb:Reads w w.heap.size 1 A n (byv b))(hk2:∀x∈key,x<256)(hb2:∀x∈b,x<256)
 (hnk:nk≤64)(hn:n≤65536):
 Calls Tryz.prog 60 #[.pointer (some ⟨g,0,none⟩),.slice Ak nk ck,.slice A n cc] w fun e w'=>e=.returned (.agg (byv (mac key b)).toArray)∧Below w.heap.size w w':=by
 have lk:=qb5 hk;have lb:=qb5 hb;obtain⟨W0,hW0⟩:=eqx (w.alloc (.cells zLD 29));obtain⟨G,hG⟩:=xeq w.heap.size;have z0:Blk W0 G 29 zLD:=by rw[hW0,←hG];exact Blk.new w _ _
 have b0:Below w.heap.size w W0:=by rw[hW0];exact qah (tA5 _ _) _
 have t0:RTab W0 g:=Blk.below hT b0 (Blk.lt hT);have hk0:=(hk.call b0).laid (.cells #[] 5);have hbr0:Reads W0 W0.heap.size 1 A n (byv b):=hb.call b0;have gsz:G<W0.heap.size:=z0.lt;have glt:g<W0.heap.size:=Blk.lt t0;obtain⟨HG,AV,AW,AP,AX,A0,AY,AB⟩:=zh8 hG z0 b0 t0 hbr0 lk lb hk2;have AZ:=zh1 hb2;clear hT hk hb lk lb hk2 hb2 b0 t0 z0 hbr0 hG;go_enter Tryz.func60,Tryz.ntmps60
 go_upto_region 1 with(fail)
 rw[←hW0,show w.heap.size=G from HG.out];clear hW0;go_wp2_with (at_builtin;refine qcx rfl (.tmp 13) (.tmp 14) rfl W0.heap.size _ [] rfl (OwnB.made W0 [] (by simp[maxLen])) Ak nk ck key rfl hk0 (by simp;omega) (by simp) ?_)
 intro v1 w1 hown1 hb1 hg1;have B1:Below W0.heap.size W0 w1:=((tA5 _ _).alloc (tA4 _) _).trans hb1;obtain⟨A1,n1,c1,rfl,hnc1,hcm1,hrd1⟩:=hown1.sl;have hn1:n1=nk:=by have:=qb5 hrd1;have:=A0.out;omega
 subst hn1;have q64:¬(n1:Int)>64:=by omega
 have q64':(n1:Int)≤64:=by omega
 obtain⟨AQ,AR⟩:=zh2 hown1 B1;clear hb1 hg1 hown1 B1 hrd1 hk0;go_wp2_with fail
 go_loopw [7] (fun v wr=>∃z,n1+z≤64∧Hid (OwnB wr W0.heap.size v (key++List.replicate z 0))∧Hid (Below W0.heap.size W0 wr)) (fun v _=>64 - slen v)
 case atStart=>exact⟨0,by omega,zh1 (by simpa using AQ.out),AR.out⟩
 case round=>
  clear AQ AR;obtain⟨z,hz,hown,hbe⟩:=hrel;obtain⟨A2,n2,c2,rfl,hnc,hcm,hrd⟩:=hown.out.sl;have hn2:n2=n1+z:=by
   have:=qb5 hrd;have e:=A0.out;simp only[tA6,List.length_replicate]at this;omega
  have AS:=zh1 hn2;by_cases hzZ:n1+z<64
  ·
   have q3:(n2:Int)<64:=by omega
   clear hn2 hrd;have hbs:=hbe.out.size;have l2:(key++List.replicate z 0).length+1≤140737488355328:=by have:=A0.out;simp;omega
   go_wp2_with (at_builtin;refine qcx rfl (.tmp 28) (.tmp 29) rfl W0.heap.size _ _ rfl (hown.out.alloc _) _ 1 1 [0] rfl (by simpa using qd0 wr 0) l2 (by simp;omega) ?_)
   intro v3 w3 hown3 hb3 hg3;have AT:Hid (OwnB w3 W0.heap.size v3 (key++List.replicate (z+1) 0)):=zh1 (by
    have e:(key++List.replicate z 0)++[0]=key++List.replicate (z+1) 0:=by rw[List.replicate_succ'];simp
    rw[←e];simpa using hown3)
   have AA:=zh1 ((hbe.out.alloc hbs (.cells #[.int .u8 0] 5)).trans hb3);have hv3:slen v3=n1+(z+1):=by
    obtain⟨A3,n3,c3,rfl,-,-,rd3⟩:=AT.out.sl;have:=qb5 rd3;have e:=A0.out;simp only[tA6,List.length_replicate]at this;simp only[slen];omega
   have B0:=zh1 hv3;clear hown3 hb3 hg3 hv3 l2 hbs;go_wp2_with fail
   go_roundw
   case rel=>exact⟨z+1,by omega,AT,AA⟩
   case measure=>rw[B0.out,show n2=n1+z from AS.out];simp only[slen];omega
  have q3:¬(n2:Int)<64:=by omega
  obtain⟨K,hKK⟩:=xeq (key++List.replicate z 0);have hz':z=64 - key.length:=by have:=A0.out;omega
  have hKl:K.length=64:=by rw[←hKK];have:=A0.out;simp;omega
  have hKb:∀x∈K,x<256:=by
   intro x hx;rw[←hKK]at hx;rcases List.mem_append.1 hx with h|h
   · exact AB.out x h
   rw[(List.mem_replicate.1 h).2];decide
  have hp1:K.map (fun x=>x^^^54)=qiy key 54:=by unfold qiy;rw[←hKK,hz']
  have hp2:K.map (fun x=>x^^^92)=qiy key 92:=by unfold qiy;rw[←hKK,hz']
  rw[hKK]at hrd;have hn64:n2=64:=by have:=qb5 hrd;omega
  obtain⟨W1,rfl⟩:=eqx wr;obtain⟨gk,ok,rfl,hgk,hck⟩:=hrd.mid (by omega) (by omega);obtain⟨B2,B3,B4,AC,B6⟩:=zh5 hck hp1 hp2 hKl hKb;subst hn64;have hw01:=hbe.out.size;clear hn2 hrd hKK hz' hKl hKb hp1 hp2 hck AS hown;go_wp2_with fail
  go_loopw [9,10,11] (fun vi vo i wr=>∃k:Nat,k≤64∧i=.int .i64 k∧Hid (OwnB wr W1.heap.size vi ((K.take k).map (fun x=>x^^^54)))∧Hid (OwnB wr W1.heap.size vo ((K.take k).map (fun x=>x^^^92)))∧Hid (Apart vi vo)∧Hid (Below W1.heap.size W1 wr)) (fun _ _ i _=>64 - (intOf i).toNat)
  case atStart=>exact⟨0,by omega,rfl,zh1 (OwnB.nil _ _),zh1 (OwnB.nil _ _),zh1 (fun b h=>nomatch h),zh1 (tA5 _ _)⟩
  case round=>
   obtain⟨k,hk,rfl,hvi,hvo,hne,hbw⟩:=hrel;by_cases hk64:k<64
   ·
    have qk:(k:Int)<64:=by omega
    obtain⟨x,hx⟩:∃x,K[k]? =some x:=⟨_,tA7 (by rw[AC.out];exact hk64)⟩;have lx:=B6.out x (List.mem_of_getElem? hx);have ck1:W1.cell? ⟨gk,ok+k,none⟩=some (.int .u8 (x:Int)):=B2.out k _ (by simp[byv,hx]);have ck:=(hbw.out.cell (p:=⟨gk,ok+k,none⟩) hgk).trans ck1;obtain⟨y1,hy1,oy1⟩:∃y:Nat,x^^^54=y∧bits .xor .u8 (x:Int) 54=y:=⟨_,rfl,u8_xor_nat x 54 lx (by decide)⟩;obtain⟨y2,hy2,oy2⟩:∃y:Nat,x^^^92=y∧bits .xor .u8 (x:Int) 92=y:=⟨_,rfl,u8_xor_nat x 92 lx (by decide)⟩;have hm1:=qy9 (fun x=>x^^^54) hx;have hm2:=qy9 (fun x=>x^^^92) hx;rw[hy1]at hm1;rw[hy2]at hm2;obtain⟨BA,BB⟩:=zh2 hm1 hm2;have hbs:=hbw.out.size;have la:((K.take k).map (fun x=>x^^^54)).length+1≤8589934592:=by rw[List.length_map,List.length_take];omega
    have lb:((K.take k).map (fun x=>x^^^92)).length+1≤8589934592:=by rw[List.length_map,List.length_take];omega
    have AD:=zh1 ck1;clear hx hy1 hy2 hm1 hm2 ck1;go_wp2_with (at_builtin;refine qy8 rfl (.tmp 35) (.tmp 41) rfl W1.heap.size _ _ rfl (hvi.out.alloc _) _ 1 1 [y1] rfl (by simpa using qd0 wr y1) la (by simp;omega) ?_)
    intro v3 w3 hown3 hb3 hg3 he3;have hB3:=(hbw.out.alloc hbs (.cells #[.int .u8 (y1:Int)] 5)).trans hb3;obtain⟨A7,A4⟩:=zh2 ((hvo.out.alloc (.cells #[.int .u8 (y1:Int)] 5)).grownNe hg3 (fun b h e=>hne.out b e h)) (qy6 hne.out hvo.out he3 (by simp));have hb3s:=hB3.size;have ck:=(hB3.cell (p:=⟨gk,ok+k,none⟩) hgk).trans AD.out;have A6:Hid (OwnB w3 W1.heap.size v3 ((K.take (k+1)).map (fun x=>x^^^54))):=zh1 (by rw[BA.out,List.map_take];exact hown3);have AA:=zh1 hB3;clear hown3 hb3 hg3 he3 hB3 hvi hvo hne hbw;go_wp2_with (at_builtin;refine qy8 rfl (.tmp 43) (.tmp 49) rfl W1.heap.size _ _ rfl (A7.out.alloc _) _ 1 1 [y2] rfl (by simpa using qd0 w3 y2) lb (by simp;omega) ?_)
    intro v4 w4 hown4 hb4 hg4 he4;have BC:=zh1 ((AA.out.alloc hb3s (.cells #[.int .u8 (y2:Int)] 5)).trans hb4);have AE:Hid (OwnB w4 W1.heap.size v4 ((K.take (k+1)).map (fun x=>x^^^92))):=zh1 (by rw[BB.out,List.map_take];exact hown4);have AF:Hid (OwnB w4 W1.heap.size v3 ((K.take (k+1)).map (fun x=>x^^^54))):=zh1 ((A6.out.alloc (.cells #[.int .u8 (y2:Int)] 5)).grownNe hg4 (fun b h e=>A4.out b h e));have AG:=zh1 (qy7 A4.out A6.out he4 (by simp));clear hown4 hb4 hg4 he4 AA A7 A4 A6;go_wp2_with fail
    go_roundw
    case rel=>exact⟨k+1,by omega,by go_num,AF,AE,AG,BC⟩
    case measure=>simp[intOf];omega
   have qk:¬(k:Int)<64:=by omega
   obtain rfl:k=64:=by omega
   have hvi':=hvi.out;have hvo':=hvo.out;rw[List.take_of_length_le (by rw[AC.out];exact tA4 _),B3.out]at hvi';rw[List.take_of_length_le (by rw[AC.out];exact tA4 _),B4.out]at hvo';obtain⟨P1,hP1⟩:=xeq (qiy key 54);obtain⟨P2,hP2⟩:=xeq (qiy key 92);have lP1:P1.length=64:=by rw[←hP1];exact qj8 key (by have:=A0.out;omega) 54
   have lP2:P2.length=64:=by rw[←hP2];exact qj8 key (by have:=A0.out;omega) 92
   have bP1:∀x∈P1,x<256:=by rw[←hP1];exact qj7 key AB.out 54 (by decide)
   have bP2:∀x∈P2,x<256:=by rw[←hP2];exact qj7 key AB.out 92 (by decide)
   rw[hP1]at hvi';rw[hP2]at hvo';obtain⟨W2,rfl⟩:=eqx wr;have b02:Below W0.heap.size W0 W2:=hbe.out.trans (hbw.out.mono hw01);have rb2:=AX.out.call b02;have hw12:=hbw.out.size;obtain⟨BD,BE,AH,AI,AJ,A9,AK,AL⟩:=zh8 hvi' hvo' hP1 hP2 lP1 lP2 bP1 bP2;have AM:=zh1 b02;have l5:P1.length+n≤8589934592:=by rw[lP1];omega
   clear hvi' hvo' hP1 hP2 lP1 lP2 bP1 bP2 b02 hvi hvo hbw hbe;go_wp2_with (at_builtin;refine qy8 rfl (.tmp 52) (.tmp 53) rfl W1.heap.size _ _ rfl BD.out A n cc b rfl rb2 l5 hw12 ?_)
   intro v5 w5 hown5 hb5 hg5 he5;have B5:=AM.out.trans (hb5.mono hw01);have vo5:=BE.out.grownNe hg5 (fun b h e=>hne.out b e h);obtain⟨A5,n5,c5,rfl,hnc5,hcm5,hrd5⟩:=hown5.sl;have hn5:n5=64+n:=by have:=qb5 hrd5;rw[tA6,AJ.out]at this;have:=AY.out;omega
   have T5:RTab w5 g:=(show RTab W0 g from AP.out).below B5 glt;have K5:=qy5 g n5 c5 A5 (P1++b) w5 (by intro x hx;rcases List.mem_append.1 hx with h|h;exact AK.out x h;exact AZ.out x h) T5 hrd5 (by omega);obtain⟨D,hD⟩:=xeq (sha (P1++b));rw[hD]at K5;have lD:D.length=32:=by rw[←hD];exact qj5 _
   have bD:∀x∈D,x<256:=by rw[←hD];exact qj6 _
   obtain⟨V,hV⟩:=xeq (byv D);rw[hV]at K5;have lV:V.length=32:=by rw[←hV,qat];exact lD
   have oV:∀u∈V,u.oneCell'=true:=by rw[←hV];exact qau D
   obtain⟨BF,AN,BG,HD,HlD,HbD,HV,HlV⟩:=zh8 K5 vo5 B5 hD lD bD hV lV;obtain⟨HoV,HI⟩:=zh2 oV (zI 29 lV);have hw15:W1.heap.size≤w5.heap.size:=Nat.le_trans hw12 hb5.size;clear K5 vo5 B5 hown5 hb5 hg5 he5 hrd5 T5 hD lD bD hV lV oV hne rb2 hn5;go_wp2_with fail
   refine BF.out.mono ?_;rintro e w6 ⟨rfl,b6⟩;have hb56:=b6.size;obtain⟨AO,BH,Hz6⟩:=zh3 (AN.out.kept b6) (BG.out.trans (b6.mono (Nat.le_trans hw01 hw15))) (Blk.new w6 29 zLD);clear b6;go_upto_region 14 with(refine zst 29 (.tmp 12) (.tmp 55) w6.heap.size V Hz6.out HI.out (by simp[HlV.out]) HoV.out ?_)
   obtain⟨w7,hw7⟩:=eqx ((w6.alloc (.cells zLD 29)).setRow w6.heap.size V.toArray);rw[←hw7];have d7:Blk w7 w6.heap.size 29 V.toArray:=by rw[hw7];exact Hz6.out.setRow _
   have b67:Below w6.heap.size w6 w7:=by rw[hw7];exact below_setRow ((tA5 _ _).alloc (tA4 _) _) (tA4 _) _
   have hb67:=b67.size;have vo7:=AO.out.kept b67;have B7:=BH.out.trans (b67.mono (Nat.le_trans (Nat.le_trans hw01 hw15) hb56));rw[←HV.out]at d7;have rd:=qdg d7 (p:=0) (by omega);rw[HlD.out,List.drop_zero]at rd;have l8:P2.length+32≤8589934592:=by rw[A9.out];omega
   have hw17:W1.heap.size≤w7.heap.size:=Nat.le_trans (Nat.le_trans hw15 hb56) hb67;have BI:=zh1 B7;clear d7 b67 B7 hw7;go_wp2_with (at_builtin;refine qy8 rfl (.tmp 57) (.tmp 58) rfl W1.heap.size _ _ rfl vo7 _ 32 32 D rfl rd l8 hw17 ?_)
   intro v8 w8 hown8 hb8 hg8 he8;have B8:=BI.out.trans (hb8.mono hw01);obtain⟨A8,n8,c8,rfl,hnc8,hcm8,hrd8⟩:=hown8.sl;have hn8:n8=96:=by have:=qb5 hrd8;rw[tA6,A9.out,HlD.out]at this;omega
   have T8:RTab w8 g:=(show RTab W0 g from AP.out).below B8 glt;have K8:=qy5 g n8 c8 A8 (P2++D) w8 (by intro x hx;rcases List.mem_append.1 hx with h|h;exact AL.out x h;exact HbD.out x h) T8 hrd8 (by omega);have hm:sha (P2++D)=mac key b:=by unfold mac;rw[←HD.out,←AH.out,←AI.out]
   rw[hm]at K8;have lM:(byv (mac key b)).length=32:=by rw[qat];exact qj5 _
   have oM:=qau (mac key b);obtain⟨M,hM⟩:=xeq (byv (mac key b));rw[hM]at K8 lM oM;have HM:=zh1 hM;have z8:=AV.out.below B8 gsz;obtain⟨BJ,BK,BL,HlM,HoM,AU⟩:=zh6 K8 B8 z8 lM oM (zI 29 lM);have gw8:G<w8.heap.size:=z8.lt;clear K8 B8 z8 lM oM hM hm T8 hrd8 hown8 hb8 hg8 he8 vo7 rd hn8;go_wp2_with fail
   refine BJ.out.mono ?_;rintro e w9 ⟨rfl,b9⟩;have z9:=BL.out.below b9 gw8;have B9:Below w.heap.size w w9:=(AW.out.trans (BK.out.mono (by have:=HG.out;omega))).trans (b9.mono (by have:=HG.out;omega));go_wp2_with (refine zst 29 (.tmp 6) (.tmp 60) G M z9 AU.out (by simp[HlM.out]) HoM.out ?_)
   have z10:=z9.setRow M.toArray;have BM:=qap z10 0 M (fun j u h=>by simpa using h);exact zrt BM Tryz.underlying29 AU.out ⟨by rw[HM.out],below_setRow B9 (by rw[HG.out];exact tA4 _) _⟩
end
section
open Go.RowKit
theorem qyb (g:Nat)(root:List Nat)(id:Nat)(w:World)(hl:root.length=32)(hr:∀x∈root,x<256)(hid:id<4294967296)(hT:RTab w g):
 Calls Tryz.prog 58 #[.pointer (some ⟨g,0,none⟩),.agg (byv root).toArray,.int .u32 id] w fun e w'=>e=.returned (.agg (tokv id (.slice none 0 0) (qjs root id)).toArray)∧Below w.heap.size w w':=by
 have lR:(byv root).length=32:=by rw[qat];exact hl
 obtain⟨V,hV⟩:=xeq (byv root);rw[hV]at lR ⊢;obtain⟨W0,hW0⟩:=eqx ((w.alloc (.cells V.toArray 29)).alloc (.cells zLT 31));have k0:Blk W0 w.heap.size 29 V.toArray:=by rw[hW0];exact(Blk.new w _ _).alloc _
 have z0:Blk W0 (w.heap.size+1) 31 zLT:=by
  have h:=Blk.new (w.alloc (.cells V.toArray 29)) 31 zLT;rw[qar]at h;rw[hW0];exact h
 have b0:Below w.heap.size w W0:=by rw[hW0];exact qah (qah (tA5 _ _) _) _
 have u0:IntKind.u64.wrap (id:Int)=id:=by rw[IntKind.wrap_u64];omega
 have lW:w.heap.size+1<W0.heap.size:=z0.lt;have glt:g<w.heap.size:=Blk.lt hT;obtain⟨AC,HV,A2,Ht,Hr,Hl,A4,A5⟩:=zh8 lR hV hW0 hT hr hl k0 z0;have A6:=zh1 b0;clear lR hV hW0 hT hr hl k0 z0 b0;go_enter Tryz.func58,Tryz.ntmps58
 go_upto_region 1 with(fail)
 rw[←A2.out];obtain⟨S,HS⟩:∃S:World→Prop,Hid (∀w',S w'):=⟨fun _=>True,fun _=>trivial⟩;refine zrs S 10 [(0,false),(1,false),(2,false),(5,false),(6,false),(3,true),(4,true),(7,true),(8,true),(9,false),(10,true)] (HS.out _) ?_;iterate 5 (refine zrd rfl rfl (fun w1 hS=>by go_simp;(try go_bits);try rfl) ?_;simp only[Act.put,tA0,tA1,tA2])
 obtain⟨Wd,hWd⟩:=eqx W0.drew;rw[←hWd];have kd:Blk Wd w.heap.size 29 V.toArray:=by rw[hWd];exact A4.out
 have zd:Blk Wd (w.heap.size+1) 31 zLT:=by rw[hWd];exact A5.out
 have bd:Below w.heap.size w Wd:=by rw[hWd];exact A6.out.drew
 have ld:w.heap.size+1<Wd.heap.size:=zd.lt;clear hWd A4 A5 A6 A2;obtain⟨w1,hw1⟩:=eqx (Wd.alloc (.cells (byv qjq).toArray 5));have e1:w1.heap[Wd.heap.size]? =some (.cells (byv qjq).toArray 5 (0,0)):=by rw[hw1];exact heap_alloc_new Wd _
 have b1:Below Wd.heap.size Wd w1:=by rw[hw1];exact(tA5 _ _).alloc (tA4 _) _
 have s1:w1.heap.size=Wd.heap.size+1:=by rw[hw1,qar]
 obtain⟨E1,S1⟩:=zh2 hw1 s1;clear hw1 s1;refine qbj rfl rfl ?_;go_simp;refine⟨by first|exact HS.out _|exact fun _=>HS.out _,?_⟩;change qba _ _ _ _ _ _ _ (Wd.alloc (.cells (byv qjq).toArray 5));rw[←E1.out];try simp only[Act.put,tA0,tA1,tA2]
 refine qbj rfl rfl ?_;refine qjw (.tmp 10) rfl Wd.heap.size 5 5 rfl _ e1 ?_;intro w2 g2 l2;refine⟨by first|exact HS.out _|exact fun _=>HS.out _,?_⟩;have b2:Below Wd.heap.size Wd w2:=b1.grown g2 (by have:=S1.out;omega) (by intro g hg;injection hg with hg;omega);have r2:=l2.reads;rw[show qjq.length=5 from rfl]at r2;have N2:=qgb (some ⟨Wd.heap.size,0,none⟩) 5 5 id 4 qjq w2 r2 (by decide) (by omega);rw[show qb0 4=4 from rfl]at N2;obtain⟨A8,A7⟩:=zh2 N2 b2;clear N2 r2 b2 b1 e1 g2 l2;try simp only[Act.put,tA0,tA1,tA2]
 refine qbj rfl rfl ?_;go_simp;refine A8.out.mono ?_;rintro e w3 ⟨v3,rfl,own3,b3⟩;obtain⟨A3,n3,c3,rfl,nc3,-,r3⟩:=own3.sl;have ln3:=qb5 r3;rw[tA6,qaw,show qjq.length=5 from rfl]at ln3;have B3:=A7.out.trans (b3.mono A7.out.size);have k3:=kd.below B3 kd.lt;rw[←HV.out]at k3;have rk:=qdg k3 (p:=0) (by omega);rw[Hl.out,List.drop_zero]at rk;have A1:=bd.trans (B3.mono bd.size);have T3:RTab w3 g:=(show RTab w g from Ht.out).below A1 glt;have M3:=qya g 32 32 n3 c3 _ A3 root (qjq++be id 4) w3 T3 rk r3 Hr.out (by intro x hx;rcases List.mem_append.1 hx with h|h;exact qjr x h;exact qaz _ _ x h) (by omega) (by omega);obtain⟨A9,Z3,A0⟩:=zh3 M3 (zd.below B3 ld) A1;clear M3 ln3 own3 r3 rk k3 b3 B3 A1 T3 kd zd bd;refine⟨by first|exact HS.out _|exact fun _=>HS.out _,?_⟩;try simp only[Act.put,tA0,tA1,tA2]
 refine qbj rfl rfl ?_;go_simp;refine A9.out.mono ?_;rintro e w7 ⟨rfl,b7⟩;rw[show mac root (qjq++be id 4)=qjs root id from rfl];have lM:(byv (qjs root id)).length=32:=by rw[qat];exact qjt _ _
 have oT:=qf3 id (.slice none 0 0) rfl (qjs root id);have bT:=qfr id (byv (qjs root id)) lM (qau _);have hT:(Value.int .u32 (id:Int)::Value.slice none 0 0::byv (qjs root id))=tokv id (.slice none 0 0) (qjs root id):=rfl;have lT:=qer id (.slice none 0 0) (qjs root id) (qjt _ _);rw[hT]at bT;obtain⟨T,hTT⟩:=xeq (tokv id (.slice none 0 0) (qjs root id));rw[hTT]at bT oT lT;obtain⟨D,hD⟩:=xeq (byv (qjs root id));rw[hD]at bT ⊢;obtain⟨BT,AA,HI⟩:=zh3 bT hTT (zI 31 lT);have z7:=Z3.out.below b7 Z3.out.lt;have b77:=A0.out.trans (b7.mono A0.out.size);clear bT hTT hD hT lM;refine⟨by first|exact HS.out _|exact fun _=>HS.out _,?_⟩;try simp only[Act.put,tA0,tA1,tA2]
 refine qbh rfl rfl ⟨.agg T.toArray,fun w1 hS=>?_,?_⟩
 · exact qfq 31 _ rfl _ _ BT.out (by simp[Act.eval])
 try simp only[Act.put,tA0,tA1,tA2]
 refine qbj rfl rfl ?_;refine wp_store_row 31 (.tmp 6) (.tmp 16) rfl (w.heap.size+1) T.toArray rfl rfl 31 _ z7 (by simpa using HI.out) (by simp[lT]) (by simpa using oT) ?_;refine⟨fun h=>absurd h (by omega),?_⟩;refine qbg ?_;go_wp2_with fail
 have z8:=z7.setRow T.toArray;have AB:=qap z8 0 T (fun j u h=>by simpa using h);exact zrt AB Tryz.underlying31 HI.out ⟨by rw[AA.out],below_setRow b77 (by omega) _⟩
end
section
open Go.RowKit
open Go.Extern.Stop (cell)
theorem qyc (R:Req)(cav leafv:Value)(hc:cav.oneCell'=true)(hl:leafv.oneCell'=true):∀u∈reqv R cav leafv,u.oneCell'=true:=by
 intro u hu;unfold reqv at hu;rcases List.mem_append.1 hu with hu|hu
 · rcases List.mem_cons.1 hu with rfl|hu
   · rfl
   exact qf3 _ _ hc _ u hu
 simp[Req.rest]at hu;rcases hu with rfl|rfl|rfl|rfl|rfl|rfl|rfl|rfl|rfl|rfl|rfl|rfl|rfl<;>first|rfl|exact hl
end
end Go.Proofs.YthomgopipiomhaaGreatDoor

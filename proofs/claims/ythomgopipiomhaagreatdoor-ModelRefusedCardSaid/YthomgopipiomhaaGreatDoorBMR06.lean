/- Lemmas. -/
import Derived.Test.YthomgopipiomhaaGreatDoorBMR04
import Derived.Shelf.Small.Bits
import Derived.Shelf.Bits.Mul64
import Derived.Shelf.SlicesE.Clone
import Derived.Shelf.Bytes.SlEqualAll
namespace Go.Proofs.YthomgopipiomhaaGreatDoor
open Go.RowKit
set_option linter.unusedVariables false
set_option linter.unusedSimpArgs false
set_option maxRecDepth 100000
set_option maxHeartbeats 32000000
variable {k g B size n G base b j kk f bytes nt:Nat}{w w' w'' W1 W W':World}{xs X cs vs:List Value}{v a' d' vd vl vq v' u:Value}{col col':Col}{t:Tre}{s s':Sta}{css css':List (List Value)}{L L':Loc}{tt rt gt e st et:TypeId}{hi lo:Int}{Q:Exit→Act→World→Prop}{a:Act}{o:Oper}{rest:List Oper}{c:Cfg}{A:Option Addr}
section
open Go.Shelf
def Tryz.lays125_ren:Go.Shelf.Ren:=⟨fun|125=>247|128=>260|129=>261|n=>n,fun|46=>240|3=>3|51=>22|53=>32|4=>4|5=>5|9=>9|n=>n,fun|n=>n⟩
theorem Tryz.lays125:Go.Proofs.Lays.n125 Tryz.prog Tryz.lays125_ren:={
 mixed:=by kernel_rfl
 f125:=Tryz.func247.trans (congrArg some zk)
 f128:=Tryz.func260.trans (congrArg some zk)
 f129:=Tryz.func261.trans (congrArg some zk)
 t3:=Tryz.underlying3
 a3:=Tryz.isAgg3
 z3:=Tryz.sizeOf3
 v3:=Tryz.zeroValue3
 t4:=Tryz.underlying4
 a4:=Tryz.isAgg4
 z4:=Tryz.sizeOf4
 v4:=Tryz.zeroValue4
 t5:=Tryz.underlying5
 a5:=Tryz.isAgg5
 z5:=Tryz.sizeOf5
 v5:=Tryz.zeroValue5
 t9:=Tryz.underlying9
 a9:=Tryz.isAgg9
 z9:=Tryz.sizeOf9
 v9:=Tryz.zeroValue9
 t46:=Tryz.underlying240
 a46:=Tryz.isAgg240
 z46:=Tryz.sizeOf240
 v46:=Tryz.zeroValue240
 t51:=Tryz.underlying22
 a51:=Tryz.isAgg22
 z51:=Tryz.sizeOf22
 v51:=Tryz.zeroValue22
 t53:=Tryz.underlying32
 a53:=Tryz.isAgg32
 z53:=Tryz.sizeOf32
 v53:=Tryz.zeroValue32}
theorem Tryz.bits_Len(x:Int)(w:World)(h0:0≤x)(h1:x≤18446744073709551615):
 Zc 247 #[.int .u64 x] w fun e w'=>e=.returned (.int .i64 (Lib.bitLen x.toNat))∧w'=w:=Any.bits_Len Tryz.lays125 x w h0 h1
def Tryz.lays264_ren:Go.Shelf.Ren:=⟨fun|264=>155|n=>n,fun|53=>32|46=>240|n=>n,fun|n=>n⟩
theorem Tryz.lays264:Go.Proofs.Lays.n264 Tryz.prog Tryz.lays264_ren:={
 mixed:=by kernel_rfl
 f264:=Tryz.func155.trans (congrArg some zk)
 t46:=Tryz.underlying240
 a46:=Tryz.isAgg240
 z46:=Tryz.sizeOf240
 v46:=Tryz.zeroValue240
 t53:=Tryz.underlying32
 a53:=Tryz.isAgg32
 z53:=Tryz.sizeOf32
 v53:=Tryz.zeroValue32}
open Go.RowKit Go.Lib in
theorem Tryz.bits_Mul64(x y:Nat)(hx:x<18446744073709551616)(hy:y<18446744073709551616)(w:World):
 Zc 155 #[.int .u64 x,.int .u64 y] w fun e w'=>e=.returned (.tuple #[.int .u64 ((x*y / 18446744073709551616:Nat):Int),.int .u64 ((x*y % 18446744073709551616:Nat):Int)])∧w'=w:=Any.bits_Mul64 Tryz.lays264 x y hx hy w
open Go.RowKit Go.Lib in
open Go.RowKit Go.Lib in
def Tryz.lays115_ren:Go.Shelf.Ren:=⟨fun|115=>81|n=>n,fun|37=>23|4=>4|9=>9|5=>5|n=>n,fun|n=>n⟩
theorem Tryz.lays115:Go.Proofs.Lays.n115 Tryz.prog Tryz.lays115_ren:={
 mixed:=by kernel_rfl
 f115:=Tryz.func81.trans (congrArg some zk)
 t4:=Tryz.underlying4
 a4:=Tryz.isAgg4
 z4:=Tryz.sizeOf4
 v4:=Tryz.zeroValue4
 t9:=Tryz.underlying9
 a9:=Tryz.isAgg9
 z9:=Tryz.sizeOf9
 v9:=Tryz.zeroValue9
 t37:=Tryz.underlying23
 a37:=Tryz.isAgg23
 z37:=Tryz.sizeOf23
 v37:=Tryz.zeroValue23}
theorem Tryz.bytes_Equal(v1 v2:Value)(xs ys:List Int)(w:World)(h1:(convert 23 9 v1).run Tryz.prog w=.ok (.string (strOfNums xs)) w)(h2:(convert 23 9 v2).run Tryz.prog w=.ok (.string (strOfNums ys)) w):
 Zc 81 #[v1,v2] w fun e w'=>e=.returned (.bool (Lib.bytesOf xs==Lib.bytesOf ys))∧w'=w:=Any.bytes_Equal Tryz.lays115 v1 v2 xs ys w h1 h2
end
theorem qpt:∀(k x:Nat),x≤k→1≤x→x<2^64→Lib.bitLen x=Nat.log2 x+1
 |0,x,h,h1,_=>by omega
 |k+1,x,h,h1,h2=>by
  rw[Lib.bitLen_half x zo h2];by_cases e:x=1
  · subst e;decide
  rw[qpt k (x / 2) zo zo zo,Nat.log2_def x,if_pos zo];omega
def qpu (a b d:List Nat)(k:Nat):List Nat:=if k=0 then [] else if k=1 then a else if k=2 then a++b else a++b++d
theorem qpv(n:Nat)(w:World)(h2:2≤n)(hn:n≤4294967296):
 Zc 214 #[.int .i64 (n:Int)] w fun e w'=>e=.returned (.int .i64 (half n:Nat))∧w=w':=by
 have hb:=qpt n (n - 1) zo zo zo;have hl:Nat.log2 (n - 1)<32:=by rw[Nat.log2_lt zo];omega
 obtain⟨L,hL⟩:=xeq (Nat.log2 (n - 1));have hh:half n=2^L:=by unfold half;rw[hL]
 have hpw:2^L<4294967296:=by have:=qfs h2;rw[hh]at this;omega
 rw[hL]at hb hl;have hc:IntKind.u64.wrap ((n:Int) - 1)=((n - 1:Nat):Int):=by
  rw[show (n:Int) - 1=((n - 1:Nat):Int) by omega];exact tBa _ zo
 have q1:IntKind.i64.wrap ((n:Int) - 1)=(n:Int) - 1:=tBb _ zo;have B:=fun w=>Tryz.bits_Len ((n - 1:Nat):Int) w zo zo
 rw[tBe,hb]at B;obtain⟨HB,HH,HP,HL⟩:=zh4 B hh hpw hl;clear B hb hL hpw h2 hh hl;go_enter Tryz.func214,Tryz.ntmps214
 go_wp2_with fail
 refine(HB.o w).mono ?_;rintro e w' ⟨rfl,rfl⟩;have q2:IntKind.i64.wrap (L:Int)=(L:Int):=tBb _ (by have:=HL.o;omega);go_wp2_with fail
 have q3:wrap64 ((2:Int)^min L 64)=((2^L:Nat):Int):=by
  have e:min L 64=L:=by have:=HL.o;omega
  have e2:((2:Int)^L)=((2^L:Nat):Int):=by simp
  have hp:((2^L:Nat):Int)<4294967296:=by have:=HP.o;omega
  rw[e,e2];have h0:(0:Int)≤((2^L:Nat):Int):=Int.natCast_nonneg _;generalize ((2^L:Nat):Int)=x at h0 hp ⊢;unfold wrap64;omega
 go_ret
 exact⟨by rw[HH.o,←q3];rfl,rfl⟩
theorem qpw(g n1 c1 n2 c2 n3 c3:Nat)(A1 A2 A3:Option Addr)(b1 b2 b3:List Nat)(w:World)(h0:w.cell? ⟨g,0,none⟩=some (.slice A1 n1 c1))(h1:w.cell? ⟨g,1,none⟩=some (.slice A2 n2 c2))(h2:w.cell? ⟨g,2,none⟩=some (.slice A3 n3 c3))
 (hr1:Reads w w.heap.size 1 A1 n1 (byv b1))(hr2:Reads w w.heap.size 1 A2 n2 (byv b2))(hr3:Reads w w.heap.size 1 A3 n3 (byv b3))(hn:n1+n2+n3≤8589934592):
 Zc 142 #[.slice (some ⟨g,0,none⟩) 3 3] w fun e w'=>∃v,e=.returned v∧OwnB w' w.heap.size v (b1++b2++b3)∧Zb w w':=by
 have l1:=qb5 hr1;have l2:=qb5 hr2;have l3:=qb5 hr3;obtain⟨L1,L2,L3,R1,R2,R3,H0,H1⟩:=zh8 l1 l2 l3 hr1 hr2 hr3 h0 h1;have H2:=zh1 h2;clear l1 l2 l3 hr1 hr2 hr3 h0 h1 h2;go_enter Tryz.func142,Tryz.ntmps142
 go_wp2_with fail
 go_loopw [3,8] (fun v i wr=>∃k:Nat,k≤3∧i=.int .i64 k∧OwnB wr w.heap.size v (qpu b1 b2 b3 k)∧Zb w wr) (fun v i _=>3 - (intOf i).toNat)
 case atStart=>exact⟨0,by omega,rfl,OwnB.nil _ _,tA5 _ _⟩
 case round=>
  obtain⟨k,hk,rfl,hown,hb⟩:=hrel;have hk3:k=0∨k=1∨k=2∨k=3:=zo;rcases hk3 with rfl|rfl|rfl|rfl
  ·
   have hc:=qai H0.o hb;have hr:=R1.call hb;have hl:(qpu b1 b2 b3 0).length+n1≤140737488355328:=by simp[qpu];omega
   have hsz:=hb.size;go_wp2_with (at_builtin;refine qe3 rfl _ _ rfl w.heap.size _ _ rfl hown A1 n1 c1 b1 rfl hr hl hsz ?_)
   intro v' w' ho' hb' _;go_wp2
   go_roundw
   case rel=>exact⟨1,by omega,rfl,by simpa [qpu] using ho',hb.trans hb'⟩
   case measure=>simp[intOf]
  ·
   have hc:=qai H1.o hb;have hr:=R2.call hb;have hl:(qpu b1 b2 b3 1).length+n2≤140737488355328:=by simp[qpu];have:=L1.o;omega
   have hsz:=hb.size;go_wp2_with (at_builtin;refine qe3 rfl _ _ rfl w.heap.size _ _ rfl hown A2 n2 c2 b2 rfl hr hl hsz ?_)
   intro v' w' ho' hb' _;go_wp2
   go_roundw
   case rel=>exact⟨2,by omega,rfl,by simpa [qpu] using ho',hb.trans hb'⟩
   case measure=>simp[intOf]
  ·
   have hc:=qai H2.o hb;have hr:=R3.call hb;have hl:(qpu b1 b2 b3 2).length+n3≤140737488355328:=by simp[qpu];have:=L1.o;have:=L2.o;omega
   have hsz:=hb.size;go_wp2_with (at_builtin;refine qe3 rfl _ _ rfl w.heap.size _ _ rfl hown A3 n3 c3 b3 rfl hr hl hsz ?_)
   intro v' w' ho' hb' _;go_wp2
   go_roundw
   case rel=>exact⟨3,by omega,rfl,by simpa [qpu] using ho',hb.trans hb'⟩
   case measure=>simp[intOf]
  go_wp2
  go_ret
  exact⟨_,rfl,by simpa [qpu] using hown,hb⟩
theorem qpx{t:TypeId}{l:List Nat}(h:Blk w g t (byv l).toArray)(hk:k≤l.length):Reads w w.heap.size 1 (some ⟨g,0,none⟩) k (byv (l.take k)):=by
 refine⟨by rw[qat,tBd];omega,fun _=>⟨_,rfl,h.lt,fun j u hu=>?_⟩⟩;rw[Addr.add_mid,Nat.zero_add,h.cell,tA3];unfold byv at hu ⊢;rw[List.map_take,List.getElem?_take]at hu;split at hu
 · exact hu
 cases hu
theorem qpy(W:Int)(a b:List Nat)(w:World)(la:a.length=32)(lb:b.length=32)(ha:∀x∈a,x<256)(hb:∀x∈b,x<256)(ht:Tabs w):
 Zc 215 #[.int .i64 W,.agg (byv a).toArray,.agg (byv b).toArray] w fun e w'=>e=.returned (.agg (byv (qfr (cutW W) a b)).toArray)∧Zb w w':=by
 obtain⟨W0,hW0⟩:=eqx (((w.alloc (.cells (byv a).toArray 29)).alloc (.cells (byv b).toArray 29)).alloc (.cells zLD 29));have k0:=zNd hW0;have j0:=zNe hW0;have z0:Blk W0 (w.heap.size+1+1) 29 (byv (List.replicate 32 0)).toArray:=by
  have h:=Blk.new ((w.alloc (.cells (byv a).toArray 29)).alloc (.cells (byv b).toArray 29)) 29 zLD;rw[qar,qar]at h;rw[hW0];exact h
 have b0:=zMc hW0;have s0:w.heap.size+1+1<W0.heap.size:=z0.lt;obtain⟨V1,hV1⟩:=xeq (byv a);obtain⟨V2,hV2⟩:=xeq (byv b);have lc:=qfp W;obtain⟨k,hk⟩:=xeq (cutW W);rw[hk]at lc ⊢;obtain⟨A0,K0,J0,Z0,B0,LA,LB,HA⟩:=zh8 hW0 k0 j0 z0 b0 la lb ha;obtain⟨HB,HT,A6,A7,S0,HK⟩:=zh6 hb (ht.below b0 ht.size) hV1 hV2 s0 hk;have C:=qpn W W0;rw[hk]at C;have HC:=zh1 C;rw[hV1,hV2]at hW0;have A0:=zh1 hW0;rw[hV1,hV2];clear hW0 k0 j0 z0 b0 la lb ha hb ht hV1 hV2 s0 hk C;go_enter Tryz.func215,Tryz.ntmps215
 go_wp2_with fail
 rw[←A0.o];refine HC.o.mono ?_;rintro e w' ⟨rfl,rfl⟩;have q3:(0:Int)≤k:=zo;have q4:(k:Int)≤32:=zo;go_upto_region 2 with(fail)
 obtain⟨S,HS⟩:∃S:World→Prop,Hid (∀w',S w'):=⟨fun _=>True,fun _=>trivial⟩;refine zrs S 8 ((0,false)::zq 2 4 [(1,true),(6,true),(7,true),(8,true),(9,true)]) (HS.o _) ?_;iterate 5 (refine zrb ?_)
 obtain⟨Wd,hWd⟩:=eqx W0.drew;have bd:Zb W0 Wd:=by rw[hWd];exact(tA5 _ _).drew
 have sd:Wd.heap.size=W0.heap.size:=by rw[hWd];rfl
 rw[←hWd];clear hWd;refine zw ?_;go_simp;obtain⟨W1,hW1⟩:=eqx (Wd.alloc (.cells #[.int .u8 1] 5));rw[←hW1];have b01:Zb W0 W1:=by rw[hW1];exact bd.alloc bd.size _
 have r1:Reads W1 W1.heap.size 1 (some ⟨W0.heap.size,0,none⟩) 1 (byv [1]):=by rw[hW1,←sd];exact qpr Wd 1
 obtain⟨R1,A2,BD⟩:=zh3 r1 b01 bd;clear r1 b01 bd sd hW1;refine⟨HS.o _,zput ?_⟩;refine zw ?_;go_simp;obtain⟨W2,hW2⟩:=eqx (W1.alloc (.cells #[.slice (some ⟨W0.heap.size,0,none⟩) 1 1,.slice (some ⟨w.heap.size,0,none⟩) k 32,.slice (some ⟨w.heap.size+1,0,none⟩) k 32] 23));rw[←hW2];refine⟨HS.o _,zput ?_⟩;have b01:=A2.o;have r1:=R1.o;have b12:=zMa hW2;have b2:Zb w W2:=(B0.trans (b01.mono B0.size)).trans (b12.mono (tB1 B0.size b01.size));have b02:Zb W0 W2:=b01.trans (b12.mono b01.size);have z2:=Z0.below b02 Z0.lt;have k2:=K0.below b02 K0.lt;have j2:=J0.below b02 J0.lt;have x0:W2.cell? ⟨W1.heap.size,0,none⟩=some (.slice (some ⟨W0.heap.size,0,none⟩) 1 1):=by rw[hW2];exact(qak W1 _ _ 0).trans rfl
 have x1:W2.cell? ⟨W1.heap.size,1,none⟩=some (.slice (some ⟨w.heap.size,0,none⟩) k 32):=by rw[hW2];exact(qak W1 _ _ 1).trans rfl
 have x2:W2.cell? ⟨W1.heap.size,2,none⟩=some (.slice (some ⟨w.heap.size+1,0,none⟩) k 32):=by rw[hW2];exact(qak W1 _ _ 2).trans rfl
 have J:=qpw W1.heap.size 1 1 k 32 k 32 _ _ _ [1] (a.take k) (b.take k) W2 x0 x1 x2 (r1.call b12) (qpx k2 (by rw[LA.o];omega)) (qpx j2 (by rw[LB.o];omega)) zo;obtain⟨HJ,Z2,B2,T2⟩:=zh4 J z2 b2 (HT.below b02 HT.size);clear J z2 b2 k2 j2 r1 x0 x1 x2 b01 b12 b02 hW2;refine zw ?_;go_simp;refine HJ.o.mono ?_;rintro e w3 ⟨v3,rfl,o3,b3⟩;obtain⟨A3,n3,c3,rfl,nc3,-,r3⟩:=o3.sl;have l3:=qb5 r3;have l3':n3≤1152921504606846975:=by
  rw[tA6,tA6,List.length_singleton,tBd,tBd,LA.o,LB.o]at l3;omega
 refine⟨HS.o _,zput ?_⟩;have M:=qpq W (1::(a.take k++b.take k)) A3 n3 c3 w3 (by
  intro x hx;rcases List.mem_cons.1 hx with rfl|h
  · decide
  rcases List.mem_append.1 h with h|h
  · exact HA.o x (tB7 h)
  exact HB.o x (tB7 h)) (by simpa using r3) nc3 l3' (T2.below b3 T2.size)
 rw[HK.o]at M;obtain⟨HM,Z3,B3⟩:=zh3 M (Z2.below b3 Z2.lt) (B2.trans (b3.mono B2.size));clear M o3 b3 r3 l3 l3' nc3;refine zw ?_;go_simp;refine zcb HM.o fun w4 b4=>?_
 obtain⟨Z4,B4⟩:=zh2 (Z3.below b4 Z3.lt) (B3.trans (b4.mono B3.size));clear b4;refine zP ?_;obtain⟨X,hX⟩:=xeq (byv (sumH k (1::(a.take k++b.take k))));have lX:X.length=32:=by rw[←hX,qat];exact qg4 (qjp _) lc.2
 have oX:∀u∈X,u.oneCell'=true:=by rw[←hX];exact qau _
 rw[hX];have HX:=zh1 hX;have IX:(Tryz.prog.info? 29).map (·.size)=some X.length:=by rw[lX];exact Tryz.dig_info
 refine zw ?_;refine wp_store_row 29 (.tmp 6) (.tmp 18) rfl (w.heap.size+1+1) X.toArray rfl rfl 29 _ Z4.o (by simpa using IX) (by simp[lX,qat]) (by simpa using oX) ?_;refine⟨fun h=>absurd h zdc,zput ?_⟩;refine qbg ?_;have z9:=Z4.setRow X.toArray;have A1:=qap z9 0 X zjq;obtain⟨A4,A5⟩:=zh2 A1 IX;clear hX lX oX IX z9 A1;go_wp2_with fail
 exact zrt A4.o zu29 A5.o ⟨by rw[←HX.o];rfl,below_setRow B4.o zo _⟩
def TextsR (w:World)(A:Option Addr)(n:Nat)(ls:List (List Nat)):Prop:=
 ls.length=n∧∃vs:List Value,Reads w w.heap.size 1 A n vs∧∀(i:Nat) (bs:List Nat),ls[i]? =some bs→∃A' n' c',vs[i]? =some (.slice A' n' c')∧n'≤c'∧c'≤maxLen∧Reads w w.heap.size 1 A' n' (byv bs)
section
variable {w w' : World} {A : Option Addr} {n k g o : Nat} {ls : List (List Nat)}
theorem TextsR.call(h:TextsR w A n ls)(hb:Zb w w'):TextsR w' A n ls:=by
 obtain⟨h1,vs,h2,h3⟩:=h;refine⟨h1,vs,h2.call hb,fun i bs hi=>?_⟩;obtain⟨A',n',c',a,b,c,d⟩:=h3 i bs hi;exact⟨A',n',c',a,b,c,d.call hb⟩
theorem Reads.take(h:Reads w B size A n xs)(hk:k≤n):Reads w B size A k (xs.take (k*size)):=by
 refine⟨?_,fun h0=>?_⟩
 · rw[tBd,h.1]
   exact Nat.min_eq_left (Nat.mul_le_mul_right _ hk)
 obtain⟨ad,e,hb,hc⟩:=h.2 zo;refine⟨ad,e,hb,fun j u hu=>hc j u ?_⟩;rw[List.getElem?_take]at hu;split at hu
 · exact hu
 cases hu
theorem TextsR.take(h:TextsR w A n ls)(hk:k≤n):TextsR w A k (ls.take k):=by
 obtain⟨h1,vs,h2,h3⟩:=h;refine⟨by rw[tBd];omega,vs.take k,by simpa using h2.take hk,fun i bs hi=>?_⟩;rw[List.getElem?_take]at hi;split at hi
 · rename_i hlt
   obtain⟨A',n',c',a,b,c,d⟩:=h3 i bs hi;exact⟨A',n',c',by rw[List.getElem?_take,if_pos hlt];exact a,b,c,d⟩
 cases hi
theorem TextsR.drop(h:TextsR w (some ⟨g,o,none⟩) n ls)(hk:k<n):TextsR w (some ⟨g,o+k,none⟩) (n - k) (ls.drop k):=by
 obtain⟨h1,vs,h2,h3⟩:=h;refine⟨by rw[tBk];omega,vs.drop k,⟨?_,fun _=>?_⟩,fun i bs hi=>?_⟩
 · rw[tBk,h2.1];omega
 ·
  obtain⟨b,o',e,hb,hc⟩:=h2.mid zo zo;injection e with e;injection e with e1 e2 _;subst e1 e2;refine⟨_,rfl,hb,fun j u hu=>?_⟩;rw[Addr.add_mid,Nat.add_assoc];exact hc _ _ (by rw[List.getElem?_drop]at hu;exact hu)
 rw[List.getElem?_drop]at hi;obtain⟨A',n',c',a,b,c,d⟩:=h3 _ bs hi;exact⟨A',n',c',by rw[List.getElem?_drop];exact a,b,c,d⟩
theorem TextsR.at_(h:TextsR w A n ls)(hk:k<n):∃g o bs A' n' c',A=some ⟨g,o,none⟩∧g<w.heap.size∧ls[k]? =some bs∧w.cell? ⟨g,o+k,none⟩=some (.slice A' n' c')∧n'≤c'∧c'≤maxLen∧Reads w w.heap.size 1 A' n' (byv bs):=by
 obtain⟨h1,vs,h2,h3⟩:=h;obtain⟨b,o',e,hb,hc⟩:=h2.mid zo zo;have hi:ls[k]? =some ls[k]:=tA7 zo;obtain⟨A',n',c',x,y,z,u⟩:=h3 k _ hi;exact⟨b,o',_,A',n',c',e,hb,hi,hc _ _ x,y,z,u⟩
end
def BsOk (b:List Nat):Prop:=b.length≤4294967296∧∀x∈b,x<256
theorem qpz(W:Int)(pw pf:Nat):∀(m:Nat) (ls:List (List Nat)) (g o n c:Nat) (w:World),ls.length≤m→1≤n→TextsR w (some ⟨g,o,none⟩) n ls→n≤c→c≤maxLen→n≤1048576→(∀b∈ls,BsOk b)→
 w.cell? ⟨pw,0,none⟩=some (.int .i64 W)→w.cell? ⟨pf,0,none⟩=some (.func (.func 212) #[] #[.pointer (some ⟨pw,0,none⟩),.pointer (some ⟨pf,0,none⟩)])→Tabs w→
 Zc 212 #[.slice (some ⟨g,o,none⟩) n c,.pointer (some ⟨pw,0,none⟩),.pointer (some ⟨pf,0,none⟩)] w fun e w'=>e=.returned (.agg (byv (qft (cutW W) ls)).toArray)∧Zb w w':=by
 intro m;induction m with
 |zero=>
  intro ls g o n c w hm h1 ht;have:=ht.1;omega
 |succ m ih=>
  intro ls g o n c w hm h1 ht hnc hcm hn hok hpw hpf hT;have hlen:=ht.1;have AC:=zh1 ih;clear ih;obtain⟨W0,hW0⟩:=eqx (w.alloc (.cells zLD 29));have z0:Blk W0 w.heap.size 29 (byv (List.replicate 32 0)).toArray:=by rw[hW0];exact Blk.new w _ _
  have b0:=zMa hW0;have ht0:=ht.call b0;have pw0:=qai hpw b0;have pf0:=qai hpf b0;obtain⟨AD,Z0,B0,A4,A0,A3,A5,A6⟩:=zh8 hW0 z0 b0 ht0 (hT.below b0 hT.size) pw0 pf0 hok;obtain⟨A7,HL,HM⟩:=zh3 hcm hlen hm;clear hW0 z0 b0 ht0 pw0 pf0 hok hcm hlen hm ht hpw hpf hT;by_cases hn1:n=1
  ·
   subst hn1;obtain⟨g',o',bs,A',n',c',e,hg,hi,hc,h2,h3,h4⟩:=A4.at_ (k:=0) zo;injection e with e;injection e with e1 e2 _;subst e1 e2;have hls:ls=[bs]:=by
    have hl:=HL.o;match ls,hl,hi with
    |[x],_,hi=>simpa using hi
   have hb:BsOk bs:=A6.o bs (by rw[hls];simp);have hln:=qb5 h4;have L:=qps W bs A' n' c';have h4':=h4;obtain⟨AH,H4,HC,AE,AI,AJ,H2⟩:=zh7 L h4 hc hb hls hln h2;clear L h4 h4' hc hb hls hln hi h3 h2;go_enter Tryz.func212,Tryz.ntmps212
   go_upto_region 2 with(fail)
   rw[←AD.o];obtain⟨S,HS⟩:=zS fun w'=>w'.cell? ⟨pw,0,none⟩=some (.int .i64 W)∧w'.cell? ⟨g,o,none⟩=some (.slice A' n' c')
   refine zrs S 4 (zq 0 4 [(4,true),(5,true)]) ((HS.o _).mpr ⟨A3.o,by simpa using HC.o⟩) ?_;repeat(refine zrt0 ?_)
   have M:=AH.o W0.drew AE.o.2 (H4.call (tA5 _ _).drew) H2.o (by rw[←AJ.o];exact AE.o.1) (A0.below ((tA5 _ _).drew) A0.size);rw[show qfq (cutW W) bs=qft (cutW W) ls by rw[AI.o,qfv]]at M;have HM':=zh1 M;clear M;refine zw ?_;go_simp;refine zcb HM'.o fun w4 b4=>?_
   obtain⟨Z4,B4⟩:=zh2 (Z0.drew.below b4 Z0.lt) (B0.drew.trans (b4.mono B0.size));clear b4;obtain⟨X9,hX9⟩:=xeq (byv (qft (cutW W) ls));have lX9:X9.length=32:=by rw[←hX9,qat];exact(qon _ (qfp W).2 ls).1
   have oX9:∀u∈X9,u.oneCell'=true:=by rw[←hX9];exact qau _
   rw[hX9];have A8:=zh1 hX9;have A1:(Tryz.prog.info? 29).map (·.size)=some X9.length:=by rw[lX9];exact Tryz.dig_info
   refine zw ?_;refine wp_store_row 29 (.tmp 4) (.tmp 13) rfl (w.heap.size) X9.toArray rfl rfl 29 _ Z4.o (by simpa using A1) (by simp[lX9,qat]) (by simpa using oX9) ?_;refine⟨fun h=>absurd h zdc,zput ?_⟩;refine qbg ?_;have z9:=Z4.setRow X9.toArray;have A2:=qap z9 0 X9 zjq;obtain⟨A9,AA⟩:=zh2 A2 A1;clear hX9 lX9 oX9 A1 z9 A2;go_wp2_with fail
   exact zrt A9.o zu29 AA.o ⟨(by rw[←A8.o];try rfl),below_setRow B4.o (by first|omega|exact tA4 _) _⟩
  have qn:¬(n:Int)=1:=zo;obtain⟨hk1,hk2,hk3⟩:=qfs (n:=n) zo;have Hhalf:=zh1 (qpv n W0 zo zo);obtain⟨k,hk⟩:=xeq (half n);rw[hk]at hk1 hk2 hk3 Hhalf;have lt1:(ls.take k).length=k:=by rw[tBd,HL.o];omega
  have lt2:(ls.drop k).length=n - k:=by rw[tBk,HL.o]
  have hroot:qft (cutW W) ls=qfr (cutW W) (qft (cutW W) (ls.take k)) (qft (cutW W) (ls.drop k)):=by
   rw[qfw _ (by rw[HL.o];omega),HL.o,hk]
  have C1:∀w1,Zb W0 w1→Zc 212 #[.slice (some ⟨g,o,none⟩) k c,.pointer (some ⟨pw,0,none⟩),.pointer (some ⟨pf,0,none⟩)] w1 fun e w'=>e=.returned (.agg (byv (qft (cutW W) (ls.take k))).toArray)∧Zb w1 w':=fun w1 b1=>
   AC.o (ls.take k) g o k c w1 (by rw[lt1];have:=HM.o;have:=HL.o;omega) hk1 ((A4.take zo).call b1) zo A7.o zo (fun b hb=>A6.o b (tB7 hb)) (qai A3.o b1) (qai A5.o b1) (A0.below b1 A0.size)
  have C2:∀w1,Zb W0 w1→Zc 212 #[.slice (some ⟨g,o+k,none⟩) (n - k) (c - k),.pointer (some ⟨pw,0,none⟩),.pointer (some ⟨pf,0,none⟩)] w1 fun e w'=>e=.returned (.agg (byv (qft (cutW W) (ls.drop k))).toArray)∧Zb w1 w':=fun w1 b1=>
   AC.o (ls.drop k) g (o+k) (n - k) (c - k) w1 (by rw[lt2];have:=HM.o;have:=HL.o;omega) zo ((A4.drop hk2).call b1) zo (by have:=A7.o;omega) zo (fun b hb=>A6.o b (List.mem_of_mem_drop hb)) (qai A3.o b1) (qai A5.o b1) (A0.below b1 A0.size)
  have C3:=fun w1 h=>qpy W (qft (cutW W) (ls.take k)) (qft (cutW W) (ls.drop k)) w1 (qon _ (qfp W).2 _).1 (qon _ (qfp W).2 _).1 (qon _ (qfp W).2 _).2 (qon _ (qfp W).2 _).2 h
  rw[←hroot]at C3;obtain⟨AF,AG,AB,AK⟩:=zh4 C1 C2 C3 hroot;have lX:(qft (cutW W) ls).length=32:=(qon _ (qfp W).2 ls).1;have LX:=zh1 lX;obtain⟨R1,hR1⟩:=xeq (byv (qft (cutW W) (ls.take k)));obtain⟨R2,hR2⟩:=xeq (byv (qft (cutW W) (ls.drop k)));rw[hR1]at AF AB;rw[hR2]at AG AB;have hcc:=A7.o;unfold maxLen at hcc;have q1:(0:Int)≤k:=zo;have q2:(k:Int)≤n:=zo;have q3:(k:Int)≤c:=zo;have q4:¬c=k:=zo;clear C1 C2 C3 hroot lt1 lt2 hR1 hR2 hk lX hcc;go_enter Tryz.func212,Tryz.ntmps212
  go_wp2_with fail
  rw[←AD.o];refine Hhalf.o.mono ?_;rintro e w' ⟨rfl,rfl⟩;go_upto_region 4 with(fail)
  obtain⟨S,HS⟩:=zS fun w'=>Zb W0 w'
  refine zrs S 11 (zq 0 5 (zq 6 4 [(5,true),(10,true),(11,true),(12,true)])) ((HS.o _).mpr (tA5 _ _).drew) ?_;obtain⟨F0,F1⟩:=zh2 (zF HS A3.o) (zF HS A5.o);iterate 9 (refine zr2 ?_)
  obtain⟨Wd,hWd,bd⟩:=zdr W0;rw[←hWd];clear hWd;refine zw ?_;go_simp;refine zcb (AF.o Wd bd) fun w1 b1=>?_
  have b1':=bd.trans (b1.mono bd.size);refine⟨(HS.o _).mpr b1',zput ?_⟩;refine zw ?_;go_simp;refine zcb (AG.o w1 b1') fun w2 b2=>?_
  have b2':=b1'.trans (b2.mono b1'.size);refine⟨(HS.o _).mpr b2',zput ?_⟩;refine zw ?_;go_simp;refine zcb (AB.o w2 (A0.below b2' A0.size)) fun w4 b4=>?_
  have b4':=b2'.trans (b4.mono b2'.size);obtain⟨Z4,B4⟩:=zh2 (Z0.below b4' Z0.lt) (B0.trans (b4'.mono B0.size));clear b4 b4' b1 b1' b2 b2' bd;obtain⟨X9,hX9⟩:=xeq (byv (qft (cutW W) ls));have lX9:X9.length=32:=by rw[←hX9,qat];exact LX.o
  have oX9:∀u∈X9,u.oneCell'=true:=by rw[←hX9];exact qau _
  rw[hX9];have A8:=zh1 hX9;have A1:(Tryz.prog.info? 29).map (·.size)=some X9.length:=by rw[lX9];exact Tryz.dig_info
  refine zw ?_;refine wp_store_row 29 (.tmp 4) (.tmp 28) rfl (w.heap.size) X9.toArray rfl rfl 29 _ Z4.o (by simpa using A1) (by simp[lX9,qat]) (by simpa using oX9) ?_;refine⟨fun h=>absurd h zdc,zput ?_⟩;refine qbg ?_;have z9:=Z4.setRow X9.toArray;have A2:=qap z9 0 X9 zjq;obtain⟨A9,AA⟩:=zh2 A2 A1;clear hX9 lX9 oX9 A1 z9 A2;go_wp2_with fail
  exact zrt A9.o zu29 AA.o ⟨(by rw[←A8.o];try rfl),below_setRow B4.o (by first|omega|exact tA4 _) _⟩
theorem qq0(W:Int)(ls:List (List Nat))(A:Option Addr)(n c:Nat)(w:World)(ht:TextsR w A n ls)(hnc:n≤c)(hcm:c≤maxLen)(hn:n≤1048576)(hok:∀b∈ls,BsOk b)(hT:Tabs w):
 Zc 174 #[.int .i64 W,.slice A n c] w fun e w'=>e=.returned (.agg (byv (qft (cutW W) ls)).toArray)∧Below w.heap.size w w':=by
 obtain⟨W0,hW0⟩:=eqx ((w.alloc (.cells #[.int .i64 W] 3)).alloc (.cells zLD 29));have c0:=zNb hW0;have z0:Blk W0 (w.heap.size+1) 29 (byv (List.replicate 32 0)).toArray:=by
  have h:=Blk.new (w.alloc (.cells #[.int .i64 W] 3)) 29 zLD;rw[qar]at h;rw[hW0];exact h
 have b0:=zMb hW0;have s0:W0.heap.size=w.heap.size+1+1:=by rw[hW0];simp
 have l0:=ht.1;obtain⟨A6,C0,Z0,B0,A7,A1,A8,L0⟩:=zh8 hW0 c0 z0 b0 (ht.call b0) (hT.below b0 hT.size) hok l0;have S0:=zh1 s0;by_cases h0:n=0
 ·
  subst h0;have hl:ls=[]:=tB8 L0.o;subst hl;have cc:=c0.cell 0;rw[show (#[Value.int .i64 W]:Array Value)[0]? =some (.int .i64 W) from rfl]at cc;have M:=qpq W [] none 0 0 W0 zm Reads.none_ zo zo A1.o;rw[show sumH (cutW W) []=qft (cutW W) [] from(qfu _).symm]at M;have HM:=zh1 M;clear M hW0 c0 z0 b0 ht hT hok l0 s0;have cc:=zh1 cc;clear cc;have cc:=C0.cell 0;rw[show (#[Value.int .i64 W]:Array Value)[0]? =some (.int .i64 W) from rfl]at cc;rw[A6.o]at cc;go_enter Tryz.func174,Tryz.ntmps174
  go_wp2_with fail
  rw[←A6.o];refine zcb HM.o fun w1 b1=>?_
  obtain⟨Z1,B1⟩:=zh2 (Z0.below b1 Z0.lt) (B0.trans (b1.mono B0.size));clear b1 cc;obtain⟨X9,hX9⟩:=xeq (byv (qft (cutW W) []));have lX9:X9.length=32:=by rw[←hX9,qat];exact(qon _ (qfp W).2 []).1
  have oX9:∀u∈X9,u.oneCell'=true:=by rw[←hX9];exact qau _
  try rw[hX9]
  obtain⟨A2,A3,A4,A0⟩:=zh4 hX9 lX9 oX9 (zI 29 lX9);clear hX9 lX9 oX9;go_wp2_with (refine zst Z1.o A0.o (by simp[A3.o,qat]) A4.o ?_)
  have z9:=Z1.setRow X9.toArray;have A5:=qap z9 0 X9 zjq;exact zrt A5 zu29 A0.o ⟨(by rw[←A2.o];try rfl),below_setRow B1.o (by first|omega|exact tA4 _) _⟩
 have qn:¬(n:Int)=0:=zo;obtain⟨g,o,bs,A',n',c',rfl,-⟩:=A7.at_ (k:=0) zo;obtain⟨W1,hW1⟩:=eqx ((W0.alloc (.cells #[.nilFunc] 309)).setCell ⟨w.heap.size+1+1,0,none⟩ (.func (.func 212) #[] #[.pointer (some ⟨w.heap.size,0,none⟩),.pointer (some ⟨w.heap.size+1+1,0,none⟩)]));have hmf:=zmf;have f0:Blk (W0.alloc (.cells #[.nilFunc] 309)) (w.heap.size+1+1) 309 #[.nilFunc]:=by
  have h:=Blk.new W0 309 #[.nilFunc];rw[s0]at h;exact h
 have hst:(store ⟨w.heap.size+1+1,0,none⟩ (.func (.func 212) #[] #[.pointer (some ⟨w.heap.size,0,none⟩),.pointer (some ⟨w.heap.size+1+1,0,none⟩)])).run Tryz.prog (W0.alloc (.cells #[.nilFunc] 309))=.ok () W1:=by
  rw[run_store Tryz.prog _ _ _ _ (by rfl),f0.cell 0,f0.frozen 0,hW1];rfl
 have cf:Blk W1 (w.heap.size+1+1) 309 #[.func (.func 212) #[] #[.pointer (some ⟨w.heap.size,0,none⟩),.pointer (some ⟨w.heap.size+1+1,0,none⟩)]]:=by
  rw[hW1];exact f0.set_ 0 _
 have b1:Below W0.heap.size W0 W1:=by
  rw[hW1];exact(qah (tA5 _ _) _).setCell (by rw[s0];exact tA4 _) _
 rw[hW0]at hst;have C1:=C0.below b1 C0.lt;have R:=qpz W w.heap.size (w.heap.size+1+1) n ls g o n c W1 (by rw[l0];exact tA4 _) zo (A7.call b1) hnc hcm hn hok (by rw[C1.cell];rfl) (by rw[cf.cell];rfl) (A1.below b1 A1.size);have HR:=zh1 R;have cc:=cf.cell 0;rw[show (#[Value.func (.func 212) #[] #[.pointer (some ⟨w.heap.size,0,none⟩),.pointer (some ⟨w.heap.size+1+1,0,none⟩)]]:Array Value)[0]? =some (.func (.func 212) #[] #[.pointer (some ⟨w.heap.size,0,none⟩),.pointer (some ⟨w.heap.size+1+1,0,none⟩)]) from rfl]at cc;obtain⟨Z1,B1⟩:=zh2 (Z0.below b1 Z0.lt) (B0.trans (b1.mono B0.size));clear hW0 c0 z0 b0 ht hT hok l0 s0 f0 cf b1 C1 R hW1 hnc hcm hn;go_enter Tryz.func174,Tryz.ntmps174
 go_wp2_with fail
 refine zcb HR.o fun w4 b4=>?_
 obtain⟨Z4,B4⟩:=zh2 (Z1.below b4 Z1.lt) (B1.trans (b4.mono B1.size));clear b4 cc hst;obtain⟨X9,hX9⟩:=xeq (byv (qft (cutW W) ls));have lX9:X9.length=32:=by rw[←hX9,qat];exact(qon _ (qfp W).2 ls).1
 have oX9:∀u∈X9,u.oneCell'=true:=by rw[←hX9];exact qau _
 try rw[hX9]
 obtain⟨A2,A3,A4,A0⟩:=zh4 hX9 lX9 oX9 (zI 29 lX9);clear hX9 lX9 oX9;go_wp2_with (refine zst Z4.o A0.o (by simp[A3.o,qat]) A4.o ?_)
 have z9:=Z4.setRow X9.toArray;have A5:=qap z9 0 X9 zjq;exact zrt A5 zu29 A0.o ⟨(by rw[←A2.o];try rfl),below_setRow B4.o (by first|omega|exact tA4 _) _⟩
theorem TextsC.reads{ls:List (List Nat)}(h:TextsC w col k v ls):∃A c,v=.slice A ls.length c∧ls.length≤c∧c≤maxLen∧TextsR w A ls.length ls:=by
 obtain⟨vs,A,c,h1,h2,h3,h4,h5⟩:=h.sl;refine⟨A,c,h1,h2,h3,rfl,vs,h4,fun i bs hi=>?_⟩;obtain⟨u,hu,A',n',c',rfl,a,b,d,_⟩:=h5 i bs hi;exact⟨A',n',c',hu,a,b,d⟩
theorem LeafOk.bs{b:List Nat}(h:LeafOk b):BsOk b:=⟨by have:=h.1;omega,h.2⟩
def stav (s:Sta)(L:Loc):List Value:=[.int .u64 (s.clock:Int),.int .u32 (s.draw:Int),.int .i64 s.lane,.slice (some ⟨L.tg,0,none⟩) 16 L.tc,.slice (some ⟨L.rg,0,none⟩) 16 L.rc,.slice (some ⟨L.gg,0,none⟩) s.gras.length L.gc]
theorem StAt.tree(h:StAt tt rt gt w col k L css s)(hs:s.Ok)(ht:s.tres[n]? =some t):
 n<16∧∃Ad cd Al cl Aq cq,css[n]? =some (trev t (.slice Ad t.draws.length cd) (.slice Al t.leaves.length cl) (.slice Aq t.queue.length cq))∧
  (∀j u,(trev t (.slice Ad t.draws.length cd) (.slice Al t.leaves.length cl) (.slice Aq t.queue.length cq))[j]? =some u→w.cell? ⟨L.rg,n*75+j,none⟩=some u)∧
  RowC w col (10+3*n) (.slice Ad t.draws.length cd) 22 1 t.draws.length (drwv t.draws)∧TextsC w col (11+3*n) (.slice Al t.leaves.length cl) t.leaves∧TextsC w col (12+3*n) (.slice Aq t.queue.length cq) t.queue:=by
 obtain⟨hn,_⟩:=tA8 ht;obtain⟨cs,h1,vd,vl,vq,e,h2,h3,h4⟩:=h.trs.2 n t ht;obtain⟨Ad,cd,rfl,_⟩:=h2.sl;obtain⟨_,Al,cl,rfl,_⟩:=h3.sl;obtain⟨_,Aq,cq,rfl,_⟩:=h4.sl;subst e;refine⟨by rw[←hs.tresn];exact hn,Ad,cd,Al,cl,Aq,cq,h1,fun j u hu=>?_,h2,h3,h4⟩;have hl:=h.trs.lens (fun t ht=>(hs.tres t ht).hd);obtain⟨hj,_⟩:=tA8 hu;rw[hl _ (tB2 h1)]at hj;exact h.tres.cell ((qnw hl h1 hj).trans hu)
theorem qq1(c:Cfg)(s:Sta)(L:Loc)(col:Col)(k:Nat)(css:List (List Value))(n:Nat)(t:Tre)(As:Option Addr)(ns cs:Nat)(w:World)(hc:c.Ok)(hs:s.Ok)
 (hr:Reads w w.heap.size 1 As ns (byv c.seed))(hst:StAt 92 74 66 w col k L css s)(ht:s.tres[n]? =some t)(hd:t.draws≠[])(hT:Tabs w):
 Zc 121 #[.agg #[.int .i64 c.width,.int .i64 c.quantum,.int .u32 (c.store:Int),.slice As ns cs],.agg (stav s L).toArray,.int .i64 (n:Int)] w fun e w'=>e=.returned (.tuple #[.agg (hdv (pubT c s.clock n t)).toArray,.int .i64 0])∧Zb w w':=by
 obtain⟨hn,Ad,cd,Al,cl,Aq,cq,hcs,hcell,hrd,hrl,hrq⟩:=hst.tree hs ht;have hto:=hs.tre ht;obtain⟨D,hD⟩:=xeq (trev t (.slice Ad t.draws.length cd) (.slice Al t.leaves.length cl) (.slice Aq t.queue.length cq));have lD:D.length=75:=by rw[←hD];exact qo3 _ _ _ hto.hd
 have d4:D[4]? =some (.slice Ad t.draws.length cd):=by rw[←hD];rfl
 have d5:D[5]? =some (.slice Al t.leaves.length cl):=by rw[←hD];rfl
 rw[hD]at hcell;have c4:=hcell 4 _ d4;obtain⟨nd,hnd⟩:=xeq t.draws.length;have nd0:0<nd:=by rw[←hnd];exact List.length_pos_iff.2 hd
 rw[hnd]at d4 c4 hrd;obtain⟨W0,hW0⟩:=eqx (((w.alloc (.cells #[.int .i64 c.width,.int .i64 c.quantum,.int .u32 (c.store:Int),.slice As ns cs] 25)).alloc (.cells #[.int .u64 (s.clock:Int),.int .u32 (s.draw:Int),.int .i64 s.lane,.slice (some ⟨L.tg,0,none⟩) 16 L.tc,.slice (some ⟨L.rg,0,none⟩) 16 L.rc,.slice (some ⟨L.gg,0,none⟩) s.gras.length L.gc] 49)).alloc (.cells Tryz.zeroCells55 55));have b0:=zMc hW0;have k0:=zNd hW0;have s0:=zNe hW0;have z0:Blk W0 (w.heap.size+1+1) 55 (hdv Hd.zero).toArray:=by
  have h:=Blk.new ((w.alloc (.cells #[.int .i64 c.width,.int .i64 c.quantum,.int .u32 (c.store:Int),.slice As ns cs] 25)).alloc (.cells #[.int .u64 (s.clock:Int),.int .u32 (s.draw:Int),.int .i64 s.lane,.slice (some ⟨L.tg,0,none⟩) 16 L.tc,.slice (some ⟨L.rg,0,none⟩) 16 L.rc,.slice (some ⟨L.gg,0,none⟩) s.gras.length L.gc] 49)) 55 Tryz.zeroCells55;rw[qar,qar]at h;rw[hW0];rw[show (hdv Hd.zero).toArray=Tryz.zeroCells55 by kernel_rfl];exact h
 have e4:=qai c4 b0;have q1:¬(n:Int)<0:=zo;have q2:¬(16:Int)≤n:=zo;have q3:¬(nd:Int)=0:=zo;have q4:(n:Int)<16:=zo;have q5:(0:Int)≤n:=zo;show Zc 121 #[.agg #[.int .i64 c.width,.int .i64 c.quantum,.int .u32 (c.store:Int),.slice As ns cs],.agg #[.int .u64 (s.clock:Int),.int .u32 (s.draw:Int),.int .i64 s.lane,.slice (some ⟨L.tg,0,none⟩) 16 L.tc,.slice (some ⟨L.rg,0,none⟩) 16 L.rc,.slice (some ⟨L.gg,0,none⟩) s.gras.length L.gc],.int .i64 (n:Int)] w _;obtain⟨A3,AF,AG,D5,D4,LD,HD,K0⟩:=zh8 hcell hrd hrl d5 d4 lD hD k0;obtain⟨S0,Z0,B0,HT,HR,A1,HS,HC⟩:=zh8 s0 z0 b0 hT hr hto hs hc;obtain⟨A2,AU⟩:=zh2 hnd hd;rw[hW0]at e4;have AH:=zh1 hW0;clear hcs hcell hrd hrl hrq c4 d4 d5 lD hD k0 s0 z0 b0 hT hr hto hs hc hnd hd hW0 hst ht;go_enter Tryz.func121,Tryz.ntmps121
 go_upto_region 3 with(fail)
 clear e4;rw[←AH.o];have cs4:=S0.cell 4;rw[show (#[Value.int .u64 (s.clock:Int),.int .u32 (s.draw:Int),.int .i64 s.lane,.slice (some ⟨L.tg,0,none⟩) 16 L.tc,.slice (some ⟨L.rg,0,none⟩) 16 L.rc,.slice (some ⟨L.gg,0,none⟩) s.gras.length L.gc]:Array Value)[4]? =some (.slice (some ⟨L.rg,0,none⟩) 16 L.rc) from rfl]at cs4;have hrg:W0.rangeAt L.rg (n*75) D:=fun j u hu=>qai (A3.o j u hu) B0.o
 have AI:=zh1 hrg;have y0:=Blk.new W0 74 Tryz.zeroCells74;obtain⟨Y0,HI⟩:=zh2 y0 (zI 74 LD.o);have OD:=zh1 (show ∀u∈D,u.oneCell'=true by
  rw[←HD.o];intro u hu;unfold trev at hu;simp only[List.mem_cons]at hu;rcases hu with rfl|rfl|rfl|rfl|rfl|rfl|rfl|hu
  · rfl
  · rfl
  · rfl
  · rfl
  · rfl
  · rfl
  · rfl
  exact qmr _ u hu)
 have hsz0:Tryz.zeroCells74.size=75:=by kernel_rfl
 have AJ:=zh1 hsz0;have s01:w.heap.size+1<W0.heap.size:=S0.lt;clear hrg y0 hsz0;go_upto_region 4 with(first
  |(refine zld AI.o zu74 HI.o ?_)
  |(refine zst Y0.o HI.o (by simp[LD.o,AJ.o]) OD.o ?_))
 obtain⟨W1,hW1⟩:=eqx ((W0.alloc (.cells Tryz.zeroCells74 74)).setRow W0.heap.size D.toArray);rw[←hW1];have y1:Blk W1 W0.heap.size 74 D.toArray:=by rw[hW1];exact Y0.setRow _
 have b1:Zb W0 W1:=by rw[hW1];exact below_setRow ((tA5 _ _).alloc (tA4 _) _) (tA4 _) _
 have e4:=(y1.cell 4).trans (show D.toArray[4]? =some (.slice Ad nd cd) by rw[tA3];exact D4.o);have q6:IntKind.i64.wrap ((nd:Int) - 1)=((nd - 1:Nat):Int):=by rw[tBb _ (by have:=A1.draws;have:=A2.o;omega)];omega
 have q7:wrap64 ((nd:Int) - 1)=((nd - 1:Nat):Int):=by rw[IntWalk.wrap64_in _ (by have:=A1.draws;have:=A2.o;omega)];omega
 obtain⟨Y1,B1,A0,LY⟩:=zh4 y1 b1 (B0.trans (b1.mono B0.size)) y1.lt;clear hW1 y1 b1 cs4;go_upto_region 5 with(fail)
 clear e4 q6 q7;obtain⟨ep,hep⟩:=xeq (nd - 1);rw[hep];have ep1:ep+1=nd:=zo;have hepb:ep<32:=by have:=A1.draws;have:=A2.o;omega
 obtain⟨A8,A9⟩:=zh2 ep1 hep;clear hep ep1;obtain⟨nl,hnl⟩:=xeq t.leaves.length;obtain⟨Al',cl',ev,hlc,hlm,hLR⟩:=AG.reads;injection ev with ev1 ev2 ev3;subst ev1 ev3;have D5':=D5.o;rw[hnl]at hlc hLR D5';have hnlb:nl≤1024:=by have:=A1.leaves;omega
 obtain⟨dv,hdvv⟩:∃d,t.draws[ep]? =some d:=⟨_,tA7 (by rw[A2.o,←A8.o];omega)⟩;have hdvb:dv<4294967296:=A1.drawb dv (tB2 hdvv);have hlast:t.draws.getLastD 0=dv:=by
  rw[List.getLastD_eq_getLast?,List.getLast?_eq_getElem?,A2.o,A9.o,hdvv];rfl
 obtain⟨Ad',cd',ev,hdc,hdm,hDR,-⟩:=AF.sl;injection ev with ev1 _ ev3;subst ev1 ev3;obtain⟨gd,od,rfl,gdlt,hdcell⟩:=hDR.mid zo zo;have cdv:=hdcell ep _ (show (drwv t.draws)[ep]? =some (.int .u32 (dv:Int)) by unfold drwv;rw[tBj,hdvv];rfl);obtain⟨h0,hh0⟩:∃h:Hd,h=⟨(n:Int),(ep:Int),nl,s.clock,qft (cutW c.width) t.leaves,[]⟩:=⟨_,rfl⟩;have hpub:pubT c s.clock n t=signed (keyOf c.seed n ep dv) h0:=by
  unfold pubT;rw[A2.o,A9.o,hlast,hnl,hh0]
 have rok:=qon (cutW c.width) (qfp c.width).2 t.leaves;have h0r:h0.root.length=32∧∀x∈h0.root,x<256:=by rw[hh0];exact rok
 have bH:=qp2 (.int .i64 (n:Int)) (.int .i64 (ep:Int)) (.int .u64 (nl:Int)) (.int .u64 (s.clock:Int)) (byv (qft (cutW c.width) t.leaves)) (by rw[qat];exact rok.1) ⟨_,rfl⟩ ⟨_,rfl⟩ ⟨_,rfl⟩ ⟨_,rfl⟩;rw[show (Value.int .i64 (n:Int)::.int .i64 (ep:Int)::.int .u64 (nl:Int)::.int .u64 (s.clock:Int)::byv (qft (cutW c.width) t.leaves))=hd0v h0 by rw[hh0];rfl]at bH;have lH:=qp3 h0 h0r.1;have oH:∀u∈hd0v h0,u.oneCell'=true:=by
  intro u hu;unfold hd0v at hu;simp only[List.mem_cons]at hu;rcases hu with rfl|rfl|rfl|rfl|hu
  · rfl
  · rfl
  · rfl
  · rfl
  exact qau _ _ hu
 have MR:=fun w1 (b:Zb W1 w1)=>qq0 c.width t.leaves Al nl cl w1 ((hLR.call A0.o).call b) hlc hlm zo (fun b hb=>(A1.leafb b hb).bs) (HT.below (A0.trans (b.mono A0.size)) HT.size)
 have SG:=fun w1 (b:Zb W1 w1)=>qp7 (keyOf c.seed n ep dv) h0 w1 (qkf _ _) (qkg _ _) (by rw[hh0];exact⟨by show (0:Int)≤(n:Int);omega,by show (n:Int)<4294967296;omega⟩) (by rw[hh0];exact⟨by show (0:Int)≤(ep:Int);omega,by show (ep:Int)<4294967296;omega⟩) (by rw[hh0];show nl<18446744073709551616;omega) (by rw[hh0];exact HS.clock) h0r.1 h0r.2 (HT.below (A0.trans (b.mono A0.size)) HT.size)
 have KK:=fun w1 (b:Zb W1 w1)=>qoz c.seed n ep dv As ns cs w1 ((HR.call A0.o).call b) HC.seedb (by have:=HC.seed;have:=qb5 HR.o;omega) zo zo hdvb (HT.below (A0.trans (b.mono A0.size)) HT.size)
 obtain⟨RV,hRV⟩:=xeq (byv (qft (cutW c.width) t.leaves));obtain⟨H0,hH0⟩:=xeq (hd0v h0);obtain⟨KV,hKV⟩:=xeq (byv (keyOf c.seed n ep dv));obtain⟨X,hX⟩:=xeq (hdv (signed (keyOf c.seed n ep dv) h0));have lX:X.length=68:=by rw[←hX];unfold hdv signed;simp only[tBi,tA6,qat,h0r.1,qkf]
 have oX:∀u∈X,u.oneCell'=true:=by rw[←hX];exact qmr _
 rw[hRV]at bH;simp only[hRV]at MR;simp only[hH0,hKV,hX]at SG;simp only[hKV]at KK;rw[hH0]at bH lH oH;have A4:=zh1 (show hdv (pubT c s.clock n t)=X by rw[hpub];exact hX);have q8:IntKind.u64.wrap (nl:Int)=(nl:Int):=tBa _ zo;obtain⟨cdv1,AA,AK,AB,A5,AL,AC,AM⟩:=zh8 cdv lX oX bH lH oH MR SG;obtain⟨AN,AO,A6⟩:=zh3 KK D5' (show (ep:Int)<nd by have:=A8.o;omega);clear hlc hlm hLR hnlb hdvb hlast hdm hDR hdcell cdv hpub rok h0r bH lH oH MR SG KK lX oX D5' hX hH0 hKV hRV hh0 hdvv hnl;obtain⟨S,HS9⟩:=zS fun w'=>Zb W1 w'
 refine qk3 S 15 [52,53,10] [(0,false),(1,false),(2,false),(3,false),(4,false),(5,false),(6,false),(7,false),(8,false),(9,false),(10,false),(11,false)] 3 (.two 12 (.read 13 (.one 14 .done)) 14 (.one 12 (.read 13 .done))) [(15,true)] #[true,true,true,true,true,true,true,true,true,true,true,true,false,false,false,false] #[true,true,true,true,true,true,true,true,true,true,true,true,true,true,true,false] zk rfl zk zk zk zk zk (fun _ _ d _ _ h=>by cases d<;>exact h) ((HS9.o _).mpr ((tA5 _ _).drew)) ?_;obtain⟨F0,F1,F2⟩:=zh3 (fun(w':World)(h:S w')=>(Y1.below ((HS9.o w').mp h) Y1.lt).cell 5 |>.trans (show D.toArray[5]? =some (.slice Al nl cl) by rw[tA3];exact AO.o)) (fun(w':World)(h:S w')=>(show w'.cell? ⟨w.heap.size+1,0,none⟩=some (.int .u64 (s.clock:Int)) from((S0.below B1.o S0.lt).below ((HS9.o w').mp h) (tB0 S0.lt B1.size)).cell 0)) (fun(w':World)(h:S w')=>(show w'.cell? ⟨w.heap.size,0,none⟩=some (.int .i64 c.width) from((K0.below B1.o K0.lt).below ((HS9.o w').mp h) (tB0 K0.lt B1.size)).cell 0));iterate 12 (refine qkb rfl rfl ⟨?_,fun w1 hS=>?_,?_⟩;rotate_left;(focus(have g0:=F0.o w1 hS;have g1:=F1.o w1 hS;have g2:=F2.o w1 hS;clear hS;go_simp;try rfl));simp only[Act.put,tA0,tA1,tA2])
 refine qka ?_;obtain⟨Wd,hWd⟩:=eqx W1.drew;have bd:Zb W1 Wd:=by rw[hWd];exact(tA5 _ _).drew
 rw[←hWd];have BD:=zh1 bd;clear hWd bd;refine⟨fun vs w'=>∃g9,vs=[.agg RV.toArray,.agg H0.toArray,.pointer (some ⟨g9,0,none⟩)]∧Blk w' g9 53 zLS∧W1.heap.size≤g9∧Zb W1 w',?_,?_⟩
 ·
  refine qk9 rfl rfl rfl rfl ?_ ?_
  ·
   go_simp;refine zcb (AC.o Wd BD.o) fun w2 b2=>?_
   have B2:=zh1 (BD.trans (b2.mono BD.size));clear b2;refine⟨(HS9.o _).mpr B2.o,?_⟩;refine zP ?_;refine qk5 rfl rfl ⟨.agg H0.toArray,fun w1 hS=>qgr 53 _ rfl _ _ AB.o (by simp[Act.eval]),?_⟩;refine zP ?_;refine qk7 rfl rfl ?_;go_simp;refine⟨(HS9.o _).mpr (B2.alloc B2.size _),qk4 ⟨[_,_,_],rfl,w2.heap.size,rfl,Blk.new _ _ _,B2.size,B2.alloc B2.size _⟩⟩
  go_simp;obtain⟨w2,hw2⟩:=eqx (Wd.alloc (.cells zLS 53));rw[←hw2];have z2:=zNa hw2;have b2:Zb W1 w2:=by rw[hw2];exact BD.alloc BD.size _
  obtain⟨Z2,B2⟩:=zh2 z2 b2;clear hw2 z2 b2;refine⟨(HS9.o _).mpr B2.o,?_⟩;refine zP ?_;refine qk7 rfl rfl ?_;go_simp;refine zcb (AC.o w2 B2.o) fun w3 b3=>?_
  obtain⟨B3,Z3⟩:=zh2 (B2.trans (b3.mono B2.size)) (Z2.below b3 Z2.lt);clear b3;refine⟨(HS9.o _).mpr B3.o,?_⟩;refine zP ?_;refine qk5 rfl rfl ⟨.agg H0.toArray,fun w1 hS=>qgr 53 _ rfl _ _ AB.o (by simp[Act.eval]),?_⟩;refine qk4 ⟨[_,_,_],rfl,Wd.heap.size,rfl,Z3.o,BD.size,B3.o⟩
 rintro vs w4 - ⟨g9,rfl,z4,l4,b4⟩;simp only[puts,Act.put,tA0,tA1,tA2];refine qbj rfl rfl ?_;refine wp_store_row 53 (.tmp 10) (.tmp 53) rfl g9 H0.toArray rfl rfl 53 _ z4 (by rw[tB6,A5.o];kernel_rfl) (by simp[A5.o]) (by simpa using AL.o) ?_;obtain⟨W5,hW5⟩:=eqx (w4.setRow g9 H0.toArray);rw[←hW5];have h5:Blk W5 g9 53 H0.toArray:=by rw[hW5];exact z4.setRow _
 have b5:Zb W1 W5:=by rw[hW5];exact below_setRow b4 l4 _
 obtain⟨H5,B5,AP⟩:=zh3 h5 b5 l4;clear hW5 h5 b5 z4 l4 b4;refine⟨fun h=>absurd h zdc,?_⟩;refine zP ?_;refine qbg ?_;clear HS9 F0 F1 F2;go_upto_region 6 with(fail)
 have GB:=zh1 (fun(w':World)(hb:Zb W5 w')=>(⟨hb.os,hb.tape,hb.output,hb.size,fun i hi _=>hb.block i hi⟩:W5.grownBy w' (some (w.heap.size+1+1))));obtain⟨S,HS9⟩:=zS fun w'=>W5.grownBy w' (some (w.heap.size+1+1))
 refine zrs S 14 (zq 0 9 [(10,false),(9,true),(11,true),(12,true),(13,false)]) ((HS9.o _).mpr (GB.o _ (tA5 _ _).drew)) ?_;obtain⟨AV,F0,F1,F2⟩:=zh4 (tB1 B1.size B5.size) (fun(w':World)(h:S w')=>(show w'.cell? ⟨w.heap.size,3,none⟩=some (.slice As ns cs) from(((K0.below B1.o K0.lt).below B5.o (tB0 K0.lt B1.size)).grown ((HS9.o w').mp h) (by intro e;injection e with e;omega)).cell 3)) (fun(w':World)(h:S w')=>((Y1.below B5.o Y1.lt).grown ((HS9.o w').mp h) (by intro e;injection e with e;have:=Z0.lt;omega)).cell 4 |>.trans (show D.toArray[4]? =some (.slice (some ⟨gd,od,none⟩) nd cd) by rw[tA3];exact D4.o)) (fun(w':World)(h:S w')=>(World.cell?_of_block (((HS9.o w').mp h).block gd (tB0 gdlt (tB1 A0.size B5.size)) (by intro e;injection e with e;omega))).trans (qai (qai cdv1.o A0.o) B5.o));have qe:=A6.o;have qe0:(0:Int)≤ep:=zo;iterate 9 (refine zr3 ?_)
 obtain⟨A7,AQ⟩:=zh2 (fun(w':World)(h:S w')=>qap (H5.grown ((HS9.o w').mp h) (by intro e;injection e with e;have:=AP.o;have:=B1.size;have:=Z0.lt;omega)) 0 H0 zjq) (zI 53 A5.o);refine qos rfl rfl 53 (.tmp 10) rfl g9 0 rfl H0 _ A7.o Tryz.underlying53 rfl AQ.o ?_;refine zP ?_;clear qe qe0 F0 F1 F2;obtain⟨We,hWe⟩:=eqx W5.drew;have be':Zb W5 We:=by rw[hWe];exact(tA5 _ _).drew
 rw[←hWe];have BE:=zh1 be';clear hWe be';refine qbj rfl rfl ?_;go_simp;refine zcb (AN.o We (B5.trans (BE.mono B5.size))) fun w6 b6=>?_
 have B6:=zh1 (BE.trans (b6.mono BE.size));clear b6;refine⟨(HS9.o _).mpr (GB.o _ B6.o),?_⟩;refine zP ?_;refine qbj rfl rfl ?_;go_simp;refine zcb (AM.o w6 (B5.trans (B6.mono B5.size))) fun w7 b7=>?_
 have B7:=zh1 (B6.trans (b7.mono B6.size));clear b7;refine⟨(HS9.o _).mpr (GB.o _ B7.o),?_⟩;refine zP ?_;have AD:=zh1 (B1.trans ((B5.trans (B7.mono B5.size)).mono B1.size));have Z7:=Z0.below AD.o Z0.lt;have IX:(Tryz.prog.info? 55).map (·.size)=some X.length:=by rw[AA.o];kernel_rfl
 have AR:=zh1 IX;refine qbj rfl rfl ?_;refine wp_store_row 55 (.tmp 6) (.tmp 65) rfl (w.heap.size+1+1) X.toArray rfl rfl 55 _ Z7 (by simpa using IX) (by simp[AA.o,qo2 Hd.zero_Ok]) (by simpa using AK.o) ?_;have z9:=Z7.setRow X.toArray;have b9:Zb w (w7.setRow (w.heap.size+1+1) X.toArray):=below_setRow (B0.trans (AD.mono B0.size)) zo _;have g7:=GB.o _ B7.o;have gs:=qam w7 (w.heap.size+1+1) X.toArray;refine⟨fun _=>(HS9.o _).mpr ⟨gs.os.trans g7.os,gs.tape.trans g7.tape,gs.output.trans g7.output,tB1 g7.size gs.size,fun i hi hne=>(gs.block i (tB0 hi g7.size) hne).trans (g7.block i hi hne)⟩,?_⟩;refine zP ?_;have AE:=qap z9 0 X zjq;obtain⟨AS,AT⟩:=zh2 AE b9;clear IX z9 AE Z7 g7 gs b9;iterate 1 (refine zrb ?_)
 refine qbg ?_;go_wp2_with fail
 refine bodyPost_ret (qgv rfl rfl (run_loadVar_mid _ _ 0 _ X _ AS.o Tryz.underlying55 rfl AR.o)) rfl ⟨by rw[A4.o];rfl,AT.o⟩
theorem qq2(t:Tre)(h:Hd)(vd vl vq:Value)(h1:t.hd.Ok)(h2:h.Ok):over (trev t vd vl vq) 7 (hdv h)=trev {t with hd:=h} vd vl vq:=by
 unfold over trev;have l1:=qo2 h1;have l2:=qo2 h2;rw[l2];simp only[List.take_succ_cons,List.take_zero,List.drop_succ_cons,List.cons_append,List.nil_append];rw[List.drop_of_length_le zo,List.append_nil]
theorem qq3(c:Cfg)(s:Sta)(L:Loc)(col:Col)(k g:Nat)(css:List (List Value))(n:Nat)(t:Tre)(w:World)(hk:Kind k)(hc:c.Ok)(hs:s.Ok)(h:Mdl w col k g c s L css)(ht:s.tres[n]? =some t)(hd:t.draws≠[])(hT:Tabs w):
 Zc 66 #[.pointer (some ⟨g,0,none⟩),.int .i64 (n:Int)] w fun e w'=>e=.returned (.tuple #[])∧(∃css',Mdl w' col k g c (s.pub c n) L css')∧Turns (· ==k+1) w col w' col:=by
 have hn:n<s.tres.length:=by obtain⟨h,_⟩:=tA8 ht;exact h
 have hn16:n<16:=by rw[←hs.tresn];exact hn
 have hto:=hs.tre ht;have hpo:=qoo c s.clock n t hs.clock (by have:=hto.leaves;omega);have P:=fun w' (hb:Zb w w')=>qq1 c s L col k css n t L.sa L.sn L.sc w' hc hs ((h.call hb).seedR) (h.call hb).st ht hd (hT.below hb hT.size)
 have hcell:=h.blk.cell;have q1:(0:Int)≤n:=zo;have q2:(n:Int)<16:=zo;obtain⟨X,hX⟩:=xeq (hdv (pubT c s.clock n t));have lX:X.length=68:=by rw[←hX];exact qo2 hpo
 have oX:∀u∈X,u.oneCell'=true:=by rw[←hX];exact qmr _
 rw[hX]at P;obtain⟨HP,H,HX,LX,OX,A0,A1,HS⟩:=zh8 P h hX lX oX hto hpo hs;obtain⟨HT,HK⟩:=zh2 ht hk;clear P h hX lX oX hto hpo hs ht hd hT hk hn hc hcell;go_enter Tryz.func66,Tryz.ntmps66
 obtain⟨S,HS9⟩:=zS fun w'=>Turns (· ==k+1) w col w' col
 refine zrs S 22 (zq 0 15 ((15,true)::zq 16 5 [(21,true)])) ((HS9.o _).mpr (Turns.of_below _ (tA5 _ _).drew)) ?_;have FB:=zh1 (fun(w':World)(h:S w')=>(show Blk w' g 117 (mdlv c s L) from(((HS9.o w').mp h).block g H.blk.lt (by rw[H.own];rcases HK.o with rfl|rfl<;>rfl)).trans H.blk));have F:=zh1 (fun(w':World)(h:S w')=>(FB.o w' h).cell);have F8:=zh1 (fun(w':World)(h:S w')=>(F.o w' h 8).trans (show (mdlv c s L)[8]? =some (.slice (some ⟨L.rg,0,none⟩) 16 L.rc) from rfl));have FC:=zh1 (fun(w':World)(h:S w')=>(qap (l:=(mdlv c s L).toList) (by simpa using FB.o w' h) 0 [.int .i64 c.width,.int .i64 c.quantum,.int .u32 (c.store:Int),.slice L.sa L.sn L.sc] (fun j u hu=>by
  match j,hu with
  |0,hu=>exact hu
  |1,hu=>exact hu
  |2,hu=>exact hu
  |3,hu=>exact hu
  |j+4,hu=>simp at hu)))
 have FS:=zh1 (fun(w':World)(h:S w')=>(qap (l:=(mdlv c s L).toList) (by simpa using FB.o w' h) 4 (stav s L) (fun j u hu=>by
  match j,hu with
  |0,hu=>exact hu
  |1,hu=>exact hu
  |2,hu=>exact hu
  |3,hu=>exact hu
  |4,hu=>exact hu
  |5,hu=>exact hu
  |j+6,hu=>simp[stav]at hu)))
 obtain⟨CI,SI⟩:=zh2 (show (Tryz.prog.info? 25).map (·.size)=some 4 by kernel_rfl) (show (Tryz.prog.info? 49).map (·.size)=some 6 by kernel_rfl);iterate 9 (refine zre rfl rfl (fun w1 hS=>by have g0:=F8.o w1 hS;clear hS;go_simp;try rfl) ?_)
 refine qos rfl rfl 25 (.tmp 13) rfl g 0 rfl _ _ FC.o Tryz.underlying25 rfl CI.o ?_;refine zP ?_;iterate 3 (refine zrb ?_)
 refine qos rfl rfl 49 (.tmp 17) rfl g 4 rfl _ _ FS.o Tryz.underlying49 rfl SI.o ?_;refine zP ?_;iterate 1 (refine zrb ?_)
 obtain⟨Wd,hWd⟩:=eqx w.drew;have bd:Zb w Wd:=by rw[hWd];exact(tA5 _ _).drew
 rw[←hWd];have BD:=zh1 bd;clear hWd bd;refine zw ?_;go_simp;refine zcb (HP.o Wd BD.o) fun w1 b1=>?_
 have B1:=zh1 (BD.trans (b1.mono BD.size));clear b1;refine⟨(HS9.o _).mpr (Turns.of_below _ B1.o),zput ?_⟩;iterate 5 (refine zrb ?_)
 have H1:=H.call B1.o;have hth:=H1.st.tres.there (o:=n*75+7) (m:=68) (by rw[qnx (H1.st.trs.lens (fun t ht=>(HS.tres t ht).hd)),H1.st.trs.1,HS.tresn];omega);refine zw ?_;refine wp_store_mid 55 (.tmp 24) (.tmp 21) rfl L.rg (n*75+7) X.toArray rfl rfl (by rw[tB6,LX.o];exact hth) (by rw[tB6,LX.o];kernel_rfl) (by simpa using OX.o) ?_;have M:=H1.treOver HK.o HS.o HT.o (j:=7) (cs:=X) (f:=fun t=>{t with hd:=pubT c s.clock n t}) (by rw[LX.o];omega) (fun vd vl vq=>by rw[←HX.o];exact qq2 t _ vd vl vq A0.hd A1.o) rfl rfl rfl;have hT:Turns (· ==k+1) w col (w1.setCells L.rg (n*75+7) X) col:=(Turns.of_below _ B1.o).trans (Turns.setCells X (by simp[H1.st.tres.1]));refine⟨fun _=>(HS9.o _).mpr hT,zput ?_⟩;refine qbg ?_;obtain⟨HM,A2⟩:=zh2 M hT;clear M hT hth H1;go_wp2
 go_end0
 exact⟨rfl,⟨_,HM.o⟩,A2.o⟩
def qqq (r b t n:Int):Int:=if b<t+n*r then b else t+n*r
def sumI (a b:Int):Int:=if 18446744073709551615<a+b then 18446744073709551615 else a+b
theorem qqr(a b:Int)(w:World)(a0:0≤a)(a1:a≤18446744073709551615)(b0:0≤b)(b1:b≤18446744073709551615):
 Zc 89 #[.int .u64 a,.int .u64 b] w fun e w'=>e=.returned (.int .u64 (sumI a b))∧w=w':=by
 by_cases h:18446744073709551615 - b<a
 · go_enter Tryz.func89,Tryz.ntmps89
   go_wp2
   go_ret
   exact⟨ql7 (by unfold sumI;omega),rfl⟩
 go_enter Tryz.func89,Tryz.ntmps89
 go_wp2
 go_ret
 exact⟨ql7 (by unfold sumI;omega),rfl⟩
theorem qqs(x y:Int)(w:World)(x0:0≤x)(x1:x≤18446744073709551615)(y0:0≤y)(y1:y≤18446744073709551615):
 Zc 155 #[.int .u64 x,.int .u64 y] w fun e w'=>e=.returned (.tuple #[.int .u64 (x*y / 18446744073709551616),.int .u64 (x*y % 18446744073709551616)])∧w=w':=by
 obtain⟨a,rfl⟩:=Int.eq_ofNat_of_zero_le x0;obtain⟨b,rfl⟩:=Int.eq_ofNat_of_zero_le y0;refine(Tryz.bits_Mul64 a b zo zo w).mono ?_;rintro e w' ⟨rfl,rfl⟩;refine⟨?_,rfl⟩;rw[←Int.natCast_mul];congr 1
theorem qqt{r b t n m:Int}(hm:n*r=m)(h0:0≤hi)(l0:0≤lo)(l1:lo≤18446744073709551615)(e:m=hi*18446744073709551616+lo)(b1:b≤4294967295)(t0:0≤t):
 qqq r b t n=if 0<hi∨b<sumI lo t then b else sumI lo t:=by
 unfold qqq sumI;rw[hm,e];split<;>split<;>split<;>omega
theorem qqu(r b t n:Int)(w:World)(r0:0≤r)(r1:r≤4294967295)(b0:0≤b)(b1:b≤4294967295)(t0:0≤t)(t1:t≤4294967295)(n0:0≤n)(n1:n≤18446744073709551615):
 Zc 90 #[.agg #[.int .u32 r,.int .u32 b,.int .u32 t],.int .u64 n] w fun e w'=>e=.returned (.agg #[.int .u32 r,.int .u32 b,.int .u32 (qqq r b t n)])∧Zb w w':=by
 have hm0:0≤n*r:=Int.mul_nonneg n0 r0;have ht:=qqt (r:=r) (b:=b) (t:=t) (n:=n) (m:=n*r) (hi:=n*r / 18446744073709551616) (lo:=n*r % 18446744073709551616) rfl zo zo zo zo b1 t0;have l0:0≤n*r % 18446744073709551616:=zo;have l1:n*r % 18446744073709551616≤18446744073709551615:=zo;have h0:0≤n*r / 18446744073709551616:=zo;have H:=zh1 ht;clear ht hm0;go_enter Tryz.func90,Tryz.ntmps90
 go_wp2_with fail
 refine zca (qqs _ _ _ n0 n1 r0 zo) ?_;generalize n*r % 18446744073709551616=lo at*;generalize n*r / 18446744073709551616=hi at*;go_wp2_with fail
 refine zca (qqr _ _ _ l0 l1 t0 zo) ?_;have s0:0≤sumI lo t:=by unfold sumI;split<;>omega
 have s1:sumI lo t≤18446744073709551615:=by unfold sumI;split<;>omega
 generalize sumI lo t=s at*;by_cases hh:0<hi
 · go_wp2
   exact bodyPost_ret (v:=.agg #[.int .u32 r,.int .u32 b,.int .u32 b]) (by simp[results,Tryz.results90,go_sem]) rfl ⟨by rw[H.o,if_pos (.inl hh)],((tA5 _ _).alloc (tA4 _) _).alloc zm _⟩
 by_cases hs:b<s
 · go_wp2
   exact bodyPost_ret (v:=.agg #[.int .u32 r,.int .u32 b,.int .u32 b]) (by simp[results,Tryz.results90,go_sem]) rfl ⟨by rw[H.o,if_pos (.inr hs)],((tA5 _ _).alloc (tA4 _) _).alloc zm _⟩
 go_wp2
 exact bodyPost_ret (v:=.agg #[.int .u32 r,.int .u32 b,.int .u32 s]) (by simp[results,Tryz.results90,go_sem]) rfl ⟨by rw[H.o,if_neg zo],((tA5 _ _).alloc (tA4 _) _).alloc zm _⟩
theorem qqv(r b:Int)(w:World)(hr:r≤1048576)(hb:b≤1048576):
 Zc 120 #[.int .u32 r,.int .u32 b] w fun e w'=>e=.returned (.tuple #[.agg #[.int .u32 r,.int .u32 b,.int .u32 b],.int .i64 0])∧Zb w w':=by
 go_enter Tryz.func120,Tryz.ntmps120
 go_wp2
 exact bodyPost_ret (v:=.tuple #[.agg #[.int .u32 r,.int .u32 b,.int .u32 b],.int .i64 0]) (by simp[results,Tryz.results120,go_sem]) rfl ⟨rfl,(tA5 _ _).alloc (tA4 _) _⟩
theorem qqw(r b:Int)(w:World)(h:1048576<r∨r≤1048576∧1048576<b):
 Zc 120 #[.int .u32 r,.int .u32 b] w fun e w'=>e=.returned (.tuple #[.agg #[.int .u32 0,.int .u32 0,.int .u32 0],.int .i64 1])∧Zb w w':=by
 rcases h with h|⟨h,h2⟩;all_goals
  go_enter Tryz.func120,Tryz.ntmps120
  go_wp2
  exact bodyPost_ret (v:=.tuple #[.agg #[.int .u32 0,.int .u32 0,.int .u32 0],.int .i64 1]) (by simp[results,Tryz.results120,go_sem]) rfl ⟨rfl,(tA5 _ _).alloc (tA4 _) _⟩
def qqx (op n:Int):Int:=if op=1 then 1+(if n<0 then 0 else if 1048576<n then 1048576 else n) / 64 else 1
theorem qqy(op n:Int)(w:World):
 Zc 129 #[.int .i64 op,.int .i64 n] w fun e w'=>e=.returned (.int .u32 (qqx op n))∧w=w':=by
 by_cases ho:op=1
 ·
  subst ho;by_cases h0:n<0
  · have H:=zh1 (show qqx 1 n=1 from by simp[qqx,h0])
    go_enter Tryz.func129,Tryz.ntmps129
    go_wp2
    go_ret
    (first|exact⟨ql7 H.symm,rfl⟩|exact⟨ql7 (by have:=H.o;omega),rfl⟩)
  by_cases h1:1048576<n
  · have H:=zh1 (show qqx 1 n=16385 from by simp[qqx,h0,h1])
    go_enter Tryz.func129,Tryz.ntmps129
    go_wp2
    go_ret
    (first|exact⟨ql7 H.symm,rfl⟩|exact⟨ql7 (by have:=H.o;omega),rfl⟩)
  have H:=zh1 (show qqx 1 n=1+n / 64 from by simp[qqx,h0,h1]);go_enter Tryz.func129,Tryz.ntmps129
  go_wp2
  go_ret
  (first|exact⟨ql7 H.symm,rfl⟩|exact⟨ql7 (by have:=H.o;omega),rfl⟩)
 have H:=zh1 (show qqx op n=1 from by simp[qqx,ho]);go_enter Tryz.func129,Tryz.ntmps129
 go_wp2
 go_ret
 (first|exact⟨ql7 H.symm,rfl⟩|exact⟨ql7 (by have:=H.o;omega),rfl⟩)
theorem qqz(n:Int):Tryz.prog.built 57 [(1,.int .u64 n)]=some (Value.int .i64 0::.int .u64 n::.slice none 0 0::.slice none 0 0::(hdv Hd.zero++tokv qgu.1 (.slice none 0 0) qgu.2.2)).toArray:=by kernel_rfl
theorem qr0(y:Int):Tryz.prog.built 57 [(0,.int .i64 y)]=some (Value.int .i64 y::.int .u64 0::.slice none 0 0::.slice none 0 0::(hdv Hd.zero++tokv qgu.1 (.slice none 0 0) qgu.2.2)).toArray:=by kernel_rfl
def qr1 (R:Rsp):List Value:=rspv R (.slice none 0 0) (.slice none 0 0) (.slice none 0 0)
theorem qr2(R:Rsp)(h1:R.hd.Ok)(h2:R.tok.2.2.length=32):(qr1 R).length=106:=qqj R _ _ _ (qo2 h1) h2
theorem qr3(R:Rsp):∀u∈qr1 R,u.oneCell'=true:=qqk R _ _ _ rfl rfl rfl
theorem qr4:Tryz.zeroCells57.size=106:=by kernel_rfl
theorem qr5(n:Nat)(w:World)(hn:n<9223372036854775808):
 Zc 186 #[.int .i64 (n:Int)] w fun e w'=>e=.returned (.agg (qr1 (qn6 n)).toArray)∧Zb w w':=by
 have bT:=qqz (n:Int);rw[show (Value.int .i64 0::.int .u64 (n:Int)::.slice none 0 0::.slice none 0 0::(hdv Hd.zero++tokv qgu.1 (.slice none 0 0) qgu.2.2))=qr1 (qn6 n) from rfl]at bT;have lX:=qr2 (qn6 n) Hd.zero_Ok (by simp[qn6,qj2,qgu]);have oX:=qr3 (qn6 n);obtain⟨X,hX⟩:=xeq (qr1 (qn6 n));rw[hX]at bT lX oX ⊢;have q1:IntKind.u64.wrap (n:Int)=(n:Int):=tBa _ zo;have z0:=Blk.new w 57 Tryz.zeroCells57;obtain⟨Z0,BT,LX,OX⟩:=zh4 z0 bT lX oX;clear bT hX lX oX z0;go_enter Tryz.func186,Tryz.ntmps186
 obtain⟨A1,A0⟩:=zh2 (zI 57 LX.o) qr4;go_wp2_with (first
  |(refine qbk rfl ⟨.agg X.toArray,qgr 57 _ rfl _ _ BT.o (by simp[Act.eval]),?_⟩)
  |(refine zst Z0.o A1.o (by simp[LX.o,A0.o]) OX.o ?_))
 have z9:=Z0.setRow X.toArray;have A2:=qap z9 0 X zjq;exact zrt A2 zu57 A1.o ⟨rfl,below_setRow ((tA5 _ _).alloc (tA4 _) _) (tA4 _) _⟩
theorem qr6(y:Nat)(w:World):
 Zc 134 #[.int .i64 (y:Int)] w fun e w'=>e=.returned (.agg (qr1 (rWhy y)).toArray)∧Zb w w':=by
 have bT:=qr0 (y:Int);rw[show (Value.int .i64 (y:Int)::.int .u64 0::.slice none 0 0::.slice none 0 0::(hdv Hd.zero++tokv qgu.1 (.slice none 0 0) qgu.2.2))=qr1 (rWhy y) from rfl]at bT;have lX:=qr2 (rWhy y) Hd.zero_Ok (by simp[rWhy,qj2,qgu]);have oX:=qr3 (rWhy y);obtain⟨X,hX⟩:=xeq (qr1 (rWhy y));rw[hX]at bT lX oX ⊢;have z0:=Blk.new w 57 Tryz.zeroCells57;obtain⟨Z0,BT,LX,OX⟩:=zh4 z0 bT lX oX;clear bT hX lX oX z0;go_enter Tryz.func134,Tryz.ntmps134
 obtain⟨A1,A0⟩:=zh2 (zI 57 LX.o) qr4;go_wp2_with (first
  |(refine qbk rfl ⟨.agg X.toArray,qgr 57 _ rfl _ _ BT.o (by simp[Act.eval]),?_⟩)
  |(refine zst Z0.o A1.o (by simp[LX.o,A0.o]) OX.o ?_))
 have z9:=Z0.setRow X.toArray;have A2:=qap z9 0 X zjq;exact zrt A2 zu57 A1.o ⟨rfl,below_setRow ((tA5 _ _).alloc (tA4 _) _) (tA4 _) _⟩
theorem qr7(n:Int)(c:Cfg)(s:Sta)(L:Loc)(col:Col)(k g:Nat)(css:List (List Value))(w:World)(h:Mdl w col k g c s L css):
 Zc 130 #[.pointer (some ⟨g,0,none⟩),.int .i64 n] w fun e w'=>e=.returned (if 0≤n∧n<16 then .tuple #[.pointer (some ⟨L.tg,n.toNat*6,none⟩),.bool true] else .tuple #[.pointer none,.bool false])∧w=w':=by
 have c:=h.c7;by_cases h0:n<0
 ·
  rw[if_neg zo];clear h;go_enter Tryz.func130,Tryz.ntmps130
  go_wp2
  go_ret2
  exact⟨rfl,rfl⟩
 by_cases h1:n<16
 ·
  rw[if_pos zo];have h2:¬16≤n:=zo;have h3:0≤n:=zo;clear h;go_enter Tryz.func130,Tryz.ntmps130
  go_wp2
  go_ret2
  exact⟨rfl,rfl⟩
 rw[if_neg zo];have h2:16≤n:=zo;clear h;go_enter Tryz.func130,Tryz.ntmps130
 go_wp2
 go_ret2
 exact⟨rfl,rfl⟩
theorem qr8(n:Int)(c:Cfg)(s:Sta)(L:Loc)(col:Col)(k g:Nat)(css:List (List Value))(w:World)(hs:s.Ok)(h:Mdl w col k g c s L css)(hn:s.tree n=none):
 Zc 131 #[.pointer (some ⟨g,0,none⟩),.int .i64 n] w fun e w'=>e=.returned (.tuple #[.pointer none,.bool false])∧w=w':=by
 have c:=h.c8;by_cases h0:n<0
 · clear h hs
   go_enter Tryz.func131,Tryz.ntmps131
   go_wp2
   go_ret2
   exact⟨rfl,rfl⟩
 by_cases h1:n<16
 ·
  obtain⟨m,rfl⟩:∃m:Nat,n=m:=⟨n.toNat,by omega⟩;have hm:m<s.tres.length:=by rw[hs.tresn];omega
  obtain⟨t,ht⟩:∃t,s.tres[m]? =some t:=⟨_,tA7 hm⟩;obtain⟨hm16,Ad,cd,Al,cl,Aq,cq,h2,h3,-⟩:=h.st.tree hs ht;have e0:=h3 0 (.int .i64 t.state) rfl;have h4:¬(16:Int)≤m:=zo;have h5:t.state=0∨t.state=4:=by
   unfold Sta.tree at hn;rw[if_pos zo,tBe,ht]at hn;by_cases e:t.state=0∨t.state=4
   · exact e
   simp[e]at hn
  simp only[Nat.add_zero]at e0;have h6:(0:Int)≤m:=zo;clear h hs h3 h2 hn ht hm;rcases h5 with h5|h5
  · rw[h5]at e0
    go_enter Tryz.func131,Tryz.ntmps131
    go_wp2
    go_ret2
    exact⟨rfl,rfl⟩
  rw[h5]at e0;go_enter Tryz.func131,Tryz.ntmps131
  go_wp2
  go_ret2
  exact⟨rfl,rfl⟩
 have h2:16≤n:=zo;clear h hs;go_enter Tryz.func131,Tryz.ntmps131
 go_wp2
 go_ret2
 exact⟨rfl,rfl⟩
theorem qr9(n:Nat)(t:Tre)(c:Cfg)(s:Sta)(L:Loc)(col:Col)(k g:Nat)(css:List (List Value))(w:World)(hs:s.Ok)(h:Mdl w col k g c s L css)(ht:s.tres[n]? =some t)(h0:t.state≠0)(h4:t.state≠4):
 Zc 131 #[.pointer (some ⟨g,0,none⟩),.int .i64 (n:Int)] w fun e w'=>e=.returned (.tuple #[.pointer (some ⟨L.rg,n*75,none⟩),.bool true])∧w=w':=by
 have c:=h.c8;obtain⟨hm16,Ad,cd,Al,cl,Aq,cq,h2,h3,-⟩:=h.st.tree hs ht;have e0:=h3 0 (.int .i64 t.state) rfl;have h5:¬(16:Int)≤n:=zo;have h7:¬(n:Int)<0:=zo;have h8:(n:Int)<16:=zo;have h6:(0:Int)≤n:=zo;simp only[Nat.add_zero]at e0;obtain⟨x,hx⟩:=xeq t.state;rw[hx]at e0 h0 h4;have b0:(x==0)=false:=by simpa using h0
 have b4:(x==4)=false:=by simpa using h4
 clear h hs h3 h2 ht hx;go_enter Tryz.func131,Tryz.ntmps131
 go_wp2
 go_ret2
 exact⟨rfl,rfl⟩
theorem qra(n:Nat)(c:Cfg)(s:Sta)(L:Loc)(col:Col)(k g:Nat)(css:List (List Value))(w:World)(hk:Kind k)(h:Mdl w col k g c s L css):
 Zc 49 #[.pointer (some ⟨g,0,none⟩),.int .u32 (n:Int)] w fun e w'=>e=.returned (.tuple #[])∧Mdl w' col k g c (qnk s n) L css∧Turns (· ==1) w col w' col:=by
 have c5:=h.blk.cell 5;rw[show (mdlv c s L)[5]? =some (.int .u32 (s.draw:Int)) from rfl]at c5;have f5:=h.blk.frozen 5;have M:=h.own1 hk 5 (.int .u32 (n:Int)) (s':=qnk s n) rfl rfl rfl rfl;have T:Turns (· ==1) w col (w.setCell ⟨g,5,none⟩ (.int .u32 (n:Int))) col:=Turns.setCell _ (by simp[h.own]);obtain⟨HM,HT⟩:=zh2 M T;clear M T h;go_enter Tryz.func49,Tryz.ntmps49
 go_wp2
 go_end0
 exact⟨rfl,HM.o,HT.o⟩
structure RspK (X:List Value):Prop where
 len:X.length=106
 one:∀u∈X,u.oneCell'=true
theorem RspK.info(h:RspK X):(Tryz.prog.info? 57).map (·.size)=some X.length:=by rw[h.len];kernel_rfl
theorem qrb{ops:Array Oper}(x y:Operand)(g:Nat)(X:List Value)(hg:Blk w g 57 Tryz.zeroCells57)(pk:RspK X)
 (h:wpList Tryz.prog ops Q rest (a.put o.dst undef) (w.setRow g X.toArray))(hgd:o.guard=none:=by rfl)(ho:o.op=.store 57 x y:=by rfl)(hx:a.eval x=.pointer (some ⟨g,0,none⟩):=by rfl)(hy:a.eval y=.agg X.toArray:=by rfl):wpList Tryz.prog ops Q (o::rest) a w:=
 wpList_store_row hgd 57 x y ho g X.toArray hx hy 57 _ hg (by simpa using pk.info) (by simp[pk.len,qr4]) (by simpa using pk.one) h
theorem qrc{fn:Func}{R:Ending→World→Prop}{t:Nat}(hb:Blk w g 57 X.toArray)(pk:RspK X)(hR:R (.returned (.agg X.toArray)) w)
 (h:fn.results=#[.cell t 57]:=by rfl)(ht:a.tmps.getD t undef=.pointer (some ⟨g,0,none⟩):=by rfl)(hd:a.defers=[]:=by rfl):bodyPost Tryz.prog fn R .ret a w:=
 bodyPost_ret (qao h ht (run_loadVar_mid _ _ 0 _ X _ (qap hb 0 X zjq) Tryz.underlying57 rfl pk.info)) hd hR
theorem qrd(t:Tre)(vd vl vq:Value)(h1:vd.oneCell'=true)(h2:vl.oneCell'=true)(h3:vq.oneCell'=true):∀u∈trev t vd vl vq,u.oneCell'=true:=by
 intro u hu;unfold trev at hu;simp only[List.mem_cons]at hu;rcases hu with rfl|rfl|rfl|rfl|rfl|rfl|rfl|hu
 · rfl
 · rfl
 · rfl
 · rfl
 · exact h1
 · exact h2
 · exact h3
 exact qmr _ u hu
theorem StAt.treeD(h:StAt tt rt gt w col k L css s)(hs:s.Ok)(ht:s.tres[n]? =some t):
 ∃D Ad cd Al cl Aq cq,D=trev t (.slice Ad t.draws.length cd) (.slice Al t.leaves.length cl) (.slice Aq t.queue.length cq)∧D.length=75∧(∀u∈D,u.oneCell'=true)∧(∀w',Zb w w'→w'.rangeAt L.rg (n*75) D)∧
  t.leaves.length≤cl∧cl≤maxLen∧TextsR w Al t.leaves.length t.leaves∧t.queue.length≤cq∧cq≤maxLen∧TextsR w Aq t.queue.length t.queue:=by
 obtain⟨hn,Ad,cd,Al,cl,Aq,cq,h1,h2,h3,h4,h5⟩:=h.tree hs ht;obtain⟨A1,c1,e1,a1,a2,a3⟩:=h4.reads;obtain⟨A2,c2,e2,b1,b2,b3⟩:=h5.reads;injection e1 with e11 e12 e13;injection e2 with e21 e22 e23;subst e11 e13 e21 e23;exact⟨_,Ad,cd,Al,cl,Aq,cq,rfl,qo3 _ _ _ (hs.tre ht).hd,qrd _ _ _ _ rfl rfl rfl,fun w' hb j u hu=>qai (h2 j u hu) hb,a1,a2,a3,b1,b2,b3⟩
theorem qre:∀(l:List (List Nat)),(∀b∈l,LeafOk b)→qmy l≤l.length*416
 |[],_=>by simp[qmy]
 |b::l,h=>by
  have h1:=qre l (fun x hx=>h x (List.mem_cons_of_mem _ hx));have h2:=(h b zm).1;unfold qmy at h1 ⊢;simp only[List.map_cons,List.sum_cons,tBi];omega
theorem qrf{l:List (List Nat)}{b:List Nat}(h:l[k]? =some b):qmy (l.take (k+1))=qmy (l.take k)+(b.length+16):=by
 unfold qmy;rw[List.take_add_one,h];simp
def qrg (l:List Tre)(k:Nat):Nat:=((l.take k).map fun t=>qmy t.leaves+qmy t.queue).sum
theorem qrh{l:List Tre}(h:l[k]? =some t):qrg l (k+1)=qrg l k+(qmy t.leaves+qmy t.queue):=by
 unfold qrg;rw[List.take_add_one,h];simp
theorem qri(h:t.Ok):qmy t.leaves≤1024*416∧qmy t.queue≤1024*416:=by
 have h1:=qre t.leaves h.leafb;have h2:=qre t.queue h.queueb;have h3:=h.leaves;constructor
 · exact tB1 h1 (Nat.mul_le_mul_right _ zo)
 exact tB1 h2 (Nat.mul_le_mul_right _ zo)
theorem qrj {l:List Tre}(h:∀t∈l,t.Ok):∀k,qrg l k≤k*851968
 |0=>by simp[qrg]
 |k+1=>by
  rcases e:l[k]? with _|t
  · have h1:=qrj h k
    have h2:qrg l (k+1)=qrg l k:=by
     unfold qrg;rw[List.take_add_one,e];simp
    omega
  rw[qrh e];have h1:=qrj h k;have h2:=qri (h t (tB2 e));omega
theorem qrk(s:Sta)(hs:s.Ok):qrg s.tres 16=stored s:=by
 unfold qrg stored;rw[tB5 (by rw[hs.tresn];exact tA4 _)]
theorem qrl(s:Sta)(L:Loc)(col:Col)(k:Nat)(css:List (List Value))(w:World)(hs:s.Ok)(hst:StAt 92 74 66 w col k L css s):
 Zc 33 #[.agg (stav s L).toArray] w fun e w'=>e=.returned (.int .u64 (stored s:Nat))∧Zb w w':=by
 show Zc 33 #[.agg #[.int .u64 (s.clock:Int),.int .u32 (s.draw:Int),.int .i64 s.lane,.slice (some ⟨L.tg,0,none⟩) 16 L.tc,.slice (some ⟨L.rg,0,none⟩) 16 L.rc,.slice (some ⟨L.gg,0,none⟩) s.gras.length L.gc]] w _;obtain⟨AA,HS⟩:=zh2 hst hs;clear hst hs;go_enter Tryz.func33,Tryz.ntmps33
 go_wp2_with fail
 obtain⟨W0,hW0⟩:=eqx (w.alloc (.cells #[.int .u64 (s.clock:Int),.int .u32 (s.draw:Int),.int .i64 s.lane,.slice (some ⟨L.tg,0,none⟩) 16 L.tc,.slice (some ⟨L.rg,0,none⟩) 16 L.rc,.slice (some ⟨L.gg,0,none⟩) s.gras.length L.gc] 49));rw[←hW0];have B0:=zh1 (show Zb w W0 by rw[hW0];exact qah (tA5 _ _) _);clear hW0;go_loopw [3,13] (fun v i wr=>∃n:Nat,n≤16∧i=.int .i64 n∧v=.int .u64 (qrg s.tres n:Nat)∧Hid (Zb w wr)) (fun v i _=>16 - (intOf i).toNat)
 case atStart=>exact⟨0,by omega,rfl,by simp[qrg],B0.o⟩
 case round=>
  obtain⟨n,hn,rfl,rfl,hb⟩:=hrel;by_cases hn16:n<16
  ·
   have qn:(n:Int)<16:=zo;have qn0:(0:Int)≤n:=zo;obtain⟨t,ht⟩:∃t,s.tres[n]? =some t:=⟨_,tA7 (by rw[HS.tresn];exact hn16)⟩;obtain⟨D,Ad,cd,Al,cl,Aq,cq,hD,lD,oD,hrg,l1,l2,l3,q1,q2,q3⟩:=AA.treeD HS.o ht;have d5:D[5]? =some (.slice Al t.leaves.length cl):=by rw[hD];rfl
   have d6:D[6]? =some (.slice Aq t.queue.length cq):=by rw[hD];rfl
   have hrg':=hrg wr hb.o;have AB:=zh1 hrg';have y0:=Blk.new wr 74 Tryz.zeroCells74;obtain⟨Y0,HI,OD,LD,HZ,HT,D5,D6⟩:=zh8 y0 (zI 74 lD) oD lD (show Tryz.zeroCells74.size=75 by kernel_rfl) ht d5 d6;obtain⟨A3,A4⟩:=zh2 l3 q3;clear hD lD oD hrg l1 l2 l3 q1 q2 q3 d5 d6 hrg' y0 ht;go_upto_region 5 with(first
    |(refine zld AB.o zu74 HI.o ?_)
    |(refine zst Y0.o HI.o (by simp[LD.o,HZ.o]) OD.o ?_))
   obtain⟨W1,hW1⟩:=eqx ((wr.alloc (.cells Tryz.zeroCells74 74)).setRow wr.heap.size D.toArray);rw[←hW1];have y1:Blk W1 wr.heap.size 74 D.toArray:=by rw[hW1];exact Y0.setRow _
   have b1:Zb wr W1:=by rw[hW1];exact below_setRow ((tA5 _ _).alloc (tA4 _) _) (tA4 _) _
   have e5:=(y1.cell 5).trans (show D.toArray[5]? =some (.slice Al t.leaves.length cl) by rw[tA3];exact D5.o);have e6:=(y1.cell 6).trans (show D.toArray[6]? =some (.slice Aq t.queue.length cq) by rw[tA3];exact D6.o);have B1:=zh1 (hb.trans (b1.mono hb.size));have hto:=HS.tre HT.o;have hsn:=qrh HT.o;have hle:=qrj HS.tres n;have hta:=qri hto;have hll:=hto.leaves;have hlq:=hto.queue;obtain⟨nl,hnl⟩:=xeq t.leaves.length;obtain⟨nq,hnq⟩:=xeq t.queue.length;obtain⟨N,hN⟩:=xeq (qrg s.tres n);rw[hnl]at e5 A3;rw[hnq]at e6 A4;rw[hN]at hsn hle ⊢;obtain⟨AC,A6,A7,A8,A9,A1⟩:=zh6 hsn hle hta (show nl≤1024 by omega) (show nq≤64 by omega) hto;clear hW1 y1 b1 hto hsn hle hta hll hlq hnl hnq hN hb;go_wp2_with fail
   obtain⟨W2,hW2⟩:=eqx (W1.alloc (.cells #[.slice Al nl cl,.slice Aq nq cq] 72));rw[←hW2];have x0:W2.cell? ⟨W1.heap.size,0,none⟩=some (.slice Al nl cl):=by rw[hW2];exact(qak W1 _ _ 0).trans rfl
   have x1:W2.cell? ⟨W1.heap.size,1,none⟩=some (.slice Aq nq cq):=by rw[hW2];exact(qak W1 _ _ 1).trans rfl
   have b2:=zMa hW2;obtain⟨X0,X1,B2⟩:=zh3 x0 x1 (B1.trans (b2.mono B1.size));clear hW2 x0 x1 b2 e5 e6;go_loopw [3,23] (fun v i wr2=>∃j:Nat,j≤2∧i=.int .i64 j∧v=.int .u64 ((N+(if j=0 then 0 else qmy t.leaves)+(if j≤1 then 0 else qmy t.queue):Nat):Int)∧wr2=W2) (fun v i _=>2 - (intOf i).toNat)
   case atStart=>exact⟨0,by omega,rfl,by simp,rfl⟩
   case round=>
    obtain⟨j,hj,rfl,rfl,rfl⟩:=hrel;have hj3:j=0∨j=1∨j=2:=zo;rcases hj3 with rfl|rfl|rfl
    ·
     have x0:=X0.o;go_wp2_with fail
     go_loopw [3,29] (fun v i wr3=>∃m:Nat,m≤nl∧i=.int .i64 m∧v=.int .u64 ((N+qmy ((t.leaves).take m):Nat):Int)∧wr3=wr) (fun v i _=>nl - (intOf i).toNat)
     case atStart=>exact⟨0,by omega,rfl,by simp[qmy],rfl⟩
     case round=>
      obtain⟨m,hm,rfl,rfl,rfl⟩:=hrel;by_cases hmn:m<nl
      ·
       have qm:(m:Int)<nl:=zo;have qm0:(0:Int)≤m:=zo;obtain⟨g,o,bs,A',n',c',rfl,-,hi,hc,-,-,h5⟩:=(A3.call B2.o).at_ hmn;have hst:=qrf hi;have hbl:=((fun b hb=>A1.leafb b hb) bs (tB2 hi)).1;rw[qb5 h5]at hst hbl;obtain⟨x,hx⟩:=xeq (N+qmy ((t.leaves).take m));have hxb:x≤100000000:=by
        have h1:=qre ((t.leaves).take m) (fun b hb=>(fun b hb=>A1.leafb b hb) b (tB7 hb));have h2:((t.leaves).take m).length≤1024:=by rw[tBd];have:=A8.o;omega
        have h3:=Nat.mul_le_mul_right 416 h2;have h4:=A6.o;have h5:=A7.o;try(have h6:=A2.o)
        omega
       have hx1:N+qmy ((t.leaves).take (m+1))=x+(n'+16):=by rw[hst];omega
       rw[hx];have p1:IntKind.u64.wrap (n':Int)=(n':Int):=tBa _ zo;have p2:IntKind.u64.wrap ((n':Int)+16)=(n':Int)+16:=tBa _ zo;have p3:IntKind.u64.wrap ((x:Int)+((n':Int)+16))=(x:Int)+((n':Int)+16):=tBa _ zo;have A5:=zh1 hx1;have hnb:=A8.o;clear hst hbl hx hxb hx1 h5 hi;go_wp2
       go_roundw
       case rel=>exact⟨m+1,by omega,by go_num,by rw[A5.o];simp,by first|rfl|trivial⟩
       case measure=>simp[intOf];omega
      have qm:¬(m:Int)<nl:=zo;have hall:(t.leaves).take m=t.leaves:=tB5 (by have:=A3.o.1;omega);have A0:=zh1 hall;clear hall;go_wp2
      go_roundw
      case rel=>exact⟨1,by omega,by go_num,by rw[A0.o];(try rw[←A2.o]);first|rfl|simp,by first|rfl|trivial⟩
      case measure=>simp[intOf]
    ·
     have x0:=X1.o;go_wp2_with fail
     obtain⟨M,hM⟩:=xeq (N+qmy t.leaves);have A2:=zh1 hM;rw[show ((N:Int)+(qmy t.leaves:Nat))=(M:Int) from by rw[←hM,Int.natCast_add]];clear hM;go_loopw [3,29] (fun v i wr3=>∃m:Nat,m≤nq∧i=.int .i64 m∧v=.int .u64 ((M+qmy ((t.queue).take m):Nat):Int)∧wr3=wr) (fun v i _=>nq - (intOf i).toNat)
     case atStart=>exact⟨0,by omega,rfl,by simp[qmy],rfl⟩
     case round=>
      obtain⟨m,hm,rfl,rfl,rfl⟩:=hrel;by_cases hmn:m<nq
      ·
       have qm:(m:Int)<nq:=zo;have qm0:(0:Int)≤m:=zo;obtain⟨g,o,bs,A',n',c',rfl,-,hi,hc,-,-,h5⟩:=(A4.call B2.o).at_ hmn;have hst:=qrf hi;have hbl:=((fun b hb=>A1.queueb b hb) bs (tB2 hi)).1;rw[qb5 h5]at hst hbl;obtain⟨x,hx⟩:=xeq (M+qmy ((t.queue).take m));have hxb:x≤100000000:=by
        have h1:=qre ((t.queue).take m) (fun b hb=>(fun b hb=>A1.queueb b hb) b (tB7 hb));have h2:((t.queue).take m).length≤1024:=by rw[tBd];have:=A9.o;omega
        have h3:=Nat.mul_le_mul_right 416 h2;have h4:=A6.o;have h5:=A7.o;try(have h6:=A2.o)
        omega
       have hx1:M+qmy ((t.queue).take (m+1))=x+(n'+16):=by rw[hst];omega
       rw[hx];have p1:IntKind.u64.wrap (n':Int)=(n':Int):=tBa _ zo;have p2:IntKind.u64.wrap ((n':Int)+16)=(n':Int)+16:=tBa _ zo;have p3:IntKind.u64.wrap ((x:Int)+((n':Int)+16))=(x:Int)+((n':Int)+16):=tBa _ zo;have A5:=zh1 hx1;have hnb:=A9.o;clear hst hbl hx hxb hx1 h5 hi;go_wp2
       go_roundw
       case rel=>exact⟨m+1,by omega,by go_num,by rw[A5.o];simp,by first|rfl|trivial⟩
       case measure=>simp[intOf];omega
      have qm:¬(m:Int)<nq:=zo;have hall:(t.queue).take m=t.queue:=tB5 (by have:=A4.o.1;omega);have A0:=zh1 hall;clear hall;go_wp2
      go_roundw
      case rel=>exact⟨2,by omega,by go_num,by rw[A0.o];(try rw[←A2.o]);first|rfl|simp,by first|rfl|trivial⟩
      case measure=>simp[intOf]
    go_wp2
    go_roundw
    case rel=>exact⟨n+1,by omega,by go_num,by rw[AC.o];simp[Nat.add_assoc],B2.o⟩
    case measure=>simp[intOf];omega
  have qn:¬(n:Int)<16:=zo;obtain rfl:n=16:=zo;have he:=qrk s HS.o;have HE:=zh1 he;clear he;go_wp2
  go_ret
  exact⟨by rw[←HE.o];rfl,hb.o⟩
theorem qrm{a b:List Nat}(ha:∀x∈a,x<256)(hb:∀x∈b,x<256):(Lib.bytesOf (a.map fun b:Nat=>(b:Int))==Lib.bytesOf (b.map fun b:Nat=>(b:Int)))=(a==b):=by
 rw[Bool.eq_iff_iff];simp only[beq_iff_eq];constructor
 · intro h
   refine(qe9 ha hb).1 ?_;unfold bstr strOfNums;unfold Lib.bytesOf at h;rw[h]
 rintro rfl;rfl
theorem qrn(a b:List Nat)(A B:Option Addr)(n c m d:Nat)(w:World)(ha:∀x∈a,x<256)(hb:∀x∈b,x<256)(h1:Reads w w.heap.size 1 A n (byv a))(h2:Reads w w.heap.size 1 B m (byv b)):
 Zc 81 #[.slice A n c,.slice B m d] w fun e w'=>e=.returned (.bool (a==b))∧w=w':=by
 have h:=Tryz.bytes_Equal (.slice A n c) (.slice B m d) (a.map fun b:Nat=>(b:Int)) (b.map fun b:Nat=>(b:Int)) w (qea h1) (qea h2);rw[qrm ha hb]at h;refine h.mono ?_;rintro e w' ⟨rfl,rfl⟩;exact⟨rfl,rfl⟩
theorem qro(b bs:List Nat)(A B:Option Addr)(n c m d p:Nat)(w:World)(ha:∀x∈bs,x<256)(hb:∀x∈b,x<256)(h1:Reads w w.heap.size 1 A n (byv bs))(h2:Reads w w.heap.size 1 B m (byv b))(hp:w.cell? ⟨p,0,none⟩=some (.slice B m d)):
 Zc 225 #[.slice A n c,.pointer (some ⟨p,0,none⟩)] w fun e w'=>e=.returned (.bool (bs==b))∧w=w':=by
 have H:=zh1 (qrn bs b A B n c m d w ha hb h1 h2);clear h1 h2 ha hb;go_enter Tryz.func225,Tryz.ntmps225
 go_wp2_with fail
 refine H.o.mono ?_;rintro e w' ⟨rfl,rfl⟩;go_wp2
 go_ret
 exact⟨rfl,rfl⟩
theorem qrp{l:List (List Nat)}{b:List Nat}{x:List Nat}(hx:l[k]? =some x)(h:∀j y,j<k→l[j]? =some y→y≠b):(x=b→qn7 l b=some k)∧(x≠b→∀j y,j<k+1→l[j]? =some y→y≠b):=by
 constructor
 ·
  rintro rfl;unfold qn7;obtain⟨hk,e⟩:=tA8 hx;rw[List.findIdx?_eq_some_iff_getElem];refine⟨hk,by simp[e],fun j hj=>?_⟩;have:=h j l[j] hj (tA7 zo);simpa using this
 intro hne j y hj hy;by_cases e:j=k
 · subst e
   rw[hx]at hy;injection hy with hy;rw[←hy];exact hne
 exact h j y zo hy
theorem qrq{l:List (List Nat)}{b:List Nat}(h:∀j y,j<l.length→l[j]? =some y→y≠b):qn7 l b=none:=by
 unfold qn7;rw[List.findIdx?_eq_none_iff];intro x hx;obtain⟨j,hj,rfl⟩:=List.getElem_of_mem hx;have:=h j _ hj (tA7 hj);simpa using this
def idxI (o:Option Nat):Int:=match o with|some k=>(k:Int)|none=>-1
theorem qrr(b:List Nat)(ls:List (List Nat))(A B:Option Addr)(n c m d p:Nat)(w:World)(hn:n≤1048576)(hl:TextsR w A n ls)(hok:∀x∈ls,BsOk x)(hb:∀x∈b,x<256)(h2:Reads w w.heap.size 1 B m (byv b))(hp:w.cell? ⟨p,0,none⟩=some (.slice B m d)):
 Zc 224 #[.slice A n c,.func (.func 225) #[] #[.pointer (some ⟨p,0,none⟩)]] w fun e w'=>e=.returned (.int .i64 (idxI (qn7 ls b)))∧w=w':=by
 obtain⟨HL,A0,HB,H2,HP,LN⟩:=zh6 hl hok hb h2 hp hl.1;clear hl hok hb h2 hp;go_enter Tryz.func224,Tryz.ntmps224
 go_wp2_with fail
 go_loopw [8] (fun i wr=>∃k:Nat,k≤n∧i=.int .i64 k∧Hid (∀j y,j<k→ls[j]? =some y→y≠b)∧wr=w) (fun i _=>n - (intOf i).toNat)
 case atStart=>exact⟨0,by omega,rfl,fun j y h=>absurd h zo,rfl⟩
 case round=>
  obtain⟨k,hk,rfl,hne,rfl⟩:=hrel;by_cases hkn:k<n
  ·
   have qk:(k:Int)<n:=zo;obtain⟨g,o,bs,A',n',c',rfl,hg,hi,hc,h3,h4,h5⟩:=HL.at_ hkn;have qk0:(0:Int)≤k:=zo;have hbs:=A0.o bs (tB2 hi);have HI:=zh1 (qro b bs A' B n' c' m d p wr hbs.2 HB.o h5 H2.o HP.o);obtain⟨h6,h7⟩:=qrp hi hne.o;obtain⟨H6,H7⟩:=zh2 h6 h7;clear h3 h4 h5 hbs hi hg h6 h7 hne;go_wp2_with fail
   refine HI.o.mono ?_;rintro e w' ⟨rfl,rfl⟩;by_cases e:bs=b
   · have qe:(bs==b)=true:=by simpa using e
     have hf:=H6.o e;clear e;go_wp2
     go_ret
     exact⟨by rw[hf];rfl,rfl⟩
   have qe:(bs==b)=false:=by simpa using e
   have hf:=H7.o e;have HF:=zh1 hf;clear e hf;go_wp2
   go_roundw
   case rel=>exact⟨k+1,by omega,by go_num,HF.o,by first|rfl|trivial⟩
   case measure=>simp[intOf];omega
  have qk:¬(k:Int)<n:=zo;have hf:qn7 ls b=none:=qrq fun j y hj hy=>hne.o j y (by have:=LN.o;omega) hy
  have HF:=zh1 hf;clear hf;go_wp2
  go_ret
  exact⟨by rw[HF.o];rfl,rfl⟩
theorem qrs(b:List Nat)(ls:List (List Nat))(A B:Option Addr)(n c m d:Nat)(w:World)(hn:n≤1048576)(hl:TextsR w A n ls)(hok:∀x∈ls,BsOk x)(hb:∀x∈b,x<256)(h2:Reads w w.heap.size 1 B m (byv b)):
 Zc 188 #[.slice A n c,.slice B m d] w fun e w'=>e=.returned (.int .i64 (idxI (qn7 ls b)))∧Zb w w':=by
 have b0:Zb w (w.alloc (.cells #[.slice B m d] 23)):=qah (tA5 _ _) _;obtain⟨H,B0⟩:=zh2 (qrr b ls A B n c m d w.heap.size _ hn (hl.call b0) hok hb (h2.call b0) ((qak w #[.slice B m d] 23 0).trans rfl)) b0;have hmf:=zmf;clear hl hok hb h2 b0;go_enter Tryz.func188,Tryz.ntmps188
 go_wp2_with fail
 refine H.o.mono ?_;rintro e w' ⟨rfl,rfl⟩;go_wp2
 go_ret
 exact⟨rfl,B0.o⟩
def inP (k:Nat):Nat→Bool:=fun i=>i==1||(decide (k≤i)&&decide (i≤k+2))||decide (10≤i)
theorem qru(hk:Kind k):inP k 0=false:=by rcases hk with rfl|rfl<;>rfl
theorem Turns.row0{p:Nat→Bool}(h:Turns p w col w' col')(hG:w.heap.size≤G)(cs:Array Value):Turns p w col (w'.setRow G cs) col':=
 ⟨h.os,h.tape,h.output,by simpa using h.size,fun b hb hp=>((qam w' G cs).block b (tB0 hb h.size) (by intro e;injection e with e;omega)).trans (h.block b hb hp),h.same⟩
theorem Turns.onlyRow(cs:Array Value)(h0:col G=0):Turns (· ==0) w col (w.setRow G cs) col:=
 Turns.of_grown (qam w G cs) (fun g e=>by injection e with e;subst e;simp[h0]) (fun _ _=>rfl)
theorem Mdl.row0(h:Mdl w col k g c s L css)(hk:Kind k)(cs:Array Value)(h0:col G=0):Mdl (w.setRow G cs) col k g c s L css:=
 h.keep (Turns.onlyRow cs h0) rfl rfl (by rcases hk with rfl|rfl<;>rfl) (by rcases hk with rfl|rfl<;>rfl) (by rcases hk with rfl|rfl<;>rfl) (fun i hi=>by simp;omega) (h.fin.mono zm)
theorem TrsAt.row0{l:List Tre}(h:TrsAt w col css l)(cs:Array Value)(h0:col G=0):TrsAt (w.setRow G cs) col css l:=
 h.keep fun i hi=>(Turns.onlyRow cs h0).keeps (by rcases hi with rfl|hi;rfl;simp;omega)
structure Did (w:World)(col:Col)(w':World)(col':Col)(k g:Nat)(c:Cfg)(css:List (List Value))(s s':Sta):Prop where
 mdl:∃L' css',Mdl w' col' k g c s' L' css'
 old:TrsAt w' col' css s.tres
 turns:Turns (inP k) w col w' col'
theorem Did.row0(h:Did w col w' col' k g c css s s')(hk:Kind k)(cs:Array Value)(h0:col' G=0)(hG:w.heap.size≤G):Did w col (w'.setRow G cs) col' k g c css s s':=by
 obtain⟨L',css',hm⟩:=h.mdl;exact⟨⟨L',css',hm.row0 hk cs h0⟩,h.old.row0 cs h0,h.turns.row0 hG cs⟩
theorem Did.same(h:Mdl w col k g c s L css)(hb:Zb w w'):Did w col w' col k g c css s s:=
 ⟨⟨L,css,h.call hb⟩,(h.call hb).st.trs,Turns.of_below _ hb⟩
theorem Did.call(h:Did w col w' col' k g c css s s')(hb:Zb w' w''):Did w col w'' col' k g c css s s':=by
 obtain⟨L',css',hm⟩:=h.mdl;exact⟨⟨L',css',hm.call hb⟩,h.old.keep fun i _=>(Turns.of_below (fun _=>false) hb).keeps rfl,h.turns.trans (Turns.of_below _ hb)⟩
def RspV (w:World)(col:Col)(base:Nat)(v:Value)(R:Rsp):Prop:=
 ∃bv hv cav,v=.agg (rspv R bv hv cav).toArray∧OwnB w base bv R.bytes∧OwnD w base hv R.hashes∧OwnC w base cav R.tok.2.1∧
  (∀g,bv.ownBlock=some g→col g=0)∧(∀g,hv.ownBlock=some g→col g=0)∧(∀g,cav.ownBlock=some g→col g=0)
theorem RspV.plain(w:World)(col:Col)(base:Nat)(R:Rsp)(h1:R.bytes=[])(h2:R.hashes=[])(h3:R.tok.2.1=[]):RspV w col base (.agg (qr1 R).toArray) R:=
 ⟨_,_,_,rfl,by rw[h1];exact OwnB.nil _ _,by rw[h2];exact OwnD.nil _ _,by rw[h3];exact OwnC.nil _ _,(fun g e=>by cases e),(fun g e=>by cases e),(fun g e=>by cases e)⟩
structure Asked (w:World)(col:Col)(R:Req)(Ac:Option Addr)(cc:Nat)(Al:Option Addr)(cl:Nat):Prop where
 good:R.Good
 leaf:Reads w w.heap.size 1 Al R.leaf.length (byv R.leaf)
 leafc:R.leaf.length≤cl
 leafm:cl≤maxLen
 cavs:Reads w w.heap.size 2 Ac R.cavs.length (cavv R.cavs)
 cavc:R.cavs.length≤cc
 cavm:cc≤maxLen
 leaf0:0<R.leaf.length→∀ad,Al=some ad→col ad.block=0
 cavs0:0<R.cavs.length→∀ad,Ac=some ad→col ad.block=0
theorem qrv{p:Nat→Bool}(h:Reads w w.heap.size size A n xs)(h0:0<n→∀ad,A=some ad→col ad.block=0)(ht:Turns p w col w' col')(hp:p 0=false):Reads w' w'.heap.size size A n xs:=by
 refine⟨h.1,fun hn=>?_⟩;obtain⟨ad,e,hb,hc⟩:=h.2 hn;refine⟨ad,e,tB0 hb ht.size,fun j u hu=>?_⟩;refine(World.cell?_of_block ?_).trans (hc j u hu);rw[qa1];exact ht.block _ hb (by rw[h0 hn ad e];exact hp)
theorem qrw(h:w.ownsRow base e size v n xs)(hb:Zb w w'):w'.ownsRow base e size v n xs:=by
 refine⟨h.1,?_⟩;rcases h.2 with h0|⟨g,cap,cur,rfl,hg,hh,rest⟩
 · exact .inl h0
 have hl:Blk w g e cur:=hh;exact .inr ⟨g,cap,cur,rfl,hg,(hb.block g hl.lt).trans hh,rest⟩
theorem Fin_.none(h:Fin_ col w)(hb:w.heap.size≤b):col b=0:=by
 by_cases e:col b=0
 · exact e
 have:=h _ e;omega
theorem qrx(R:Req)(Ac:Option Addr)(cc:Nat)(Al:Option Addr)(cl:Nat)(w:World)(ht:R.tag.length=32):
 ∃Q,reqv R (.slice Ac R.cavs.length cc) (.slice Al R.leaf.length cl)=Q∧Q.length=48∧(∀k:Nat,Q[35+k]? =(R.rest (.slice Al R.leaf.length cl))[k]?)∧
  ∃W0,W0=(w.alloc (.cells Q.toArray 34)).alloc (.cells Tryz.zeroCells57 57)∧Blk W0 w.heap.size 34 Q.toArray∧Blk W0 (w.heap.size+1) 57 Tryz.zeroCells57∧Zb w W0:=by
 refine⟨_,rfl,qjd R _ _ ht,fun k=>qdl R _ _ ht k,_,rfl,(Blk.new w _ _).alloc _,?_,qah (qah (tA5 _ _) _) _⟩;have h:=Blk.new (w.alloc (.cells (reqv R (.slice Ac R.cavs.length cc) (.slice Al R.leaf.length cl)).toArray 34)) 57 Tryz.zeroCells57;rwa[qar]at h
theorem qry{args:Array Value}{fn:FuncId}{K:Ending→World→Prop}{a:Rsp}{f:Sta × Rsp}(hdo:Hid (f=(s',a)))(hk:Hid (Kind k))(hG:col' G=0)
 (hc:Zc fn args W1 fun e w'=>e=.returned (.agg (qr1 a).toArray)∧Zb W1 w')(Z:Blk W1 G 57 Tryz.zeroCells57)(D:Did w col W1 col' k g c css s s')(hb:w.heap.size≤G:=by omega)
 (ha:a.hd=Hd.zero∧a.tok=qgu∧a.bytes=[]∧a.hashes=[]:=by exact⟨rfl,rfl,rfl,rfl⟩)
 (h:∀X w9,Hid (Blk w9 G 57 Tryz.zeroCells57)→RspK X→Hid (RspV (w9.setRow G X.toArray) col' w.heap.size (.agg X.toArray) f.2∧Did w col (w9.setRow G X.toArray) col' k g c css s f.1)→K (.returned (.agg X.toArray)) w9:=by
  (intro X w9 Z9 pk RD
   go_wp2_with (refine qrb _ _ _ X Z9.o pk ?_)
   exact qrc (Z9.setRow X.toArray) pk ⟨_,_,rfl,RD.o⟩)):Zc fn args W1 K:=by
 obtain⟨h1,h2,h3,h4⟩:=ha;refine zcb hc fun w9 b9=>?_
 refine h _ w9 (Z.below b9 Z.lt) ⟨qr2 a (by rw[h1];exact Hd.zero_Ok) (by rw[h2];rfl),qr3 a⟩ ⟨?_,?_⟩
 · rw[hdo.o]
   exact RspV.plain _ _ _ a h3 h4 (by rw[h2];rfl)
 rw[hdo.o];exact(D.call b9).row0 hk.o _ hG hb
section
variable {w w' : World} {col col' : Col} {k g : Nat} {c : Cfg} {s : Sta} {L : Loc} {css : List (List Value)}
theorem qrz {α:Type}{f g:α→α}:∀{l:List α} {n:Nat},(∀x,l[n]? =some x→f x=g x)→l.modify n f=l.modify n g
 |[],n,_=>by simp
 |x::l,0,h=>by simp[h x rfl]
 |x::l,n+1,h=>by simp[qrz (l:=l) (n:=n) (fun y hy=>h y (by simpa using hy))]
theorem Mdl.treRow(h:Mdl w col k g c s L css)(hk:Kind k)(hs:s.Ok)(ht:s.tres[n]? =some t)(hcs:css[n]? =some cs)(hkk:kk=10+3*n∨kk=11+3*n∨kk=12+3*n)
 (hT:Turns (· ==kk) w col w' col')(hf:Fin_ col' w')(f:Tre→Tre)(v':Value)(hj:j<75)(hold:TreAt w' col' n cs t)(hnew:TreAt w' col' n (cs.set j v') (f t)):
 Mdl (w'.setCell ⟨L.rg,n*75+j,none⟩ v') col' k g c (s.setT n f) L (css.modify n fun x=>x.set j v')∧TrsAt (w'.setCell ⟨L.rg,n*75+j,none⟩ v') col' css s.tres∧Turns (inP k) w col (w'.setCell ⟨L.rg,n*75+j,none⟩ v') col':=by
 have hn:n<s.tres.length:=by obtain⟨h,_⟩:=tA8 ht;exact h
 have hn16:n<16:=by rw[←hs.tresn];exact hn
 have hlen:=h.st.trs.lens (fun t ht=>(hs.tres t ht).hd);have hcl:css.length=16:=by rw[h.st.trs.1,hs.tresn]
 have hfl:css.flatten.length=1200:=by rw[qnx hlen,hcl]
 have keepA:∀i,i≠kk→KeepsCol i w col w' col':=fun i hi=>hT.keeps (by simpa using hi)
 have mA:Mdl w' col' k g c s L css:=by
  refine⟨(hT.block g h.blk.lt (by rw[h.own];simp;omega)).trans h.blk,(hT.same g h.blk.lt).trans h.own,⟨tB1 h.base.1 hT.size,fun b hb=>(hT.same b (tB0 hb h.base.1)).trans (h.base.2 b hb)⟩,hf,h.seed.keep (keepA 5 zo),?_⟩;refine⟨h.st.tens.keep (keepA k (by rcases hk with rfl|rfl<;>omega)),h.st.tres.keep (keepA (k+1) (by rcases hk with rfl|rfl<;>omega)),h.st.gras.keep (keepA (k+2) (by rcases hk with rfl|rfl<;>omega)),h.st.trs.1,fun i t' ht'=>?_⟩;by_cases e:n=i
  · subst e
    rw[ht]at ht';injection ht' with ht';subst ht';exact⟨cs,hcs,hold⟩
  obtain⟨c0,h1,vd,vl,vq,e1,r1,r2,r3⟩:=h.st.trs.2 i t' ht';exact⟨c0,h1,vd,vl,vq,e1,r1.keep (keepA _ zo),r2.keep (keepA _ zo) (keepA 5 zo),r3.keep (keepA _ zo) (keepA 5 zo)⟩
 have hT2:Turns (· ==k+1) w' col' (w'.setCell ⟨L.rg,n*75+j,none⟩ v') col':=Turns.setCell v' (by simp[mA.st.tres.1]);have keepB:∀i,i≠k+1→KeepsCol i w' col' (w'.setCell ⟨L.rg,n*75+j,none⟩ v') col':=fun i hi=>hT2.keeps (by simpa using hi)
 have hbig:∀i,i=5∨10≤i→i≠k+1:=fun i hi=>by rcases hk with rfl|rfl<;>omega
 have hne:g≠L.rg:=by
  intro e;have a:=mA.own;rw[e,mA.st.tres.1]at a;rcases hk with rfl|rfl<;>cases a
 refine⟨⟨?_,mA.own,⟨tB1 mA.base.1 hT2.size,mA.base.2⟩,mA.fin.mono hT2.size,mA.seed.keep (keepB 5 (hbig 5 (.inl rfl))),?_⟩,mA.st.trs.keep fun i hi=>keepB i (hbig i hi),?_⟩
 · exact(mA.blk.far (p:=⟨L.rg,n*75+j,none⟩) hne v')
 ·
  refine⟨mA.st.tens.keep (keepB k zo),?_,mA.st.gras.keep (keepB (k+2) zo),?_⟩
  · have h1:=mA.st.tres.set1 (o:=n*75+j) v' (by rw[hfl];omega)
    rw[←qnz _ _ _ (by rw[hfl];omega),qny [v'] hlen (by rw[hcl];exact hn16) (by simp;omega)]at h1;have e:(css.modify n fun x=>over x j [v'])=css.modify n fun x=>x.set j v':=qrz fun x hx=>qnz x j v' (by rw[hlen x (tB2 hx)];exact hj)
    rwa[e]at h1
  refine⟨by rw[List.length_modify,h.st.trs.1];simp[Sta.setT],fun i t' ht'=>?_⟩;by_cases e:n=i
  · subst e
    rw[show (s.setT n f).tres=s.tres.modify n f from rfl,qop f ht]at ht';injection ht' with ht';subst ht';exact⟨cs.set j v',qop _ hcs,hnew.keep fun i hi=>keepB i (hbig i hi)⟩
  rw[show (s.setT n f).tres=s.tres.modify n f from rfl,qoq _ f e]at ht';obtain⟨c0,h1,h2⟩:=mA.st.trs.2 i t' ht';exact⟨c0,by rw[qoq _ _ e];exact h1,h2.keep fun i hi=>keepB i (hbig i hi)⟩
 refine(hT.mono (q:=inP k) fun i hi=>?_).trans (hT2.mono (q:=inP k) fun i hi=>?_)
 · obtain rfl:i=kk:=by simpa using hi
   unfold inP;simp;omega
 obtain rfl:i=k+1:=by simpa using hi
 unfold inP;simp
theorem qs0{a b d b':Value}(h:trev t a b d=trev t a' b' d'):a=a'∧b=b'∧d=d':=by
 unfold trev at h;simp only[List.cons.injEq,true_and]at h;exact⟨h.1,h.2.1,h.2.2.1⟩
theorem Mdl.rows(h:Mdl w col k g c s L css)(ht:s.tres[n]? =some t)(hcs:css[n]? =some (trev t vd vl vq)):
 RowC w col (10+3*n) vd 22 1 t.draws.length (drwv t.draws)∧TextsC w col (11+3*n) vl t.leaves∧TextsC w col (12+3*n) vq t.queue:=by
 obtain⟨cs,h1,a,b,d,e,r1,r2,r3⟩:=h.st.trs.2 n t ht;rw[hcs]at h1;injection h1 with h1;rw[←h1]at e;obtain⟨rfl,rfl,rfl⟩:=qs0 e;exact⟨r1,r2,r3⟩
theorem qs1{ls:List (List Nat)}{bs:List Nat}(ha:AppendedC w col w' col' kk v v' 23 1 ls.length 1 vs [u])(hlen:vs.length=ls.length)(htx:∀(i:Nat) (bs:List Nat),ls[i]? =some bs→∃u,vs[i]? =some u∧TextC w col u bs)(hu:TextC w col u bs)(h5:KeepsCol 5 w col w' col'):
 TextsC w' col' kk v ls∧TextsC w' col' kk v' (ls++[bs]):=by
 constructor
 · refine⟨vs,ha.old,fun i x hx=>?_⟩
   obtain⟨y,hy,ht⟩:=htx i x hx;exact⟨y,hy,ht.keep h5⟩
 refine⟨vs++[u],?_,fun i x hx=>?_⟩
 · have:=ha.row
   rwa[show ls.length+1=(ls++[bs]).length by simp]at this
 rw[List.getElem?_append]at hx;split at hx
 · obtain⟨y,hy,ht⟩:=htx i x hx
   exact⟨y,by rw[tBm zo];exact hy,ht.keep h5⟩
 rename_i hge
 have hi:i=ls.length:=by
  have:(List.length [bs])=1:=rfl;obtain⟨h,_⟩:=tA8 hx;simp at h;omega
 subst hi;simp at hx;subst hx;exact⟨u,by rw[tBn zo,hlen];simp,hu.keep h5⟩
theorem Mdl.queueAdd(h:Mdl w col k g c s L css)(hk:Kind k)(hs:s.Ok)(ht:s.tres[n]? =some t)(hcs:css[n]? =some (trev t vd vl vq))(hlen:vs.length=t.queue.length)
 (htx:∀(i:Nat) (bs:List Nat),t.queue[i]? =some bs→∃u,vs[i]? =some u∧TextC w col u bs){bs:List Nat}(hu:TextC w col u bs)(ha:AppendedC w col w' col' (12+3*n) vq v' 23 1 t.queue.length 1 vs [u]):
 Mdl (w'.setCell ⟨L.rg,n*75+6,none⟩ v') col' k g c (s.setT n fun t=>{t with queue:=t.queue++[bs]}) L (css.modify n fun x=>x.set 6 v')∧TrsAt (w'.setCell ⟨L.rg,n*75+6,none⟩ v') col' css s.tres∧Turns (inP k) w col (w'.setCell ⟨L.rg,n*75+6,none⟩ v') col':=by
 obtain⟨r1,r2,r3⟩:=h.rows ht hcs;have kp:∀i,i≠12+3*n→KeepsCol i w col w' col':=fun i hi=>ha.turns.keeps (by simpa using hi)
 obtain⟨t1,t2⟩:=qs1 ha hlen htx hu (kp 5 zo);exact h.treRow hk hs ht hcs (.inr (.inr rfl)) ha.turns (ha.fin h.fin) _ v' zo
  ⟨vd,vl,vq,rfl,r1.keep (kp _ zo),r2.keep (kp _ zo) (kp 5 zo),t1⟩
  ⟨vd,vl,v',rfl,r1.keep (kp _ zo),r2.keep (kp _ zo) (kp 5 zo),t2⟩
theorem qs2{bs:List Nat}(ho:OwnB w' base v bs)(hb:w.heap.size≤base)(hs:w.heap.size≤w'.heap.size)(hf:Fin_ col w):
 ∃col1:Col,(∀b,b<base→col1 b=col b)∧TextC w' col1 v bs∧Fin_ col1 w':=by
 refine⟨fun b=>if v.ownBlock=some b then 5 else col b,fun b hb'=>?_,TextC.own ho fun g hg=>?_,fun b hb'=>?_⟩
 · show (if v.ownBlock=some b then 5 else col b)=col b
   rw[if_neg];intro e;have:=(World.ownsRow.lt ho b e).1;omega
 · simp[hg]
 by_cases e:v.ownBlock=some b
 · exact(World.ownsRow.lt ho b e).2
 change (if v.ownBlock=some b then 5 else col b)≠0 at hb';rw[if_neg e]at hb';exact tB0 (hf b hb') hs
end
theorem qs3{i:TypeInfo}(hu:Tryz.prog.underlying st=some (.slice et))(hi:Tryz.prog.info? et=some i)(b off:Nat)(s:Option Nat)(c:Nat)(w:World):(Builtin.append_ #[st,st] st #[.slice (some ⟨w.heap.size,0,none⟩) 0 0,.slice (some ⟨b,off,s⟩) 0 c]).run Tryz.prog (w.alloc (.cells #[] et))=.ok (.slice (some ⟨w.heap.size,0,none⟩) 0 0) (w.alloc (.cells #[] et)):=by
 simp[Builtin.append_,run_underlying hu,sizeOf,typeInfo,hi,Builtin.lenOf,Builtin.firstCells,storeCells,loadCells,loadCellsFrom,Result.andThen]
theorem qs4{st et:Nat}{fn:Func}(hF:Tryz.prog.funcs[f]? =some fn)(hN:fn.ntmps=nt){ρ:Go.Shelf.Ren}(lay:Go.Proofs.SlLaysE0.n41 Tryz.prog ρ)(hu:Tryz.prog.underlying st=some (.slice et))(A:Option Addr)(n c:Nat)(xs:List Value)(w:World)(hr:Reads w w.heap.size size A n xs)(hn:n*bytes≤140737488355328)(h1:∀u∈xs,u.oneCell'=true)
 (hf:ρ.f 41=f:=by rfl)(ht:ρ.t 22=st:=by rfl)(he:ρ.t 23=et:=by rfl)(hinfo:((Tryz.prog.info? et).bind fun i=>i.zero.map fun z=>(z.cells.size,i.size,i.bytes))=some (size,size,bytes):=by kernel_rfl)(hs:0<size:=by decide)(hb0:0<bytes:=by decide)(z23:∀w,(Go.sizeOf (ρ.t 23)).run Tryz.prog w=.ok size w:=by(intro w;kernel_rfl))
 (hz:Tryz.prog.funcs[f]? =some fn→fn.ntmps=nt→Tryz.prog.underlying st=some (.slice et)→∀i,Tryz.prog.info? et=some i→∀(b off:Nat) (s) (c:Nat) (w:World),Zc f #[.slice (some ⟨b,off,s⟩) 0 c] w fun e w'=>∃v',e=.returned v'∧w'.ownsRow w.heap.size et size v' 0 []∧Zb w w':=by
  (intro hF hN hu i hi b off s c w
   have qT:=fun w=>Lib.run_eql_slice_nil w _ _ (some ⟨b,off,s⟩) 0 c 0 0 hu
   have hap:=qs3 hu hi b off s c;clear hu hi;go_enter hF,hN
   go_wp2
   go_ret
   exact⟨_,rfl,⟨by simp,.inr ⟨w.heap.size,0,#[],rfl,tA4 _,heap_alloc_new _ _,tA4 _,by simp[maxLen],by simp,by simp⟩⟩,(tA5 _ _).alloc (tA4 _) _⟩)):
 Zc f #[.slice A n c] w fun e w'=>∃v',e=.returned v'∧w'.ownsRow w.heap.size et size v' n xs∧Zb w w':=by
 subst hf;obtain⟨i0,z,hi,hzz,hzs,hs',hb⟩:∃i z,Tryz.prog.info? et=some i∧i.zero=some z∧z.cells.size=size∧i.size=size∧i.bytes=bytes:=by
  rcases h:Tryz.prog.info? et with _|i
  · rw[h]at hinfo;cases hinfo
  rcases h2:i.zero with _|z
  · rw[h]at hinfo;simp[h2]at hinfo
  rw[h]at hinfo;simp[h2]at hinfo;exact⟨i,z,rfl,h2,hinfo.1,hinfo.2.1,hinfo.2.2⟩
 have nil:n=0→xs=[]:=fun h=>tB8 (by rw[hr.1,h,Nat.zero_mul])
 rcases A with _|⟨b,off,s⟩
 ·
  have hn0:n=0:=by
   rcases Nat.eq_zero_or_pos n with h0|h0
   · exact h0
   obtain⟨ad,h,_⟩:=hr.2 h0;cases h
  rw[nil hn0,hn0];refine(AnyE.slices_Clone_nil lay 0 c w).mono ?_;rintro e w' ⟨rfl,rfl⟩;exact⟨_,rfl,World.ownsRow_nil ..,tA5 _ _⟩
 by_cases h0:n=0
 · rw[nil h0,h0]
   exact hz hF hN hu i0 hi b off s c w
 obtain⟨b',o',e,hb',hc⟩:=hr.mid zo hs;injection e with e;injection e with e1 e2 e3;subst e1 e2 e3;subst he;refine(AnyE.slices_Clone lay i0 z size bytes hi hzz hs' hb hzs hs z23 b off n c xs w hr.1 (tB1 (Nat.le_mul_of_pos_right n hb0) (tB1 hn (by simp[maxLen]))) hn (fun j u hu=>hc j u hu) h1).mono ?_;rintro e w' ⟨v',rfl,h2,_,h4⟩;exact⟨v',rfl,h2,h4⟩
def Tryz.clr47:Go.Shelf.Ren:=⟨fun|41=>47|n=>n,fun|22=>23|23=>5|4=>4|n=>n,fun|n=>n⟩
theorem Tryz.cll47:Go.Proofs.SlLaysE0.n41 Tryz.prog Tryz.clr47:={
 mixed:=by kernel_rfl
 f41:=⟨Tryz.f47.name,by decide,Tryz.func47.trans (congrArg some zk)⟩
 t4:=Tryz.underlying4
 a4:=Tryz.isAgg4
 z4:=Tryz.sizeOf4
 v4:=Tryz.zeroValue4
 t22:=Tryz.underlying23
 a22:=Tryz.isAgg23
 z22:=Tryz.sizeOf23
 v22:=Tryz.zeroValue23}
theorem qs5(A:Option Addr)(n c:Nat)(xs:List Value)(w:World)(hr:Reads w w.heap.size 1 A n xs)(hn:n*1≤140737488355328)(h1:∀u∈xs,u.oneCell'=true):
 Zc 47 #[.slice A n c] w fun e w'=>∃v',e=.returned v'∧w'.ownsRow w.heap.size 5 1 v' n xs∧Zb w w':=
 qs4 Tryz.func47 Tryz.ntmps47 Tryz.cll47 Tryz.underlying23 A n c xs w hr hn h1
def Tryz.clr88:Go.Shelf.Ren:=⟨fun|41=>88|n=>n,fun|22=>71|23=>22|4=>4|n=>n,fun|n=>n⟩
theorem Tryz.cll88:Go.Proofs.SlLaysE0.n41 Tryz.prog Tryz.clr88:={
 mixed:=by kernel_rfl
 f41:=⟨Tryz.f88.name,by decide,Tryz.func88.trans (congrArg some zk)⟩
 t4:=Tryz.underlying4
 a4:=Tryz.isAgg4
 z4:=Tryz.sizeOf4
 v4:=Tryz.zeroValue4
 t22:=Tryz.underlying71
 a22:=Tryz.isAgg71
 z22:=Tryz.sizeOf71
 v22:=Tryz.zeroValue71}
theorem qs6(A:Option Addr)(n c:Nat)(xs:List Value)(w:World)(hr:Reads w w.heap.size 1 A n xs)(hn:n*4≤140737488355328)(h1:∀u∈xs,u.oneCell'=true):
 Zc 88 #[.slice A n c] w fun e w'=>∃v',e=.returned v'∧w'.ownsRow w.heap.size 22 1 v' n xs∧Zb w w':=
 qs4 Tryz.func88 Tryz.ntmps88 Tryz.cll88 Tryz.underlying71 A n c xs w hr hn h1
def Tryz.clr65:Go.Shelf.Ren:=⟨fun|41=>65|n=>n,fun|22=>72|23=>23|4=>4|n=>n,fun|n=>n⟩
theorem Tryz.cll65:Go.Proofs.SlLaysE0.n41 Tryz.prog Tryz.clr65:={
 mixed:=by kernel_rfl
 f41:=⟨Tryz.f65.name,by decide,Tryz.func65.trans (congrArg some zk)⟩
 t4:=Tryz.underlying4
 a4:=Tryz.isAgg4
 z4:=Tryz.sizeOf4
 v4:=Tryz.zeroValue4
 t22:=Tryz.underlying72
 a22:=Tryz.isAgg72
 z22:=Tryz.sizeOf72
 v22:=Tryz.zeroValue72}
theorem qs7(A:Option Addr)(n c:Nat)(xs:List Value)(w:World)(hr:Reads w w.heap.size 1 A n xs)(hn:n*24≤140737488355328)(h1:∀u∈xs,u.oneCell'=true):
 Zc 65 #[.slice A n c] w fun e w'=>∃v',e=.returned v'∧w'.ownsRow w.heap.size 23 1 v' n xs∧Zb w w':=
 qs4 Tryz.func65 Tryz.ntmps65 Tryz.cll65 Tryz.underlying72 A n c xs w hr hn h1
def Tryz.clr51:Go.Shelf.Ren:=⟨fun|41=>51|n=>n,fun|22=>45|23=>92|4=>4|n=>n,fun|n=>n⟩
theorem Tryz.cll51:Go.Proofs.SlLaysE0.n41 Tryz.prog Tryz.clr51:={
 mixed:=by kernel_rfl
 f41:=⟨Tryz.f51.name,by decide,Tryz.func51.trans (congrArg some zk)⟩
 t4:=Tryz.underlying4
 a4:=Tryz.isAgg4
 z4:=Tryz.sizeOf4
 v4:=Tryz.zeroValue4
 t22:=Tryz.underlying45
 a22:=Tryz.isAgg45
 z22:=Tryz.sizeOf45
 v22:=Tryz.zeroValue45}
theorem qs8(A:Option Addr)(n c:Nat)(xs:List Value)(w:World)(hr:Reads w w.heap.size 6 A n xs)(hn:n*24≤140737488355328)(h1:∀u∈xs,u.oneCell'=true):
 Zc 51 #[.slice A n c] w fun e w'=>∃v',e=.returned v'∧w'.ownsRow w.heap.size 92 6 v' n xs∧Zb w w':=
 qs4 Tryz.func51 Tryz.ntmps51 Tryz.cll51 Tryz.underlying45 A n c xs w hr hn h1
def Tryz.clr52:Go.Shelf.Ren:=⟨fun|41=>52|n=>n,fun|22=>46|23=>74|4=>4|n=>n,fun|n=>n⟩
theorem Tryz.cll52:Go.Proofs.SlLaysE0.n41 Tryz.prog Tryz.clr52:={
 mixed:=by kernel_rfl
 f41:=⟨Tryz.f52.name,by decide,Tryz.func52.trans (congrArg some zk)⟩
 t4:=Tryz.underlying4
 a4:=Tryz.isAgg4
 z4:=Tryz.sizeOf4
 v4:=Tryz.zeroValue4
 t22:=Tryz.underlying46
 a22:=Tryz.isAgg46
 z22:=Tryz.sizeOf46
 v22:=Tryz.zeroValue46}
theorem qs9(A:Option Addr)(n c:Nat)(xs:List Value)(w:World)(hr:Reads w w.heap.size 75 A n xs)(hn:n*200≤140737488355328)(h1:∀u∈xs,u.oneCell'=true):
 Zc 52 #[.slice A n c] w fun e w'=>∃v',e=.returned v'∧w'.ownsRow w.heap.size 74 75 v' n xs∧Zb w w':=
 qs4 Tryz.func52 Tryz.ntmps52 Tryz.cll52 Tryz.underlying46 A n c xs w hr hn h1
def Tryz.clr53:Go.Shelf.Ren:=⟨fun|41=>53|n=>n,fun|22=>47|23=>66|4=>4|n=>n,fun|n=>n⟩
theorem Tryz.cll53:Go.Proofs.SlLaysE0.n41 Tryz.prog Tryz.clr53:={
 mixed:=by kernel_rfl
 f41:=⟨Tryz.f53.name,by decide,Tryz.func53.trans (congrArg some zk)⟩
 t4:=Tryz.underlying4
 a4:=Tryz.isAgg4
 z4:=Tryz.sizeOf4
 v4:=Tryz.zeroValue4
 t22:=Tryz.underlying47
 a22:=Tryz.isAgg47
 z22:=Tryz.sizeOf47
 v22:=Tryz.zeroValue47}
theorem qsa(A:Option Addr)(n c:Nat)(xs:List Value)(w:World)(hr:Reads w w.heap.size 4 A n xs)(hn:n*32≤140737488355328)(h1:∀u∈xs,u.oneCell'=true):
 Zc 53 #[.slice A n c] w fun e w'=>∃v',e=.returned v'∧w'.ownsRow w.heap.size 66 4 v' n xs∧Zb w w':=
 qs4 Tryz.func53 Tryz.ntmps53 Tryz.cll53 Tryz.underlying47 A n c xs w hr hn h1
def Tryz.clr146:Go.Shelf.Ren:=⟨fun|41=>146|n=>n,fun|22=>134|23=>136|4=>4|n=>n,fun|n=>n⟩
theorem Tryz.cll146:Go.Proofs.SlLaysE0.n41 Tryz.prog Tryz.clr146:={
 mixed:=by kernel_rfl
 f41:=⟨Tryz.f146.name,by decide,Tryz.func146.trans (congrArg some zk)⟩
 t4:=Tryz.underlying4
 a4:=Tryz.isAgg4
 z4:=Tryz.sizeOf4
 v4:=Tryz.zeroValue4
 t22:=Tryz.underlying134
 a22:=Tryz.isAgg134
 z22:=Tryz.sizeOf134
 v22:=Tryz.zeroValue134}
theorem qsb(A:Option Addr)(n c:Nat)(xs:List Value)(w:World)(hr:Reads w w.heap.size 3 A n xs)(hn:n*24≤140737488355328)(h1:∀u∈xs,u.oneCell'=true):
 Zc 146 #[.slice A n c] w fun e w'=>∃v',e=.returned v'∧w'.ownsRow w.heap.size 136 3 v' n xs∧Zb w w':=
 qs4 Tryz.func146 Tryz.ntmps146 Tryz.cll146 Tryz.underlying134 A n c xs w hr hn h1
theorem Tryz.madd_info:(Tryz.prog.info? 23).map (fun i=>(i.zero,i.size,i.bytes))=some (some (.slice none 0 0),1,24):=by kernel_rfl
theorem qsc(c:Cfg)(s:Sta)(L:Loc)(col:Col)(k g:Nat)(css:List (List Value))(n:Nat)(t:Tre)(R:Req)(Ac:Option Addr)(cc:Nat)(Al:Option Addr)(cl:Nat)(w:World)(hk:Kind k)(hc:c.Ok)(hs:s.Ok)(h:Mdl w col k g c s L css)
 (hr:Asked w col R Ac cc Al cl)(hrt:R.tree=(n:Int))(ht:s.tres[n]? =some t)(hl:R.leaf.length≤256):
 Zc 135 #[.pointer (some ⟨g,0,none⟩),.pointer (some ⟨L.rg,n*75,none⟩),.agg (reqv R (.slice Ac R.cavs.length cc) (.slice Al R.leaf.length cl)).toArray] w fun e w'=>∃v col',e=.returned v∧RspV w' col' w.heap.size v (qn8 c s R t).2∧Did w col w' col' k g c css s (qn8 c s R t).1:=by
 obtain⟨hn16,Ad,cd,Al',cl',Aq,cq,hcs,hcell,hrd,hrl,hrq⟩:=h.st.tree hs ht;have hto:=hs.tre ht;have rlen:=qjd R (.slice Ac R.cavs.length cc) (.slice Al R.leaf.length cl) hr.good.tag;have r35:(reqv R (.slice Ac R.cavs.length cc) (.slice Al R.leaf.length cl))[35]? =some (.int .i64 (n:Int)):=by rw[←hrt];exact qdl R _ _ hr.good.tag 0
 have r47:(reqv R (.slice Ac R.cavs.length cc) (.slice Al R.leaf.length cl))[47]? =some (.slice Al R.leaf.length cl):=qdl R _ _ hr.good.tag 12;obtain⟨Q,hQ⟩:=xeq (reqv R (.slice Ac R.cavs.length cc) (.slice Al R.leaf.length cl));rw[hQ]at rlen r35 r47 ⊢;obtain⟨W0,hW0⟩:=eqx ((w.alloc (.cells Q.toArray 34)).alloc (.cells Tryz.zeroCells57 57));have q0:=zNb hW0;have z0:=zNc hW0;have b0:=zMb hW0;have hG0:col (w.heap.size+1)=0:=by
  by_cases e:col (w.heap.size+1)=0
  · exact e
  have:=h.fin _ e;omega
 have c0:=qai (hcell 0 (.int .i64 t.state) rfl) b0;have c1:=qai (hcell 1 (.int .i64 t.tenant) rfl) b0;have c5:=qai (hcell 5 (.slice Al' t.leaves.length cl') rfl) b0;have c6:=qai (hcell 6 (.slice Aq t.queue.length cq) rfl) b0;have k35:=(q0.cell 35).trans (show Q.toArray[35]? =some (.int .i64 (n:Int)) by rw[tA3];exact r35);have k47:=(q0.cell 47).trans (show Q.toArray[47]? =some (.slice Al R.leaf.length cl) by rw[tA3];exact r47);simp only[Nat.add_zero]at c0;have D0:=Did.same (css:=css) h b0;obtain⟨H,AJ,Q0,Z0,B0,A5,AU,HK⟩:=zh8 h hW0 q0 z0 b0 hG0 D0 hk;obtain⟨HS,HC,HT,AK,HR,C0,C1,C5⟩:=zh8 hs hc ht hto hr c0 c1 c5;obtain⟨C6,BK,AL,C2,A8,BL,C3,C4⟩:=zh8 c6 k35 k47 hcs hrt hl hrl hrq;clear h hW0 q0 z0 b0 hG0 D0 hk hs hc ht hto hr c0 c1 c5 c6 k35 k47 r35 r47 rlen hQ hcs hcell hrd hrt hl hrl hrq;by_cases hA:n=0∨t.state≠1
 ·
  have hdo:qn8 c s R t=(s,rWhy 24):=by unfold qn8;rw[if_pos (by rw[A8.o];omega)]
  have A0:=zh1 hdo;clear hdo;obtain⟨x,hx⟩:=xeq t.state;rw[hx]at hA;have c0:=C0.o;rw[hx]at c0;have k35:=BK.o;clear hx;rw[AJ.o]at c0 k35;by_cases h0:n=0
  · subst h0
    go_enter Tryz.func135,Tryz.ntmps135
    go_wp2_with fail
    clear c0 k35;rw[←AJ.o];exact qry A0 HK (A5.o) (qr6 24 W0) (Z0.o) (AU.o)
  have hx1:x≠1:=zo;have qn:((n:Int)==0)=false:=by simp;omega
  have ha:ql5 x=false:=by unfold ql5;simpa using hx1
  go_enter Tryz.func135,Tryz.ntmps135
  go_wp2_with fail
  clear c0 k35;rw[←AJ.o];refine zca (qld x W0) ?_;rw[ha];go_wp2_with fail
  exact qry A0 HK (A5.o) (qr6 24 W0) (Z0.o) (AU.o)
 have hn0:n≠0:=zo;have hx:t.state=1:=zo;have c0:=C0.o;have k35:=BK.o;rw[hx]at c0;rw[AJ.o]at c0 k35;have qn:((n:Int)==0)=false:=by simp;omega
 have ha:ql5 1=true:=rfl;obtain⟨AG,AH⟩:=zh2 hn0 hx;clear hA hn0 hx;go_enter Tryz.func135,Tryz.ntmps135
 go_wp2_with fail
 clear c0 k35;rw[←AJ.o];refine zca (qld 1 W0) ?_;rw[ha];clear qn ha;go_upto_region 3 with(fail)
 have hlf:=HR.good.leafb;obtain⟨A1,k1,e1,a1,a2,a3⟩:=C3.reads;injection e1 with e11 e12 e13;subst e11 e13;obtain⟨A2,k2,e2,a4,a5,a6⟩:=C4.reads;injection e2 with e21 e22 e23;subst e21 e23;obtain⟨BM,BN⟩:=zh2 a3 a6;clear a1 a2 a3 a4 a5 a6;obtain⟨nl,hnl⟩:=xeq t.leaves.length;obtain⟨nq,hnq⟩:=xeq t.queue.length;obtain⟨nf,hnf⟩:=xeq R.leaf.length;have hto:=AK.o;have hb1:=hto.leaves;have hb2:=hto.queue;rw[hnl,hnq]at hb1;rw[hnq]at hb2;rw[hnl]at C5 BM;rw[hnq]at C6 BN;rw[hnf]at AL;obtain⟨AC,A7,AD,AP,CG,BO,AV⟩:=zh7 hnl hnq hnf hb1 hb2 hlf (show Reads w w.heap.size 1 Al nf (byv R.leaf) by have:=HR.leaf;rwa[hnf]at this);obtain⟨I1,I2⟩:=zh2 (fun w' (hb:Zb w w')=>qrs R.leaf t.leaves Al' Al nl cl' nf cl w' zo (BM.call hb) (fun b hb=>(AK.leafb b hb).bs) BO.o (AV.call hb)) (fun w' (hb:Zb w w')=>qrs R.leaf t.queue Aq Al nq cq nf cl w' zo (BN.call hb) (fun b hb=>(AK.queueb b hb).bs) BO.o (AV.call hb));clear hlf hnl hnq hnf hto hb1 hb2;obtain⟨S,HS9⟩:=zS fun w'=>Zb W0 w'
 refine zrs S 8 (zq 0 6 [(6,true),(7,false)]) ((HS9.o _).mpr ((tA5 _ _).drew)) ?_;obtain⟨F0,F1⟩:=zh2 (zF HS9 C5.o) (zF HS9 AL.o);iterate 6 (refine zr2 ?_)
 obtain⟨Wd,hWd⟩:=eqx W0.drew;have bd:Zb W0 Wd:=by rw[hWd];exact(tA5 _ _).drew
 rw[←hWd];have BD:=zh1 bd;clear hWd bd;refine zw ?_;go_simp;refine zcb (I1.o Wd (B0.trans (BD.mono B0.size))) fun w1 b1=>?_
 have B1:=zh1 (BD.trans (b1.mono BD.size));clear b1;refine⟨(HS9.o _).mpr B1.o,zput ?_⟩;iterate 1 (refine zrb ?_)
 refine qbg ?_;clear HS9 F0 F1;obtain⟨Z1,BP,S1⟩:=zh3 (Z0.below B1.o Z0.lt) (AU.call B1.o) B1.size;cases hf1:qn7 t.leaves R.leaf with
 |some k0=>
  have hk0:k0<nl:=by
   unfold qn7 at hf1;obtain⟨h,_⟩:=List.findIdx?_eq_some_iff_getElem.1 hf1;have:=AC.o;omega
  have hdo:qn8 c s R t=(s,qn6 k0):=by unfold qn8;rw[if_neg (by rw[A8.o,AH.o];have:=AG.o;omega),hf1]
  have hb1:=AP.o;have q1:(0:Int)≤k0:=zo;have A0:=zh1 hdo;rw[show idxI (some k0)=(k0:Int) from rfl];clear hf1 hdo;go_wp2_with fail
  exact qry A0 HK (A5.o) (qr5 k0 w1 zo) (Z1.o) (BP.o)
 |none=>
  rw[show idxI none= -1 from rfl];have AM:=zh1 hf1;clear hf1;go_upto_region 6 with(fail)
  obtain⟨S,HS9⟩:=zS fun w'=>Zb w1 w'
  refine zrs S 8 (zq 0 6 [(6,true),(7,false)]) ((HS9.o _).mpr ((tA5 _ _).drew)) ?_;obtain⟨F0,F1⟩:=zh2 (zF HS9 (qai C6.o B1.o)) (zF HS9 (qai AL.o B1.o));iterate 6 (refine zr2 ?_)
  obtain⟨We,hWe⟩:=eqx w1.drew;have be':Zb w1 We:=by rw[hWe];exact(tA5 _ _).drew
  rw[←hWe];have BE:=zh1 be';clear hWe be';refine zw ?_;go_simp;refine zcb (I2.o We ((B0.trans (B1.mono B0.size)).trans (BE.mono (tB1 B0.size B1.size)))) fun w2 b2=>?_
  have B2:=zh1 (BE.trans (b2.mono BE.size));clear b2;refine⟨(HS9.o _).mpr B2.o,zput ?_⟩;iterate 1 (refine zrb ?_)
  refine qbg ?_;clear HS9 F0 F1;obtain⟨Z2,BQ,AQ⟩:=zh3 (Z1.below B2.o Z1.lt) (BP.call B2.o) (B1.trans (B2.mono B1.size));have c5:=qai C5.o AQ.o;have c6:=qai C6.o AQ.o;obtain⟨C8,C9⟩:=zh2 c5 c6;cases hf2:qn7 t.queue R.leaf with
  |some k0=>
   have hk0:k0<nq:=by
    unfold qn7 at hf2;obtain⟨h,_⟩:=List.findIdx?_eq_some_iff_getElem.1 hf2;have:=A7.o;omega
   have hdo:qn8 c s R t=(s,qn6 (nl+k0)):=by unfold qn8;rw[if_neg (by rw[A8.o,AH.o];have:=AG.o;omega),AM.o,hf2,AC.o]
   have hb1:=AP.o;have q1:(0:Int)≤k0:=zo;have q2:wrap64 ((nl:Int)+k0)=((nl+k0:Nat):Int):=by rw[IntWalk.wrap64_in _ zo];omega
   have A0:=zh1 hdo;rw[show idxI (some k0)=(k0:Int) from rfl];clear hf2 hdo;go_wp2_with fail
   clear c5 c6;rw[show ((nl:Int)+k0)=((nl+k0:Nat):Int) by omega];exact qry A0 HK (A5.o) (qr5 (nl+k0) w2 zo) (Z2.o) (BQ.o)
  |none=>
   rw[show idxI none= -1 from rfl];have AR:=zh1 hf2;clear hf2 c5 c6;go_upto_region 9 with(fail)
   have hb1:=AP.o;have q1:wrap64 ((nl:Int)+nq)=((nl+nq:Nat):Int):=by rw[IntWalk.wrap64_in _ zo];omega
   have q2:IntKind.i64.wrap ((nl:Int)+nq)=((nl+nq:Nat):Int):=by rw[tBb _ zo];omega
   obtain⟨S,HS9⟩:=zS fun w'=>Zb w2 w'
   refine zrs S 12 (zq 0 12 []) ((HS9.o _).mpr ((tA5 _ _).drew)) ?_;obtain⟨F0,F1⟩:=zh2 (zF HS9 C8.o) (zF HS9 C9.o);iterate 12 (refine zr2 ?_)
   refine qbg ?_;clear HS9 F0 F1 q1 q2;obtain⟨W3,hW3,B3⟩:=zdr w2;rw[←hW3];clear hW3;obtain⟨Z3,AW,AI⟩:=zh3 (Z2.below B3.o Z2.lt) (BQ.call B3.o) (AQ.trans (B3.mono AQ.size));have c6:=qai C6.o AI.o;by_cases hbig:64≤nq∨1024≤nl+nq
   ·
    have hdo:qn8 c s R t=(s,rWhy 4):=by
     unfold qn8;rw[if_neg (by rw[A8.o,AH.o];have:=AG.o;omega),AM.o];simp only[];rw[AR.o];simp only[];rw[if_pos (by rw[AC.o,A7.o];exact hbig)]
    have A0:=zh1 hdo;clear hdo;by_cases h64:64≤nq
    · have p1:(64:Int)≤nq:=zo
      clear hbig h64;go_wp2_with fail
      clear c6;exact qry A0 HK (A5.o) (qr6 4 W3) (Z3.o) (AW.o)
    have p1:¬(64:Int)≤nq:=zo;have p2:(1024:Int)≤((nl+nq:Nat):Int):=zo;have p3:(1024:Int)≤(nl:Int)+nq:=zo;clear hbig h64;go_wp2_with fail
    clear c6;exact qry A0 HK (A5.o) (qr6 4 W3) (Z3.o) (AW.o)
   have p1:¬(64:Int)≤nq:=zo;have p2:¬(1024:Int)≤((nl+nq:Nat):Int):=zo;have p3:¬(1024:Int)≤(nl:Int)+nq:=zo;have AX:=zh1 hbig;clear hbig;have k47:=qai AL.o AI.o;have hll:=BL.o;rw[AD.o]at hll;have q1:IntKind.u64.wrap (nf:Int)=(nf:Int):=tBa _ zo;have q2:IntKind.u64.wrap ((nf:Int)+16)=(nf:Int)+16:=tBa _ zo;go_upto_region 13 with(fail)
   clear c6 k47 q1 q2 p1 p2 p3;obtain⟨m,hm⟩:∃m:Nat,t.tenant=m:=⟨t.tenant.toNat,by have:=AK.tenant;omega⟩;have hm16:m<16:=by have:=AK.tenant;omega
   obtain⟨x,hx⟩:∃x,s.tens[m]? =some x:=⟨_,tA7 (by rw[HS.tensn];exact hm16)⟩;have hxo:=HS.ten hx;have c1:=C1.o;rw[hm]at c1;have e7:=H.c7;obtain⟨C7,C1m⟩:=zh2 e7 c1;have tcell:∀j u,j<6→(tenv x)[j]? =some u→w.cell? ⟨L.tg,m*6+j,none⟩=some u:=fun j u hj hu=>H.st.tens.cell ((qo4 hx hj).trans hu)
   obtain⟨T2,T5,HM,HX,BR⟩:=zh5 (tcell 4 (.int .u32 (x.store:Int)) zo rfl) (tcell 5 (.int .u32 (x.used:Int)) zo rfl) hm hx hxo;have hten:s.tenant t.tenant=some x:=by unfold Sta.tenant;rw[hm,if_pos zo,tBe];exact hx
   have AE:=zh1 hten;have qm1:(m:Int)<16:=zo;have qm0:(0:Int)≤m:=zo;clear hm hx hxo c1 e7 tcell hten;obtain⟨S,HS9⟩:=zS fun w'=>Zb W3 w'
   refine zrs S 11 (zq 0 11 []) ((HS9.o _).mpr ((tA5 _ _).drew)) ?_;obtain⟨F0,F1⟩:=zh2 (zF HS9 (qai (qai C7.o B0.o) AI.o)) (zF HS9 (qai C1m.o AI.o));iterate 11 (refine zr2 ?_)
   refine qbg ?_;clear HS9 F0 F1 qm0 qm1;obtain⟨W4,hW4,B4⟩:=zdr W3;rw[←hW4];clear hW4;obtain⟨Z4,BS,AY⟩:=zh3 (Z3.below B4.o Z3.lt) (AW.call B4.o) (AI.trans (B4.mono AI.size));have A6:=zh1 (B0.trans (AY.mono B0.size));go_upto_region 14 with(fail)
   obtain⟨us,hus⟩:=xeq x.used;obtain⟨st,hstt⟩:=xeq x.store;have hub:=BR.used;have hsb:=BR.store;rw[hus]at T5 hub;rw[hstt]at T2 hsb;obtain⟨AZ,AN,CH,CA,B6⟩:=zh5 hus hstt hub hsb (qrj HS.tres 16);have u1:IntKind.u64.wrap (us:Int)=(us:Int):=tBa _ zo;have u2:IntKind.u64.wrap (st:Int)=(st:Int):=tBa _ zo;have u3:IntKind.u64.wrap ((us:Int)+((nf:Int)+16))=(us:Int)+((nf:Int)+16):=tBa _ zo;clear hus hstt;by_cases hful:st<us+(nf+16)
   ·
    have p1:(st:Int)<(us:Int)+((nf:Int)+16):=zo;have hdo:qn8 c s R t=(s,rWhy 26):=by
     unfold qn8;rw[if_neg (by rw[A8.o,AH.o];have:=AG.o;omega),AM.o];simp only[];rw[AR.o];simp only[];rw[if_neg (by rw[AC.o,A7.o];exact AX.o),AE.o];simp only[];rw[if_pos (.inl (by rw[AZ.o,AN.o,AD.o];exact hful))]
    have A0:=zh1 hdo;clear hdo hful;obtain⟨S,HS9⟩:=zS fun w'=>Zb W4 w'
    refine zrs S 29 (zq 0 18 ((19,false)::zq 21 6 [(18,true),(20,false),(27,false),(28,false)])) ((HS9.o _).mpr ((tA5 _ _).drew)) ?_;obtain⟨F0,F1⟩:=zh2 (zF HS9 (qai T5.o A6.o)) (zF HS9 (qai T2.o A6.o));iterate 25 (first|refine zsk ?_|refine zr2 ?_)
    refine qrt rfl rfl ⟨(HS9.o _).mpr (tA5 _ _).drew,?_⟩;refine zP ?_;iterate 3 (first|refine zsk ?_|refine zrb ?_)
    refine qbg ?_;clear HS9 F0 F1;obtain⟨W5,hW5,B5⟩:=zdr W4;rw[←hW5];clear hW5;obtain⟨Z5,B7⟩:=zh2 (Z4.below B5.o Z4.lt) (BS.call B5.o);clear p1 u1 u2 u3;go_wp2_with fail
    exact qry A0 HK (A5.o) (qr6 26 W5) (Z5.o) (B7.o)
   have p1:¬(st:Int)<(us:Int)+((nf:Int)+16):=zo;have AO:=zh1 hful;clear hful;obtain⟨S,HS9⟩:=zS fun w'=>Zb W4 w'
   refine zrs S 29 (zq 0 18 ((19,false)::zq 21 6 [(18,true),(20,false),(27,false),(28,false)])) ((HS9.o _).mpr ((tA5 _ _).drew)) ?_;obtain⟨F0,F1,F2⟩:=zh3 (zF HS9 (qai T5.o A6.o)) (zF HS9 (qai T2.o A6.o)) (zF HS9 (qai H.c2 A6.o));have cst:=HC.store;have u4:IntKind.u64.wrap (c.store:Int)=(c.store:Int):=tBa _ zo;iterate 17 (refine zr3 ?_)
   obtain⟨FS,SI⟩:=zh2 (fun(w':World)(h:S w')=>(H.call (A6.trans (((HS9.o w').mp h).mono A6.size))).stRange) (show (Tryz.prog.info? 49).map (·.size)=some 6 by kernel_rfl);refine qos rfl rfl 49 (.tmp 105) rfl g 4 rfl _ _ FS.o Tryz.underlying49 rfl SI.o ?_;refine zP ?_;iterate 7 (refine zr3 ?_)
   obtain⟨Wf,hWf,BF⟩:=zdr W4;rw[←hWf];clear hWf;refine zw ?_;go_simp;have HF:=H.call (A6.trans (BF.mono A6.size));refine(qrl s L col k css Wf HS.o HF.st).mono ?_;clear HF;rintro e W5 ⟨rfl,b5⟩;have B5:=zh1 (BF.trans (b5.mono BF.size));clear b5;refine⟨(HS9.o _).mpr B5.o,zput ?_⟩;obtain⟨sd,hsd⟩:=xeq (stored s);have hsdb:=B6.o;rw[qrk s HS.o,hsd]at hsdb;rw[hsd];have u5:IntKind.u64.wrap ((sd:Int)+((nf:Int)+16))=(sd:Int)+((nf:Int)+16):=tBa _ zo;have BT:=zh1 hsd;clear hsd;iterate 3 (refine zrb ?_)
   refine qbg ?_;clear HS9 F0 F1 F2 FS;obtain⟨Z5,B7,AS⟩:=zh3 (Z4.below B5.o Z4.lt) (BS.call B5.o) (A6.trans (B5.mono A6.size));by_cases hful:c.store<sd+(nf+16)
   ·
    have p2:(c.store:Int)<(sd:Int)+((nf:Int)+16):=zo;have hdo:qn8 c s R t=(s,rWhy 26):=by
     unfold qn8;rw[if_neg (by rw[A8.o,AH.o];have:=AG.o;omega),AM.o];simp only[];rw[AR.o];simp only[];rw[if_neg (by rw[AC.o,A7.o];exact AX.o),AE.o];simp only[];rw[if_pos (.inr (by rw[BT.o,AD.o];exact hful))]
    have A0:=zh1 hdo;clear hdo hful p1 u1 u2 u3 u4 u5;go_wp2_with fail
    exact qry A0 HK (A5.o) (qr6 26 W5) (Z5.o) (B7.o)
   have p2:¬(c.store:Int)<(sd:Int)+((nf:Int)+16):=zo;have B8:=zh1 hful;clear hful u1 u2 u3 u4 u5;have hfit:us+(nf+16)<4294967296:=by have:=AO.o;have:=CA.o;omega
   have H5:=H.call AS.o;have v1:IntKind.u32.wrap ((nf:Int)+16)=(nf:Int)+16:=tBf _ zo;have v2:IntKind.u32.wrap ((us:Int)+((nf:Int)+16))=((us+(nf+16):Nat):Int):=by rw[tBf _ zo];omega
   have t5:=qai T5.o AS.o;have f5:=H5.st.tens.frozen (m*6+5);have M6:=H5.tenOver HK.o HS.o HX.o (j:=5) (cs:=[.int .u32 ((us+(nf+16):Nat):Int)]) (fun x=>{x with used:=us+(nf+16)}) zm (by simp[over,tenv]);rw[show (W5.setCells L.tg (m*6+5) [.int .u32 ((us+(nf+16):Nat):Int)])=W5.setCell ⟨L.tg,m*6+5,none⟩ (.int .u32 ((us+(nf+16):Nat):Int)) from rfl]at M6;have T6:Turns (inP k) w col (W5.setCell ⟨L.tg,m*6+5,none⟩ (.int .u32 ((us+(nf+16):Nat):Int))) col:=(Turns.of_below _ AS.o).trans (Turns.setCell _ (by rw[H5.st.tens.1];unfold inP;simp));have ecast:((us+(nf+16):Nat):Int)=(us:Int)+((nf:Int)+16):=by simp
   rw[ecast]at M6 T6;obtain⟨BU,BV,CB⟩:=zh3 M6 T6 (show L.tg≠w.heap.size+1∧L.tg≠w.heap.size by have:=H.st.tens.lt;omega);clear M6 T6 H5;go_upto_region 17 with(fail)
   clear v1 v2 t5 f5 p1 p2 ecast;obtain⟨W6,hW6⟩:=eqx (W5.setCell ⟨L.tg,m*6+5,none⟩ (.int .u32 ((us:Int)+((nf:Int)+16))));have hSet:Turns (· ==k) W5 col W6 col:=by rw[hW6];exact Turns.setCell _ (by rw[H.st.tens.1];simp)
   have hsz6:W6.heap.size=W5.heap.size:=by rw[hW6];simp
   have z6:Blk W6 (w.heap.size+1) 57 Tryz.zeroCells57:=by rw[hW6];exact Z5.far (Ne.symm CB.o.1) _
   rw[←hW6]at BU BV;try rw[←hW6]
   have colR:col L.rg=k+1:=H.st.tres.1;have colW:col w.heap.size=0:=by
    by_cases e:col w.heap.size=0
    · exact e
    have:=H.fin _ e;omega
   have B9:=AY.trans (B5.mono AY.size);have c6:=qor (qai C6.o B9) hSet (by rw[colR];simp);have k47:=qor (qai AL.o B9) hSet (by rw[colW];rcases HK.o with rfl|rfl<;>rfl);obtain⟨AT,AB,Z6,BC,CR,CW⟩:=zh6 c6 k47 z6 hsz6 colR colW;clear hW6 hSet z6 c6 k47 B9 hsz6 colR colW;obtain⟨S,HS9⟩:=zS fun w'=>w'.cell? ⟨L.rg,n*75+6,none⟩=some (.slice Aq nq cq)∧w'.cell? ⟨w.heap.size,47,none⟩=some (.slice Al nf cl)
   refine zrs S 12 (zq 0 7 [(7,true),(8,true),(9,true),(10,false),(11,false),(12,true)]) ((HS9.o _).mpr (⟨AT.o,AB.o⟩)) ?_;obtain⟨F0,F1⟩:=zh2 (fun(w':World)(h:S w')=>((HS9.o w').mp h).1) (fun(w':World)(h:S w')=>((HS9.o w').mp h).2);iterate 7 (refine zr2 ?_)
   obtain⟨Wd6,hWd6,A4⟩:=zdr W6;rw[←hWd6];clear hWd6;have ML:=zh1 (BU.call A4.o);have BG:=BV.trans (Turns.of_below (inP k) A4.o);have rlf:Reads Wd6 Wd6.heap.size 1 Al nf (byv R.leaf):=qrv AV.o (fun h=>HR.leaf0 (by rw[AD.o];exact h)) BG (qru HK.o);have BH:=zh1 BG;have CL:=qs5 Al nf cl (byv R.leaf) Wd6 rlf zo (qau _);have CC:=zh1 CL;clear CL rlf BG;refine zw ?_;go_simp;refine CC.o.mono ?_;rintro e wA ⟨vA,rfl,oA,bA⟩;have oA':OwnB wA Wd6.heap.size vA R.leaf:=by unfold OwnB;rw[AD.o];exact oA
   obtain⟨AA,nA,cA,rfl,-,-,-⟩:=oA'.sl;obtain⟨col1,hc1,tx1,fin1⟩:=qs2 (w:=Wd6) (col:=col) oA' (tA4 _) bA.size ML.fin;have T1:Turns (fun _=>false) Wd6 col wA col1:=(Turns.of_below _ bA).recolour hc1;obtain⟨CD,CE,BI,BA⟩:=zh4 tx1 fin1 T1 bA;clear tx1 fin1 T1 bA oA oA' hc1;refine⟨(HS9.o _).mpr ⟨qor (qai AT.o A4.o) BI.o rfl,qor (qai AB.o A4.o) BI.o rfl⟩,zput ?_⟩;refine zw ?_;go_simp;obtain⟨wB,hwB⟩:=eqx (wA.alloc (.cells #[.slice AA nA cA] 23));rw[←hwB];have bB:=zMa hwB;have blB:=zNa hwB;have TB:=BI.trans (Turns.of_below (fun _=>false) bB);obtain⟨BB,BW,A3⟩:=zh3 bB blB TB;clear hwB bB blB TB;refine⟨(HS9.o _).mpr ⟨qor (qai AT.o A4.o) A3.o rfl,qor (qai AB.o A4.o) A3.o rfl⟩,zput ?_⟩;have MB:=ML.keep A3.o rfl rfl rfl rfl rfl (fun _ _=>rfl) (CE.mono BB.size);have AF:css[n]? =some (trev t (.slice Ad t.draws.length cd) (.slice Al' nl cl') (.slice Aq nq cq)):=by rw[C2.o,AC.o,A7.o]
   obtain⟨vs,hrow,htx⟩:=(MB.rows HT.o AF).2.2;rw[A7.o]at hrow;have hvl:vs.length=t.queue.length:=by have:=hrow.1;have:=A7.o;omega
   obtain⟨i0,hi0,hz0,hz1,hz2⟩:=info_parts Tryz.madd_info;have hr1:Reads wB wB.heap.size 1 (some ⟨wA.heap.size,0,none⟩) 1 [.slice AA nA cA]:=⟨rfl,fun _=>⟨_,rfl,BW.lt,fun j u hu=>by rw[Addr.add_mid,BW.cell (0+j)];simpa using hu⟩⟩;have BX:=CD.keep ((Turns.of_below (col:=col1) (fun _=>false) BB.o).keeps rfl);have colR1:col1 L.rg=k+1:=(A3.same L.rg ML.st.tres.lt).trans CR.o;have hws:w.heap.size<Wd6.heap.size:=by have:=AS.size;have:=BC.o;have:=A4.size;have:=Z0.lt;have:=Z6.lt;omega
   have colW1:col1 w.heap.size=0:=(A3.same w.heap.size hws).trans CW.o;have hn16:n<16:=by have h1:=HT.o;obtain⟨h2,_⟩:=tA8 h1;rw[HS.tresn]at h2;exact h2
   have hx:∀x,s.tens[m]? =some x→x.Ok→({x with used:=us+(nf+16)}:Ten).Ok:=fun x _ h=>⟨h.rate,h.burst,h.tok,h.store,hfit⟩
   have sok:=HS.setX hx;refine zw ?_;refine qnv wB (.tmp 132) (.tmp 136) _ _ rfl col1 (12+3*n) 23 i0 _ 1 24 Tryz.underlying72 hi0 hz0 hz1 hz2 rfl (.slice Aq nq cq) nq vs rfl hrow (.slice (some ⟨wA.heap.size,0,none⟩) 1 1) 1 [.slice AA nA cA] rfl (Src.reads wB Tryz.underlying72 hr1 (by simp[Value.oneCell']) zdc) (by simp only[maxLen];omega) zo ?_;intro v' wC col2 ap;obtain⟨A9,c9,rfl,-,-,-,-⟩:=ap.row.sl;have ap2:AppendedC wB col1 wC col2 (12+3*n) (.slice Aq nq cq) (.slice A9 (nq+1) c9) 23 1 t.queue.length 1 vs [.slice AA nA cA]:=by rw[A7.o];exact ap
   obtain⟨N1,N2,N3⟩:=MB.queueAdd HK.o sok (t:=t) (bs:=R.leaf) HT.o AF hvl htx BX ap2;have hcC:=qor (qor (qai AT.o A4.o) A3.o rfl) ap.turns (by rw[colR1];have:=HK.o;rcases this with rfl|rfl<;>simp<;>omega);have hkC:=qor (qor (qai AB.o A4.o) A3.o rfl) ap.turns (by rw[colW1];simp;omega);have hfC:=(MB.st.tres.keep (ap.turns.keeps (k:=k+1) (by have:=HK.o;rcases this with rfl|rfl<;>simp<;>omega))).frozen (n*75+6);have sC:w.heap.size+1<wC.heap.size:=by have:=ap.turns.size;have:=A3.size;have:=A4.size;have:=Z6.lt;omega
   have zC:Blk wC (w.heap.size+1) 57 Tryz.zeroCells57:=by
    have z7:=Z6.below A4.o Z6.lt;have c1:col1 (w.heap.size+1)=0:=(A3.same _ z7.lt).trans A5.o;have z8:Blk wB (w.heap.size+1) 57 Tryz.zeroCells57:=(A3.block _ z7.lt rfl).trans z7;exact(ap.turns.block _ z8.lt (by rw[c1];simp;omega)).trans z8
   have g2:col2 (w.heap.size+1)=0:=by
    have z7:=Z6.below A4.o Z6.lt;exact(ap.turns.same _ (tB0 z7.lt A3.size)).trans ((A3.same _ z7.lt).trans A5.o)
   have T9:=(BH.trans (A3.mono fun i h=>by cases h)).trans N3;have hdo:qn8 c s R t=((s.setX m fun x=>{x with used:=us+(nf+16)}).setT n fun t=>{t with queue:=t.queue++[R.leaf]},qn6 (nl+nq)):=by
    unfold qn8;rw[if_neg (by rw[A8.o,AH.o];have:=AG.o;omega),AM.o];simp only[];rw[AR.o];simp only[];rw[if_neg (by rw[AC.o,A7.o];exact AX.o),AE.o];simp only[];rw[if_neg (by rw[AZ.o,AN.o,BT.o,AD.o];have:=AO.o;have:=B8.o;omega),HM.o,A8.o,tBe,tBe,AC.o,A7.o];congr 2
    unfold Sta.setX;congr 1
    refine qrz fun y hy=>?_
    rw[HX.o]at hy;injection hy with hy;subst hy;rw[AZ.o,AD.o,Nat.mod_eq_of_lt hfit]
   have BJ:Did w col (wC.setCell ⟨L.rg,n*75+6,none⟩ (.slice A9 (nq+1) c9)) col2 k g c css s (qn8 c s R t).1:=by
    rw[hdo];exact⟨⟨L,_,N1⟩,N2,T9⟩
   rw[hdo]at BJ;obtain⟨A0,BY⟩:=zh2 hdo BJ;have zD:Blk (wC.setCell ⟨L.rg,n*75+6,none⟩ (.slice A9 (nq+1) c9)) (w.heap.size+1) 57 Tryz.zeroCells57:=zC.far (by intro e;have e':w.heap.size+1=L.rg:=e;rw[←e']at colR1;have:=(A3.same _ (Z6.below A4.o Z6.lt).lt).trans A5.o;omega) _;obtain⟨BZ,CF⟩:=zh2 zD g2;have hb1:=AP.o;clear hdo BJ T9 N1 N2 N3 zD zC g2 ap ap2 hi0 hz0 hz1 hz2 hr1 hrow hvl htx BX MB AF hx sok colR1 colW1 hws sC hfit A8 BL;refine⟨fun _=>(HS9.o _).mpr ⟨hcC,hkC⟩,zput ?_⟩;have F0:=zh1 (fun(w':World)(h:S w')=>((HS9.o w').mp h).1);iterate 2 (refine zr1 ?_)
   clear hkC;refine zw ?_;go_simp;refine qbg ?_;clear HS9 F0 hcC hfC;obtain⟨W9,hW9⟩:=eqx (wC.setCell ⟨L.rg,n*75+6,none⟩ (.slice A9 (nq+1) c9));rw[←hW9]at BY BZ ⊢;clear hW9;go_wp2_with fail
   rw[show ((nl:Int)+nq)=((nl+nq:Nat):Int) by omega];exact qry A0 HK (CF.o) (qr5 (nl+nq) W9 zo) (BZ.o) (BY.o)
theorem Did.cell(h:Mdl w col k g c s L css)(hb:Zb w W){o:Nat}(hc:inP k (col b)=true)(hn:col b<10∧col b≠5)
 (hm:Mdl (W.setCell ⟨b,o,none⟩ v) col k g c s' L css'):Did w col (W.setCell ⟨b,o,none⟩ v) col k g c css s s':=by
 have hT:Turns (· ==col b) W col (W.setCell ⟨b,o,none⟩ v) col:=Turns.setCell v zm;have hT2:Turns (inP k) W col (W.setCell ⟨b,o,none⟩ v) col:=hT.mono fun i hi=>(show i=col b by simpa using hi)▸hc
 exact⟨⟨L,css',hm⟩,(h.call hb).st.trs.keep fun i hi=>hT.keeps (by simp;omega),(Turns.of_below _ hb).trans hT2⟩
theorem qsd(c:Cfg)(s:Sta)(L:Loc)(col:Col)(k g:Nat)(css:List (List Value))(R:Req)(Ac:Option Addr)(cc:Nat)(Al:Option Addr)(cl:Nat)(w:World)(hk:Kind k)(hs:s.Ok)(h:Mdl w col k g c s L css)
 (hr:Asked w col R Ac cc Al cl):
 Zc 139 #[.pointer (some ⟨g,0,none⟩),.agg (reqv R (.slice Ac R.cavs.length cc) (.slice Al R.leaf.length cl)).toArray] w fun e w'=>∃v col',e=.returned v∧RspV w' col' w.heap.size v (qnf s R).2∧Did w col w' col' k g c css s (qnf s R).1:=by
 obtain⟨Q,hQ,rlen,rest,W0,hW0,q0,z0,b0⟩:=qrx R Ac cc Al cl w hr.good.tag;rw[hQ];have hG0:=h.fin.none (b:=w.heap.size+1) zo;have D0:=Did.same (css:=css) h b0;obtain⟨H,AC,Q0,Z0,B0,A1,AD,HK⟩:=zh8 h hW0 q0 z0 b0 hG0 D0 hk;obtain⟨HS,HR,RL,A4,HQ⟩:=zh5 hs hr rlen rest hQ;clear h hW0 q0 z0 b0 hG0 D0 hk hs hr rlen rest hQ;obtain⟨i,hi⟩:=xeq R.id;have k40:=(Q0.cell 40).trans (show Q.toArray[40]? =some (.int .u32 (i:Int)) by rw[tA3,←hi];exact A4.o 5);have ib:i<4294967296:=by rw[←hi];exact HR.good.id
 obtain⟨ng,hng⟩:=xeq s.gras.length;have gb:ng≤64:=by rw[←hng];exact HS.grasn
 have c9:=H.c9;rw[hng]at c9;obtain⟨A2,C9,HI,A9⟩:=zh4 k40 (qai c9 B0.o) hi hng;clear k40 c9 hi hng;have u1:IntKind.u64.wrap (i:Int)=(i:Int):=tBa _ zo;have u2:IntKind.u64.wrap (ng:Int)=(ng:Int):=tBa _ zo;go_enter Tryz.func139,Tryz.ntmps139
 go_upto_region 1 with(fail)
 rw[←AC.o];obtain⟨S,HS9⟩:=zS fun w'=>Zb W0 w'
 refine zrs S 12 (zq 0 12 []) ((HS9.o _).mpr ((tA5 _ _).drew)) ?_;obtain⟨F0,F1⟩:=zh2 (zF HS9 A2.o) (zF HS9 C9.o);iterate 12 (refine zr2 ?_)
 refine qbg ?_;clear HS9 F0 F1;obtain⟨W1,hW1,B1⟩:=zdr W0;rw[←hW1];clear hW1;obtain⟨Z1,A5⟩:=zh2 (Z0.below B1.o Z0.lt) (AD.call B1.o);by_cases hge:ng≤i
 ·
  have p1:(ng:Int)≤i:=zo;have hdo:qnf s R=(s,rWhy 23):=by
   unfold qnf;rw[HI.o,List.getElem?_eq_none (by rw[A9.o];exact hge)]
  have A0:=zh1 hdo;clear hdo hge u1 u2;go_wp2_with fail
  exact qry A0 HK (A1.o) (qr6 23 W1) (Z1.o) (A5.o)
 have p1:¬(ng:Int)≤i:=zo;have plt:i<ng:=zo;have plt2:(i:Int)<ng:=zo;obtain⟨x,hx⟩:∃x,s.gras[i]? =some x:=⟨_,tA7 (by rw[A9.o];exact plt)⟩;have gcell:w.cell? ⟨L.gg,i*4+3,none⟩=some (.bool x.revoked):=H.st.gras.cell ((qo5 hx zo).trans rfl);obtain⟨HX,A6⟩:=zh2 hx gcell;clear hge hx gcell;go_upto_region 3 with(fail)
 obtain⟨S,HS9⟩:=zS fun w'=>Zb W1 w'
 refine zrs S 16 (zq 0 16 []) ((HS9.o _).mpr ((tA5 _ _).drew)) ?_;obtain⟨F0,F1,F2⟩:=zh3 (zF HS9 (qai A2.o B1.o)) (zF HS9 (qai C9.o B1.o)) (zF HS9 (qai (qai A6.o B0.o) B1.o));by_cases h0:i=0
 ·
  subst h0;have hdo:qnf s R=(s,rWhy 24):=by
   unfold qnf;rw[HI.o,HX.o];simp
  have A0:=zh1 hdo;clear hdo u1 u2;iterate 14 (first|refine zsk ?_|refine zr1 ?_)
  iterate 2 (refine zrb ?_)
  refine qbg ?_;clear HS9 F0 F1 F2;obtain⟨W2,hW2,B2⟩:=zdr W1;rw[←hW2];clear hW2;obtain⟨Z2,A7⟩:=zh2 (Z1.below B2.o Z1.lt) (A5.call B2.o);go_wp2_with fail
  exact qry A0 HK (A1.o) (qr6 24 W2) (Z2.o) (A7.o)
 have qi:((i:Int)==0)=false:=by simp;omega
 have q0:(0:Int)≤i:=zo;obtain⟨rv,hrv⟩:=xeq x.revoked;rw[hrv]at A6 F2;iterate 16 (refine zr3 ?_)
 refine qbg ?_;clear HS9 F0 F1 F2;obtain⟨W2,hW2,B2⟩:=zdr W1;rw[←hW2];clear hW2;obtain⟨Z2,A7⟩:=zh2 (Z1.below B2.o Z1.lt) (A5.call B2.o);cases rv with
 |true=>
  have hdo:qnf s R=(s,rWhy 24):=by
   unfold qnf;rw[HI.o,HX.o];simp[hrv]
  have A0:=zh1 hdo;clear hdo u1 u2;go_wp2_with fail
  exact qry A0 HK (A1.o) (qr6 24 W2) (Z2.o) (A7.o)
 |false=>
  have hdo:qnf s R=({s with gras:=s.gras.modify i fun g=>{g with revoked:=true}},qn6 i):=by
   unfold qnf;rw[HI.o,HX.o];simp only[];rw[if_neg (by simp[hrv];omega)]
  obtain⟨A0,A8⟩:=zh2 hdo (B0.trans ((B1.trans (B2.mono B1.size)).mono B0.size));clear hdo u1 u2;go_upto_region 5 with(fail)
  have c9:=qai C9.o (B1.trans (B2.mono B1.size));have H2:=H.call A8.o;obtain⟨HF,HC⟩:=zh2 (fun(w':World)(hb:Zb w w')=>(H.call hb).st.gras.frozen (i*4+3)) (fun(w':World)(hb:Zb w w')=>qai A6.o hb);clear H2 c9;obtain⟨S,HS9⟩:=zS fun w'=>Zb W2 w'
  refine zrs S 9 (zq 0 9 [(9,true)]) ((HS9.o _).mpr ((tA5 _ _).drew)) ?_;obtain⟨F0,F1⟩:=zh2 (zF HS9 (qai (qai A2.o B1.o) B2.o)) (zF HS9 (qai (qai C9.o B1.o) B2.o));iterate 9 (refine zr2 ?_)
  clear HS9 F0 F1;obtain⟨W3,hW3,B3⟩:=zdr W2;rw[←hW3];clear hW3;obtain⟨A3,Z3⟩:=zh2 (A8.trans (B3.mono A8.size)) (Z2.below B3.o Z2.lt);have hf:=HF.o _ A3.o;have hc:=HC.o _ A3.o;have M6:=(H.call A3.o).graOver HK.o HX.o (j:=3) (cs:=[.bool true]) (fun x=>{x with revoked:=true}) zm (by simp[over,grav]);rw[show W3.setCells L.gg (i*4+3) [.bool true]=W3.setCell ⟨L.gg,i*4+3,none⟩ (.bool true) from rfl]at M6;have cg:col L.gg=k+2:=H.st.gras.1;have D9:=Did.cell H.o A3.o (by rw[cg];unfold inP;simp) (by rw[cg];have:=HK.o;rcases this with rfl|rfl<;>omega) M6;have zD:Blk (W3.setCell ⟨L.gg,i*4+3,none⟩ (.bool true)) (w.heap.size+1) 57 Tryz.zeroCells57:=Z3.far (by intro e;have e':w.heap.size+1=L.gg:=e;rw[←e']at cg;have:=A1.o;omega) _;have kD:(W3.setCell ⟨L.gg,i*4+3,none⟩ (.bool true)).cell? ⟨w.heap.size,40,none⟩=some (.int .u32 (i:Int)):=
   qor (p:=(· ==k+2)) (qai A2.o ((B1.trans (B2.mono B1.size)).trans (B3.mono (tB1 B1.size B2.size)))) (Turns.setCell (col:=col) (.bool true) (by simp[cg])) (by
    by_cases e:col w.heap.size=0
    · rw[e];simp
    have:=H.fin _ e;omega)
  obtain⟨AA,AB⟩:=zh2 D9 zD;clear M6 cg D9 zD;refine zw ?_;go_simp;refine qbg ?_;clear hf hc;obtain⟨W9,hW9⟩:=eqx (W3.setCell ⟨L.gg,i*4+3,none⟩ (.bool true));rw[←hW9]at AA AB kD ⊢;clear hW9;have v1:IntKind.i64.wrap (i:Int)=(i:Int):=tBb _ zo;have v2:wrap64 (i:Int)=(i:Int):=IntWalk.wrap64_in _ zo;go_wp2_with fail
  exact qry A0 HK (A1.o) (qr5 i W9 zo) (AB.o) (AA.o)
theorem Did.turned(h:Mdl w col k g c s L css)(hb:Zb w W)(hT:Turns (· ==kk) W col W' col')(hc:inP k kk=true)(hn:kk<10∧kk≠5)
 (hm:Mdl W' col' k g c s' L' css'):Did w col W' col' k g c css s s':=by
 have hT2:Turns (inP k) W col W' col':=hT.mono fun i hi=>(show i=kk by simpa using hi)▸hc
 exact⟨⟨L',css',hm⟩,(h.call hb).st.trs.keep fun i hi=>hT.keeps (by simp;omega),(Turns.of_below _ hb).trans hT2⟩
theorem qse {α:Type}{f g:α→α}:∀(l:List α) (n:Nat),(l.modify n f).modify n g=l.modify n fun x=>g (f x)
 |[],n=>by simp
 |x::l,0=>by simp
 |x::l,n+1=>by simp[qse l n]
theorem qsf(c:Cfg)(s:Sta)(L:Loc)(col:Col)(k g:Nat)(css:List (List Value))(R:Req)(Ac:Option Addr)(cc:Nat)(Al:Option Addr)(cl:Nat)(w:World)(hk:Kind k)(hs:s.Ok)(h:Mdl w col k g c s L css)
 (hr:Asked w col R Ac cc Al cl):
 Zc 140 #[.pointer (some ⟨g,0,none⟩),.agg (reqv R (.slice Ac R.cavs.length cc) (.slice Al R.leaf.length cl)).toArray] w fun e w'=>∃v col',e=.returned v∧RspV w' col' w.heap.size v (qng s R).2∧Did w col w' col' k g c css s (qng s R).1:=by
 obtain⟨Q,hQ,rlen,rest,W0,hW0,q0,z0,b0⟩:=qrx R Ac cc Al cl w hr.good.tag;rw[hQ];have hG0:=h.fin.none (b:=w.heap.size+1) zo;have D0:=Did.same (css:=css) h b0;obtain⟨H,AC,Q0,Z0,B0,A4,A7,HK⟩:=zh8 h hW0 q0 z0 b0 hG0 D0 hk;obtain⟨HS,HR,RL,A1,HQ⟩:=zh5 hs hr rlen rest hQ;clear h hW0 q0 z0 b0 hG0 D0 hk hs hr rlen rest hQ;obtain⟨n,hn⟩:=xeq R.tenant;obtain⟨rt,hrt⟩:=xeq R.rate;obtain⟨bt,hbt⟩:=xeq R.burst;obtain⟨st,hst⟩:=xeq R.store;have k36:=(Q0.cell 36).trans (show Q.toArray[36]? =some (.int .i64 n) by rw[tA3,←hn];exact A1.o 1);have k43:=(Q0.cell 43).trans (show Q.toArray[43]? =some (.int .u32 (rt:Int)) by rw[tA3,←hrt];exact A1.o 8);have k44:=(Q0.cell 44).trans (show Q.toArray[44]? =some (.int .u32 (bt:Int)) by rw[tA3,←hbt];exact A1.o 9);have k45:=(Q0.cell 45).trans (show Q.toArray[45]? =some (.int .u32 (st:Int)) by rw[tA3,←hst];exact A1.o 10);obtain⟨A5,AD,AE,AF,AI,HN,A8,A9⟩:=zh8 k36 k43 k44 k45 (qr7 n c s L col k g css W0 (H.call B0.o)) hn hrt hbt;obtain⟨AJ,AK⟩:=zh2 hst (show st<4294967296 by rw[←hst];exact HR.good.store);rw[AC.o]at k36;clear hn hrt hbt hst k43 k44 k45;go_enter Tryz.func140,Tryz.ntmps140
 go_wp2_with fail
 rw[←AC.o];refine AI.o.mono ?_;rintro e w' ⟨rfl,rfl⟩;clear k36;by_cases h16:0≤n∧n<16
 ·
  rw[if_pos h16];obtain⟨m,rfl⟩:∃m:Nat,n=m:=⟨n.toNat,by omega⟩;rw[tBe];have k43:=AD.o;have k44:=AE.o;obtain⟨x,hx⟩:∃x,s.tens[m]? =some x:=⟨_,tA7 (by rw[HS.tensn];omega)⟩;have hten:s.tenant R.tenant=some x:=by unfold Sta.tenant;rw[HN.o,if_pos zo,tBe];exact hx
  obtain⟨HX,A0⟩:=zh2 hx hten;clear hx hten;go_wp2_with fail
  clear k43 k44;by_cases hq:rt≤1048576∧bt≤1048576
  ·
   refine zcb (qqv (rt:Int) (bt:Int) _ zo zo) fun w1 b1=>?_
   have B1:=zh1 b1;clear b1;go_upto_region 3 with(fail)
   obtain⟨W2,hW2⟩:=eqx (w1.alloc (.cells #[.int .u32 (rt:Int),.int .u32 (bt:Int),.int .u32 (bt:Int)] 90));rw[←hW2];have q2:=zNa hW2;have b2:Zb W0 W2:=by rw[hW2];exact qah B1.o _
   obtain⟨Z2,A3,Q2,B2⟩:=zh4 (Z0.below b2 Z0.lt) (A7.call b2) q2 b2;clear hW2 q2 b2;have k36:=qai A5.o B2.o;by_cases h0:m=0
   ·
    subst h0;have hdo:qng s R=(s,rWhy 24):=by
     unfold qng;rw[A0.o];simp only[];rw[if_neg (by rw[A8.o,A9.o];omega),if_pos (by rw[HN.o];rfl)]
    have A2:=zh1 hdo;clear hdo;go_wp2_with fail
    exact qry A2 HK (A4.o) (qr6 24 W2) (Z2.o) (A3.o)
   have qm:((m:Int)==0)=false:=by simp;omega
   have hdo:qng s R=(s.setX m fun x=>{x with on:=true,rate:=rt,burst:=bt,tok:=bt,store:=st},qn6 m):=by
    unfold qng;rw[A0.o];simp only[];rw[if_neg (by rw[A8.o,A9.o];omega),if_neg (by rw[HN.o];omega),HN.o,A8.o,A9.o,AJ.o,tBe]
   obtain⟨A2,AG,AH⟩:=zh3 hdo hq h16;clear hdo hq h16;go_upto_region 7 with(fail)
   clear k36;have cT:col L.tg=k:=H.st.tens.1;have HB:=zh1 (B0.trans (B2.mono B0.size));have cW:col w.heap.size=0:=by
    by_cases e:col w.heap.size=0
    · exact e
    have:=H.fin _ e;omega
   have sQ:w.heap.size<w1.heap.size:=by have:=B1.size;have:=Z0.lt;omega
   have cQ:col w1.heap.size=0:=by
    by_cases e:col w1.heap.size=0
    · exact e
    have:=H.fin _ e;omega
   have k0:k≠0:=by have:=HK.o;rcases this with rfl|rfl<;>omega
   obtain⟨CT,CW,CQ,K0⟩:=zh4 cT cW cQ k0;clear cT cW sQ cQ k0;obtain⟨S,HS9⟩:=zS fun w'=>Turns (· ==k) W2 col w' col
   refine zrs S 14 (zq 0 8 [(8,true),(9,false),(10,false),(11,true),(12,false),(13,false),(14,true)]) ((HS9.o _).mpr (Turns.of_below _ (tA5 _ _).drew)) ?_;obtain⟨F0,FQ⟩:=zh2 (fun(w':World)(h:S w')=>qor (qai AF.o B2.o) ((HS9.o w').mp h) (by rw[CW.o];have:=K0.o;simp;omega)) (fun(w':World)(h:S w')=>qap (l:=[.int .u32 (rt:Int),.int .u32 (bt:Int),.int .u32 (bt:Int)]) ((((HS9.o w').mp h).block _ Q2.lt (by rw[CQ.o];have:=K0.o;simp;omega)).trans Q2.o) 0 _ zjq);iterate 3 (refine zr1 ?_)
   have HI:=zh1 (show (Tryz.prog.info? 90).map (·.size)=some 3 by kernel_rfl);refine qos rfl rfl 90 (.tmp 7) rfl w1.heap.size 0 rfl _ _ FQ.o Tryz.underlying90 rfl HI.o ?_;refine zP ?_;iterate 4 (refine zr1 ?_)
   clear F0 FQ;obtain⟨W3,hW3,B3⟩:=zdr W2;rw[←hW3];clear hW3;have AL:=zh1 (HB.trans (B3.mono HB.size));have M3:=H.call AL.o;have M4:=M3.tenOver HK.o HS.o HX.o (j:=0) (cs:=[.bool true]) (fun x=>{x with on:=true}) zm (by simp[over,tenv]);have f0:=M3.st.tens.frozen (m*6);have c0:W3.cell? ⟨L.tg,m*6,none⟩=some (.bool x.on):=M3.st.tens.cell ((qo4 HX.o (by omega:(0:Nat)<6)).trans rfl);rw[show W3.setCells L.tg (m*6+0) [.bool true]=W3.setCell ⟨L.tg,m*6,none⟩ (.bool true) from rfl]at M4;have T4:Turns (· ==k) W3 col (W3.setCell ⟨L.tg,m*6,none⟩ (.bool true)) col:=Turns.setCell _ (by simp[CT.o]);have AA:=(Turns.of_below (col:=col) (· ==k) B3.o).trans T4;have ok4:(s.setX m fun x=>{x with on:=true}).Ok:=HS.setX fun x _ h=>⟨h.rate,h.burst,h.tok,h.store,h.used⟩
   have x4:(s.setX m fun x=>{x with on:=true}).tens[m]? =some {x with on:=true}:=qop _ HX.o;refine zw ?_;go_simp;clear f0 c0;obtain⟨W4,hW4⟩:=eqx (W3.setCell ⟨L.tg,m*6,none⟩ (.bool true));rw[←hW4]at M4 AA ⊢;clear hW4 T4 M3;refine⟨(HS9.o _).mpr AA,zput ?_⟩;iterate 2 (refine zre rfl rfl (fun w1 hS=>by clear hS;go_simp;try rfl) ?_)
   have hth:=M4.st.tens.there (o:=m*6+1) (m:=3) (by rw[qo6,ok4.tensn];have:=AH.o;omega);have M5:=M4.tenOver HK.o ok4 x4 (j:=1) (cs:=[.int .u32 (rt:Int),.int .u32 (bt:Int),.int .u32 (bt:Int)]) (fun x=>{x with rate:=rt,burst:=bt,tok:=bt}) zm (by simp[over,tenv]);have T5:Turns (· ==k) W4 col (W4.setCells L.tg (m*6+1) [.int .u32 (rt:Int),.int .u32 (bt:Int),.int .u32 (bt:Int)]) col:=Turns.setCells _ (by simp[CT.o]);have AB:=AA.trans T5;have ok5:((s.setX m fun x=>{x with on:=true}).setX m fun x=>{x with rate:=rt,burst:=bt,tok:=bt}).Ok:=ok4.setX fun x _ h=>⟨AG.o.1,AG.o.2,tA4 _,h.store,h.used⟩
   have x5:((s.setX m fun x=>{x with on:=true}).setX m fun x=>{x with rate:=rt,burst:=bt,tok:=bt}).tens[m]? =some {x with on:=true,rate:=rt,burst:=bt,tok:=bt}:=qop _ x4;refine zw ?_;refine wp_store_mid 90 (.tmp 46) (.tmp 40) rfl L.tg (m*6+1) [.int .u32 (rt:Int),.int .u32 (bt:Int),.int .u32 (bt:Int)].toArray rfl rfl hth zk (by simp[Value.oneCell']) ?_;obtain⟨W5,hW5⟩:=eqx (W4.setCells L.tg (m*6+1) [.int .u32 (rt:Int),.int .u32 (bt:Int),.int .u32 (bt:Int)]);rw[←hW5]at M5 AB ⊢;clear hW5 T5 hth M4 AA;refine⟨fun _=>(HS9.o _).mpr AB,zput ?_⟩;have F0:=zh1 (fun(w':World)(h:S w')=>qor (qai AF.o B2.o) ((HS9.o w').mp h) (by rw[CW.o];have:=K0.o;simp;omega));iterate 2 (refine zr1 ?_)
   have f5:=M5.st.tens.frozen (m*6+4);have c5:W5.cell? ⟨L.tg,m*6+4,none⟩=some (.int .u32 (x.store:Int)):=M5.st.tens.cell ((qo4 x5 (by omega:(4:Nat)<6)).trans rfl);have M6:=M5.tenOver HK.o ok5 x5 (j:=4) (cs:=[.int .u32 (st:Int)]) (fun x=>{x with store:=st}) zm (by simp[over,tenv]);rw[show W5.setCells L.tg (m*6+4) [.int .u32 (st:Int)]=W5.setCell ⟨L.tg,m*6+4,none⟩ (.int .u32 (st:Int)) from rfl]at M6;have T6:Turns (· ==k) W5 col (W5.setCell ⟨L.tg,m*6+4,none⟩ (.int .u32 (st:Int))) col:=Turns.setCell _ (by simp[CT.o]);have A6:=AB.trans T6;refine zw ?_;go_simp;refine qbg ?_;clear f5 c5 F0;obtain⟨W6,hW6⟩:=eqx (W5.setCell ⟨L.tg,m*6+4,none⟩ (.int .u32 (st:Int)));rw[←hW6]at M6 A6 ⊢;clear hW6 T6 M5 AB HS9;have est:(((s.setX m fun x=>{x with on:=true}).setX m fun x=>{x with rate:=rt,burst:=bt,tok:=bt}).setX m fun x=>{x with store:=st})=(s.setX m fun x=>{x with on:=true,rate:=rt,burst:=bt,tok:=bt,store:=st}):=by
    unfold Sta.setX;simp only[qse]
   rw[est]at M6;have D9:=Did.turned H.o HB.o A6 (by unfold inP;simp) (by have:=HK.o;rcases this with rfl|rfl<;>omega) M6;have z6:Blk W6 (w.heap.size+1) 57 Tryz.zeroCells57:=(A6.block _ Z2.lt (by rw[A4.o];have:=K0.o;simp;omega)).trans Z2.o;have k36:=qor (qai A5.o B2.o) A6 (by rw[CW.o];have:=K0.o;simp;omega);obtain⟨AM,AN⟩:=zh2 D9 z6;clear M6 A6 est D9 z6 ok4 x4 ok5 x5;have hm16:m<16:=by have:=AH.o;omega
   go_wp2_with fail
   exact qry A2 HK (A4.o) (qr5 m W6 zo) (AN.o) (AM.o)
  refine zcb (qqw (rt:Int) (bt:Int) _ zo) fun w1 b1=>?_
  have B1:=zh1 b1;clear b1;go_upto_region 3 with(fail)
  obtain⟨W2,hW2⟩:=eqx (w1.alloc (.cells #[.int .u32 0,.int .u32 0,.int .u32 0] 90));rw[←hW2];have q2:=zNa hW2;have b2:Zb W0 W2:=by rw[hW2];exact qah B1.o _
  obtain⟨Z2,A3,Q2,B2⟩:=zh4 (Z0.below b2 Z0.lt) (A7.call b2) q2 b2;clear hW2 q2 b2;have k36:=qai A5.o B2.o;have hdo:qng s R=(s,rWhy 25):=by
   unfold qng;rw[A0.o];simp only[];rw[if_pos (by rw[A8.o,A9.o];omega)]
  have A2:=zh1 hdo;clear hdo;go_wp2_with fail
  exact qry A2 HK (A4.o) (qr6 25 W2) (Z2.o) (A3.o)
 rw[if_neg h16];have k43:=AD.o;have k44:=AE.o;have hten:s.tenant R.tenant=none:=by
  unfold Sta.tenant;rw[HN.o];by_cases h0:0≤n
  · rw[if_pos h0]
    exact List.getElem?_eq_none (by rw[HS.tensn];omega)
  rw[if_neg h0]
 have A0:=zh1 hten;clear hten;go_wp2_with fail
 clear k43 k44;by_cases hq:rt≤1048576∧bt≤1048576
 ·
  refine zcb (qqv (rt:Int) (bt:Int) _ zo zo) fun w1 b1=>?_
  have B1:=zh1 b1;clear b1;go_upto_region 3 with(fail)
  obtain⟨W2,hW2⟩:=eqx (w1.alloc (.cells #[.int .u32 (rt:Int),.int .u32 (bt:Int),.int .u32 (bt:Int)] 90));rw[←hW2];have q2:=zNa hW2;have b2:Zb W0 W2:=by rw[hW2];exact qah B1.o _
  obtain⟨Z2,A3,Q2,B2⟩:=zh4 (Z0.below b2 Z0.lt) (A7.call b2) q2 b2;clear hW2 q2 b2;have k36:=qai A5.o B2.o;have hdo:qng s R=(s,rWhy 25):=by
   unfold qng;rw[A0.o]
  have A2:=zh1 hdo;clear hdo;go_wp2_with fail
  exact qry A2 HK (A4.o) (qr6 25 W2) (Z2.o) (A3.o)
 refine zcb (qqw (rt:Int) (bt:Int) _ zo) fun w1 b1=>?_
 have B1:=zh1 b1;clear b1;go_upto_region 3 with(fail)
 obtain⟨W2,hW2⟩:=eqx (w1.alloc (.cells #[.int .u32 0,.int .u32 0,.int .u32 0] 90));rw[←hW2];have q2:=zNa hW2;have b2:Zb W0 W2:=by rw[hW2];exact qah B1.o _
 obtain⟨Z2,A3,Q2,B2⟩:=zh4 (Z0.below b2 Z0.lt) (A7.call b2) q2 b2;clear hW2 q2 b2;have k36:=qai A5.o B2.o;have hdo:qng s R=(s,rWhy 25):=by
  unfold qng;rw[A0.o]
 have A2:=zh1 hdo;clear hdo;go_wp2_with fail
 exact qry A2 HK (A4.o) (qr6 25 W2) (Z2.o) (A3.o)
theorem qsm (w:Nat)(hw:w≤32):∀(m:Nat) (l:List (List Nat)) (i:Nat),l.length≤m→(qfx w l i).length≤l.length∧∀d∈qfx w l i,d.length=32∧∀x∈d,x<256
 |0,l,i,h=>by rw[qfy w i zo];exact⟨by simp,fun d hd=>(nomatch hd)⟩
 |m+1,l,i,h=>by
  by_cases h1:l.length≤1
  · rw[qfy w i h1];exact⟨by simp,fun d hd=>(nomatch hd)⟩
  obtain⟨a,b,c⟩:=qfs (n:=l.length) zo;have l1:(l.take (half l.length)).length=half l.length:=by rw[tBd];omega
  have l2:(l.drop (half l.length)).length=l.length - half l.length:=tBk;by_cases hi:i<half l.length
  · obtain⟨h2,h3⟩:=qsm w hw m (l.take (half l.length)) i zo
    rw[qfz w zo hi];refine⟨by rw[tA6,List.length_singleton];omega,fun d hd=>?_⟩;rcases List.mem_append.1 hd with hd|hd
    · exact h3 d hd
    rw[List.mem_singleton.1 hd];exact qon w hw _
  obtain⟨h2,h3⟩:=qsm w hw m (l.drop (half l.length)) (i - half l.length) zo;rw[qg0 w zo hi];refine⟨by rw[tA6,List.length_singleton];omega,fun d hd=>?_⟩;rcases List.mem_append.1 hd with hd|hd
  · exact h3 d hd
  rw[List.mem_singleton.1 hd];exact qon w hw _
theorem qsn (w:Nat)(hw:w≤32):∀(k:Nat) (l:List (List Nat)) (m:Nat) (b:Bool),l.length≤k→(subH w l m b).length≤l.length+1∧∀d∈subH w l m b,d.length=32∧∀x∈d,x<256
 |0,l,m,b,h=>by
  rw[subH,dif_pos (.inl zo)];cases b
  · exact⟨by simp,fun d hd=>by rw[List.mem_singleton.1 hd];exact qon w hw _⟩
  exact⟨by simp,fun d hd=>(nomatch hd)⟩
 |k+1,l,m,b,h=>by
  by_cases h1:l.length≤1∨m=l.length
  · rw[subH,dif_pos h1]
    cases b
    · exact⟨by simp,fun d hd=>by rw[List.mem_singleton.1 hd];exact qon w hw _⟩
    exact⟨by simp,fun d hd=>(nomatch hd)⟩
  obtain⟨x,y,z⟩:=qfs (n:=l.length) zo;have l1:(l.take (half l.length)).length=half l.length:=by rw[tBd];omega
  have l2:(l.drop (half l.length)).length=l.length - half l.length:=tBk;by_cases hi:m≤half l.length
  · obtain⟨h2,h3⟩:=qsn w hw k (l.take (half l.length)) m b zo
    rw[qg2 w b zo zo hi];refine⟨by rw[tA6,List.length_singleton];omega,fun d hd=>?_⟩;rcases List.mem_append.1 hd with hd|hd
    · exact h3 d hd
    rw[List.mem_singleton.1 hd];exact qon w hw _
  obtain⟨h2,h3⟩:=qsn w hw k (l.drop (half l.length)) (m - half l.length) false zo;rw[qg3 w b zo zo hi];refine⟨by rw[tA6,List.length_singleton];omega,fun d hd=>?_⟩;rcases List.mem_append.1 hd with hd|hd
  · exact h3 d hd
  rw[List.mem_singleton.1 hd];exact qon w hw _
theorem qso(W:Int)(pw pf:Nat):∀(m:Nat) (ls:List (List Nat)) (i g o n c:Nat) (w:World),ls.length≤m→1≤n→i<n→TextsR w (some ⟨g,o,none⟩) n ls→n≤c→c≤maxLen→n≤1048576→(∀b∈ls,BsOk b)→
 w.cell? ⟨pw,0,none⟩=some (.int .i64 W)→w.cell? ⟨pf,0,none⟩=some (.func (.func 226) #[] #[.pointer (some ⟨pf,0,none⟩),.pointer (some ⟨pw,0,none⟩)])→Tabs w→
 Zc 226 #[.slice (some ⟨g,o,none⟩) n c,.int .i64 (i:Int),.pointer (some ⟨pf,0,none⟩),.pointer (some ⟨pw,0,none⟩)] w fun e w'=>∃v,e=.returned v∧OwnD w' w.heap.size v (qfx (cutW W) ls i)∧Zb w w':=by
 intro m;induction m with
 |zero=>
  intro ls i g o n c w hm h1 hi ht;have:=ht.1;omega
 |succ m ih=>
  intro ls i g o n c w hm h1 hi ht hnc hcm hn hok hpw hpf hT;have hlen:=ht.1;have AA:=zh1 ih;clear ih;obtain⟨A3,A0,A5,A6,A7,A2,HL,HM⟩:=zh8 ht hT hpw hpf hok hcm hlen hm;clear hok hcm hlen hm ht hpw hpf hT;by_cases hn1:n=1
  · subst hn1
    have hp:qfx (cutW W) ls i=[]:=qfy _ _ (by rw[HL.o];omega);go_enter Tryz.func226,Tryz.ntmps226
    go_wp2
    go_ret
    exact⟨_,rfl,by rw[hp];exact OwnD.nil _ _,tA5 _ _⟩
  have qn:¬(n:Int)=1:=zo;obtain⟨hk1,hk2,hk3⟩:=qfs (n:=n) zo;have Hhalf:=zh1 (qpv n w zo zo);obtain⟨k,hk⟩:=xeq (half n);rw[hk]at hk1 hk2 hk3 Hhalf;have lt1:(ls.take k).length=k:=by rw[tBd,HL.o];omega
  have lt2:(ls.drop k).length=n - k:=by rw[tBk,HL.o]
  have hcc:=A2.o;unfold maxLen at hcc;have q1:(0:Int)≤k:=zo;have q2:(k:Int)≤n:=zo;have q3:(k:Int)≤c:=zo;have q4:¬c=k:=zo;have R1:∀w1,Zb w w1→Zc 174 #[.int .i64 W,.slice (some ⟨g,o,none⟩) k c] w1 fun e w'=>e=.returned (.agg (byv (qft (cutW W) (ls.take k))).toArray)∧Zb w1 w':=fun w1 b1=>
   qq0 W (ls.take k) _ k c w1 ((A3.take zo).call b1) zo A2.o zo (fun b hb=>A7.o b (tB7 hb)) (A0.below b1 A0.size)
  have R2:∀w1,Zb w w1→Zc 174 #[.int .i64 W,.slice (some ⟨g,o+k,none⟩) (n - k) (c - k)] w1 fun e w'=>e=.returned (.agg (byv (qft (cutW W) (ls.drop k))).toArray)∧Zb w1 w':=fun w1 b1=>
   qq0 W (ls.drop k) _ (n - k) (c - k) w1 ((A3.drop hk2).call b1) zo (by have:=A2.o;omega) zo (fun b hb=>A7.o b (List.mem_of_mem_drop hb)) (A0.below b1 A0.size)
  by_cases hik:i<k
  ·
   have hp:qfx (cutW W) ls i=qfx (cutW W) (ls.take k) i++[qft (cutW W) (ls.drop k)]:=by
    have:=qfz (cutW W) (l:=ls) (i:=i) (by rw[HL.o];omega) (by rw[HL.o,hk];exact hik);rwa[HL.o,hk]at this
   have C1:∀w1,Zb w w1→Zc 226 #[.slice (some ⟨g,o,none⟩) k c,.int .i64 (i:Int),.pointer (some ⟨pf,0,none⟩),.pointer (some ⟨pw,0,none⟩)] w1 fun e w'=>∃v,e=.returned v∧OwnD w' w1.heap.size v (qfx (cutW W) (ls.take k) i)∧Zb w1 w':=fun w1 b1=>
    AA.o (ls.take k) i g o k c w1 (by rw[lt1];have:=HM.o;have:=HL.o;omega) hk1 hik ((A3.take zo).call b1) zo A2.o zo (fun b hb=>A7.o b (tB7 hb)) (qai A5.o b1) (qai A6.o b1) (A0.below b1 A0.size)
   have hpl:=(qsm (cutW W) (qfp W).2 _ (ls.take k) i (tA4 _)).1;rw[lt1]at hpl;obtain⟨A8,A9,AB,HP⟩:=zh4 hpl C1 R2 hp;have qi:(i:Int)<k:=zo;clear C1 R1 R2 hp lt1 lt2 hk hcc hpl;go_enter Tryz.func226,Tryz.ntmps226
   go_wp2_with fail
   refine Hhalf.o.mono ?_;rintro e w' ⟨rfl,rfl⟩;go_upto_region 5 with(fail)
   obtain⟨S,HS⟩:=zS fun w'=>Zb w w'
   refine zrs S 14 (zq 0 5 (zq 6 4 [(5,true),(10,true),(11,true),(12,true),(13,false)])) ((HS.o _).mpr (tA5 _ _).drew) ?_;obtain⟨F0,F1⟩:=zh2 (zF HS A5.o) (zF HS A6.o);iterate 9 (refine zr2 ?_)
   obtain⟨Wd,hWd,bd⟩:=zdr w;rw[←hWd];clear hWd;refine zw ?_;go_simp;refine(A9.o Wd bd).mono ?_;rintro e w1 ⟨v1,rfl,o1,b1⟩;have b1':=bd.trans (b1.mono bd.size);obtain⟨A1,n1,c1,rfl,-,-,-,-⟩:=o1.sl;refine⟨(HS.o _).mpr b1',zput ?_⟩;refine zw ?_;go_simp;refine zcb (AB.o w1 b1') fun w2 b2=>?_
   have b2':=b1'.trans (b2.mono b1'.size);have o2:=o1.kept b2;refine⟨(HS.o _).mpr b2',zput ?_⟩;refine zw ?_;refine qsi (.tmp 27) rfl (qft (cutW W) (ls.drop k)) (qon _ (qfp W).2 _).1 rfl ?_;have o3:=o2.alloc (.cells (byv (qft (cutW W) (ls.drop k))).toArray 29);have b3':Zb w (w2.alloc (.cells (byv (qft (cutW W) (ls.drop k))).toArray 29)):=b2'.alloc b2'.size _;refine⟨fun _=>(HS.o _).mpr b3',zput ?_⟩;refine zw ?_;refine qqf (.tmp 22) (.tmp 28) rfl Wd.heap.size _ _ rfl o3 _ 1 1 [qft (cutW W) (ls.drop k)] rfl rfl (fun d hd=>by rw[List.mem_singleton.1 hd];exact(qon _ (qfp W).2 _).1) (qsk w2 _ (qon _ (qfp W).2 _).1) (by have:=A8.o;omega) (by rw[qar];have:=b1.size;have:=b2.size;omega) ?_;intro v4 w4 o4 b4 _;have b4':Zb w w4:=b3'.trans (b4.mono bd.size);obtain⟨A4,n4,c4,rfl,-,-,-,-⟩:=o4.sl;obtain⟨O4,B4⟩:=zh2 (show OwnD w4 w.heap.size _ _ from⟨o4.1,qdf o4.2 bd.size⟩) b4';refine⟨fun _=>(HS.o _).mpr b4',zput ?_⟩;clear o1 o2 o3 o4 b1 b1' b2 b2' b3' b4 b4' bd;iterate 1 (refine zrb ?_)
   refine qbg ?_;go_wp2
   go_ret
   exact⟨_,rfl,by rw[HP.o];exact O4.o,B4.o⟩
  have hp:qfx (cutW W) ls i=qfx (cutW W) (ls.drop k) (i - k)++[qft (cutW W) (ls.take k)]:=by
   have:=qg0 (cutW W) (l:=ls) (i:=i) (by rw[HL.o];omega) (by rw[HL.o,hk];exact hik);rwa[HL.o,hk]at this
  have C1:∀w1,Zb w w1→Zc 226 #[.slice (some ⟨g,o+k,none⟩) (n - k) (c - k),.int .i64 ((i - k:Nat):Int),.pointer (some ⟨pf,0,none⟩),.pointer (some ⟨pw,0,none⟩)] w1 fun e w'=>∃v,e=.returned v∧OwnD w' w1.heap.size v (qfx (cutW W) (ls.drop k) (i - k))∧Zb w1 w':=fun w1 b1=>
   AA.o (ls.drop k) (i - k) g (o+k) (n - k) (c - k) w1 (by rw[lt2];have:=HM.o;have:=HL.o;omega) zo zo ((A3.drop hk2).call b1) zo (by have:=A2.o;omega) zo (fun b hb=>A7.o b (List.mem_of_mem_drop hb)) (qai A5.o b1) (qai A6.o b1) (A0.below b1 A0.size)
  have hpl:=(qsm (cutW W) (qfp W).2 _ (ls.drop k) (i - k) (tA4 _)).1;rw[lt2]at hpl;obtain⟨A8,A9,AC,HP⟩:=zh4 hpl C1 R1 hp;have qi:¬(i:Int)<k:=zo;have qs:wrap64 ((i:Int) - k)=((i - k:Nat):Int):=by rw[IntWalk.wrap64_in _ zo];omega
  have qt:IntKind.i64.wrap ((i:Int) - k)=((i - k:Nat):Int):=by rw[tBb _ zo];omega
  clear C1 R1 R2 hp lt1 lt2 hk hcc hpl;go_enter Tryz.func226,Tryz.ntmps226
  go_wp2_with fail
  refine Hhalf.o.mono ?_;rintro e w' ⟨rfl,rfl⟩;go_upto_region 6 with(fail)
  obtain⟨S,HS⟩:=zS fun w'=>Zb w w'
  refine zrs S 16 (zq 0 7 (zq 8 4 [(7,true),(12,true),(13,true),(14,true),(15,false)])) ((HS.o _).mpr (tA5 _ _).drew) ?_;obtain⟨F0,F1⟩:=zh2 (zF HS A5.o) (zF HS A6.o);iterate 11 (refine zr2 ?_)
  obtain⟨Wd,hWd,bd⟩:=zdr w;rw[←hWd];clear hWd;refine zw ?_;go_simp;refine(A9.o Wd bd).mono ?_;rintro e w1 ⟨v1,rfl,o1,b1⟩;have b1':=bd.trans (b1.mono bd.size);obtain⟨A1,n1,c1,rfl,-,-,-,-⟩:=o1.sl;refine⟨(HS.o _).mpr b1',zput ?_⟩;refine zw ?_;go_simp;refine zcb (AC.o w1 b1') fun w2 b2=>?_
  have b2':=b1'.trans (b2.mono b1'.size);have o2:=o1.kept b2;refine⟨(HS.o _).mpr b2',zput ?_⟩;refine zw ?_;refine qsi (.tmp 42) rfl (qft (cutW W) (ls.take k)) (qon _ (qfp W).2 _).1 rfl ?_;have o3:=o2.alloc (.cells (byv (qft (cutW W) (ls.take k))).toArray 29);have b3':Zb w (w2.alloc (.cells (byv (qft (cutW W) (ls.take k))).toArray 29)):=b2'.alloc b2'.size _;refine⟨fun _=>(HS.o _).mpr b3',zput ?_⟩;refine zw ?_;refine qqf (.tmp 37) (.tmp 43) rfl Wd.heap.size _ _ rfl o3 _ 1 1 [qft (cutW W) (ls.take k)] rfl rfl (fun d hd=>by rw[List.mem_singleton.1 hd];exact(qon _ (qfp W).2 _).1) (qsk w2 _ (qon _ (qfp W).2 _).1) (by have:=A8.o;omega) (by rw[qar];have:=b1.size;have:=b2.size;omega) ?_;intro v4 w4 o4 b4 _;have b4':Zb w w4:=b3'.trans (b4.mono bd.size);obtain⟨A4,n4,c4,rfl,-,-,-,-⟩:=o4.sl;obtain⟨O4,B4⟩:=zh2 (show OwnD w4 w.heap.size _ _ from⟨o4.1,qdf o4.2 bd.size⟩) b4';refine⟨fun _=>(HS.o _).mpr b4',zput ?_⟩;clear o1 o2 o3 o4 b1 b1' b2 b2' b3' b4 b4' bd;iterate 1 (refine zrb ?_)
  refine qbg ?_;go_wp2
  go_ret
  exact⟨_,rfl,by rw[HP.o];exact O4.o,B4.o⟩
theorem OwnD.made1(w:World)(d:List Nat)(hd:d.length=32):OwnD (w.alloc (.cells (byv d).toArray 29)) w.heap.size (.slice (some ⟨w.heap.size,0,none⟩) 1 1) [d]:=by
 refine⟨fun x hx=>by rw[List.mem_singleton.1 hx];exact hd,?_⟩;have:=World.ownsRow_lit (size:=32) (e:=29) w (byv d).toArray 1 (tA4 _) (by simp[maxLen]) (by simp[qat,hd]);rw[qsj];exact this
theorem qsp(W:Int)(pw pf:Nat):∀(m:Nat) (ls:List (List Nat)) (i g o n c:Nat) (b:Bool) (w:World),ls.length≤m→1≤n→1≤i→i≤n→TextsR w (some ⟨g,o,none⟩) n ls→n≤c→c≤maxLen→n≤1048576→(∀b∈ls,BsOk b)→
 w.cell? ⟨pw,0,none⟩=some (.int .i64 W)→w.cell? ⟨pf,0,none⟩=some (.func (.func 227) #[] #[.pointer (some ⟨pw,0,none⟩),.pointer (some ⟨pf,0,none⟩)])→Tabs w→
 Zc 227 #[.slice (some ⟨g,o,none⟩) n c,.int .i64 (i:Int),.bool b,.pointer (some ⟨pw,0,none⟩),.pointer (some ⟨pf,0,none⟩)] w fun e w'=>∃v,e=.returned v∧OwnD w' w.heap.size v (subH (cutW W) ls i b)∧Zb w w':=by
 intro m;induction m with
 |zero=>
  intro ls i g o n c b w hm h1 hi0 hi ht;have:=ht.1;omega
 |succ m ih=>
  intro ls i g o n c b w hm h1 hi0 hi ht hnc hcm hn hok hpw hpf hT;have hlen:=ht.1;have AA:=zh1 ih;clear ih;obtain⟨A3,A0,A5,A7,A6,A2,HL,HM⟩:=zh8 ht hT hpw hpf hok hcm hlen hm;clear hok hcm hlen hm ht hpw hpf hT;by_cases hn1:i=n
  ·
   subst hn1;have hp:subH (cutW W) ls i b=if b then [] else [qft (cutW W) ls]:=qg1 _ _ HL.symm
   cases b
   ·
    have R:=qq0 W ls _ i c w A3.o hnc A2.o hn A6.o A0.o;obtain⟨HR,HP,AB⟩:=zh3 R hp ((qon (cutW W) (qfp W).2 ls).1);clear R hp;go_enter Tryz.func227,Tryz.ntmps227
    have cw:=A5.o;go_wp2_with fail
    refine zcb HR.o fun w1 b1=>?_
    obtain⟨O1,B1,hsz⟩:=zh3 (OwnD.made1 w1 _ AB.o) (b1.alloc b1.size (.cells (byv (qft (cutW W) ls)).toArray 29)) b1.size;clear b1 cw;go_wp2_with (refine wpList_plain rfl fun K9 hK9=>qsi (.tmp 17) rfl (qft (cutW W) ls) AB.o rfl (hK9 _ _ ?_))
    go_ret
    exact⟨_,rfl,by rw[HP.o];exact⟨O1.o.1,qdf O1.o.2 hsz.o⟩,B1.o⟩
   have HP:=zh1 hp;clear hp;go_enter Tryz.func227,Tryz.ntmps227
   go_wp2
   go_ret
   exact⟨_,rfl,by rw[HP.o];exact OwnD.nil _ _,tA5 _ _⟩
  have qn:¬(i:Int)=n:=zo;obtain⟨hk1,hk2,hk3⟩:=qfs (n:=n) zo;have Hhalf:=zh1 (qpv n w zo zo);obtain⟨k,hk⟩:=xeq (half n);rw[hk]at hk1 hk2 hk3 Hhalf;have lt1:(ls.take k).length=k:=by rw[tBd,HL.o];omega
  have lt2:(ls.drop k).length=n - k:=by rw[tBk,HL.o]
  have hcc:=A2.o;unfold maxLen at hcc;have q1:(0:Int)≤k:=zo;have q2:(k:Int)≤n:=zo;have q3:(k:Int)≤c:=zo;have q4:¬c=k:=zo;have R1:∀w1,Zb w w1→Zc 174 #[.int .i64 W,.slice (some ⟨g,o,none⟩) k c] w1 fun e w'=>e=.returned (.agg (byv (qft (cutW W) (ls.take k))).toArray)∧Zb w1 w':=fun w1 b1=>
   qq0 W (ls.take k) _ k c w1 ((A3.take zo).call b1) zo A2.o zo (fun b hb=>A6.o b (tB7 hb)) (A0.below b1 A0.size)
  have R2:∀w1,Zb w w1→Zc 174 #[.int .i64 W,.slice (some ⟨g,o+k,none⟩) (n - k) (c - k)] w1 fun e w'=>e=.returned (.agg (byv (qft (cutW W) (ls.drop k))).toArray)∧Zb w1 w':=fun w1 b1=>
   qq0 W (ls.drop k) _ (n - k) (c - k) w1 ((A3.drop hk2).call b1) zo (by have:=A2.o;omega) zo (fun b hb=>A6.o b (List.mem_of_mem_drop hb)) (A0.below b1 A0.size)
  by_cases hik:i≤k
  ·
   have hp:subH (cutW W) ls i b=subH (cutW W) (ls.take k) i b++[qft (cutW W) (ls.drop k)]:=by
    have:=qg2 (cutW W) (l:=ls) (m:=i) b (by rw[HL.o];omega) (by rw[HL.o];omega) (by rw[HL.o,hk];exact hik);rwa[HL.o,hk]at this
   have C1:∀w1,Zb w w1→Zc 227 #[.slice (some ⟨g,o,none⟩) k c,.int .i64 (i:Int),.bool b,.pointer (some ⟨pw,0,none⟩),.pointer (some ⟨pf,0,none⟩)] w1 fun e w'=>∃v,e=.returned v∧OwnD w' w1.heap.size v (subH (cutW W) (ls.take k) i b)∧Zb w1 w':=fun w1 b1=>
    AA.o (ls.take k) i g o k c b w1 (by rw[lt1];have:=HM.o;have:=HL.o;omega) hk1 hi0 hik ((A3.take zo).call b1) zo A2.o zo (fun b hb=>A6.o b (tB7 hb)) (qai A5.o b1) (qai A7.o b1) (A0.below b1 A0.size)
   have hpl:=(qsn (cutW W) (qfp W).2 _ (ls.take k) i b (tA4 _)).1;rw[lt1]at hpl;obtain⟨A8,A9,AC,HP⟩:=zh4 hpl C1 R2 hp;have qi:(i:Int)≤k:=zo;clear C1 R1 R2 hp lt1 lt2 hk hcc hpl;go_enter Tryz.func227,Tryz.ntmps227
   go_wp2_with fail
   refine Hhalf.o.mono ?_;rintro e w' ⟨rfl,rfl⟩;go_upto_region 7 with(fail)
   obtain⟨S,HS⟩:=zS fun w'=>Zb w w'
   refine zrs S 15 (zq 0 6 (zq 7 4 [(6,true),(11,true),(12,true),(13,true),(14,false)])) ((HS.o _).mpr (tA5 _ _).drew) ?_;obtain⟨F0,F1⟩:=zh2 (zF HS A5.o) (zF HS A7.o);iterate 10 (refine zr2 ?_)
   obtain⟨Wd,hWd,bd⟩:=zdr w;rw[←hWd];clear hWd;refine zw ?_;go_simp;refine(A9.o Wd bd).mono ?_;rintro e w1 ⟨v1,rfl,o1,b1⟩;have b1':=bd.trans (b1.mono bd.size);obtain⟨A1,n1,c1,rfl,-,-,-,-⟩:=o1.sl;refine⟨(HS.o _).mpr b1',zput ?_⟩;refine zw ?_;go_simp;refine zcb (AC.o w1 b1') fun w2 b2=>?_
   have b2':=b1'.trans (b2.mono b1'.size);have o2:=o1.kept b2;refine⟨(HS.o _).mpr b2',zput ?_⟩;refine zw ?_;refine qsi (.tmp 36) rfl (qft (cutW W) (ls.drop k)) (qon _ (qfp W).2 _).1 rfl ?_;have o3:=o2.alloc (.cells (byv (qft (cutW W) (ls.drop k))).toArray 29);have b3':Zb w (w2.alloc (.cells (byv (qft (cutW W) (ls.drop k))).toArray 29)):=b2'.alloc b2'.size _;refine⟨fun _=>(HS.o _).mpr b3',zput ?_⟩;refine zw ?_;refine qqf (.tmp 31) (.tmp 37) rfl Wd.heap.size _ _ rfl o3 _ 1 1 [qft (cutW W) (ls.drop k)] rfl rfl (fun d hd=>by rw[List.mem_singleton.1 hd];exact(qon _ (qfp W).2 _).1) (qsk w2 _ (qon _ (qfp W).2 _).1) (by have:=A8.o;omega) (by rw[qar];have:=b1.size;have:=b2.size;omega) ?_;intro v4 w4 o4 b4 _;have b4':Zb w w4:=b3'.trans (b4.mono bd.size);obtain⟨A4,n4,c4,rfl,-,-,-,-⟩:=o4.sl;obtain⟨O4,B4⟩:=zh2 (show OwnD w4 w.heap.size _ _ from⟨o4.1,qdf o4.2 bd.size⟩) b4';refine⟨fun _=>(HS.o _).mpr b4',zput ?_⟩;clear o1 o2 o3 o4 b1 b1' b2 b2' b3' b4 b4' bd;iterate 1 (refine zrb ?_)
   refine qbg ?_;go_wp2
   go_ret
   exact⟨_,rfl,by rw[HP.o];exact O4.o,B4.o⟩
  have hp:subH (cutW W) ls i b=subH (cutW W) (ls.drop k) (i - k) false++[qft (cutW W) (ls.take k)]:=by
   have:=qg3 (cutW W) (l:=ls) (m:=i) b (by rw[HL.o];omega) (by rw[HL.o];omega) (by rw[HL.o,hk];exact hik);rwa[HL.o,hk]at this
  have C1:∀w1,Zb w w1→Zc 227 #[.slice (some ⟨g,o+k,none⟩) (n - k) (c - k),.int .i64 ((i - k:Nat):Int),.bool false,.pointer (some ⟨pw,0,none⟩),.pointer (some ⟨pf,0,none⟩)] w1 fun e w'=>∃v,e=.returned v∧OwnD w' w1.heap.size v (subH (cutW W) (ls.drop k) (i - k) false)∧Zb w1 w':=fun w1 b1=>
   AA.o (ls.drop k) (i - k) g (o+k) (n - k) (c - k) false w1 (by rw[lt2];have:=HM.o;have:=HL.o;omega) zo zo zo ((A3.drop hk2).call b1) zo (by have:=A2.o;omega) zo (fun b hb=>A6.o b (List.mem_of_mem_drop hb)) (qai A5.o b1) (qai A7.o b1) (A0.below b1 A0.size)
  have hpl:=(qsn (cutW W) (qfp W).2 _ (ls.drop k) (i - k) false (tA4 _)).1;rw[lt2]at hpl;obtain⟨A8,A9,AD,HP⟩:=zh4 hpl C1 R1 hp;have qi:¬(i:Int)≤k:=zo;have qs:wrap64 ((i:Int) - k)=((i - k:Nat):Int):=by rw[IntWalk.wrap64_in _ zo];omega
  have qt:IntKind.i64.wrap ((i:Int) - k)=((i - k:Nat):Int):=by rw[tBb _ zo];omega
  clear C1 R1 R2 hp lt1 lt2 hk hcc hpl;go_enter Tryz.func227,Tryz.ntmps227
  go_wp2_with fail
  refine Hhalf.o.mono ?_;rintro e w' ⟨rfl,rfl⟩;go_upto_region 8 with(fail)
  obtain⟨S,HS⟩:=zS fun w'=>Zb w w'
  refine zrs S 16 (zq 0 7 (zq 8 4 [(7,true),(12,true),(13,true),(14,true),(15,false)])) ((HS.o _).mpr (tA5 _ _).drew) ?_;obtain⟨F0,F1⟩:=zh2 (zF HS A5.o) (zF HS A7.o);iterate 11 (refine zr2 ?_)
  obtain⟨Wd,hWd,bd⟩:=zdr w;rw[←hWd];clear hWd;refine zw ?_;go_simp;refine(A9.o Wd bd).mono ?_;rintro e w1 ⟨v1,rfl,o1,b1⟩;have b1':=bd.trans (b1.mono bd.size);obtain⟨A1,n1,c1,rfl,-,-,-,-⟩:=o1.sl;refine⟨(HS.o _).mpr b1',zput ?_⟩;refine zw ?_;go_simp;refine zcb (AD.o w1 b1') fun w2 b2=>?_
  have b2':=b1'.trans (b2.mono b1'.size);have o2:=o1.kept b2;refine⟨(HS.o _).mpr b2',zput ?_⟩;refine zw ?_;refine qsi (.tmp 51) rfl (qft (cutW W) (ls.take k)) (qon _ (qfp W).2 _).1 rfl ?_;have o3:=o2.alloc (.cells (byv (qft (cutW W) (ls.take k))).toArray 29);have b3':Zb w (w2.alloc (.cells (byv (qft (cutW W) (ls.take k))).toArray 29)):=b2'.alloc b2'.size _;refine⟨fun _=>(HS.o _).mpr b3',zput ?_⟩;refine zw ?_;refine qqf (.tmp 46) (.tmp 52) rfl Wd.heap.size _ _ rfl o3 _ 1 1 [qft (cutW W) (ls.take k)] rfl rfl (fun d hd=>by rw[List.mem_singleton.1 hd];exact(qon _ (qfp W).2 _).1) (qsk w2 _ (qon _ (qfp W).2 _).1) (by have:=A8.o;omega) (by rw[qar];have:=b1.size;have:=b2.size;omega) ?_;intro v4 w4 o4 b4 _;have b4':Zb w w4:=b3'.trans (b4.mono bd.size);obtain⟨A4,n4,c4,rfl,-,-,-,-⟩:=o4.sl;obtain⟨O4,B4⟩:=zh2 (show OwnD w4 w.heap.size _ _ from⟨o4.1,qdf o4.2 bd.size⟩) b4';refine⟨fun _=>(HS.o _).mpr b4',zput ?_⟩;clear o1 o2 o3 o4 b1 b1' b2 b2' b3' b4 b4' bd;iterate 1 (refine zrb ?_)
  refine qbg ?_;go_wp2
  go_ret
  exact⟨_,rfl,by rw[HP.o];exact O4.o,B4.o⟩
theorem qsq(W:Int)(ls:List (List Nat))(A:Option Addr)(i n c:Nat)(w:World)(hi:i<n)(ht:TextsR w A n ls)(hnc:n≤c)(hcm:c≤maxLen)(hn:n≤1048576)(hok:∀b∈ls,BsOk b)(hT:Tabs w):
 Zc 189 #[.int .i64 W,.slice A n c,.int .u64 (i:Int)] w fun e w'=>∃v,e=.returned (.tuple #[v,.int .i64 0])∧OwnD w' w.heap.size v (qfx (cutW W) ls i)∧Below w.heap.size w w':=by
 obtain⟨W0,hW0⟩:=eqx (w.alloc (.cells #[.int .i64 W] 3));have c0:=zNa hW0;have b0:=zMa hW0;have s0:W0.heap.size=w.heap.size+1:=by rw[hW0];simp
 have l0:=ht.1;obtain⟨A0,A1⟩:=zh2 (ht.call b0) (hT.below b0 hT.size);obtain⟨g,o,bs,A',n',c',rfl,-⟩:=A0.at_ (k:=0) zo;obtain⟨W1,hW1⟩:=eqx ((W0.alloc (.cells #[.nilFunc] 341)).setCell ⟨w.heap.size+1,0,none⟩ (.func (.func 226) #[] #[.pointer (some ⟨w.heap.size+1,0,none⟩),.pointer (some ⟨w.heap.size,0,none⟩)]));have hmf:=zmf;have f0:Blk (W0.alloc (.cells #[.nilFunc] 341)) (w.heap.size+1) 341 #[.nilFunc]:=by
  have h:=Blk.new W0 341 #[.nilFunc];rw[s0]at h;exact h
 have hst:(store ⟨w.heap.size+1,0,none⟩ (.func (.func 226) #[] #[.pointer (some ⟨w.heap.size+1,0,none⟩),.pointer (some ⟨w.heap.size,0,none⟩)])).run Tryz.prog (W0.alloc (.cells #[.nilFunc] 341))=.ok () W1:=by
  rw[run_store Tryz.prog _ _ _ _ (by rfl),f0.cell 0,f0.frozen 0,hW1];rfl
 have cf:Blk W1 (w.heap.size+1) 341 #[.func (.func 226) #[] #[.pointer (some ⟨w.heap.size+1,0,none⟩),.pointer (some ⟨w.heap.size,0,none⟩)]]:=by
  rw[hW1];exact f0.set_ 0 _
 have b1:Below W0.heap.size W0 W1:=by
  rw[hW1];exact(qah (tA5 _ _) _).setCell (by rw[s0];exact tA4 _) _
 rw[hW0]at hst;have C1:=c0.below b1 c0.lt;have R:=qso W w.heap.size (w.heap.size+1) n ls i g o n c W1 (by rw[l0];exact tA4 _) zo hi (A0.call b1) hnc hcm hn hok (by rw[C1.cell];rfl) (by rw[cf.cell];rfl) (A1.below b1 A1.size);have HR:=zh1 R;have cc:=cf.cell 0;rw[show (#[Value.func (.func 226) #[] #[.pointer (some ⟨w.heap.size+1,0,none⟩),.pointer (some ⟨w.heap.size,0,none⟩)]]:Array Value)[0]? =some (.func (.func 226) #[] #[.pointer (some ⟨w.heap.size+1,0,none⟩),.pointer (some ⟨w.heap.size,0,none⟩)]) from rfl]at cc;have B1:=zh1 (b0.trans (b1.mono b0.size));have q1:IntKind.u64.wrap (n:Int)=(n:Int):=tBa _ zo;have q2:IntKind.i64.wrap (i:Int)=(i:Int):=tBb _ zo;have q5:wrap64 (i:Int)=(i:Int):=IntWalk.wrap64_in _ zo;have q3:¬(n:Int)≤i:=zo;clear hW0 c0 b0 ht hT hok l0 s0 f0 cf b1 C1 R hW1 hnc hcm hn;go_enter Tryz.func189,Tryz.ntmps189
 go_wp2_with fail
 refine HR.o.mono ?_;rintro e w4 ⟨v,rfl,o4,b4⟩;obtain⟨A4,n4,c4,rfl,-,-,-,-⟩:=o4.sl;obtain⟨O4,B4⟩:=zh2 (show OwnD w4 w.heap.size _ _ from⟨o4.1,qdf o4.2 B1.size⟩) (B1.trans (b4.mono B1.size));clear b4 cc hst o4;go_wp2
 go_ret2
 exact⟨_,rfl,O4.o,B4.o⟩
theorem qsr(W:Int)(ls:List (List Nat))(A:Option Addr)(i n c:Nat)(w:World)(h0:1≤i)(hi:i≤n)(ht:TextsR w A n ls)(hnc:n≤c)(hcm:c≤maxLen)(hn:n≤1048576)(hok:∀b∈ls,BsOk b)(hT:Tabs w):
 Zc 190 #[.int .i64 W,.slice A n c,.int .u64 (i:Int)] w fun e w'=>∃v,e=.returned (.tuple #[v,.int .i64 0])∧OwnD w' w.heap.size v (subH (cutW W) ls i true)∧Below w.heap.size w w':=by
 obtain⟨W0,hW0⟩:=eqx (w.alloc (.cells #[.int .i64 W] 3));have c0:=zNa hW0;have b0:=zMa hW0;have s0:W0.heap.size=w.heap.size+1:=by rw[hW0];simp
 have l0:=ht.1;obtain⟨A0,A1⟩:=zh2 (ht.call b0) (hT.below b0 hT.size);obtain⟨g,o,bs,A',n',c',rfl,-⟩:=A0.at_ (k:=0) zo;obtain⟨W1,hW1⟩:=eqx ((W0.alloc (.cells #[.nilFunc] 342)).setCell ⟨w.heap.size+1,0,none⟩ (.func (.func 227) #[] #[.pointer (some ⟨w.heap.size,0,none⟩),.pointer (some ⟨w.heap.size+1,0,none⟩)]));have hmf:=zmf;have f0:Blk (W0.alloc (.cells #[.nilFunc] 342)) (w.heap.size+1) 342 #[.nilFunc]:=by
  have h:=Blk.new W0 342 #[.nilFunc];rw[s0]at h;exact h
 have hst:(store ⟨w.heap.size+1,0,none⟩ (.func (.func 227) #[] #[.pointer (some ⟨w.heap.size,0,none⟩),.pointer (some ⟨w.heap.size+1,0,none⟩)])).run Tryz.prog (W0.alloc (.cells #[.nilFunc] 342))=.ok () W1:=by
  rw[run_store Tryz.prog _ _ _ _ (by rfl),f0.cell 0,f0.frozen 0,hW1];rfl
 have cf:Blk W1 (w.heap.size+1) 342 #[.func (.func 227) #[] #[.pointer (some ⟨w.heap.size,0,none⟩),.pointer (some ⟨w.heap.size+1,0,none⟩)]]:=by
  rw[hW1];exact f0.set_ 0 _
 have b1:Below W0.heap.size W0 W1:=by
  rw[hW1];exact(qah (tA5 _ _) _).setCell (by rw[s0];exact tA4 _) _
 rw[hW0]at hst;have C1:=c0.below b1 c0.lt;have R:=qsp W w.heap.size (w.heap.size+1) n ls i g o n c true W1 (by rw[l0];exact tA4 _) zo h0 hi (A0.call b1) hnc hcm hn hok (by rw[C1.cell];rfl) (by rw[cf.cell];rfl) (A1.below b1 A1.size);have HR:=zh1 R;have cc:=cf.cell 0;rw[show (#[Value.func (.func 227) #[] #[.pointer (some ⟨w.heap.size,0,none⟩),.pointer (some ⟨w.heap.size+1,0,none⟩)]]:Array Value)[0]? =some (.func (.func 227) #[] #[.pointer (some ⟨w.heap.size,0,none⟩),.pointer (some ⟨w.heap.size+1,0,none⟩)]) from rfl]at cc;have B1:=zh1 (b0.trans (b1.mono b0.size));have q1:IntKind.u64.wrap (n:Int)=(n:Int):=tBa _ zo;have q2:IntKind.i64.wrap (i:Int)=(i:Int):=tBb _ zo;have q5:wrap64 (i:Int)=(i:Int):=IntWalk.wrap64_in _ zo;have q3:¬(n:Int)<i∧¬(i:Int)=0:=zo;clear hW0 c0 b0 ht hT hok l0 s0 f0 cf b1 C1 R hW1 hnc hcm hn;go_enter Tryz.func190,Tryz.ntmps190
 go_wp2_with fail
 refine HR.o.mono ?_;rintro e w4 ⟨v,rfl,o4,b4⟩;obtain⟨A4,n4,c4,rfl,-,-,-,-⟩:=o4.sl;obtain⟨O4,B4⟩:=zh2 (show OwnD w4 w.heap.size _ _ from⟨o4.1,qdf o4.2 B1.size⟩) (B1.trans (b4.mono B1.size));clear b4 cc hst o4;go_wp2
 go_ret2
 exact⟨_,rfl,O4.o,B4.o⟩
end Go.Proofs.YthomgopipiomhaaGreatDoor

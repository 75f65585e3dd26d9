/-
  Lemmas for ModelNumbers, shortened by program.
-/
import Derived.Test.YthomgopipiomhaaGreatDoorBMN09
import Derived.Shelf.Small.Bits
import Derived.Shelf.Bits.Mul64
import Derived.Shelf.SlicesE.Clone
import Derived.Shelf.Bytes.SlEqualAll
import Derived.OpenShut
namespace Go.Proofs.YthomgopipiomhaaGreatDoor
set_option linter.unusedVariables false
set_option linter.unusedSimpArgs false
set_option maxRecDepth 100000
set_option maxHeartbeats 32000000
section
open Go.Shelf
def Tryz.lays125_ren:Go.Shelf.Ren:=⟨fun|125=>247|128=>260|129=>261|n=>n,fun|46=>240|3=>3|51=>22|53=>32|4=>4|5=>5|9=>9|n=>n,fun|n=>n⟩
theorem Tryz.lays125:Go.Proofs.Lays.n125 Tryz.prog Tryz.lays125_ren:={
 mixed:=by kernel_rfl
 f125:=Tryz.func247.trans (congrArg some (by kernel_rfl))
 f128:=Tryz.func260.trans (congrArg some (by kernel_rfl))
 f129:=Tryz.func261.trans (congrArg some (by kernel_rfl))
 t3:=Tryz.underlying3
 a3:=Tryz.isAgg3
 z3:=Tryz.sizeOf3
 v3:=Tryz.zeroValue3
 t4:=Tryz.underlying4
 a4:=Tryz.isAgg4
 z4:=Tryz.sizeOf4
 v4:=Tryz.zeroValue4
 t5:=Tryz.underlying5
 a5:=Tryz.isAgg5
 z5:=Tryz.sizeOf5
 v5:=Tryz.zeroValue5
 t9:=Tryz.underlying9
 a9:=Tryz.isAgg9
 z9:=Tryz.sizeOf9
 v9:=Tryz.zeroValue9
 t46:=Tryz.underlying240
 a46:=Tryz.isAgg240
 z46:=Tryz.sizeOf240
 v46:=Tryz.zeroValue240
 t51:=Tryz.underlying22
 a51:=Tryz.isAgg22
 z51:=Tryz.sizeOf22
 v51:=Tryz.zeroValue22
 t53:=Tryz.underlying32
 a53:=Tryz.isAgg32
 z53:=Tryz.sizeOf32
 v53:=Tryz.zeroValue32}
theorem Tryz.bits_Len (x:Int)(w:World)(h0:0≤x)(h1:x≤18446744073709551615):
 Calls Tryz.prog 247 #[.int .u64 x] w fun e w'=>e=.returned (.int .i64 (Lib.bitLen x.toNat))∧w'=w:=Any.bits_Len Tryz.lays125 x w h0 h1
open Go.RowKit Go.Lib in
open Go.RowKit Go.Lib in
open Go.RowKit Go.Lib in
def Tryz.lays115_ren:Go.Shelf.Ren:=⟨fun|115=>81|n=>n,fun|37=>23|4=>4|9=>9|5=>5|n=>n,fun|n=>n⟩
theorem Tryz.lays115:Go.Proofs.Lays.n115 Tryz.prog Tryz.lays115_ren:={
 mixed:=by kernel_rfl
 f115:=Tryz.func81.trans (congrArg some (by kernel_rfl))
 t4:=Tryz.underlying4
 a4:=Tryz.isAgg4
 z4:=Tryz.sizeOf4
 v4:=Tryz.zeroValue4
 t9:=Tryz.underlying9
 a9:=Tryz.isAgg9
 z9:=Tryz.sizeOf9
 v9:=Tryz.zeroValue9
 t37:=Tryz.underlying23
 a37:=Tryz.isAgg23
 z37:=Tryz.sizeOf23
 v37:=Tryz.zeroValue23}
theorem Tryz.bytes_Equal (v1 v2:Value)(xs ys:List Int)(w:World)(h1:(convert 23 9 v1).run Tryz.prog w=.ok (.string (strOfNums xs)) w)(h2:(convert 23 9 v2).run Tryz.prog w=.ok (.string (strOfNums ys)) w):
 Calls Tryz.prog 81 #[v1,v2] w fun e w'=>e=.returned (.bool (Lib.bytesOf xs==Lib.bytesOf ys))∧w'=w:=Any.bytes_Equal Tryz.lays115 v1 v2 xs ys w h1 h2
end
section
open Go.RowKit
theorem qob:∀(k x:Nat),x≤k→1≤x→x<2^64→Lib.bitLen x=Nat.log2 x+1
 |0,x,h,h1,_=>by omega
 |k+1,x,h,h1,h2=>by
  rw[Lib.bitLen_half x (by omega) h2];by_cases e:x=1
  · subst e;decide
  rw[qob k (x / 2) (by omega) (by omega) (by omega),Nat.log2_def x,if_pos (by omega)];omega
def qoc (a b d:List Nat)(k:Nat):List Nat:=if k=0 then [] else if k=1 then a else if k=2 then a++b else a++b++d
theorem qod (n:Nat)(w:World)(h2:2≤n)(hn:n≤4294967296):
 Calls Tryz.prog 214 #[.int .i64 (n:Int)] w fun e w'=>e=.returned (.int .i64 (half n:Nat))∧w=w':=by
 have hb:=qob n (n - 1) (by omega) (by omega) (by omega);have hl:Nat.log2 (n - 1)<32:=by rw[Nat.log2_lt (by omega)];omega
 obtain⟨L,hL⟩:=xeq (Nat.log2 (n - 1));have hh:half n=2^L:=by unfold half;rw[hL]
 have hpw:2^L<4294967296:=by have:=qdw h2;rw[hh]at this;omega
 rw[hL]at hb hl;have hc:IntKind.u64.wrap ((n:Int) - 1)=((n - 1:Nat):Int):=by
  rw[show (n:Int) - 1=((n - 1:Nat):Int) by omega];exact IntWalk.u64_in _ (by omega)
 have q1:IntKind.i64.wrap ((n:Int) - 1)=(n:Int) - 1:=IntWalk.i64_in _ (by omega);have B:=fun w=>Tryz.bits_Len ((n - 1:Nat):Int) w (by omega) (by omega)
 rw[Int.toNat_natCast,hb]at B;obtain⟨HB,HH,HP,HL⟩:=zh4 B hh hpw hl;clear B hb hL hpw h2 hh hl;go_enter Tryz.func214,Tryz.ntmps214
 go_wp2_with fail
 refine(HB.out w).mono ?_;rintro e w' ⟨rfl,rfl⟩;have q2:IntKind.i64.wrap (L:Int)=(L:Int):=IntWalk.i64_in _ (by have:=HL.out;omega);go_wp2_with fail
 have q3:wrap64 ((2:Int)^min L 64)=((2^L:Nat):Int):=by
  have e:min L 64=L:=by have:=HL.out;omega
  have e2:((2:Int)^L)=((2^L:Nat):Int):=by simp
  have hp:((2^L:Nat):Int)<4294967296:=by have:=HP.out;omega
  rw[e,e2];have h0:(0:Int)≤((2^L:Nat):Int):=Int.natCast_nonneg _;generalize ((2^L:Nat):Int)=x at h0 hp ⊢;unfold wrap64;omega
 go_ret
 exact⟨by rw[HH.out,←q3];rfl,rfl⟩
theorem qoe (g n1 c1 n2 c2 n3 c3:Nat)(A1 A2 A3:Option Addr)(b1 b2 b3:List Nat)(w:World)(h0:w.cell? ⟨g,0,none⟩=some (.slice A1 n1 c1))(h1:w.cell? ⟨g,1,none⟩=some (.slice A2 n2 c2))(h2:w.cell? ⟨g,2,none⟩=some (.slice A3 n3 c3))
 (hr1:Reads w w.heap.size 1 A1 n1 (byv b1))(hr2:Reads w w.heap.size 1 A2 n2 (byv b2))(hr3:Reads w w.heap.size 1 A3 n3 (byv b3))(hn:n1+n2+n3≤8589934592):
 Calls Tryz.prog 142 #[.slice (some ⟨g,0,none⟩) 3 3] w fun e w'=>∃v,e=.returned v∧OwnB w' w.heap.size v (b1++b2++b3)∧Below w.heap.size w w':=by
 have l1:=qb5 hr1;have l2:=qb5 hr2;have l3:=qb5 hr3;obtain⟨L1,L2,L3,R1,R2,R3,H0,H1⟩:=zh8 l1 l2 l3 hr1 hr2 hr3 h0 h1;have H2:=zh1 h2;clear l1 l2 l3 hr1 hr2 hr3 h0 h1 h2;go_enter Tryz.func142,Tryz.ntmps142
 go_wp2_with fail
 go_loopw [3,8] (fun v i wr=>∃k:Nat,k≤3∧i=.int .i64 k∧OwnB wr w.heap.size v (qoc b1 b2 b3 k)∧Below w.heap.size w wr) (fun v i _=>3 - (intOf i).toNat)
 case atStart=>exact⟨0,by omega,rfl,OwnB.nil _ _,tA5 _ _⟩
 case round=>
  obtain⟨k,hk,rfl,hown,hb⟩:=hrel;have hk3:k=0∨k=1∨k=2∨k=3:=by omega
  rcases hk3 with rfl|rfl|rfl|rfl
  ·
   have hc:=qai H0.out hb;have hr:=R1.out.call hb;have hl:(qoc b1 b2 b3 0).length+n1≤140737488355328:=by simp[qoc];omega
   have hsz:=hb.size;go_wp2_with (at_builtin;refine qcx rfl _ _ rfl w.heap.size _ _ rfl hown A1 n1 c1 b1 rfl hr hl hsz ?_)
   intro v' w' ho' hb' _;go_wp2_with fail
   go_roundw
   case rel=>exact⟨1,by omega,rfl,by simpa [qoc] using ho',hb.trans hb'⟩
   case measure=>simp[intOf]
  ·
   have hc:=qai H1.out hb;have hr:=R2.out.call hb;have hl:(qoc b1 b2 b3 1).length+n2≤140737488355328:=by simp[qoc];have:=L1.out;omega
   have hsz:=hb.size;go_wp2_with (at_builtin;refine qcx rfl _ _ rfl w.heap.size _ _ rfl hown A2 n2 c2 b2 rfl hr hl hsz ?_)
   intro v' w' ho' hb' _;go_wp2_with fail
   go_roundw
   case rel=>exact⟨2,by omega,rfl,by simpa [qoc] using ho',hb.trans hb'⟩
   case measure=>simp[intOf]
  ·
   have hc:=qai H2.out hb;have hr:=R3.out.call hb;have hl:(qoc b1 b2 b3 2).length+n3≤140737488355328:=by simp[qoc];have:=L1.out;have:=L2.out;omega
   have hsz:=hb.size;go_wp2_with (at_builtin;refine qcx rfl _ _ rfl w.heap.size _ _ rfl hown A3 n3 c3 b3 rfl hr hl hsz ?_)
   intro v' w' ho' hb' _;go_wp2_with fail
   go_roundw
   case rel=>exact⟨3,by omega,rfl,by simpa [qoc] using ho',hb.trans hb'⟩
   case measure=>simp[intOf]
  go_wp2_with fail
  go_ret
  exact⟨_,rfl,by simpa [qoc] using hown,hb⟩
theorem qof {w:World}{g:Nat}{t:TypeId}{l:List Nat}(h:Blk w g t (byv l).toArray){k:Nat}(hk:k≤l.length):Reads w w.heap.size 1 (some ⟨g,0,none⟩) k (byv (l.take k)):=by
 refine⟨by rw[qat,List.length_take];omega,fun _=>⟨_,rfl,h.lt,fun j u hu=>?_⟩⟩;rw[Addr.add_mid,Nat.zero_add,h.cell,tA3];unfold byv at hu ⊢;rw[List.map_take,List.getElem?_take]at hu;split at hu
 · exact hu
 cases hu
theorem qog (W:Int)(a b:List Nat)(w:World)(la:a.length=32)(lb:b.length=32)(ha:∀x∈a,x<256)(hb:∀x∈b,x<256)(ht:Tabs w):
 Calls Tryz.prog 215 #[.int .i64 W,.agg (byv a).toArray,.agg (byv b).toArray] w fun e w'=>e=.returned (.agg (byv (qdv (cutW W) a b)).toArray)∧Below w.heap.size w w':=by
 obtain⟨W0,hW0⟩:=eqx (((w.alloc (.cells (byv a).toArray 29)).alloc (.cells (byv b).toArray 29)).alloc (.cells zLD 29));have k0:Blk W0 w.heap.size 29 (byv a).toArray:=by rw[hW0];exact((Blk.new w _ _).alloc _).alloc _
 have j0:Blk W0 (w.heap.size+1) 29 (byv b).toArray:=by
  have h:=(Blk.new (w.alloc (.cells (byv a).toArray 29)) 29 (byv b).toArray).alloc (.cells zLD 29);rw[qar]at h;rw[hW0];exact h
 have z0:Blk W0 (w.heap.size+1+1) 29 (byv (List.replicate 32 0)).toArray:=by
  have h:=Blk.new ((w.alloc (.cells (byv a).toArray 29)).alloc (.cells (byv b).toArray 29)) 29 zLD;rw[qar,qar]at h;rw[hW0];exact h
 have b0:Below w.heap.size w W0:=by rw[hW0];exact qah (qah (qah (tA5 _ _) _) _) _
 have s0:w.heap.size+1+1<W0.heap.size:=z0.lt;obtain⟨V1,hV1⟩:=xeq (byv a);obtain⟨V2,hV2⟩:=xeq (byv b);have lc:=qdt W;obtain⟨k,hk⟩:=xeq (cutW W);rw[hk]at lc ⊢;obtain⟨A0,K0,J0,Z0,B0,LA,LB,HA⟩:=zh8 hW0 k0 j0 z0 b0 la lb ha;obtain⟨HB,HT,A6,A7,S0,HK⟩:=zh6 hb (ht.below b0 ht.size) hV1 hV2 s0 hk;have C:=qo5 W W0;rw[hk]at C;have HC:=zh1 C;rw[hV1,hV2]at hW0;have A0:=zh1 hW0;rw[hV1,hV2];clear hW0 k0 j0 z0 b0 la lb ha hb ht hV1 hV2 s0 hk C;go_enter Tryz.func215,Tryz.ntmps215
 go_wp2_with fail
 rw[←A0.out];refine HC.out.mono ?_;rintro e w' ⟨rfl,rfl⟩;have q3:(0:Int)≤k:=by omega
 have q4:(k:Int)≤32:=by omega
 go_upto_region 2 with(fail)
 obtain⟨S,HS⟩:∃S:World→Prop,Hid (∀w',S w'):=⟨fun _=>True,fun _=>trivial⟩;refine zrs S 8 [(0,false),(2,false),(3,false),(4,false),(5,false),(1,true),(6,true),(7,true),(8,true),(9,true)] (HS.out _) ?_;iterate 5 (refine zrd rfl rfl (fun w1 hS=>by go_simp;(try go_bits);try rfl) ?_;simp only[Act.put,tA0,tA1,tA2])
 obtain⟨Wd,hWd⟩:=eqx W0.drew;have bd:Below W0.heap.size W0 Wd:=by rw[hWd];exact(tA5 _ _).drew
 have sd:Wd.heap.size=W0.heap.size:=by rw[hWd];rfl
 rw[←hWd];clear hWd;refine qbj rfl rfl ?_;go_simp;obtain⟨W1,hW1⟩:=eqx (Wd.alloc (.cells #[.int .u8 1] 5));rw[←hW1];have b01:Below W0.heap.size W0 W1:=by rw[hW1];exact bd.alloc bd.size _
 have r1:Reads W1 W1.heap.size 1 (some ⟨W0.heap.size,0,none⟩) 1 (byv [1]):=by rw[hW1,←sd];exact qo9 Wd 1
 obtain⟨R1,A2,BD⟩:=zh3 r1 b01 bd;clear r1 b01 bd sd hW1;refine⟨HS.out _,?_⟩;try simp only[Act.put,tA0,tA1,tA2]
 refine qbj rfl rfl ?_;go_simp;obtain⟨W2,hW2⟩:=eqx (W1.alloc (.cells #[.slice (some ⟨W0.heap.size,0,none⟩) 1 1,.slice (some ⟨w.heap.size,0,none⟩) k 32,.slice (some ⟨w.heap.size+1,0,none⟩) k 32] 23));rw[←hW2];refine⟨HS.out _,?_⟩;try simp only[Act.put,tA0,tA1,tA2]
 have b01:=A2.out;have r1:=R1.out;have b12:Below W1.heap.size W1 W2:=by rw[hW2];exact qah (tA5 _ _) _
 have b2:Below w.heap.size w W2:=(B0.out.trans (b01.mono B0.out.size)).trans (b12.mono (Nat.le_trans B0.out.size b01.size));have b02:Below W0.heap.size W0 W2:=b01.trans (b12.mono b01.size);have z2:=Z0.out.below b02 Z0.out.lt;have k2:=K0.out.below b02 K0.out.lt;have j2:=J0.out.below b02 J0.out.lt;have x0:W2.cell? ⟨W1.heap.size,0,none⟩=some (.slice (some ⟨W0.heap.size,0,none⟩) 1 1):=by rw[hW2];exact(qak W1 _ _ 0).trans rfl
 have x1:W2.cell? ⟨W1.heap.size,1,none⟩=some (.slice (some ⟨w.heap.size,0,none⟩) k 32):=by rw[hW2];exact(qak W1 _ _ 1).trans rfl
 have x2:W2.cell? ⟨W1.heap.size,2,none⟩=some (.slice (some ⟨w.heap.size+1,0,none⟩) k 32):=by rw[hW2];exact(qak W1 _ _ 2).trans rfl
 have J:=qoe W1.heap.size 1 1 k 32 k 32 _ _ _ [1] (a.take k) (b.take k) W2 x0 x1 x2 (r1.call b12) (qof k2 (by rw[LA.out];omega)) (qof j2 (by rw[LB.out];omega)) (by omega);obtain⟨HJ,Z2,B2,T2⟩:=zh4 J z2 b2 (HT.out.below b02 HT.out.size);clear J z2 b2 k2 j2 r1 x0 x1 x2 b01 b12 b02 hW2;refine qbj rfl rfl ?_;go_simp;refine HJ.out.mono ?_;rintro e w3 ⟨v3,rfl,o3,b3⟩;obtain⟨A3,n3,c3,rfl,nc3,-,r3⟩:=o3.sl;have l3:=qb5 r3;have l3':n3≤1152921504606846975:=by
  rw[tA6,tA6,List.length_singleton,List.length_take,List.length_take,LA.out,LB.out]at l3;omega
 refine⟨HS.out _,?_⟩;try simp only[Act.put,tA0,tA1,tA2]
 have M:=qo8 W (1::(a.take k++b.take k)) A3 n3 c3 w3 (by
  intro x hx;rcases List.mem_cons.1 hx with rfl|h
  · decide
  rcases List.mem_append.1 h with h|h
  · exact HA.out x (List.mem_of_mem_take h)
  exact HB.out x (List.mem_of_mem_take h)) (by simpa using r3) nc3 l3' (T2.out.below b3 T2.out.size)
 rw[HK.out]at M;obtain⟨HM,Z3,B3⟩:=zh3 M (Z2.out.below b3 Z2.out.lt) (B2.out.trans (b3.mono B2.out.size));clear M o3 b3 r3 l3 l3' nc3;refine qbj rfl rfl ?_;go_simp;refine HM.out.mono ?_;rintro e w4 ⟨rfl,b4⟩;obtain⟨Z4,B4⟩:=zh2 (Z3.out.below b4 Z3.out.lt) (B3.out.trans (b4.mono B3.out.size));clear b4;try simp only[Act.put,tA0,tA1,tA2]
 obtain⟨X,hX⟩:=xeq (byv (sumH k (1::(a.take k++b.take k))));have lX:X.length=32:=by rw[←hX,qat];exact qe9 (qj5 _) lc.2
 have oX:∀u∈X,u.oneCell'=true:=by rw[←hX];exact qau _
 rw[hX];have HX:=zh1 hX;have IX:(Tryz.prog.info? 29).map (·.size)=some X.length:=by rw[lX];exact Tryz.dig_info
 refine qbj rfl rfl ?_;refine wp_store_row 29 (.tmp 6) (.tmp 18) rfl (w.heap.size+1+1) X.toArray rfl rfl 29 _ Z4.out (by simpa using IX) (by simp[lX,qat]) (by simpa using oX) ?_;refine⟨fun h=>absurd h (by decide),?_⟩;try simp only[Act.put,tA0,tA1,tA2]
 refine qbg ?_;have z9:=Z4.out.setRow X.toArray;have A1:=qap z9 0 X (fun j u h=>by simpa using h);obtain⟨A4,A5⟩:=zh2 A1 IX;clear hX lX oX IX z9 A1;go_wp2_with fail
 exact zrt A4.out Tryz.underlying29 A5.out ⟨by rw[←HX.out];rfl,below_setRow B4.out (by omega) _⟩
end
section
open Go.RowKit
def TextsR (w:World)(A:Option Addr)(n:Nat)(ls:List (List Nat)):Prop:=
 ls.length=n∧∃vs:List Value,Reads w w.heap.size 1 A n vs∧∀(i:Nat) (bs:List Nat),ls[i]? =some bs→∃A' n' c',vs[i]? =some (.slice A' n' c')∧n'≤c'∧c'≤maxLen∧Reads w w.heap.size 1 A' n' (byv bs)
section
variable {w w' : World} {A : Option Addr} {n k g o : Nat} {ls : List (List Nat)}
theorem TextsR.call (h:TextsR w A n ls)(hb:Below w.heap.size w w'):TextsR w' A n ls:=by
 obtain⟨h1,vs,h2,h3⟩:=h;refine⟨h1,vs,h2.call hb,fun i bs hi=>?_⟩;obtain⟨A',n',c',a,b,c,d⟩:=h3 i bs hi;exact⟨A',n',c',a,b,c,d.call hb⟩
theorem Reads.take {size:Nat}{xs:List Value}{B:Nat}(h:Reads w B size A n xs)(hk:k≤n):Reads w B size A k (xs.take (k*size)):=by
 refine⟨?_,fun h0=>?_⟩
 · rw[List.length_take,h.1]
   exact Nat.min_eq_left (Nat.mul_le_mul_right _ hk)
 obtain⟨ad,e,hb,hc⟩:=h.2 (by omega);refine⟨ad,e,hb,fun j u hu=>hc j u ?_⟩;rw[List.getElem?_take]at hu;split at hu
 · exact hu
 cases hu
theorem TextsR.take (h:TextsR w A n ls)(hk:k≤n):TextsR w A k (ls.take k):=by
 obtain⟨h1,vs,h2,h3⟩:=h;refine⟨by rw[List.length_take];omega,vs.take k,by simpa using h2.take hk,fun i bs hi=>?_⟩;rw[List.getElem?_take]at hi;split at hi
 · rename_i hlt
   obtain⟨A',n',c',a,b,c,d⟩:=h3 i bs hi;exact⟨A',n',c',by rw[List.getElem?_take,if_pos hlt];exact a,b,c,d⟩
 cases hi
theorem TextsR.drop (h:TextsR w (some ⟨g,o,none⟩) n ls)(hk:k<n):TextsR w (some ⟨g,o+k,none⟩) (n - k) (ls.drop k):=by
 obtain⟨h1,vs,h2,h3⟩:=h;refine⟨by rw[List.length_drop];omega,vs.drop k,⟨?_,fun _=>?_⟩,fun i bs hi=>?_⟩
 · rw[List.length_drop,h2.1];omega
 ·
  obtain⟨b,o',e,hb,hc⟩:=h2.mid (by omega) (by omega);injection e with e;injection e with e1 e2 _;subst e1 e2;refine⟨_,rfl,hb,fun j u hu=>?_⟩;rw[Addr.add_mid,Nat.add_assoc];exact hc _ _ (by rw[List.getElem?_drop]at hu;exact hu)
 rw[List.getElem?_drop]at hi;obtain⟨A',n',c',a,b,c,d⟩:=h3 _ bs hi;exact⟨A',n',c',by rw[List.getElem?_drop];exact a,b,c,d⟩
theorem TextsR.at_ (h:TextsR w A n ls)(hk:k<n):∃g o bs A' n' c',A=some ⟨g,o,none⟩∧g<w.heap.size∧ls[k]? =some bs∧w.cell? ⟨g,o+k,none⟩=some (.slice A' n' c')∧n'≤c'∧c'≤maxLen∧Reads w w.heap.size 1 A' n' (byv bs):=by
 obtain⟨h1,vs,h2,h3⟩:=h;obtain⟨b,o',e,hb,hc⟩:=h2.mid (by omega) (by omega);have hi:ls[k]? =some ls[k]:=tA7 (by omega);obtain⟨A',n',c',x,y,z,u⟩:=h3 k _ hi;exact⟨b,o',_,A',n',c',e,hb,hi,hc _ _ x,y,z,u⟩
end
def BsOk (b:List Nat):Prop:=b.length≤4294967296∧∀x∈b,x<256
theorem qoh (W:Int)(pw pf:Nat):∀(m:Nat) (ls:List (List Nat)) (g o n c:Nat) (w:World),ls.length≤m→1≤n→TextsR w (some ⟨g,o,none⟩) n ls→n≤c→c≤maxLen→n≤1048576→(∀b∈ls,BsOk b)→
 w.cell? ⟨pw,0,none⟩=some (.int .i64 W)→w.cell? ⟨pf,0,none⟩=some (.func (.func 212) #[] #[.pointer (some ⟨pw,0,none⟩),.pointer (some ⟨pf,0,none⟩)])→Tabs w→
 Calls Tryz.prog 212 #[.slice (some ⟨g,o,none⟩) n c,.pointer (some ⟨pw,0,none⟩),.pointer (some ⟨pf,0,none⟩)] w fun e w'=>e=.returned (.agg (byv (qdx (cutW W) ls)).toArray)∧Below w.heap.size w w':=by
 intro m;induction m with
 |zero=>
  intro ls g o n c w hm h1 ht;have:=ht.1;omega
 |succ m ih=>
  intro ls g o n c w hm h1 ht hnc hcm hn hok hpw hpf hT;have hlen:=ht.1;have AC:=zh1 ih;clear ih;obtain⟨W0,hW0⟩:=eqx (w.alloc (.cells zLD 29));have z0:Blk W0 w.heap.size 29 (byv (List.replicate 32 0)).toArray:=by rw[hW0];exact Blk.new w _ _
  have b0:Below w.heap.size w W0:=by rw[hW0];exact qah (tA5 _ _) _
  have ht0:=ht.call b0;have pw0:=qai hpw b0;have pf0:=qai hpf b0;obtain⟨AD,Z0,B0,A4,A0,A3,A5,A6⟩:=zh8 hW0 z0 b0 ht0 (hT.below b0 hT.size) pw0 pf0 hok;obtain⟨A7,HL,HM⟩:=zh3 hcm hlen hm;clear hW0 z0 b0 ht0 pw0 pf0 hok hcm hlen hm ht hpw hpf hT;by_cases hn1:n=1
  ·
   subst hn1;obtain⟨g',o',bs,A',n',c',e,hg,hi,hc,h2,h3,h4⟩:=A4.out.at_ (k:=0) (by omega);injection e with e;injection e with e1 e2 _;subst e1 e2;have hls:ls=[bs]:=by
    have hl:=HL.out;match ls,hl,hi with
    |[x],_,hi=>simpa using hi
   have hb:BsOk bs:=A6.out bs (by rw[hls];simp);have hln:=qb5 h4;have L:=qoa W bs A' n' c';have h4':=h4;obtain⟨AH,H4,HC,AE,AI,AJ,H2⟩:=zh7 L h4 hc hb hls hln h2;clear L h4 h4' hc hb hls hln hi h3 h2;go_enter Tryz.func212,Tryz.ntmps212
   go_upto_region 2 with(fail)
   rw[←AD.out];obtain⟨S,HS⟩:∃S:World→Prop,Hid (∀w',S w'=(w'.cell? ⟨pw,0,none⟩=some (.int .i64 W)∧w'.cell? ⟨g,o,none⟩=some (.slice A' n' c'))):=⟨_,fun _=>rfl⟩;refine zrs S 4 [(0,false),(1,false),(2,false),(3,false),(4,true),(5,true)] ((HS.out _).mpr ⟨A3.out,by simpa using HC.out⟩) ?_;repeat(refine zrd rfl rfl (fun w1 hS=>by rw[HS.out]at hS;go_split_ands;go_simp;(try go_bits);try rfl) ?_;simp only[Act.put,tA0,tA1,tA2])
   have M:=AH.out W0.drew AE.out.2 (H4.out.call (tA5 _ _).drew) H2.out (by rw[←AJ.out];exact AE.out.1) (A0.out.below ((tA5 _ _).drew) A0.out.size);rw[show qdu (cutW W) bs=qdx (cutW W) ls by rw[AI.out,qdz]]at M;have HM':=zh1 M;clear M;refine qbj rfl rfl ?_;go_simp;refine HM'.out.mono ?_;rintro e w4 ⟨rfl,b4⟩;obtain⟨Z4,B4⟩:=zh2 (Z0.out.drew.below b4 Z0.out.lt) (B0.out.drew.trans (b4.mono B0.out.size));clear b4;obtain⟨X9,hX9⟩:=xeq (byv (qdx (cutW W) ls));have lX9:X9.length=32:=by rw[←hX9,qat];exact(qna _ (qdt W).2 ls).1
   have oX9:∀u∈X9,u.oneCell'=true:=by rw[←hX9];exact qau _
   rw[hX9];have A8:=zh1 hX9;have A1:(Tryz.prog.info? 29).map (·.size)=some X9.length:=by rw[lX9];exact Tryz.dig_info
   refine qbj rfl rfl ?_;refine wp_store_row 29 (.tmp 4) (.tmp 13) rfl (w.heap.size) X9.toArray rfl rfl 29 _ Z4.out (by simpa using A1) (by simp[lX9,qat]) (by simpa using oX9) ?_;refine⟨fun h=>absurd h (by decide),?_⟩;try simp only[Act.put,tA0,tA1,tA2]
   refine qbg ?_;have z9:=Z4.out.setRow X9.toArray;have A2:=qap z9 0 X9 (fun j u h=>by simpa using h);obtain⟨A9,AA⟩:=zh2 A2 A1;clear hX9 lX9 oX9 A1 z9 A2;go_wp2_with fail
   exact zrt A9.out Tryz.underlying29 AA.out ⟨(by rw[←A8.out];try rfl),below_setRow B4.out (by first|omega|exact tA4 _) _⟩
  have qn:¬(n:Int)=1:=by omega
  obtain⟨hk1,hk2,hk3⟩:=qdw (n:=n) (by omega);have Hhalf:=zh1 (qod n W0 (by omega) (by omega));obtain⟨k,hk⟩:=xeq (half n);rw[hk]at hk1 hk2 hk3 Hhalf;have lt1:(ls.take k).length=k:=by rw[List.length_take,HL.out];omega
  have lt2:(ls.drop k).length=n - k:=by rw[List.length_drop,HL.out]
  have hroot:qdx (cutW W) ls=qdv (cutW W) (qdx (cutW W) (ls.take k)) (qdx (cutW W) (ls.drop k)):=by
   rw[qe1 _ (by rw[HL.out];omega),HL.out,hk]
  have C1:∀w1,Below W0.heap.size W0 w1→Calls Tryz.prog 212 #[.slice (some ⟨g,o,none⟩) k c,.pointer (some ⟨pw,0,none⟩),.pointer (some ⟨pf,0,none⟩)] w1 fun e w'=>e=.returned (.agg (byv (qdx (cutW W) (ls.take k))).toArray)∧Below w1.heap.size w1 w':=fun w1 b1=>
   AC.out (ls.take k) g o k c w1 (by rw[lt1];have:=HM.out;have:=HL.out;omega) hk1 ((A4.out.take (by omega)).call b1) (by omega) A7.out (by omega) (fun b hb=>A6.out b (List.mem_of_mem_take hb)) (qai A3.out b1) (qai A5.out b1) (A0.out.below b1 A0.out.size)
  have C2:∀w1,Below W0.heap.size W0 w1→Calls Tryz.prog 212 #[.slice (some ⟨g,o+k,none⟩) (n - k) (c - k),.pointer (some ⟨pw,0,none⟩),.pointer (some ⟨pf,0,none⟩)] w1 fun e w'=>e=.returned (.agg (byv (qdx (cutW W) (ls.drop k))).toArray)∧Below w1.heap.size w1 w':=fun w1 b1=>
   AC.out (ls.drop k) g (o+k) (n - k) (c - k) w1 (by rw[lt2];have:=HM.out;have:=HL.out;omega) (by omega) ((A4.out.drop hk2).call b1) (by omega) (by have:=A7.out;omega) (by omega) (fun b hb=>A6.out b (List.mem_of_mem_drop hb)) (qai A3.out b1) (qai A5.out b1) (A0.out.below b1 A0.out.size)
  have C3:=fun w1 h=>qog W (qdx (cutW W) (ls.take k)) (qdx (cutW W) (ls.drop k)) w1 (qna _ (qdt W).2 _).1 (qna _ (qdt W).2 _).1 (qna _ (qdt W).2 _).2 (qna _ (qdt W).2 _).2 h
  rw[←hroot]at C3;obtain⟨AF,AG,AB,AK⟩:=zh4 C1 C2 C3 hroot;have lX:(qdx (cutW W) ls).length=32:=(qna _ (qdt W).2 ls).1;have LX:=zh1 lX;obtain⟨R1,hR1⟩:=xeq (byv (qdx (cutW W) (ls.take k)));obtain⟨R2,hR2⟩:=xeq (byv (qdx (cutW W) (ls.drop k)));rw[hR1]at AF AB;rw[hR2]at AG AB;have hcc:=A7.out;unfold maxLen at hcc;have q1:(0:Int)≤k:=by omega
  have q2:(k:Int)≤n:=by omega
  have q3:(k:Int)≤c:=by omega
  have q4:¬c=k:=by omega
  clear C1 C2 C3 hroot lt1 lt2 hR1 hR2 hk lX hcc;go_enter Tryz.func212,Tryz.ntmps212
  go_wp2_with fail
  rw[←AD.out];refine Hhalf.out.mono ?_;rintro e w' ⟨rfl,rfl⟩;go_upto_region 4 with(fail)
  obtain⟨S,HS⟩:∃S:World→Prop,Hid (∀w',S w'=Below W0.heap.size W0 w'):=⟨_,fun _=>rfl⟩;refine zrs S 11 [(0,false),(1,false),(2,false),(3,false),(4,false),(6,false),(7,false),(8,false),(9,false),(5,true),(10,true),(11,true),(12,true)] ((HS.out _).mpr (tA5 _ _).drew) ?_;obtain⟨F0,F1⟩:=zh2 (fun(w':World)(h:S w')=>qai A3.out ((HS.out w').mp h)) (fun(w':World)(h:S w')=>qai A5.out ((HS.out w').mp h));iterate 9 (refine zrd rfl rfl (fun w1 hS=>by have g0:=F0.out w1 hS;have g1:=F1.out w1 hS;clear hS;go_simp;try rfl) ?_;simp only[Act.put,tA0,tA1,tA2])
  obtain⟨Wd,hWd⟩:=eqx W0.drew;have bd:Below W0.heap.size W0 Wd:=by rw[hWd];exact(tA5 _ _).drew
  rw[←hWd];clear hWd;refine qbj rfl rfl ?_;go_simp;refine(AF.out Wd bd).mono ?_;rintro e w1 ⟨rfl,b1⟩;have b1':=bd.trans (b1.mono bd.size);refine⟨(HS.out _).mpr b1',?_⟩;try simp only[Act.put,tA0,tA1,tA2]
  refine qbj rfl rfl ?_;go_simp;refine(AG.out w1 b1').mono ?_;rintro e w2 ⟨rfl,b2⟩;have b2':=b1'.trans (b2.mono b1'.size);refine⟨(HS.out _).mpr b2',?_⟩;try simp only[Act.put,tA0,tA1,tA2]
  refine qbj rfl rfl ?_;go_simp;refine(AB.out w2 (A0.out.below b2' A0.out.size)).mono ?_;rintro e w4 ⟨rfl,b4⟩;have b4':=b2'.trans (b4.mono b2'.size);obtain⟨Z4,B4⟩:=zh2 (Z0.out.below b4' Z0.out.lt) (B0.out.trans (b4'.mono B0.out.size));clear b4 b4' b1 b1' b2 b2' bd;obtain⟨X9,hX9⟩:=xeq (byv (qdx (cutW W) ls));have lX9:X9.length=32:=by rw[←hX9,qat];exact LX.out
  have oX9:∀u∈X9,u.oneCell'=true:=by rw[←hX9];exact qau _
  rw[hX9];have A8:=zh1 hX9;have A1:(Tryz.prog.info? 29).map (·.size)=some X9.length:=by rw[lX9];exact Tryz.dig_info
  refine qbj rfl rfl ?_;refine wp_store_row 29 (.tmp 4) (.tmp 28) rfl (w.heap.size) X9.toArray rfl rfl 29 _ Z4.out (by simpa using A1) (by simp[lX9,qat]) (by simpa using oX9) ?_;refine⟨fun h=>absurd h (by decide),?_⟩;try simp only[Act.put,tA0,tA1,tA2]
  refine qbg ?_;have z9:=Z4.out.setRow X9.toArray;have A2:=qap z9 0 X9 (fun j u h=>by simpa using h);obtain⟨A9,AA⟩:=zh2 A2 A1;clear hX9 lX9 oX9 A1 z9 A2;go_wp2_with fail
  exact zrt A9.out Tryz.underlying29 AA.out ⟨(by rw[←A8.out];try rfl),below_setRow B4.out (by first|omega|exact tA4 _) _⟩
theorem qoi (W:Int)(ls:List (List Nat))(A:Option Addr)(n c:Nat)(w:World)(ht:TextsR w A n ls)(hnc:n≤c)(hcm:c≤maxLen)(hn:n≤1048576)(hok:∀b∈ls,BsOk b)(hT:Tabs w):
 Calls Tryz.prog 174 #[.int .i64 W,.slice A n c] w fun e w'=>e=.returned (.agg (byv (qdx (cutW W) ls)).toArray)∧Below w.heap.size w w':=by
 obtain⟨W0,hW0⟩:=eqx ((w.alloc (.cells #[.int .i64 W] 3)).alloc (.cells zLD 29));have c0:Blk W0 w.heap.size 3 #[.int .i64 W]:=by rw[hW0];exact(Blk.new w _ _).alloc _
 have z0:Blk W0 (w.heap.size+1) 29 (byv (List.replicate 32 0)).toArray:=by
  have h:=Blk.new (w.alloc (.cells #[.int .i64 W] 3)) 29 zLD;rw[qar]at h;rw[hW0];exact h
 have b0:Below w.heap.size w W0:=by rw[hW0];exact qah (qah (tA5 _ _) _) _
 have s0:W0.heap.size=w.heap.size+1+1:=by rw[hW0];simp
 have l0:=ht.1;obtain⟨A6,C0,Z0,B0,A7,A1,A8,L0⟩:=zh8 hW0 c0 z0 b0 (ht.call b0) (hT.below b0 hT.size) hok l0;have S0:=zh1 s0;by_cases h0:n=0
 ·
  subst h0;have hl:ls=[]:=List.eq_nil_of_length_eq_zero L0.out;subst hl;have cc:=c0.cell 0;rw[show (#[Value.int .i64 W]:Array Value)[0]? =some (.int .i64 W) from rfl]at cc;have M:=qo8 W [] none 0 0 W0 (by simp) Reads.none_ (by omega) (by omega) A1.out;rw[show sumH (cutW W) []=qdx (cutW W) [] from(qdy _).symm]at M;have HM:=zh1 M;clear M hW0 c0 z0 b0 ht hT hok l0 s0;have cc:=zh1 cc;clear cc;have cc:=C0.out.cell 0;rw[show (#[Value.int .i64 W]:Array Value)[0]? =some (.int .i64 W) from rfl]at cc;rw[A6.out]at cc;go_enter Tryz.func174,Tryz.ntmps174
  go_wp2_with fail
  rw[←A6.out];refine HM.out.mono ?_;rintro e w1 ⟨rfl,b1⟩;obtain⟨Z1,B1⟩:=zh2 (Z0.out.below b1 Z0.out.lt) (B0.out.trans (b1.mono B0.out.size));clear b1 cc;obtain⟨X9,hX9⟩:=xeq (byv (qdx (cutW W) []));have lX9:X9.length=32:=by rw[←hX9,qat];exact(qna _ (qdt W).2 []).1
  have oX9:∀u∈X9,u.oneCell'=true:=by rw[←hX9];exact qau _
  try rw[hX9]
  obtain⟨A2,A3,A4,A0⟩:=zh4 hX9 lX9 oX9 (zI 29 lX9);clear hX9 lX9 oX9;go_wp2_with (refine zst 29 (.tmp 4) (.tmp 10) (w.heap.size+1) X9 Z1.out A0.out (by simp[A3.out,qat]) A4.out ?_)
  have z9:=Z1.out.setRow X9.toArray;have A5:=qap z9 0 X9 (fun j u h=>by simpa using h);exact zrt A5 Tryz.underlying29 A0.out ⟨(by rw[←A2.out];try rfl),below_setRow B1.out (by first|omega|exact tA4 _) _⟩
 have qn:¬(n:Int)=0:=by omega
 obtain⟨g,o,bs,A',n',c',rfl,-⟩:=A7.out.at_ (k:=0) (by omega);obtain⟨W1,hW1⟩:=eqx ((W0.alloc (.cells #[.nilFunc] 309)).setCell ⟨w.heap.size+1+1,0,none⟩ (.func (.func 212) #[] #[.pointer (some ⟨w.heap.size,0,none⟩),.pointer (some ⟨w.heap.size+1+1,0,none⟩)]));have hmf:∀(fn:Fn) (first cap:Array Value) (w:World),(Instr.makeFunc fn first cap).run Tryz.prog w=.ok (.func fn first cap) w:=fun _ _ _ _=>rfl
 have f0:Blk (W0.alloc (.cells #[.nilFunc] 309)) (w.heap.size+1+1) 309 #[.nilFunc]:=by
  have h:=Blk.new W0 309 #[.nilFunc];rw[s0]at h;exact h
 have hst:(store ⟨w.heap.size+1+1,0,none⟩ (.func (.func 212) #[] #[.pointer (some ⟨w.heap.size,0,none⟩),.pointer (some ⟨w.heap.size+1+1,0,none⟩)])).run Tryz.prog (W0.alloc (.cells #[.nilFunc] 309))=.ok () W1:=by
  rw[run_store Tryz.prog _ _ _ _ (by rfl),f0.cell 0,f0.frozen 0,hW1];rfl
 have cf:Blk W1 (w.heap.size+1+1) 309 #[.func (.func 212) #[] #[.pointer (some ⟨w.heap.size,0,none⟩),.pointer (some ⟨w.heap.size+1+1,0,none⟩)]]:=by
  rw[hW1];exact f0.set_ 0 _
 have b1:Below W0.heap.size W0 W1:=by
  rw[hW1];exact(qah (tA5 _ _) _).setCell (by rw[s0];exact tA4 _) _
 rw[hW0]at hst;have C1:=C0.out.below b1 C0.out.lt;have R:=qoh W w.heap.size (w.heap.size+1+1) n ls g o n c W1 (by rw[l0];exact tA4 _) (by omega) (A7.out.call b1) hnc hcm hn hok (by rw[C1.cell];rfl) (by rw[cf.cell];rfl) (A1.out.below b1 A1.out.size);have HR:=zh1 R;have cc:=cf.cell 0;rw[show (#[Value.func (.func 212) #[] #[.pointer (some ⟨w.heap.size,0,none⟩),.pointer (some ⟨w.heap.size+1+1,0,none⟩)]]:Array Value)[0]? =some (.func (.func 212) #[] #[.pointer (some ⟨w.heap.size,0,none⟩),.pointer (some ⟨w.heap.size+1+1,0,none⟩)]) from rfl]at cc;obtain⟨Z1,B1⟩:=zh2 (Z0.out.below b1 Z0.out.lt) (B0.out.trans (b1.mono B0.out.size));clear hW0 c0 z0 b0 ht hT hok l0 s0 f0 cf b1 C1 R hW1 hnc hcm hn;go_enter Tryz.func174,Tryz.ntmps174
 go_wp2_with fail
 refine HR.out.mono ?_;rintro e w4 ⟨rfl,b4⟩;obtain⟨Z4,B4⟩:=zh2 (Z1.out.below b4 Z1.out.lt) (B1.out.trans (b4.mono B1.out.size));clear b4 cc hst;obtain⟨X9,hX9⟩:=xeq (byv (qdx (cutW W) ls));have lX9:X9.length=32:=by rw[←hX9,qat];exact(qna _ (qdt W).2 ls).1
 have oX9:∀u∈X9,u.oneCell'=true:=by rw[←hX9];exact qau _
 try rw[hX9]
 obtain⟨A2,A3,A4,A0⟩:=zh4 hX9 lX9 oX9 (zI 29 lX9);clear hX9 lX9 oX9;go_wp2_with (refine zst 29 (.tmp 4) (.tmp 14) (w.heap.size+1) X9 Z4.out A0.out (by simp[A3.out,qat]) A4.out ?_)
 have z9:=Z4.out.setRow X9.toArray;have A5:=qap z9 0 X9 (fun j u h=>by simpa using h);exact zrt A5 Tryz.underlying29 A0.out ⟨(by rw[←A2.out];try rfl),below_setRow B4.out (by first|omega|exact tA4 _) _⟩
end
section
open Go.RowKit
theorem TextsC.reads {w:World}{col:Col}{k:Nat}{v:Value}{ls:List (List Nat)}(h:TextsC w col k v ls):∃A c,v=.slice A ls.length c∧ls.length≤c∧c≤maxLen∧TextsR w A ls.length ls:=by
 obtain⟨vs,A,c,h1,h2,h3,h4,h5⟩:=h.sl;refine⟨A,c,h1,h2,h3,rfl,vs,h4,fun i bs hi=>?_⟩;obtain⟨u,hu,A',n',c',rfl,a,b,d,_⟩:=h5 i bs hi;exact⟨A',n',c',hu,a,b,d⟩
theorem LeafOk.bs {b:List Nat}(h:LeafOk b):BsOk b:=⟨by have:=h.1;omega,h.2⟩
def stav (s:Sta)(L:Loc):List Value:=[.int .u64 (s.clock:Int),.int .u32 (s.draw:Int),.int .i64 s.lane,.slice (some ⟨L.tg,0,none⟩) 16 L.tc,.slice (some ⟨L.rg,0,none⟩) 16 L.rc,.slice (some ⟨L.gg,0,none⟩) s.gras.length L.gc]
theorem StAt.tree {tt rt gt:TypeId}{w:World}{col:Col}{k:Nat}{L:Loc}{css:List (List Value)}{s:Sta}(h:StAt tt rt gt w col k L css s)(hs:s.Ok){n:Nat}{t:Tre}(ht:s.tres[n]? =some t):
 n<16∧∃Ad cd Al cl Aq cq,css[n]? =some (trev t (.slice Ad t.draws.length cd) (.slice Al t.leaves.length cl) (.slice Aq t.queue.length cq))∧
  (∀j u,(trev t (.slice Ad t.draws.length cd) (.slice Al t.leaves.length cl) (.slice Aq t.queue.length cq))[j]? =some u→w.cell? ⟨L.rg,n*75+j,none⟩=some u)∧
  RowC w col (10+3*n) (.slice Ad t.draws.length cd) 22 1 t.draws.length (drwv t.draws)∧TextsC w col (11+3*n) (.slice Al t.leaves.length cl) t.leaves∧TextsC w col (12+3*n) (.slice Aq t.queue.length cq) t.queue:=by
 obtain⟨hn,_⟩:=List.getElem?_eq_some_iff.1 ht;obtain⟨cs,h1,vd,vl,vq,e,h2,h3,h4⟩:=h.trs.2 n t ht;obtain⟨Ad,cd,rfl,_⟩:=h2.sl;obtain⟨_,Al,cl,rfl,_⟩:=h3.sl;obtain⟨_,Aq,cq,rfl,_⟩:=h4.sl;subst e;refine⟨by rw[←hs.tresn];exact hn,Ad,cd,Al,cl,Aq,cq,h1,fun j u hu=>?_,h2,h3,h4⟩;have hl:=h.trs.lens (fun t ht=>(hs.tres t ht).hd);obtain⟨hj,_⟩:=List.getElem?_eq_some_iff.1 hu;rw[hl _ (List.mem_of_getElem? h1)]at hj;exact h.tres.cell ((qmq hl h1 hj).trans hu)
theorem qoj (c:Cfg)(s:Sta)(L:Loc)(col:Col)(k:Nat)(css:List (List Value))(n:Nat)(t:Tre)(As:Option Addr)(ns cs:Nat)(w:World)(hc:c.Ok)(hs:s.Ok)
 (hr:Reads w w.heap.size 1 As ns (byv c.seed))(hst:StAt 92 74 66 w col k L css s)(ht:s.tres[n]? =some t)(hd:t.draws≠[])(hT:Tabs w):
 Calls Tryz.prog 121 #[.agg #[.int .i64 c.width,.int .i64 c.quantum,.int .u32 (c.store:Int),.slice As ns cs],.agg (stav s L).toArray,.int .i64 (n:Int)] w fun e w'=>e=.returned (.tuple #[.agg (hdv (pubT c s.clock n t)).toArray,.int .i64 0])∧Below w.heap.size w w':=by
 obtain⟨hn,Ad,cd,Al,cl,Aq,cq,hcs,hcell,hrd,hrl,hrq⟩:=hst.tree hs ht;have hto:=hs.tre ht;obtain⟨D,hD⟩:=xeq (trev t (.slice Ad t.draws.length cd) (.slice Al t.leaves.length cl) (.slice Aq t.queue.length cq));have lD:D.length=75:=by rw[←hD];exact qmx _ _ _ hto.hd
 have d4:D[4]? =some (.slice Ad t.draws.length cd):=by rw[←hD];rfl
 have d5:D[5]? =some (.slice Al t.leaves.length cl):=by rw[←hD];rfl
 rw[hD]at hcell;have c4:=hcell 4 _ d4;obtain⟨nd,hnd⟩:=xeq t.draws.length;have nd0:0<nd:=by rw[←hnd];exact List.length_pos_iff.2 hd
 rw[hnd]at d4 c4 hrd;obtain⟨W0,hW0⟩:=eqx (((w.alloc (.cells #[.int .i64 c.width,.int .i64 c.quantum,.int .u32 (c.store:Int),.slice As ns cs] 25)).alloc (.cells #[.int .u64 (s.clock:Int),.int .u32 (s.draw:Int),.int .i64 s.lane,.slice (some ⟨L.tg,0,none⟩) 16 L.tc,.slice (some ⟨L.rg,0,none⟩) 16 L.rc,.slice (some ⟨L.gg,0,none⟩) s.gras.length L.gc] 49)).alloc (.cells Tryz.zeroCells55 55));have b0:Below w.heap.size w W0:=by rw[hW0];exact qah (qah (qah (tA5 _ _) _) _) _
 have k0:Blk W0 w.heap.size 25 #[.int .i64 c.width,.int .i64 c.quantum,.int .u32 (c.store:Int),.slice As ns cs]:=by rw[hW0];exact((Blk.new w _ _).alloc _).alloc _
 have s0:Blk W0 (w.heap.size+1) 49 #[.int .u64 (s.clock:Int),.int .u32 (s.draw:Int),.int .i64 s.lane,.slice (some ⟨L.tg,0,none⟩) 16 L.tc,.slice (some ⟨L.rg,0,none⟩) 16 L.rc,.slice (some ⟨L.gg,0,none⟩) s.gras.length L.gc]:=by
  have h:=(Blk.new (w.alloc (.cells #[.int .i64 c.width,.int .i64 c.quantum,.int .u32 (c.store:Int),.slice As ns cs] 25)) 49 #[.int .u64 (s.clock:Int),.int .u32 (s.draw:Int),.int .i64 s.lane,.slice (some ⟨L.tg,0,none⟩) 16 L.tc,.slice (some ⟨L.rg,0,none⟩) 16 L.rc,.slice (some ⟨L.gg,0,none⟩) s.gras.length L.gc]).alloc (.cells Tryz.zeroCells55 55);rw[qar]at h;rw[hW0];exact h
 have z0:Blk W0 (w.heap.size+1+1) 55 (hdv Hd.zero).toArray:=by
  have h:=Blk.new ((w.alloc (.cells #[.int .i64 c.width,.int .i64 c.quantum,.int .u32 (c.store:Int),.slice As ns cs] 25)).alloc (.cells #[.int .u64 (s.clock:Int),.int .u32 (s.draw:Int),.int .i64 s.lane,.slice (some ⟨L.tg,0,none⟩) 16 L.tc,.slice (some ⟨L.rg,0,none⟩) 16 L.rc,.slice (some ⟨L.gg,0,none⟩) s.gras.length L.gc] 49)) 55 Tryz.zeroCells55;rw[qar,qar]at h;rw[hW0];rw[show (hdv Hd.zero).toArray=Tryz.zeroCells55 by kernel_rfl];exact h
 have e4:=qai c4 b0;have q1:¬(n:Int)<0:=by omega
 have q2:¬(16:Int)≤n:=by omega
 have q3:¬(nd:Int)=0:=by omega
 have q4:(n:Int)<16:=by omega
 have q5:(0:Int)≤n:=by omega
 show Calls Tryz.prog 121 #[.agg #[.int .i64 c.width,.int .i64 c.quantum,.int .u32 (c.store:Int),.slice As ns cs],.agg #[.int .u64 (s.clock:Int),.int .u32 (s.draw:Int),.int .i64 s.lane,.slice (some ⟨L.tg,0,none⟩) 16 L.tc,.slice (some ⟨L.rg,0,none⟩) 16 L.rc,.slice (some ⟨L.gg,0,none⟩) s.gras.length L.gc],.int .i64 (n:Int)] w _;obtain⟨A4,AG,AH,D5,D4,LD,HD,K0⟩:=zh8 hcell hrd hrl d5 d4 lD hD k0;obtain⟨S0,Z0,B0,HT,HR,A2,HS,HC⟩:=zh8 s0 z0 b0 hT hr hto hs hc;obtain⟨A3,AV⟩:=zh2 hnd hd;rw[hW0]at e4;have AI:=zh1 hW0;clear hcs hcell hrd hrl hrq c4 d4 d5 lD hD k0 s0 z0 b0 hT hr hto hs hc hnd hd hW0 hst ht;go_enter Tryz.func121,Tryz.ntmps121
 go_upto_region 3 with(fail)
 clear e4;rw[←AI.out];have cs4:=S0.out.cell 4;rw[show (#[Value.int .u64 (s.clock:Int),.int .u32 (s.draw:Int),.int .i64 s.lane,.slice (some ⟨L.tg,0,none⟩) 16 L.tc,.slice (some ⟨L.rg,0,none⟩) 16 L.rc,.slice (some ⟨L.gg,0,none⟩) s.gras.length L.gc]:Array Value)[4]? =some (.slice (some ⟨L.rg,0,none⟩) 16 L.rc) from rfl]at cs4;have hrg:W0.rangeAt L.rg (n*75) D:=fun j u hu=>qai (A4.out j u hu) B0.out
 have AJ:=zh1 hrg;have y0:=Blk.new W0 74 Tryz.zeroCells74;obtain⟨Y0,HI⟩:=zh2 y0 (zI 74 LD.out);have OD:=zh1 (show ∀u∈D,u.oneCell'=true by
  rw[←HD.out];intro u hu;unfold trev at hu;simp only[List.mem_cons]at hu;rcases hu with rfl|rfl|rfl|rfl|rfl|rfl|rfl|hu
  · rfl
  · rfl
  · rfl
  · rfl
  · rfl
  · rfl
  · rfl
  exact qlm _ u hu)
 have hsz0:Tryz.zeroCells74.size=75:=by kernel_rfl
 have AK:=zh1 hsz0;have s01:w.heap.size+1<W0.heap.size:=S0.out.lt;clear hrg y0 hsz0;go_upto_region 4 with(first
  |(refine qaq rfl 74 (.tmp 34) rfl L.rg (n*75) rfl D _ AJ.out Tryz.underlying74 rfl HI.out ?_)
  |(refine zst 74 (.tmp 8) (.tmp 35) W0.heap.size D Y0.out HI.out (by simp[LD.out,AK.out]) OD.out ?_))
 obtain⟨W1,hW1⟩:=eqx ((W0.alloc (.cells Tryz.zeroCells74 74)).setRow W0.heap.size D.toArray);rw[←hW1];have y1:Blk W1 W0.heap.size 74 D.toArray:=by rw[hW1];exact Y0.out.setRow _
 have b1:Below W0.heap.size W0 W1:=by rw[hW1];exact below_setRow ((tA5 _ _).alloc (tA4 _) _) (tA4 _) _
 have e4:=(y1.cell 4).trans (show D.toArray[4]? =some (.slice Ad nd cd) by rw[tA3];exact D4.out);have q6:IntKind.i64.wrap ((nd:Int) - 1)=((nd - 1:Nat):Int):=by rw[IntWalk.i64_in _ (by have:=A2.out.draws;have:=A3.out;omega)];omega
 have q7:wrap64 ((nd:Int) - 1)=((nd - 1:Nat):Int):=by rw[IntWalk.wrap64_in _ (by have:=A2.out.draws;have:=A3.out;omega)];omega
 obtain⟨Y1,B1,A1,LY⟩:=zh4 y1 b1 (B0.out.trans (b1.mono B0.out.size)) y1.lt;clear hW1 y1 b1 cs4;go_upto_region 5 with(fail)
 clear e4 q6 q7;obtain⟨ep,hep⟩:=xeq (nd - 1);rw[hep];have ep1:ep+1=nd:=by omega
 have hepb:ep<32:=by have:=A2.out.draws;have:=A3.out;omega
 obtain⟨A9,AA⟩:=zh2 ep1 hep;clear hep ep1;obtain⟨nl,hnl⟩:=xeq t.leaves.length;obtain⟨Al',cl',ev,hlc,hlm,hLR⟩:=AH.out.reads;injection ev with ev1 ev2 ev3;subst ev1 ev3;have D5':=D5.out;rw[hnl]at hlc hLR D5';have hnlb:nl≤1024:=by have:=A2.out.leaves;omega
 obtain⟨dv,hdvv⟩:∃d,t.draws[ep]? =some d:=⟨_,tA7 (by rw[A3.out,←A9.out];omega)⟩;have hdvb:dv<4294967296:=A2.out.drawb dv (List.mem_of_getElem? hdvv);have hlast:t.draws.getLastD 0=dv:=by
  rw[List.getLastD_eq_getLast?,List.getLast?_eq_getElem?,A3.out,AA.out,hdvv];rfl
 obtain⟨Ad',cd',ev,hdc,hdm,hDR,-⟩:=AG.out.sl;injection ev with ev1 _ ev3;subst ev1 ev3;obtain⟨gd,od,rfl,gdlt,hdcell⟩:=hDR.mid (by omega) (by omega);have cdv:=hdcell ep _ (show (drwv t.draws)[ep]? =some (.int .u32 (dv:Int)) by unfold drwv;rw[List.getElem?_map,hdvv];rfl);obtain⟨h0,hh0⟩:∃h:Hd,h=⟨(n:Int),(ep:Int),nl,s.clock,qdx (cutW c.width) t.leaves,[]⟩:=⟨_,rfl⟩;have hpub:pubT c s.clock n t=signed (keyOf c.seed n ep dv) h0:=by
  unfold pubT;rw[A3.out,AA.out,hlast,hnl,hh0]
 have rok:=qna (cutW c.width) (qdt c.width).2 t.leaves;have h0r:h0.root.length=32∧∀x∈h0.root,x<256:=by rw[hh0];exact rok
 have bH:=qnp (.int .i64 (n:Int)) (.int .i64 (ep:Int)) (.int .u64 (nl:Int)) (.int .u64 (s.clock:Int)) (byv (qdx (cutW c.width) t.leaves)) (by rw[qat];exact rok.1) ⟨_,rfl⟩ ⟨_,rfl⟩ ⟨_,rfl⟩ ⟨_,rfl⟩;rw[show (Value.int .i64 (n:Int)::.int .i64 (ep:Int)::.int .u64 (nl:Int)::.int .u64 (s.clock:Int)::byv (qdx (cutW c.width) t.leaves))=hd0v h0 by rw[hh0];rfl]at bH;have lH:=qnq h0 h0r.1;have oH:∀u∈hd0v h0,u.oneCell'=true:=by
  intro u hu;unfold hd0v at hu;simp only[List.mem_cons]at hu;rcases hu with rfl|rfl|rfl|rfl|hu
  · rfl
  · rfl
  · rfl
  · rfl
  exact qau _ _ hu
 have MR:=fun w1 (b:Below W1.heap.size W1 w1)=>qoi c.width t.leaves Al nl cl w1 ((hLR.call A1.out).call b) hlc hlm (by omega) (fun b hb=>(A2.out.leafb b hb).bs) (HT.out.below (A1.out.trans (b.mono A1.out.size)) HT.out.size)
 have SG:=fun w1 (b:Below W1.heap.size W1 w1)=>qnu (keyOf c.seed n ep dv) h0 w1 (qjt _ _) (qju _ _) (by rw[hh0];exact⟨by show (0:Int)≤(n:Int);omega,by show (n:Int)<4294967296;omega⟩) (by rw[hh0];exact⟨by show (0:Int)≤(ep:Int);omega,by show (ep:Int)<4294967296;omega⟩) (by rw[hh0];show nl<18446744073709551616;omega) (by rw[hh0];exact HS.out.clock) h0r.1 h0r.2 (HT.out.below (A1.out.trans (b.mono A1.out.size)) HT.out.size)
 have KK:=fun w1 (b:Below W1.heap.size W1 w1)=>qnm c.seed n ep dv As ns cs w1 ((HR.out.call A1.out).call b) HC.out.seedb (by have:=HC.out.seed;have:=qb5 HR.out;omega) (by omega) (by omega) hdvb (HT.out.below (A1.out.trans (b.mono A1.out.size)) HT.out.size)
 obtain⟨RV,hRV⟩:=xeq (byv (qdx (cutW c.width) t.leaves));obtain⟨H0,hH0⟩:=xeq (hd0v h0);obtain⟨KV,hKV⟩:=xeq (byv (keyOf c.seed n ep dv));obtain⟨X,hX⟩:=xeq (hdv (signed (keyOf c.seed n ep dv) h0));have lX:X.length=68:=by rw[←hX];unfold hdv signed;simp only[List.length_cons,tA6,qat,h0r.1,qjt]
 have oX:∀u∈X,u.oneCell'=true:=by rw[←hX];exact qlm _
 rw[hRV]at bH;simp only[hRV]at MR;simp only[hH0,hKV,hX]at SG;simp only[hKV]at KK;rw[hH0]at bH lH oH;have A5:=zh1 (show hdv (pubT c s.clock n t)=X by rw[hpub];exact hX);have q8:IntKind.u64.wrap (nl:Int)=(nl:Int):=IntWalk.u64_in _ (by omega);obtain⟨cdv1,AB,AL,AC,A6,AM,AD,AN⟩:=zh8 cdv lX oX bH lH oH MR SG;obtain⟨AO,AP,A7⟩:=zh3 KK D5' (show (ep:Int)<nd by have:=A9.out;omega);clear hlc hlm hLR hnlb hdvb hlast hdm hDR hdcell cdv hpub rok h0r bH lH oH MR SG KK lX oX D5' hX hH0 hKV hRV hh0 hdvv hnl;obtain⟨S,A0⟩:∃S:World→Prop,Hid (∀w',S w'=(Below W1.heap.size W1 w')):=⟨_,fun _=>rfl⟩;refine qji S 15 [52,53,10] [(0,false),(1,false),(2,false),(3,false),(4,false),(5,false),(6,false),(7,false),(8,false),(9,false),(10,false),(11,false)] 3 (.two 12 (.read 13 (.one 14 .done)) 14 (.one 12 (.read 13 .done))) [(15,true)] #[true,true,true,true,true,true,true,true,true,true,true,true,false,false,false,false] #[true,true,true,true,true,true,true,true,true,true,true,true,true,true,true,false] (by kernel_rfl) rfl (by kernel_rfl) (by kernel_rfl) (by kernel_rfl) (by kernel_rfl) (by kernel_rfl) (fun _ _ d _ _ h=>by cases d<;>exact h) ((A0.out _).mpr ((tA5 _ _).drew)) ?_;obtain⟨F0,F1,F2⟩:=zh3 (fun(w':World)(h:S w')=>(Y1.out.below ((A0.out w').mp h) Y1.out.lt).cell 5 |>.trans (show D.toArray[5]? =some (.slice Al nl cl) by rw[tA3];exact AP.out)) (fun(w':World)(h:S w')=>(show w'.cell? ⟨w.heap.size+1,0,none⟩=some (.int .u64 (s.clock:Int)) from((S0.out.below B1.out S0.out.lt).below ((A0.out w').mp h) (Nat.lt_of_lt_of_le S0.out.lt B1.out.size)).cell 0)) (fun(w':World)(h:S w')=>(show w'.cell? ⟨w.heap.size,0,none⟩=some (.int .i64 c.width) from((K0.out.below B1.out K0.out.lt).below ((A0.out w').mp h) (Nat.lt_of_lt_of_le K0.out.lt B1.out.size)).cell 0));iterate 12 (refine qjp rfl rfl ⟨?_,fun w1 hS=>?_,?_⟩;rotate_left;(focus(have g0:=F0.out w1 hS;have g1:=F1.out w1 hS;have g2:=F2.out w1 hS;clear hS;go_simp;try rfl));simp only[Act.put,tA0,tA1,tA2])
 refine qjo ?_;obtain⟨Wd,hWd⟩:=eqx W1.drew;have bd:Below W1.heap.size W1 Wd:=by rw[hWd];exact(tA5 _ _).drew
 rw[←hWd];have BD:=zh1 bd;clear hWd bd;refine⟨fun vs w'=>∃g9,vs=[.agg RV.toArray,.agg H0.toArray,.pointer (some ⟨g9,0,none⟩)]∧Blk w' g9 53 #[.int .i64 0,.int .i64 0,.int .u64 0,.int .u64 0,.int .u8 0,.int .u8 0,.int .u8 0,.int .u8 0,.int .u8 0,.int .u8 0,.int .u8 0,.int .u8 0,.int .u8 0,.int .u8 0,.int .u8 0,.int .u8 0,.int .u8 0,.int .u8 0,.int .u8 0,.int .u8 0,.int .u8 0,.int .u8 0,.int .u8 0,.int .u8 0,.int .u8 0,.int .u8 0,.int .u8 0,.int .u8 0,.int .u8 0,.int .u8 0,.int .u8 0,.int .u8 0,.int .u8 0,.int .u8 0,.int .u8 0,.int .u8 0]∧W1.heap.size≤g9∧Below W1.heap.size W1 w',?_,?_⟩
 ·
  refine qjn rfl rfl rfl rfl ?_ ?_
  ·
   go_simp;refine(AD.out Wd BD.out).mono ?_;rintro e w2 ⟨rfl,b2⟩;have B2:=zh1 (BD.out.trans (b2.mono BD.out.size));clear b2;refine⟨(A0.out _).mpr B2.out,?_⟩;try simp only[Act.put,tA0,tA1,tA2]
   refine qjk rfl rfl ⟨.agg H0.toArray,fun w1 hS=>qfq 53 _ rfl _ _ AC.out (by simp[Act.eval]),?_⟩;try simp only[Act.put,tA0,tA1,tA2]
   refine qjm rfl rfl ?_;go_simp;refine⟨(A0.out _).mpr (B2.out.alloc B2.out.size _),qjj ⟨[_,_,_],rfl,w2.heap.size,rfl,Blk.new _ _ _,B2.out.size,B2.out.alloc B2.out.size _⟩⟩
  go_simp;obtain⟨w2,hw2⟩:=eqx (Wd.alloc (.cells #[.int .i64 0,.int .i64 0,.int .u64 0,.int .u64 0,.int .u8 0,.int .u8 0,.int .u8 0,.int .u8 0,.int .u8 0,.int .u8 0,.int .u8 0,.int .u8 0,.int .u8 0,.int .u8 0,.int .u8 0,.int .u8 0,.int .u8 0,.int .u8 0,.int .u8 0,.int .u8 0,.int .u8 0,.int .u8 0,.int .u8 0,.int .u8 0,.int .u8 0,.int .u8 0,.int .u8 0,.int .u8 0,.int .u8 0,.int .u8 0,.int .u8 0,.int .u8 0,.int .u8 0,.int .u8 0,.int .u8 0,.int .u8 0] 53));rw[←hw2];have z2:Blk w2 Wd.heap.size 53 #[.int .i64 0,.int .i64 0,.int .u64 0,.int .u64 0,.int .u8 0,.int .u8 0,.int .u8 0,.int .u8 0,.int .u8 0,.int .u8 0,.int .u8 0,.int .u8 0,.int .u8 0,.int .u8 0,.int .u8 0,.int .u8 0,.int .u8 0,.int .u8 0,.int .u8 0,.int .u8 0,.int .u8 0,.int .u8 0,.int .u8 0,.int .u8 0,.int .u8 0,.int .u8 0,.int .u8 0,.int .u8 0,.int .u8 0,.int .u8 0,.int .u8 0,.int .u8 0,.int .u8 0,.int .u8 0,.int .u8 0,.int .u8 0]:=by rw[hw2];exact Blk.new _ _ _
  have b2:Below W1.heap.size W1 w2:=by rw[hw2];exact BD.out.alloc BD.out.size _
  obtain⟨Z2,B2⟩:=zh2 z2 b2;clear hw2 z2 b2;refine⟨(A0.out _).mpr B2.out,?_⟩;try simp only[Act.put,tA0,tA1,tA2]
  refine qjm rfl rfl ?_;go_simp;refine(AD.out w2 B2.out).mono ?_;rintro e w3 ⟨rfl,b3⟩;obtain⟨B3,Z3⟩:=zh2 (B2.out.trans (b3.mono B2.out.size)) (Z2.out.below b3 Z2.out.lt);clear b3;refine⟨(A0.out _).mpr B3.out,?_⟩;try simp only[Act.put,tA0,tA1,tA2]
  refine qjk rfl rfl ⟨.agg H0.toArray,fun w1 hS=>qfq 53 _ rfl _ _ AC.out (by simp[Act.eval]),?_⟩;refine qjj ⟨[_,_,_],rfl,Wd.heap.size,rfl,Z3.out,BD.out.size,B3.out⟩
 rintro vs w4 - ⟨g9,rfl,z4,l4,b4⟩;simp only[puts,Act.put,tA0,tA1,tA2];refine qbj rfl rfl ?_;refine wp_store_row 53 (.tmp 10) (.tmp 53) rfl g9 H0.toArray rfl rfl 53 _ z4 (by rw[List.size_toArray,A6.out];kernel_rfl) (by simp[A6.out]) (by simpa using AM.out) ?_;obtain⟨W5,hW5⟩:=eqx (w4.setRow g9 H0.toArray);rw[←hW5];have h5:Blk W5 g9 53 H0.toArray:=by rw[hW5];exact z4.setRow _
 have b5:Below W1.heap.size W1 W5:=by rw[hW5];exact below_setRow b4 l4 _
 obtain⟨H5,B5,AQ⟩:=zh3 h5 b5 l4;clear hW5 h5 b5 z4 l4 b4;refine⟨fun h=>absurd h (by decide),?_⟩;try simp only[Act.put,tA0,tA1,tA2]
 refine qbg ?_;clear A0 F0 F1 F2;go_upto_region 6 with(fail)
 have GB:=zh1 (fun(w':World)(hb:Below W5.heap.size W5 w')=>(⟨hb.os,hb.tape,hb.output,hb.size,fun i hi _=>hb.block i hi⟩:W5.grownBy w' (some (w.heap.size+1+1))));obtain⟨S,A0⟩:∃S:World→Prop,Hid (∀w',S w'=(W5.grownBy w' (some (w.heap.size+1+1)))):=⟨_,fun _=>rfl⟩;refine zrs S 14 [(0,false),(1,false),(2,false),(3,false),(4,false),(5,false),(6,false),(7,false),(8,false),(10,false),(9,true),(11,true),(12,true),(13,false)] ((A0.out _).mpr (GB.out _ (tA5 _ _).drew)) ?_;obtain⟨AW,F0,F1,F2⟩:=zh4 (Nat.le_trans B1.out.size B5.out.size) (fun(w':World)(h:S w')=>(show w'.cell? ⟨w.heap.size,3,none⟩=some (.slice As ns cs) from(((K0.out.below B1.out K0.out.lt).below B5.out (Nat.lt_of_lt_of_le K0.out.lt B1.out.size)).grown ((A0.out w').mp h) (by intro e;injection e with e;omega)).cell 3)) (fun(w':World)(h:S w')=>((Y1.out.below B5.out Y1.out.lt).grown ((A0.out w').mp h) (by intro e;injection e with e;have:=Z0.out.lt;omega)).cell 4 |>.trans (show D.toArray[4]? =some (.slice (some ⟨gd,od,none⟩) nd cd) by rw[tA3];exact D4.out)) (fun(w':World)(h:S w')=>(World.cell?_of_block (((A0.out w').mp h).block gd (Nat.lt_of_lt_of_le gdlt (Nat.le_trans A1.out.size B5.out.size)) (by intro e;injection e with e;omega))).trans (qai (qai cdv1.out A1.out) B5.out));have qe:=A7.out;have qe0:(0:Int)≤ep:=by omega
 iterate 9 (refine zrd rfl rfl (fun w1 hS=>by have g0:=F0.out w1 hS;have g1:=F1.out w1 hS;have g2:=F2.out w1 hS;clear hS;go_simp;try rfl) ?_;simp only[Act.put,tA0,tA1,tA2])
 obtain⟨A8,AR⟩:=zh2 (fun(w':World)(h:S w')=>qap (H5.out.grown ((A0.out w').mp h) (by intro e;injection e with e;have:=AQ.out;have:=B1.out.size;have:=Z0.out.lt;omega)) 0 H0 (fun j u h=>by simpa using h)) (zI 53 A6.out);refine qnf rfl rfl 53 (.tmp 10) rfl g9 0 rfl H0 _ A8.out Tryz.underlying53 rfl AR.out ?_;try simp only[Act.put,tA0,tA1,tA2]
 clear qe qe0 F0 F1 F2;obtain⟨We,hWe⟩:=eqx W5.drew;have be':Below W5.heap.size W5 We:=by rw[hWe];exact(tA5 _ _).drew
 rw[←hWe];have BE:=zh1 be';clear hWe be';refine qbj rfl rfl ?_;go_simp;refine(AO.out We (B5.out.trans (BE.out.mono B5.out.size))).mono ?_;rintro e w6 ⟨rfl,b6⟩;have B6:=zh1 (BE.out.trans (b6.mono BE.out.size));clear b6;refine⟨(A0.out _).mpr (GB.out _ B6.out),?_⟩;try simp only[Act.put,tA0,tA1,tA2]
 refine qbj rfl rfl ?_;go_simp;refine(AN.out w6 (B5.out.trans (B6.out.mono B5.out.size))).mono ?_;rintro e w7 ⟨rfl,b7⟩;have B7:=zh1 (B6.out.trans (b7.mono B6.out.size));clear b7;refine⟨(A0.out _).mpr (GB.out _ B7.out),?_⟩;try simp only[Act.put,tA0,tA1,tA2]
 have AE:=zh1 (B1.out.trans ((B5.out.trans (B7.out.mono B5.out.size)).mono B1.out.size));have Z7:=Z0.out.below AE.out Z0.out.lt;have IX:(Tryz.prog.info? 55).map (·.size)=some X.length:=by rw[AB.out];kernel_rfl
 have AS:=zh1 IX;refine qbj rfl rfl ?_;refine wp_store_row 55 (.tmp 6) (.tmp 65) rfl (w.heap.size+1+1) X.toArray rfl rfl 55 _ Z7 (by simpa using IX) (by simp[AB.out,qmw Hd.zero_Ok]) (by simpa using AL.out) ?_;have z9:=Z7.setRow X.toArray;have b9:Below w.heap.size w (w7.setRow (w.heap.size+1+1) X.toArray):=below_setRow (B0.out.trans (AE.out.mono B0.out.size)) (by omega) _;have g7:=GB.out _ B7.out;have gs:=qam w7 (w.heap.size+1+1) X.toArray;refine⟨fun _=>(A0.out _).mpr ⟨gs.os.trans g7.os,gs.tape.trans g7.tape,gs.output.trans g7.output,Nat.le_trans g7.size gs.size,fun i hi hne=>(gs.block i (Nat.lt_of_lt_of_le hi g7.size) hne).trans (g7.block i hi hne)⟩,?_⟩;try simp only[Act.put,tA0,tA1,tA2]
 have AF:=qap z9 0 X (fun j u h=>by simpa using h);obtain⟨AT,AU⟩:=zh2 AF b9;clear IX z9 AF Z7 g7 gs b9;iterate 1 (refine zrd rfl rfl (fun w1 hS=>by go_simp;(try go_bits);try rfl) ?_;simp only[Act.put,tA0,tA1,tA2])
 refine qbg ?_;go_wp2_with fail
 refine bodyPost_ret (qfu rfl rfl (run_loadVar_mid _ _ 0 _ X _ AT.out Tryz.underlying55 rfl AS.out)) rfl ⟨by rw[A5.out];rfl,AU.out⟩
end
section
open Go.RowKit
theorem qok (t:Tre)(h:Hd)(vd vl vq:Value)(h1:t.hd.Ok)(h2:h.Ok):over (trev t vd vl vq) 7 (hdv h)=trev {t with hd:=h} vd vl vq:=by
 unfold over trev;have l1:=qmw h1;have l2:=qmw h2;rw[l2];simp only[List.take_succ_cons,List.take_zero,List.drop_succ_cons,List.cons_append,List.nil_append];rw[List.drop_of_length_le (by omega),List.append_nil]
theorem qol (c:Cfg)(s:Sta)(L:Loc)(col:Col)(k g:Nat)(css:List (List Value))(n:Nat)(t:Tre)(w:World)(hk:Kind k)(hc:c.Ok)(hs:s.Ok)(h:Mdl w col k g c s L css)(ht:s.tres[n]? =some t)(hd:t.draws≠[])(hT:Tabs w):
 Calls Tryz.prog 66 #[.pointer (some ⟨g,0,none⟩),.int .i64 (n:Int)] w fun e w'=>e=.returned (.tuple #[])∧(∃css',Mdl w' col k g c (s.pub c n) L css')∧Turns (· ==k+1) w col w' col:=by
 have hn:n<s.tres.length:=by obtain⟨h,_⟩:=List.getElem?_eq_some_iff.1 ht;exact h
 have hn16:n<16:=by rw[←hs.tresn];exact hn
 have hto:=hs.tre ht;have hpo:=qnb c s.clock n t hs.clock (by have:=hto.leaves;omega);have P:=fun w' (hb:Below w.heap.size w w')=>qoj c s L col k css n t L.sa L.sn L.sc w' hc hs ((h.call hb).seedR) (h.call hb).st ht hd (hT.below hb hT.size)
 have hcell:=h.blk.cell;have q1:(0:Int)≤n:=by omega
 have q2:(n:Int)<16:=by omega
 obtain⟨X,hX⟩:=xeq (hdv (pubT c s.clock n t));have lX:X.length=68:=by rw[←hX];exact qmw hpo
 have oX:∀u∈X,u.oneCell'=true:=by rw[←hX];exact qlm _
 rw[hX]at P;obtain⟨HP,H,HX,LX,OX,A1,A2,HS⟩:=zh8 P h hX lX oX hto hpo hs;obtain⟨HT,HK⟩:=zh2 ht hk;clear P h hX lX oX hto hpo hs ht hd hT hk hn hc hcell;go_enter Tryz.func66,Tryz.ntmps66
 obtain⟨S,A0⟩:∃S:World→Prop,Hid (∀w',S w'=(Turns (· ==k+1) w col w' col)):=⟨_,fun _=>rfl⟩;refine zrs S 22 [(0,false),(1,false),(2,false),(3,false),(4,false),(5,false),(6,false),(7,false),(8,false),(9,false),(10,false),(11,false),(12,false),(13,false),(14,false),(15,true),(16,false),(17,false),(18,false),(19,false),(20,false),(21,true)] ((A0.out _).mpr (Turns.of_below _ (tA5 _ _).drew)) ?_;have FB:=zh1 (fun(w':World)(h:S w')=>(show Blk w' g 117 (mdlv c s L) from(((A0.out w').mp h).block g H.out.blk.lt (by rw[H.out.own];rcases HK.out with rfl|rfl<;>rfl)).trans H.out.blk));have F:=zh1 (fun(w':World)(h:S w')=>(FB.out w' h).cell);have F8:=zh1 (fun(w':World)(h:S w')=>(F.out w' h 8).trans (show (mdlv c s L)[8]? =some (.slice (some ⟨L.rg,0,none⟩) 16 L.rc) from rfl));have FC:=zh1 (fun(w':World)(h:S w')=>(qap (l:=(mdlv c s L).toList) (by simpa using FB.out w' h) 0 [.int .i64 c.width,.int .i64 c.quantum,.int .u32 (c.store:Int),.slice L.sa L.sn L.sc] (fun j u hu=>by
  match j,hu with
  |0,hu=>exact hu
  |1,hu=>exact hu
  |2,hu=>exact hu
  |3,hu=>exact hu
  |j+4,hu=>simp at hu)))
 have FS:=zh1 (fun(w':World)(h:S w')=>(qap (l:=(mdlv c s L).toList) (by simpa using FB.out w' h) 4 (stav s L) (fun j u hu=>by
  match j,hu with
  |0,hu=>exact hu
  |1,hu=>exact hu
  |2,hu=>exact hu
  |3,hu=>exact hu
  |4,hu=>exact hu
  |5,hu=>exact hu
  |j+6,hu=>simp[stav]at hu)))
 obtain⟨CI,SI⟩:=zh2 (show (Tryz.prog.info? 25).map (·.size)=some 4 by kernel_rfl) (show (Tryz.prog.info? 49).map (·.size)=some 6 by kernel_rfl);iterate 9 (refine zrd rfl rfl (fun w1 hS=>by have g0:=F8.out w1 hS;clear hS;go_simp;try rfl) ?_;simp only[Act.put,tA0,tA1,tA2])
 refine qnf rfl rfl 25 (.tmp 13) rfl g 0 rfl _ _ FC.out Tryz.underlying25 rfl CI.out ?_;try simp only[Act.put,tA0,tA1,tA2]
 iterate 3 (refine zrd rfl rfl (fun w1 hS=>by go_simp;(try go_bits);try rfl) ?_;simp only[Act.put,tA0,tA1,tA2])
 refine qnf rfl rfl 49 (.tmp 17) rfl g 4 rfl _ _ FS.out Tryz.underlying49 rfl SI.out ?_;try simp only[Act.put,tA0,tA1,tA2]
 iterate 1 (refine zrd rfl rfl (fun w1 hS=>by go_simp;(try go_bits);try rfl) ?_;simp only[Act.put,tA0,tA1,tA2])
 obtain⟨Wd,hWd⟩:=eqx w.drew;have bd:Below w.heap.size w Wd:=by rw[hWd];exact(tA5 _ _).drew
 rw[←hWd];have BD:=zh1 bd;clear hWd bd;refine qbj rfl rfl ?_;go_simp;refine(HP.out Wd BD.out).mono ?_;rintro e w1 ⟨rfl,b1⟩;have B1:=zh1 (BD.out.trans (b1.mono BD.out.size));clear b1;refine⟨(A0.out _).mpr (Turns.of_below _ B1.out),?_⟩;try simp only[Act.put,tA0,tA1,tA2]
 iterate 5 (refine zrd rfl rfl (fun w1 hS=>by go_simp;(try go_bits);try rfl) ?_;simp only[Act.put,tA0,tA1,tA2])
 have H1:=H.out.call B1.out;have hth:=H1.st.tres.there (o:=n*75+7) (m:=68) (by rw[qmr (H1.st.trs.lens (fun t ht=>(HS.out.tres t ht).hd)),H1.st.trs.1,HS.out.tresn];omega);refine qbj rfl rfl ?_;refine wp_store_mid 55 (.tmp 24) (.tmp 21) rfl L.rg (n*75+7) X.toArray rfl rfl (by rw[List.size_toArray,LX.out];exact hth) (by rw[List.size_toArray,LX.out];kernel_rfl) (by simpa using OX.out) ?_;have M:=H1.treOver HK.out HS.out HT.out (j:=7) (cs:=X) (f:=fun t=>{t with hd:=pubT c s.clock n t}) (by rw[LX.out];omega) (fun vd vl vq=>by rw[←HX.out];exact qok t _ vd vl vq A1.out.hd A2.out) rfl rfl rfl;have hT:Turns (· ==k+1) w col (w1.setCells L.rg (n*75+7) X) col:=(Turns.of_below _ B1.out).trans (Turns.setCells X (by simp[H1.st.tres.1]));refine⟨fun _=>(A0.out _).mpr hT,?_⟩;try simp only[Act.put,tA0,tA1,tA2]
 refine qbg ?_;obtain⟨HM,A3⟩:=zh2 M hT;clear M hT hth H1;go_wp2_with fail
 go_end0
 exact⟨rfl,⟨_,HM.out⟩,A3.out⟩
end
section
open Go.RowKit
def sumI (a b:Int):Int:=if 18446744073709551615<a+b then 18446744073709551615 else a+b
theorem qp7 (a b:Int)(w:World)(a0:0≤a)(a1:a≤18446744073709551615)(b0:0≤b)(b1:b≤18446744073709551615):
 Calls Tryz.prog 89 #[.int .u64 a,.int .u64 b] w fun e w'=>e=.returned (.int .u64 (sumI a b))∧w=w':=by
 by_cases h:18446744073709551615 - b<a
 · go_enter Tryz.func89,Tryz.ntmps89
   go_wp2
   go_ret
   exact⟨qkn (by unfold sumI;omega),rfl⟩
 go_enter Tryz.func89,Tryz.ntmps89
 go_wp2
 go_ret
 exact⟨qkn (by unfold sumI;omega),rfl⟩
theorem qp8 (r b:Int)(w:World)(hr:r≤1048576)(hb:b≤1048576):
 Calls Tryz.prog 120 #[.int .u32 r,.int .u32 b] w fun e w'=>e=.returned (.tuple #[.agg #[.int .u32 r,.int .u32 b,.int .u32 b],.int .i64 0])∧Below w.heap.size w w':=by
 go_enter Tryz.func120,Tryz.ntmps120
 go_wp2
 exact bodyPost_ret (v:=.tuple #[.agg #[.int .u32 r,.int .u32 b,.int .u32 b],.int .i64 0]) (by simp[results,Tryz.results120,go_sem]) rfl ⟨rfl,(tA5 _ _).alloc (tA4 _) _⟩
theorem qp9 (r b:Int)(w:World)(h:1048576<r∨r≤1048576∧1048576<b):
 Calls Tryz.prog 120 #[.int .u32 r,.int .u32 b] w fun e w'=>e=.returned (.tuple #[.agg #[.int .u32 0,.int .u32 0,.int .u32 0],.int .i64 1])∧Below w.heap.size w w':=by
 rcases h with h|⟨h,h2⟩;all_goals
  go_enter Tryz.func120,Tryz.ntmps120
  go_wp2
  exact bodyPost_ret (v:=.tuple #[.agg #[.int .u32 0,.int .u32 0,.int .u32 0],.int .i64 1]) (by simp[results,Tryz.results120,go_sem]) rfl ⟨rfl,(tA5 _ _).alloc (tA4 _) _⟩
def qpa (op n:Int):Int:=if op=1 then 1+(if n<0 then 0 else if 1048576<n then 1048576 else n) / 64 else 1
theorem qpb (op n:Int)(w:World):
 Calls Tryz.prog 129 #[.int .i64 op,.int .i64 n] w fun e w'=>e=.returned (.int .u32 (qpa op n))∧w=w':=by
 by_cases ho:op=1
 ·
  subst ho;by_cases h0:n<0
  · have H:=zh1 (show qpa 1 n=1 from by simp[qpa,h0])
    go_enter Tryz.func129,Tryz.ntmps129
    go_wp2
    go_ret
    (first|exact⟨qkn H.out.symm,rfl⟩|exact⟨qkn (by have:=H.out;omega),rfl⟩)
  by_cases h1:1048576<n
  · have H:=zh1 (show qpa 1 n=16385 from by simp[qpa,h0,h1])
    go_enter Tryz.func129,Tryz.ntmps129
    go_wp2
    go_ret
    (first|exact⟨qkn H.out.symm,rfl⟩|exact⟨qkn (by have:=H.out;omega),rfl⟩)
  have H:=zh1 (show qpa 1 n=1+n / 64 from by simp[qpa,h0,h1]);go_enter Tryz.func129,Tryz.ntmps129
  go_wp2
  go_ret
  (first|exact⟨qkn H.out.symm,rfl⟩|exact⟨qkn (by have:=H.out;omega),rfl⟩)
 have H:=zh1 (show qpa op n=1 from by simp[qpa,ho]);go_enter Tryz.func129,Tryz.ntmps129
 go_wp2
 go_ret
 (first|exact⟨qkn H.out.symm,rfl⟩|exact⟨qkn (by have:=H.out;omega),rfl⟩)
end
section
open Go.RowKit
theorem qpc (n:Int):Tryz.prog.built 57 [(1,.int .u64 n)]=some (Value.int .i64 0::.int .u64 n::.slice none 0 0::.slice none 0 0::(hdv Hd.zero++tokv qft.1 (.slice none 0 0) qft.2.2)).toArray:=by kernel_rfl
theorem qpd (y:Int):Tryz.prog.built 57 [(0,.int .i64 y)]=some (Value.int .i64 y::.int .u64 0::.slice none 0 0::.slice none 0 0::(hdv Hd.zero++tokv qft.1 (.slice none 0 0) qft.2.2)).toArray:=by kernel_rfl
def qpe (R:Rsp):List Value:=rspv R (.slice none 0 0) (.slice none 0 0) (.slice none 0 0)
theorem qpf (R:Rsp)(h1:R.hd.Ok)(h2:R.tok.2.2.length=32):(qpe R).length=106:=qp0 R _ _ _ (qmw h1) h2
theorem qpg (R:Rsp):∀u∈qpe R,u.oneCell'=true:=qp1 R _ _ _ rfl rfl rfl
theorem qph:Tryz.zeroCells57.size=106:=by kernel_rfl
theorem qpi (n:Nat)(w:World)(hn:n<9223372036854775808):
 Calls Tryz.prog 186 #[.int .i64 (n:Int)] w fun e w'=>e=.returned (.agg (qpe (qlz n)).toArray)∧Below w.heap.size w w':=by
 have bT:=qpc (n:Int);rw[show (Value.int .i64 0::.int .u64 (n:Int)::.slice none 0 0::.slice none 0 0::(hdv Hd.zero++tokv qft.1 (.slice none 0 0) qft.2.2))=qpe (qlz n) from rfl]at bT;have lX:=qpf (qlz n) Hd.zero_Ok (by simp[qlz,qih,qft]);have oX:=qpg (qlz n);obtain⟨X,hX⟩:=xeq (qpe (qlz n));rw[hX]at bT lX oX ⊢;have q1:IntKind.u64.wrap (n:Int)=(n:Int):=IntWalk.u64_in _ (by omega);have z0:=Blk.new w 57 Tryz.zeroCells57;obtain⟨Z0,BT,LX,OX⟩:=zh4 z0 bT lX oX;clear bT hX lX oX z0;go_enter Tryz.func186,Tryz.ntmps186
 obtain⟨A1,A0⟩:=zh2 (zI 57 LX.out) qph;go_wp2_with (first
  |(refine qbk rfl ⟨.agg X.toArray,qfq 57 _ rfl _ _ BT.out (by simp[Act.eval]),?_⟩)
  |(refine zst 57 (.tmp 2) (.tmp 5) w.heap.size X Z0.out A1.out (by simp[LX.out,A0.out]) OX.out ?_))
 have z9:=Z0.out.setRow X.toArray;have A2:=qap z9 0 X (fun j u h=>by simpa using h);exact zrt A2 Tryz.underlying57 A1.out ⟨rfl,below_setRow ((tA5 _ _).alloc (tA4 _) _) (tA4 _) _⟩
theorem qpj (y:Nat)(w:World):
 Calls Tryz.prog 134 #[.int .i64 (y:Int)] w fun e w'=>e=.returned (.agg (qpe (rWhy y)).toArray)∧Below w.heap.size w w':=by
 have bT:=qpd (y:Int);rw[show (Value.int .i64 (y:Int)::.int .u64 0::.slice none 0 0::.slice none 0 0::(hdv Hd.zero++tokv qft.1 (.slice none 0 0) qft.2.2))=qpe (rWhy y) from rfl]at bT;have lX:=qpf (rWhy y) Hd.zero_Ok (by simp[rWhy,qih,qft]);have oX:=qpg (rWhy y);obtain⟨X,hX⟩:=xeq (qpe (rWhy y));rw[hX]at bT lX oX ⊢;have z0:=Blk.new w 57 Tryz.zeroCells57;obtain⟨Z0,BT,LX,OX⟩:=zh4 z0 bT lX oX;clear bT hX lX oX z0;go_enter Tryz.func134,Tryz.ntmps134
 obtain⟨A1,A0⟩:=zh2 (zI 57 LX.out) qph;go_wp2_with (first
  |(refine qbk rfl ⟨.agg X.toArray,qfq 57 _ rfl _ _ BT.out (by simp[Act.eval]),?_⟩)
  |(refine zst 57 (.tmp 2) (.tmp 4) w.heap.size X Z0.out A1.out (by simp[LX.out,A0.out]) OX.out ?_))
 have z9:=Z0.out.setRow X.toArray;have A2:=qap z9 0 X (fun j u h=>by simpa using h);exact zrt A2 Tryz.underlying57 A1.out ⟨rfl,below_setRow ((tA5 _ _).alloc (tA4 _) _) (tA4 _) _⟩
theorem qpk (n:Int)(c:Cfg)(s:Sta)(L:Loc)(col:Col)(k g:Nat)(css:List (List Value))(w:World)(h:Mdl w col k g c s L css):
 Calls Tryz.prog 130 #[.pointer (some ⟨g,0,none⟩),.int .i64 n] w fun e w'=>e=.returned (if 0≤n∧n<16 then .tuple #[.pointer (some ⟨L.tg,n.toNat*6,none⟩),.bool true] else .tuple #[.pointer none,.bool false])∧w=w':=by
 have c:=h.c7;by_cases h0:n<0
 ·
  rw[if_neg (by omega)];clear h;go_enter Tryz.func130,Tryz.ntmps130
  go_wp2
  go_ret2
  exact⟨rfl,rfl⟩
 by_cases h1:n<16
 ·
  rw[if_pos (by omega)];have h2:¬16≤n:=by omega
  have h3:0≤n:=by omega
  clear h;go_enter Tryz.func130,Tryz.ntmps130
  go_wp2
  go_ret2
  exact⟨rfl,rfl⟩
 rw[if_neg (by omega)];have h2:16≤n:=by omega
 clear h;go_enter Tryz.func130,Tryz.ntmps130
 go_wp2
 go_ret2
 exact⟨rfl,rfl⟩
theorem qpl (n:Int)(c:Cfg)(s:Sta)(L:Loc)(col:Col)(k g:Nat)(css:List (List Value))(w:World)(hs:s.Ok)(h:Mdl w col k g c s L css)(hn:s.tree n=none):
 Calls Tryz.prog 131 #[.pointer (some ⟨g,0,none⟩),.int .i64 n] w fun e w'=>e=.returned (.tuple #[.pointer none,.bool false])∧w=w':=by
 have c:=h.c8;by_cases h0:n<0
 · clear h hs
   go_enter Tryz.func131,Tryz.ntmps131
   go_wp2
   go_ret2
   exact⟨rfl,rfl⟩
 by_cases h1:n<16
 ·
  obtain⟨m,rfl⟩:∃m:Nat,n=m:=⟨n.toNat,by omega⟩;have hm:m<s.tres.length:=by rw[hs.tresn];omega
  obtain⟨t,ht⟩:∃t,s.tres[m]? =some t:=⟨_,tA7 hm⟩;obtain⟨hm16,Ad,cd,Al,cl,Aq,cq,h2,h3,-⟩:=h.st.tree hs ht;have e0:=h3 0 (.int .i64 t.state) rfl;have h4:¬(16:Int)≤m:=by omega
  have h5:t.state=0∨t.state=4:=by
   unfold Sta.tree at hn;rw[if_pos (by omega),Int.toNat_natCast,ht]at hn;by_cases e:t.state=0∨t.state=4
   · exact e
   simp[e]at hn
  simp only[Nat.add_zero]at e0;have h6:(0:Int)≤m:=by omega
  clear h hs h3 h2 hn ht hm;rcases h5 with h5|h5
  · rw[h5]at e0
    go_enter Tryz.func131,Tryz.ntmps131
    go_wp2
    go_ret2
    exact⟨rfl,rfl⟩
  rw[h5]at e0;go_enter Tryz.func131,Tryz.ntmps131
  go_wp2
  go_ret2
  exact⟨rfl,rfl⟩
 have h2:16≤n:=by omega
 clear h hs;go_enter Tryz.func131,Tryz.ntmps131
 go_wp2
 go_ret2
 exact⟨rfl,rfl⟩
theorem qpm (n:Nat)(t:Tre)(c:Cfg)(s:Sta)(L:Loc)(col:Col)(k g:Nat)(css:List (List Value))(w:World)(hs:s.Ok)(h:Mdl w col k g c s L css)(ht:s.tres[n]? =some t)(h0:t.state≠0)(h4:t.state≠4):
 Calls Tryz.prog 131 #[.pointer (some ⟨g,0,none⟩),.int .i64 (n:Int)] w fun e w'=>e=.returned (.tuple #[.pointer (some ⟨L.rg,n*75,none⟩),.bool true])∧w=w':=by
 have c:=h.c8;obtain⟨hm16,Ad,cd,Al,cl,Aq,cq,h2,h3,-⟩:=h.st.tree hs ht;have e0:=h3 0 (.int .i64 t.state) rfl;have h5:¬(16:Int)≤n:=by omega
 have h7:¬(n:Int)<0:=by omega
 have h8:(n:Int)<16:=by omega
 have h6:(0:Int)≤n:=by omega
 simp only[Nat.add_zero]at e0;obtain⟨x,hx⟩:=xeq t.state;rw[hx]at e0 h0 h4;have b0:(x==0)=false:=by simpa using h0
 have b4:(x==4)=false:=by simpa using h4
 clear h hs h3 h2 ht hx;go_enter Tryz.func131,Tryz.ntmps131
 go_wp2
 go_ret2
 exact⟨rfl,rfl⟩
end
section
open Go.RowKit
structure RspK (X:List Value):Prop where
 len:X.length=106
 one:∀u∈X,u.oneCell'=true
theorem qpn (R:Rsp)(h1:R.hd.Ok)(h2:R.tok.2.2.length=32):∃X,qpe R=X∧RspK X:=⟨_,rfl,qpf R h1 h2,qpg R⟩
theorem RspK.info {X:List Value}(h:RspK X):(Tryz.prog.info? 57).map (·.size)=some X.length:=by rw[h.len];kernel_rfl
theorem qpo {ops:Array Oper}{rest:List Oper}{o:Oper}{a:Act}{w:World}{Q:Exit→Act→World→Prop}(x y:Operand)(g:Nat)(X:List Value)(hg:Blk w g 57 Tryz.zeroCells57)(pk:RspK X)
 (h:wpList Tryz.prog ops Q rest (a.put o.dst undef) (w.setRow g X.toArray))(hgd:o.guard=none:=by rfl)(ho:o.op=.store 57 x y:=by rfl)(hx:a.eval x=.pointer (some ⟨g,0,none⟩):=by rfl)(hy:a.eval y=.agg X.toArray:=by rfl):wpList Tryz.prog ops Q (o::rest) a w:=
 wpList_store_row hgd 57 x y ho g X.toArray hx hy 57 _ hg (by simpa using pk.info) (by simp[pk.len,qph]) (by simpa using pk.one) h
theorem qpp {fn:Func}{R:Ending→World→Prop}{a:Act}{w:World}{g t:Nat}{X:List Value}(hb:Blk w g 57 X.toArray)(pk:RspK X)(hR:R (.returned (.agg X.toArray)) w)
 (h:fn.results=#[.cell t 57]:=by rfl)(ht:a.tmps.getD t undef=.pointer (some ⟨g,0,none⟩):=by rfl)(hd:a.defers=[]:=by rfl):bodyPost Tryz.prog fn R .ret a w:=
 bodyPost_ret (qao h ht (run_loadVar_mid _ _ 0 _ X _ (qap hb 0 X (fun j u h=>by simpa using h)) Tryz.underlying57 rfl pk.info)) hd hR
end
end Go.Proofs.YthomgopipiomhaaGreatDoor

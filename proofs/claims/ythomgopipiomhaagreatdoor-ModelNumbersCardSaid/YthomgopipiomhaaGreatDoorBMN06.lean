/-
  Lemmas for ModelNumbers, shortened by program.
-/
import Derived.Test.YthomgopipiomhaaGreatDoorBMN03
namespace Go.Proofs.YthomgopipiomhaaGreatDoor
set_option linter.unusedVariables false
set_option linter.unusedSimpArgs false
set_option maxRecDepth 100000
set_option maxHeartbeats 32000000
section
open Go.RowKit
def qix (a b:List Nat)(k:Nat):List Nat:=if k=0 then [] else if k=1 then a else a++b
def qiy (key:List Nat)(c:Nat):List Nat:=(key++List.replicate (64 - key.length) 0).map fun x=>x^^^c
def mac (key b:List Nat):List Nat:=sha (qiy key 92++sha (qiy key 54++b))
def mapK (f:Nat→Nat)(L:List Nat)(k:Nat):List Nat:=(L.take k).map f++L.drop k
theorem qiz (f:Nat→Nat)(L:List Nat):mapK f L 0=L:=by simp[mapK]
theorem qj1 (f:Nat→Nat)(L:List Nat):mapK f L L.length=L.map f:=by simp[mapK]
theorem qj2 {L:List Nat}{k x:Nat}(f:Nat→Nat)(h:L[k]? =some x):mapK f L k=(L.take k).map f++x::L.drop (k+1):=by
 obtain⟨hk,rfl⟩:=List.getElem?_eq_some_iff.1 h;unfold mapK;rw[List.drop_eq_getElem_cons hk]
theorem qj3 {L:List Nat}{k x:Nat}(f:Nat→Nat)(h:L[k]? =some x):(byv (mapK f L k)).toArray[k]? =some (.int .u8 (x:Int)):=by
 obtain⟨hk,_⟩:=List.getElem?_eq_some_iff.1 h;rw[qj2 f h];exact qd8 (by rw[List.length_map,List.length_take];omega)
theorem qj4 {L:List Nat}{k x:Nat}(f:Nat→Nat)(h:L[k]? =some x):(byv (mapK f L k)).toArray.setIfInBounds k (.int .u8 (f x:Nat))=(byv (mapK f L (k+1))).toArray:=by
 obtain⟨hk,_⟩:=List.getElem?_eq_some_iff.1 h;rw[qj2 f h];have e:=qd7 ((L.take k).map f) (L.drop (k+1)) x (f x);rw[show ((L.take k).map f).length=k by rw[List.length_map,List.length_take];omega]at e;rw[e];unfold mapK;rw[List.take_add_one,h];simp
theorem qj5 (bs:List Nat):(sha bs).length=32:=by simp[sha,qde]
theorem qj6 (bs:List Nat):∀b∈sha bs,b<256:=by
 intro b hb;simp only[sha,qde,List.mem_map]at hb;obtain⟨_,_,rfl⟩:=hb;exact Nat.mod_lt _ (by decide)
theorem qj7 (key:List Nat)(h:∀b∈key,b<256)(c:Nat)(hc:c<256):∀b∈qiy key c,b<256:=by
 intro b hb;simp only[qiy,List.mem_map,List.mem_append,List.mem_replicate]at hb;obtain⟨x,hx,rfl⟩:=hb;rcases hx with hx|⟨_,rfl⟩
 · exact Nat.xor_lt_two_pow (n:=8) (h x hx) hc
 exact Nat.xor_lt_two_pow (n:=8) (by decide) hc
theorem qj8 (key:List Nat)(h:key.length≤64)(c:Nat):(qiy key c).length=64:=by simp[qiy];omega
theorem qj9 (g n1 c1 n2 c2:Nat)(A1 A2:Option Addr)(b1 b2:List Nat)(w:World)(h0:w.cell? ⟨g,0,none⟩=some (.slice A1 n1 c1))(h1:w.cell? ⟨g,1,none⟩=some (.slice A2 n2 c2))
 (hr1:Reads w w.heap.size 1 A1 n1 (byv b1))(hr2:Reads w w.heap.size 1 A2 n2 (byv b2))(hn:n1+n2≤8589934592):
 Calls Tryz.prog 142 #[.slice (some ⟨g,0,none⟩) 2 2] w fun e w'=>∃v,e=.returned v∧OwnB w' w.heap.size v (b1++b2)∧Below w.heap.size w w':=by
 have l1:=qb5 hr1;have l2:=qb5 hr2;obtain⟨L1,L2,R1,R2,H0,H1⟩:=zh6 l1 l2 hr1 hr2 h0 h1;clear l1 l2 hr1 hr2 h0 h1;go_enter Tryz.func142,Tryz.ntmps142
 go_wp2_with fail
 go_loopw [3,8] (fun v i wr=>∃k:Nat,k≤2∧i=.int .i64 k∧OwnB wr w.heap.size v (qix b1 b2 k)∧Below w.heap.size w wr) (fun v i _=>2 - (intOf i).toNat)
 case atStart=>exact⟨0,by omega,rfl,OwnB.nil _ _,tA5 _ _⟩
 case round=>
  obtain⟨k,hk,rfl,hown,hb⟩:=hrel;have hk3:k=0∨k=1∨k=2:=by omega
  rcases hk3 with rfl|rfl|rfl
  ·
   have hc:=qai H0.out hb;have hr:=R1.out.call hb;have hl:(qix b1 b2 0).length+n1≤140737488355328:=by simp[qix];omega
   have hsz:=hb.size;go_wp2_with (at_builtin;refine qcx rfl _ _ rfl w.heap.size _ _ rfl hown A1 n1 c1 b1 rfl hr hl hsz ?_)
   intro v' w' ho' hb' _;go_wp2_with fail
   go_roundw
   case rel=>exact⟨1,by omega,rfl,by simpa [qix] using ho',hb.trans hb'⟩
   case measure=>simp[intOf]
  ·
   have hc:=qai H1.out hb;have hr:=R2.out.call hb;have hl:(qix b1 b2 1).length+n2≤140737488355328:=by simp[qix];have:=L1.out;omega
   have hsz:=hb.size;go_wp2_with (at_builtin;refine qcx rfl _ _ rfl w.heap.size _ _ rfl hown A2 n2 c2 b2 rfl hr hl hsz ?_)
   intro v' w' ho' hb' _;go_wp2_with fail
   go_roundw
   case rel=>exact⟨2,by omega,rfl,by simpa [qix] using ho',hb.trans hb'⟩
   case measure=>simp[intOf]
  go_wp2_with fail
  go_ret
  exact⟨_,rfl,by simpa [qix] using hown,hb⟩
theorem qja (nk ck n cc:Nat)(Ak A:Option Addr)(key b:List Nat)(w:World)(hk:Reads w w.heap.size 1 Ak nk (byv key))(hb:Reads w w.heap.size 1 A n (byv b))(hk2:∀x∈key,x<256)(hb2:∀x∈b,x<256)
 (hnk:nk≤64)(hn:n≤4294967296)(ht:Tabs w):
 Calls Tryz.prog 216 #[.slice Ak nk ck,.slice A n cc] w fun e w'=>e=.returned (.agg (byv (mac key b)).toArray)∧Below w.heap.size w w':=by
 have lk:=qb5 hk;have lb:=qb5 hb;have qk:¬(nk:Int)>64:=by omega
 obtain⟨K0,hK0⟩:=xeq (key++List.replicate (64 - nk) 0);have lK:K0.length=64:=by rw[←hK0];simp;omega
 have HKb:∀x∈K0,x<256:=by
  rw[←hK0];intro x hx;simp only[List.mem_append,List.mem_replicate]at hx;rcases hx with hx|⟨_,rfl⟩
  · exact hk2 x hx
  decide
 obtain⟨Hk,Hb,Hk2,Hb2,Ht,A2,A4,Hlk⟩:=zh8 hk hb hk2 hb2 ht hK0 lK lk;obtain⟨Hlb,AC⟩:=zh2 lb HKb;clear hk hb hk2 hb2 ht hK0 lK lk lb HKb;go_enter Tryz.func216,Tryz.ntmps216
 go_upto_region 5 with(fail)
 obtain⟨W1,hW1⟩:=eqx (((w.alloc (.cells zLD 29)).alloc (.cells #[.int .u8 0,.int .u8 0,.int .u8 0,.int .u8 0,.int .u8 0,.int .u8 0,.int .u8 0,.int .u8 0,.int .u8 0,.int .u8 0,.int .u8 0,.int .u8 0,.int .u8 0,.int .u8 0,.int .u8 0,.int .u8 0,.int .u8 0,.int .u8 0,.int .u8 0,.int .u8 0,.int .u8 0,.int .u8 0,.int .u8 0,.int .u8 0,.int .u8 0,.int .u8 0,.int .u8 0,.int .u8 0,.int .u8 0,.int .u8 0,.int .u8 0,.int .u8 0,.int .u8 0,.int .u8 0,.int .u8 0,.int .u8 0,.int .u8 0,.int .u8 0,.int .u8 0,.int .u8 0,.int .u8 0,.int .u8 0,.int .u8 0,.int .u8 0,.int .u8 0,.int .u8 0,.int .u8 0,.int .u8 0,.int .u8 0,.int .u8 0,.int .u8 0,.int .u8 0,.int .u8 0,.int .u8 0,.int .u8 0,.int .u8 0,.int .u8 0,.int .u8 0,.int .u8 0,.int .u8 0,.int .u8 0,.int .u8 0,.int .u8 0,.int .u8 0] 349)).alloc (.cells #[.int .u8 0,.int .u8 0,.int .u8 0,.int .u8 0,.int .u8 0,.int .u8 0,.int .u8 0,.int .u8 0,.int .u8 0,.int .u8 0,.int .u8 0,.int .u8 0,.int .u8 0,.int .u8 0,.int .u8 0,.int .u8 0,.int .u8 0,.int .u8 0,.int .u8 0,.int .u8 0,.int .u8 0,.int .u8 0,.int .u8 0,.int .u8 0,.int .u8 0,.int .u8 0,.int .u8 0,.int .u8 0,.int .u8 0,.int .u8 0,.int .u8 0,.int .u8 0,.int .u8 0,.int .u8 0,.int .u8 0,.int .u8 0,.int .u8 0,.int .u8 0,.int .u8 0,.int .u8 0,.int .u8 0,.int .u8 0,.int .u8 0,.int .u8 0,.int .u8 0,.int .u8 0,.int .u8 0,.int .u8 0,.int .u8 0,.int .u8 0,.int .u8 0,.int .u8 0,.int .u8 0,.int .u8 0,.int .u8 0,.int .u8 0,.int .u8 0,.int .u8 0,.int .u8 0,.int .u8 0,.int .u8 0,.int .u8 0,.int .u8 0,.int .u8 0] 349));rw[←hW1];have Z1:Blk W1 w.heap.size 29 zLD:=by rw[hW1];exact((Blk.new w _ _).alloc _).alloc _
 have I1:Blk W1 (w.heap.size+1) 349 (byv (List.replicate 64 0)).toArray:=by
  have h:=(Blk.new (w.alloc (.cells zLD 29)) 349 #[.int .u8 0,.int .u8 0,.int .u8 0,.int .u8 0,.int .u8 0,.int .u8 0,.int .u8 0,.int .u8 0,.int .u8 0,.int .u8 0,.int .u8 0,.int .u8 0,.int .u8 0,.int .u8 0,.int .u8 0,.int .u8 0,.int .u8 0,.int .u8 0,.int .u8 0,.int .u8 0,.int .u8 0,.int .u8 0,.int .u8 0,.int .u8 0,.int .u8 0,.int .u8 0,.int .u8 0,.int .u8 0,.int .u8 0,.int .u8 0,.int .u8 0,.int .u8 0,.int .u8 0,.int .u8 0,.int .u8 0,.int .u8 0,.int .u8 0,.int .u8 0,.int .u8 0,.int .u8 0,.int .u8 0,.int .u8 0,.int .u8 0,.int .u8 0,.int .u8 0,.int .u8 0,.int .u8 0,.int .u8 0,.int .u8 0,.int .u8 0,.int .u8 0,.int .u8 0,.int .u8 0,.int .u8 0,.int .u8 0,.int .u8 0,.int .u8 0,.int .u8 0,.int .u8 0,.int .u8 0,.int .u8 0,.int .u8 0,.int .u8 0,.int .u8 0]).alloc (.cells #[.int .u8 0,.int .u8 0,.int .u8 0,.int .u8 0,.int .u8 0,.int .u8 0,.int .u8 0,.int .u8 0,.int .u8 0,.int .u8 0,.int .u8 0,.int .u8 0,.int .u8 0,.int .u8 0,.int .u8 0,.int .u8 0,.int .u8 0,.int .u8 0,.int .u8 0,.int .u8 0,.int .u8 0,.int .u8 0,.int .u8 0,.int .u8 0,.int .u8 0,.int .u8 0,.int .u8 0,.int .u8 0,.int .u8 0,.int .u8 0,.int .u8 0,.int .u8 0,.int .u8 0,.int .u8 0,.int .u8 0,.int .u8 0,.int .u8 0,.int .u8 0,.int .u8 0,.int .u8 0,.int .u8 0,.int .u8 0,.int .u8 0,.int .u8 0,.int .u8 0,.int .u8 0,.int .u8 0,.int .u8 0,.int .u8 0,.int .u8 0,.int .u8 0,.int .u8 0,.int .u8 0,.int .u8 0,.int .u8 0,.int .u8 0,.int .u8 0,.int .u8 0,.int .u8 0,.int .u8 0,.int .u8 0,.int .u8 0,.int .u8 0,.int .u8 0] 349);rw[qar]at h;rw[hW1];exact h
 have O1:Blk W1 (w.heap.size+1+1) 349 (byv (List.replicate 64 0)).toArray:=by
  have h:=Blk.new ((w.alloc (.cells zLD 29)).alloc (.cells #[.int .u8 0,.int .u8 0,.int .u8 0,.int .u8 0,.int .u8 0,.int .u8 0,.int .u8 0,.int .u8 0,.int .u8 0,.int .u8 0,.int .u8 0,.int .u8 0,.int .u8 0,.int .u8 0,.int .u8 0,.int .u8 0,.int .u8 0,.int .u8 0,.int .u8 0,.int .u8 0,.int .u8 0,.int .u8 0,.int .u8 0,.int .u8 0,.int .u8 0,.int .u8 0,.int .u8 0,.int .u8 0,.int .u8 0,.int .u8 0,.int .u8 0,.int .u8 0,.int .u8 0,.int .u8 0,.int .u8 0,.int .u8 0,.int .u8 0,.int .u8 0,.int .u8 0,.int .u8 0,.int .u8 0,.int .u8 0,.int .u8 0,.int .u8 0,.int .u8 0,.int .u8 0,.int .u8 0,.int .u8 0,.int .u8 0,.int .u8 0,.int .u8 0,.int .u8 0,.int .u8 0,.int .u8 0,.int .u8 0,.int .u8 0,.int .u8 0,.int .u8 0,.int .u8 0,.int .u8 0,.int .u8 0,.int .u8 0,.int .u8 0,.int .u8 0] 349)) 349 #[.int .u8 0,.int .u8 0,.int .u8 0,.int .u8 0,.int .u8 0,.int .u8 0,.int .u8 0,.int .u8 0,.int .u8 0,.int .u8 0,.int .u8 0,.int .u8 0,.int .u8 0,.int .u8 0,.int .u8 0,.int .u8 0,.int .u8 0,.int .u8 0,.int .u8 0,.int .u8 0,.int .u8 0,.int .u8 0,.int .u8 0,.int .u8 0,.int .u8 0,.int .u8 0,.int .u8 0,.int .u8 0,.int .u8 0,.int .u8 0,.int .u8 0,.int .u8 0,.int .u8 0,.int .u8 0,.int .u8 0,.int .u8 0,.int .u8 0,.int .u8 0,.int .u8 0,.int .u8 0,.int .u8 0,.int .u8 0,.int .u8 0,.int .u8 0,.int .u8 0,.int .u8 0,.int .u8 0,.int .u8 0,.int .u8 0,.int .u8 0,.int .u8 0,.int .u8 0,.int .u8 0,.int .u8 0,.int .u8 0,.int .u8 0,.int .u8 0,.int .u8 0,.int .u8 0,.int .u8 0,.int .u8 0,.int .u8 0,.int .u8 0,.int .u8 0];rw[qar,qar]at h;rw[hW1];exact h
 have B1:Below w.heap.size w W1:=by rw[hW1];exact qah (qah (qah (tA5 _ _) _) _) _
 have L1:w.heap.size+1+1<W1.heap.size:=O1.lt;obtain⟨AW,AD,AE,AF,A5⟩:=zh5 hW1 Z1 I1 O1 B1;clear hW1 Z1 I1 O1 B1;have hpos:∀W2,Below w.heap.size w W2→0<(byv key).length→∃ad,Ak=some ad∧∀j v,(byv key)[j]? =some v→W2.cell? (ad.add j)=some v:=by
  intro W2 hb h0;rw[qat,Hlk.out]at h0;obtain⟨ad,h1,h2,h3⟩:=(Hk.out.below hb).2 h0;exact⟨ad,h1,h3⟩
 have Hpos:=zh1 hpos;clear hpos;refine wp_region_lit ?_;iterate 2 (refine qbk rfl ⟨?_,?_,?_⟩;rotate_left;(focus(go_simp;(try go_bits);try rfl));simp only[Act.put,tA0,tA1,tA2])
 refine qd5 rfl (.tmp 16) (.tmp 17) 23 23 rfl 5 (by kernel_rfl) (by kernel_rfl) _ _ _ _ _ _ rfl rfl (w.heap.size+1) 0 (byv (List.replicate 64 0)) 349 AE.out (byv key) (by rw[qat,Hlk.out];show nk=min nk 64;omega) (fun h0=>⟨rfl,Hpos.out _ A5.out h0⟩) (by rw[qat,qat,Hlk.out,List.length_replicate];omega) (qau _) ?_;intro w2 HG2 hG2;rw[show (byv key).length=nk by rw[qat,Hlk.out]];try simp only[Act.put,tA0,tA1,tA2]
 have i2:Blk w2 (w.heap.size+1) 349 (byv K0).toArray:=by
  have h:=HG2.out;rw[qd4,Hlk.out,A2.out]at h;exact h
 have o2:=AF.out.grown hG2 (by intro e;injection e with e;omega);have z2:=AD.out.grown hG2 (by intro e;injection e with e;omega);have b2:=A5.out.grown hG2 (by omega) (by intro g hg;injection hg with hg;omega);have s2:=hG2.size;obtain⟨AG,AH,AI,A0⟩:=zh4 i2 o2 z2 b2;clear i2 o2 z2 b2 hG2 HG2;go_upto_region 6 with(fail)
 refine wp_region_lit ?_;iterate 2 (refine qbk rfl ⟨?_,?_,?_⟩;rotate_left;(focus(go_simp;(try go_bits);try rfl));simp only[Act.put,tA0,tA1,tA2])
 refine qd5 rfl (.tmp 19) (.tmp 20) 23 23 rfl 5 (by kernel_rfl) (by kernel_rfl) _ _ _ _ _ _ rfl rfl (w.heap.size+1+1) 0 (byv (List.replicate 64 0)) 349 AH.out (byv key) (by rw[qat,Hlk.out];show nk=min nk 64;omega) (fun h0=>⟨rfl,Hpos.out _ A0.out h0⟩) (by rw[qat,qat,Hlk.out,List.length_replicate];omega) (qau _) ?_;intro w3 HG3 hG3;rw[show (byv key).length=nk by rw[qat,Hlk.out]];try simp only[Act.put,tA0,tA1,tA2]
 have o3:Blk w3 (w.heap.size+1+1) 349 (byv K0).toArray:=by
  have h:=HG3.out;rw[qd4,Hlk.out,A2.out]at h;exact h
 have i3:=AG.out.grown hG3 (by intro e;injection e with e;omega);have z3:=AI.out.grown hG3 (by intro e;injection e with e;omega);have b3:=A0.out.grown hG3 (by omega) (by intro g hg;injection hg with hg;omega);obtain⟨AJ,AK,AL,AM⟩:=zh4 i3 o3 z3 b3;clear i3 o3 z3 b3 hG3 HG3;go_wp2_with fail
 go_loopw [22] (fun i wr=>∃k:Nat,k≤64∧i=.int .i64 k∧Blk wr (w.heap.size+1) 349 (byv (mapK (· ^^^54) K0 k)).toArray∧Blk wr (w.heap.size+1+1) 349 (byv (mapK (· ^^^92) K0 k)).toArray∧Blk wr w.heap.size 29 zLD∧Below w.heap.size w wr) (fun i _=>64 - (intOf i).toNat)
 case atStart=>exact⟨0,by omega,rfl,by rw[qiz];exact AJ.out,by rw[qiz];exact AK.out,AL.out,AM.out⟩
 case round=>
  obtain⟨k,hk,rfl,hi,ho,hz,hb⟩:=hrel;by_cases hk64:k<64
  ·
   have qk:(k:Int)<64:=by omega
   obtain⟨x,hx⟩:∃x,K0[k]? =some x:=⟨_,tA7 (by rw[A4.out];exact hk64)⟩;have lx:x<256:=AC.out x (List.mem_of_getElem? hx);have ci:=hi.cell k;have co:=ho.cell k;rw[qj3 _ hx]at ci co;have fi:=hi.frozen k;have fo:=ho.frozen k;obtain⟨y1,hy1,oy1⟩:∃y:Nat,x^^^54=y∧bits .xor .u8 (x:Int) 54=y:=⟨_,rfl,u8_xor_nat x 54 lx (by decide)⟩;obtain⟨y2,hy2,oy2⟩:∃y:Nat,x^^^92=y∧bits .xor .u8 (x:Int) 92=y:=⟨_,rfl,u8_xor_nat x 92 lx (by decide)⟩;obtain⟨Hi,Ho,Hz,Hbb,Hx,Hy1,Hy2⟩:=zh7 hi ho hz hb hx hy1 hy2;have ne1:w.heap.size+1≠w.heap.size+1+1:=by omega
   clear hi ho hz hb hx hy1 hy2;go_wp2_with fail
   go_roundw
   case rel=>
    refine⟨k+1,by omega,by go_num,?_,?_,?_,?_⟩
    · rw[←qj4 (· ^^^54) Hx.out,Hy1.out]
      exact(Hi.out.set_ k _).far (by show w.heap.size+1≠w.heap.size+1+1;omega) _
    · rw[←qj4 (· ^^^92) Hx.out,Hy2.out]
      exact(Ho.out.far (by show w.heap.size+1+1≠w.heap.size+1;omega) _).set_ k _
    · exact(Hz.out.far (by show w.heap.size≠w.heap.size+1;omega) _).far (by show w.heap.size≠w.heap.size+1+1;omega) _
    exact(Hbb.out.setCell (by show w.heap.size≤w.heap.size+1;omega) _).setCell (by show w.heap.size≤w.heap.size+1+1;omega) _
   case measure=>simp[intOf];omega
  have qk:¬(k:Int)<64:=by omega
  have hk':k=K0.length:=by rw[A4.out];omega
  have hP:∀c,K0.map (fun x=>x^^^c)=qiy key c:=by
   intro c;unfold qiy;rw[Hlk.out,A2.out]
  rw[hk',qj1,hP]at hi ho;obtain⟨P1,hP1⟩:=xeq (qiy key 54);obtain⟨P2,hP2⟩:=xeq (qiy key 92);rw[hP1]at hi;rw[hP2]at ho;have lP1:P1.length=64:=by rw[←hP1];exact qj8 key (by rw[Hlk.out];exact hnk) _
  have lP2:P2.length=64:=by rw[←hP2];exact qj8 key (by rw[Hlk.out];exact hnk) _
  have bP1:∀x∈P1,x<256:=by rw[←hP1];exact qj7 key Hk2.out _ (by decide)
  have bP2:∀x∈P2,x<256:=by rw[←hP2];exact qj7 key Hk2.out _ (by decide)
  obtain⟨W4,rfl⟩:=eqx wr;obtain⟨W5,hW5⟩:=eqx (W4.alloc (.cells #[.slice (some ⟨w.heap.size+1,0,none⟩) 64 64,.slice A n cc] 23));have l5:W4.heap.size+1=W5.heap.size:=by rw[hW5];simp
  have x0:W5.cell? ⟨W4.heap.size,0,none⟩=some (.slice (some ⟨w.heap.size+1,0,none⟩) 64 64):=by rw[hW5,qak];rfl
  have x1:W5.cell? ⟨W4.heap.size,1,none⟩=some (.slice A n cc):=by rw[hW5,qak];rfl
  have b5:Below w.heap.size w W5:=by rw[hW5];exact qah hb _
  have i5:Blk W5 (w.heap.size+1) 349 (byv P1).toArray:=by rw[hW5];exact hi.alloc _
  have o5:Blk W5 (w.heap.size+1+1) 349 (byv P2).toArray:=by rw[hW5];exact ho.alloc _
  have z5:Blk W5 w.heap.size 29 zLD:=by rw[hW5];exact hz.alloc _
  have r5:=qdg i5 (p:=0) (by omega);rw[lP1,List.drop_zero]at r5;have J1:=qj9 W4.heap.size 64 64 n cc _ _ P1 b W5 x0 x1 r5 (Hb.out.call b5) (by omega);obtain⟨AN,A7,A8,A9,AO,AP,HlP1,HlP2⟩:=zh8 J1 b5 o5 z5 hP1 hP2 lP1 lP2;obtain⟨HbP1,HbP2,A1⟩:=zh3 bP1 bP2 (Ht.out.below b5 Ht.out.size);have l45:=hb.size;have AQ:=zh1 hW5;clear hi ho hz hb hP hk' hk64 J1 r5 i5 o5 z5 b5 x0 x1 hP1 hP2 lP1 lP2 bP1 bP2 hW5;go_wp2_with fail
  rw[←AQ.out];refine AN.out.mono ?_;rintro e w6 ⟨v6,rfl,own6,b6⟩;obtain⟨A6,n6,c6,rfl,nc6,-,r6⟩:=own6.sl;have ln6:=qb5 r6;rw[tA6,HlP1.out,Hlb.out]at ln6;have S1:=qds n6 c6 A6 (P1++b) w6 (by intro x hx;rcases List.mem_append.1 hx with h|h;exact HbP1.out x h;exact Hb2.out x h) r6 nc6 (by omega) (A1.out.below b6 A1.out.size);obtain⟨AR,A3⟩:=zh2 S1 b6;clear S1 b6 own6 r6;go_wp2_with fail
  refine AR.out.mono ?_;rintro e w7 ⟨rfl,b7⟩;obtain⟨D,hD⟩:=xeq (sha (P1++b));have lD:(byv D).length=32:=by rw[←hD,qat,qj5]
  have bD:∀x∈D,x<256:=by rw[←hD];exact qj6 _
  have oD:=qau D;obtain⟨V,hV⟩:=xeq (byv D);rw[hD];rw[hV]at lD oD ⊢;obtain⟨HD,HlD,HbD,HoD,HV⟩:=zh5 hD lD bD oD hV;clear hD lD bD oD hV;have HI:=zh1 (zI 29 HlD.out);have z8:=Blk.new w7 29 zLD;obtain⟨Hz8,Hb7⟩:=zh2 z8 b7;clear z8 b7;go_upto_region 14 with(refine zst 29 (.tmp 9) (.tmp 40) w7.heap.size V Hz8.out HI.out (by simp[HlD.out]) HoD.out ?_)
  obtain⟨w8,hw8⟩:=eqx ((w7.alloc (.cells zLD 29)).setRow w7.heap.size V.toArray);rw[←hw8];have d8:Blk w8 w7.heap.size 29 V.toArray:=by rw[hw8];exact Hz8.out.setRow _
  have b78:Below w7.heap.size w7 w8:=by rw[hw8];exact below_setRow ((tA5 _ _).alloc (tA4 _) _) (tA4 _) _
  have b58:Below W5.heap.size W5 w8:=(A3.out.trans (Hb7.out.mono A3.out.size)).trans (b78.mono (Nat.le_trans A3.out.size Hb7.out.size));have o8:=A8.out.below b58 A8.out.lt;have z8:=A9.out.below b58 A9.out.lt;have b8:Below w.heap.size w w8:=A7.out.trans (b58.mono A7.out.size);obtain⟨w9,hw9⟩:=eqx ((w8.alloc (.cells #[.slice (some ⟨w.heap.size+1+1,0,none⟩) 64 64,.slice (some ⟨w7.heap.size,0,none⟩) 32 32] 23)).drew);have s89:w8.heap.size+1=w9.heap.size:=by rw[hw9,qcy,qar]
  have x0:w9.cell? ⟨w8.heap.size,0,none⟩=some (.slice (some ⟨w.heap.size+1+1,0,none⟩) 64 64):=by rw[hw9];exact(qak w8 _ _ 0).trans rfl
  have x1:w9.cell? ⟨w8.heap.size,1,none⟩=some (.slice (some ⟨w7.heap.size,0,none⟩) 32 32):=by rw[hw9];exact(qak w8 _ _ 1).trans rfl
  have b89:Below w8.heap.size w8 w9:=by rw[hw9];exact((tA5 _ w8).alloc (tA4 _) _).drew
  have o9:=o8.below b89 o8.lt;have z9:=z8.below b89 z8.lt;have d9:=d8.below b89 d8.lt;have ro:=qdg o9 (p:=0) (by omega);rw[HlP2.out,List.drop_zero]at ro;rw[←HV.out]at d9;have rd:=qdg d9 (p:=0) (by omega);have lD32:D.length=32:=by rw[←qat,HV.out,HlD.out]
  rw[lD32,List.drop_zero]at rd;have J2:=qj9 w8.heap.size 64 64 32 32 _ _ P2 D w9 x0 x1 ro rd (by omega);have T9:=(A1.out.below b58 A1.out.size).below b89 (Nat.le_trans A1.out.size b58.size);obtain⟨AS,AA,Hb8,Hb89,Hz9,Hw9,Hl32⟩:=zh7 J2 T9 b8 b89 z9 hw9 lD32;clear J2 T9 b8 b89 z9 hw9 o9 d9 ro rd x0 x1 o8 z8 d8 b58 b78 hw8 lD32;obtain⟨S,HS⟩:∃S:World→Prop,Hid (∀w',S w'):=⟨fun _=>True,fun _=>trivial⟩;refine zrs S 2 [(0,false),(1,false),(2,true),(3,true),(4,true),(5,true)] (HS.out _) ?_;iterate 2 (refine zrd rfl rfl (fun w1 hS=>by go_simp;(try go_bits);try rfl) ?_;simp only[Act.put,tA0,tA1,tA2])
  refine qbj rfl rfl ?_;go_simp;rw[←Hw9.out];refine qbj rfl rfl ?_;go_simp;refine AS.out.mono ?_;rintro e w10 ⟨v10,rfl,own10,b10⟩;obtain⟨AT,n10,c10,rfl,nc10,-,r10⟩:=own10.sl;have ln10:=qb5 r10;rw[tA6,HlP2.out,Hl32.out]at ln10;have S2:=qds n10 c10 AT (P2++D) w10 (by intro x hx;rcases List.mem_append.1 hx with h|h;exact HbP2.out x h;exact HbD.out x h) r10 nc10 (by omega) (AA.out.below b10 AA.out.size);obtain⟨AU,Hb10⟩:=zh2 S2 b10;clear S2 b10 own10 r10;try simp only[Act.put,tA0,tA1,tA2]
  refine qbj rfl rfl ?_;go_simp;refine AU.out.mono ?_;rintro e w11 ⟨rfl,b11⟩;have hm:sha (P2++D)=mac key b:=by unfold mac;rw[←HD.out,←AO.out,←AP.out]
  rw[hm];have lM:(byv (mac key b)).length=32:=by rw[qat];exact qj5 _
  have oM:=qau (mac key b);obtain⟨M,hM⟩:=xeq (byv (mac key b));rw[hM]at lM oM ⊢;try simp only[Act.put,tA0,tA1,tA2]
  have z11:=(Hz9.out.below Hb10.out Hz9.out.lt).below b11 (Nat.lt_of_lt_of_le Hz9.out.lt Hb10.out.size);have AB:=zh1 (zI 29 lM);have b12:Below w.heap.size w w11:=((Hb8.out.trans (Hb89.out.mono Hb8.out.size)).trans (Hb10.out.mono (Nat.le_trans Hb8.out.size Hb89.out.size))).trans (b11.mono (Nat.le_trans (Nat.le_trans Hb8.out.size Hb89.out.size) Hb10.out.size));refine qbj rfl rfl ?_;refine wp_store_row 29 (.tmp 4) (.tmp 45) rfl w.heap.size M.toArray rfl rfl 29 _ z11 (by simpa using AB.out) (by simp[lM]) (by simpa using oM) ?_;refine⟨fun h=>absurd h (by omega),?_⟩;refine qbg ?_;go_wp2_with fail
  have z12:=z11.setRow M.toArray;have AV:=qap z12 0 M (fun j u h=>by simpa using h);refine zrt AV Tryz.underlying29 AB.out ⟨by rw[hM],below_setRow b12 (tA4 _) _⟩
end
section
open Go
section
variable {P : Program} {ops : Array Oper} {Q : Exit → Act → World → Prop} {md : Region.Mode} {S : World → Prop} {n : Nat}
def qjb (md:Region.Mode)(ops:Array Oper)(n:Nat):List (Nat × Bool)→Array Bool→Option (Array Bool)
 |[],listed=>some listed
 |(i,false)::r,listed=>if decide (i<n)&&(Region.ready md ops listed).contains i&&Region.free md ops listed i then qjb md ops n r (listed.setIfInBounds i true) else none
 |(i,true)::r,listed=>if decide (i<n)&&(Region.ready md ops listed==[i]) then qjb md ops n r (listed.setIfInBounds i true) else none
def qjc (P:Program)(ops:Array Oper)(Q:Exit→Act→World→Prop)(S:World→Prop)(K:Act→World→Prop):List (Nat × Bool)→Act→World→Prop
 |[],a,w=>K a w
 |(i,false)::r,a,w=>∃o v,ops[i]? =some o∧YieldsIf P ops S o v a∧qjc P ops Q S K r (a.put o.dst v) w
 |(i,true)::r,a,w=>wpOp P ops Q i (fun a' w'=>S w'∧qjc P ops Q S K r a' w') a w
theorem qjd {K:Act→World→Prop}{L':Array Bool}{fuel:Nat}(hsel:Region.noSelect ops=true)(hQ:∀c a d v w,Q (.panic c) (a.put d v) w→Q (.panic c) a w)(ht:Tails md ops n)
 (hK:∀a w,S w→HeadInv md ops n L'→K a w→wpAnyS P md ops Q S n fuel L' a w):
 ∀(r:List (Nat × Bool)) (listed:Array Bool) (a:Act) (w:World),HeadInv md ops n listed→S w→qjb md ops n r listed=some L'→qjc P ops Q S K r a w→wpAnyS P md ops Q S n (r.length+fuel) listed a w:=by
 intro r;induction r with
 |nil=>
  intro listed a w inv hS ho h;simp only[qjb,Option.some.injEq]at ho;subst ho;simpa using hK a w hS inv h
 |cons x r ih=>
  obtain⟨i,b⟩:=x;intro listed a w inv hS ho h;rw[List.length_cons,Nat.add_right_comm];cases b with
  |false=>
   simp only[qjb,Option.ite_none_right_eq_some,Bool.and_eq_true,decide_eq_true_eq]at ho;obtain⟨⟨⟨hin,hr⟩,hf⟩,ho⟩:=ho;obtain⟨o,v,hi,hy,h⟩:=h;have hr':i∈Region.ready md ops listed:=by simpa using hr
   exact qb7 hi (Region.noSelect_spec hsel) (fun c a w=>hQ c a o.dst v w) ht hin (r.length+fuel) listed a w inv (Region.free_spec hi hf) hr' hy hS (ih _ _ _ (inv.set hr' hin) hS ho h)
  |true=>
   simp only[qjb,Option.ite_none_right_eq_some,Bool.and_eq_true,decide_eq_true_eq,beq_iff_eq]at ho;obtain⟨⟨hin,hr⟩,ho⟩:=ho;have hr':i∈Region.ready md ops listed:=by rw[hr];simp
   refine⟨fun h0=>(by rw[hr]at h0;cases h0),fun j hj=>?_⟩;obtain rfl:j=i:=by rw[hr]at hj;simpa using hj
   exact wpOp_mono (fun a' w' h'=>⟨fun _=>h'.1,ih _ _ _ (inv.set hr' hin) h'.1 ho h'.2⟩) h
def puts:Act→List Nat→List Value→Act
 |a,d::ds,v::vs=>puts (a.put (some d) v) ds vs
 |a,_,_=>a
inductive OTree where
 |done
 |read (i:Nat) (t:OTree)
 |one (i:Nat) (t:OTree)
 |two (i:Nat) (t:OTree) (j:Nat) (u:OTree)
def qje (md:Region.Mode)(ops:Array Oper)(n:Nat)(L1:Array Bool):Nat→OTree→Array Bool→Bool
 |0,.done,listed=>listed==L1
 |m+1,.read i t,listed=>decide (i<n)&&(Region.ready md ops listed).contains i&&Region.free md ops listed i&&qje md ops n L1 m t (listed.setIfInBounds i true)
 |m+1,.one i t,listed=>decide (i<n)&&(Region.ready md ops listed==[i])&&qje md ops n L1 m t (listed.setIfInBounds i true)
 |m+1,.two i t j u,listed=>decide (i<n)&&decide (j<n)&&(Region.ready md ops listed==[i,j])&&qje md ops n L1 m t (listed.setIfInBounds i true)&&qje md ops n L1 m u (listed.setIfInBounds j true)
 |_,_,_=>false
def qjf (P:Program)(ops:Array Oper)(Q:Exit→Act→World→Prop)(S:World→Prop)(K:Act→World→Prop):OTree→Act→World→Prop
 |.done,a,w=>K a w
 |.read i t,a,w=>∃o v,ops[i]? =some o∧YieldsIf P ops S o v a∧qjf P ops Q S K t (a.put o.dst v) w
 |.one i t,a,w=>wpOp P ops Q i (fun a' w'=>S w'∧qjf P ops Q S K t a' w') a w
 |.two i t j u,a,w=>wpOp P ops Q i (fun a' w'=>S w'∧qjf P ops Q S K t a' w') a w∧wpOp P ops Q j (fun a' w'=>S w'∧qjf P ops Q S K u a' w') a w
theorem qjg {K:Act→World→Prop}{L1:Array Bool}{fuel:Nat}(hsel:Region.noSelect ops=true)(hQ:∀c a d v w,Q (.panic c) (a.put d v) w→Q (.panic c) a w)(ht:Tails md ops n)
 (hK:∀a w,S w→HeadInv md ops n L1→K a w→wpAnyS P md ops Q S n fuel L1 a w):
 ∀(m:Nat) (t:OTree) (listed:Array Bool) (a:Act) (w:World),HeadInv md ops n listed→S w→qje md ops n L1 m t listed=true→qjf P ops Q S K t a w→wpAnyS P md ops Q S n (m+fuel) listed a w:=by
 intro m;induction m with
 |zero=>
  intro t listed a w inv hS ho h;cases t with
  |done=>
   simp only[qje,beq_iff_eq]at ho;subst ho;simpa using hK a w hS inv h
  |_=>simp[qje]at ho
 |succ m ih=>
  intro t listed a w inv hS ho h;rw[Nat.add_right_comm];cases t with
  |done=>simp[qje]at ho
  |read i t=>
   simp only[qje,Bool.and_eq_true,decide_eq_true_eq]at ho;obtain⟨⟨⟨hin,hr⟩,hf⟩,ho⟩:=ho;obtain⟨o,v,hi,hy,h⟩:=h;have hr':i∈Region.ready md ops listed:=by simpa using hr
   exact qb7 hi (Region.noSelect_spec hsel) (fun c a w=>hQ c a o.dst v w) ht hin (m+fuel) listed a w inv (Region.free_spec hi hf) hr' hy hS (ih _ _ _ _ (inv.set hr' hin) hS ho h)
  |one i t=>
   simp only[qje,Bool.and_eq_true,decide_eq_true_eq,beq_iff_eq]at ho;obtain⟨⟨hin,hr⟩,ho⟩:=ho;have hr':i∈Region.ready md ops listed:=by rw[hr];simp
   refine⟨fun h0=>(by rw[hr]at h0;cases h0),fun j hj=>?_⟩;obtain rfl:j=i:=by rw[hr]at hj;simpa using hj
   exact wpOp_mono (fun a' w' h'=>⟨fun _=>h'.1,ih _ _ _ _ (inv.set hr' hin) h'.1 ho h'.2⟩) h
  |two i t j u=>
   simp only[qje,Bool.and_eq_true,decide_eq_true_eq,beq_iff_eq]at ho;obtain⟨⟨⟨⟨hin,hjn⟩,hr⟩,ho1⟩,ho2⟩:=ho;refine⟨fun h0=>(by rw[hr]at h0;cases h0),fun q hq=>?_⟩;have hq':=hq;rw[hr]at hq';simp only[List.mem_cons,List.not_mem_nil,or_false]at hq';rcases hq' with rfl|rfl
   · exact wpOp_mono (fun a' w' h'=>⟨fun _=>h'.1,ih _ _ _ _ (inv.set hq hin) h'.1 ho1 h'.2⟩) h.1
   exact wpOp_mono (fun a' w' h'=>⟨fun _=>h'.1,ih _ _ _ _ (inv.set hq hjn) h'.1 ho2 h'.2⟩) h.2
def qjh (P:Program)(ops:Array Oper)(Q:Exit→Act→World→Prop)(S:World→Prop)(n:Nat)(ds:List Nat)(t:OTree)(post:List (Nat × Bool))(a:Act)(w:World):Prop:=
 ∃R:List Value→World→Prop,qjf P ops Q S (fun a' w'=>∃vs,a'=puts a ds vs∧R vs w') t a w∧∀vs w',S w'→R vs w'→qba P ops Q S n post (puts a ds vs) w'
theorem qji {id:Nat}{a:Act}{w:World}(S:World→Prop)(n:Nat)(ds:List Nat)(pre:List (Nat × Bool))(m:Nat)(t:OTree)(post:List (Nat × Bool))(L0 L1:Array Bool)
 (hm:P.follows .mixedOrders=true)(hlen:(pre.length+(m+post.length)==ops.size)=true)(hsel:Region.noSelect ops=true)(ht:qbe .any ops n=true)
 (ho:qjb .any ops n pre (Array.replicate ops.size false)=some L0)(h1:qje .any ops n L1 m t L0=true)
 (hp:qb8 .any ops n post L1=true)(hQ:∀c a d v w,Q (.panic c) (a.put d v) w→Q (.panic c) a w)(hS:S w.drew)
 (h:qjc P ops Q S (qjh P ops Q S n ds t post) pre a w.drew):(Code.region id ops true).wp P Q a w:=by
 have ht':Tails .any ops n:=by
  unfold qbe at ht;simp only[Bool.or_eq_true,beq_iff_eq,Bool.and_eq_true,decide_eq_true_eq]at ht;exact ht.imp (fun h=>h) fun ⟨⟨a,b⟩,c⟩=>⟨a,b,c⟩
 have hl:pre.length+(m+post.length)=ops.size:=by simpa using hlen
 refine wp_region_any hm (qb6 (n:=n) (S:=S) _ _ _ _ ?_);rw[←hl];rw[hl];have key:=qjd (P:=P) (Q:=Q) (S:=S) (K:=qjh P ops Q S n ds t post) (L':=L0) (fuel:=m+post.length) hsel hQ ht' (fun a w hS inv hk=>by
  obtain⟨R,k1,k3⟩:=hk;refine qjg hsel hQ ht' ?_ m t L0 a w inv hS h1 k1;rintro a' w' hS' inv' ⟨vs,rfl,hR⟩;exact qbb qbc hsel hQ ht' post L1 _ _ inv' hS' hp (k3 vs w' hS' hR))
  pre (Array.replicate ops.size false) a w.drew qbd hS ho h
 rw[hl]at key;exact key
theorem qjj {K:Act→World→Prop}{a:Act}{w:World}(h:K a w):qjf P ops Q S K .done a w:=h
theorem qjk {K:Act→World→Prop}{l:List Oper}{i:Nat}{t:OTree}{a:Act}{w:World}{o:Oper}(hi:nth l i=some o)(hw:Region.wanted o (yielded l.toArray a.tmps)=true)
 (h:∃v,(∀w,S w→(execOp a.eval o).run P w=.ok (.value v) w)∧qjf P l.toArray Q S K t (a.put o.dst v) w):qjf P l.toArray Q S K (.read i t) a w:=
 h.elim fun v hv=>⟨o,v,(qb9 l i).symm.trans hi,.inl ⟨hw,hv.1⟩,hv.2⟩
theorem qjl {K:Act→World→Prop}{l:List Oper}{i:Nat}{a:Act}{w:World}{o:Oper}(hi:nth l i=some o)(hw:Region.wanted o (yielded l.toArray a.tmps)=true)
 (h:o.wp P a w K Q):wpOp P l.toArray Q i K a w:=by
 unfold wpOp;simp only[(qb9 l i).symm.trans hi,hw,if_true];exact .inl h
theorem qjm {K:Act→World→Prop}{l:List Oper}{i:Nat}{t:OTree}{a:Act}{w:World}{o:Oper}(hi:nth l i=some o)(hw:Region.wanted o (yielded l.toArray a.tmps)=true)
 (h:o.wp P a w (fun a' w'=>S w'∧qjf P l.toArray Q S K t a' w') Q):qjf P l.toArray Q S K (.one i t) a w:=qjl hi hw h
theorem qjn {K:Act→World→Prop}{l:List Oper}{i j:Nat}{t u:OTree}{a:Act}{w:World}{o o':Oper}(hi:nth l i=some o)(hw:Region.wanted o (yielded l.toArray a.tmps)=true)
 (hj:nth l j=some o')(hw':Region.wanted o' (yielded l.toArray a.tmps)=true)
 (h:o.wp P a w (fun a' w'=>S w'∧qjf P l.toArray Q S K t a' w') Q)(h':o'.wp P a w (fun a' w'=>S w'∧qjf P l.toArray Q S K u a' w') Q):qjf P l.toArray Q S K (.two i t j u) a w:=⟨qjl hi hw h,qjl hj hw' h'⟩
theorem qjo {K:Act→World→Prop}{a:Act}{w:World}(h:K a w):qjc P ops Q S K [] a w:=h
theorem qjp {K:Act→World→Prop}{l:List Oper}{i:Nat}{r:List (Nat × Bool)}{a:Act}{w:World}{o:Oper}(hi:nth l i=some o)(hw:Region.wanted o (yielded l.toArray a.tmps)=true)
 (h:∃v,(∀w,S w→(execOp a.eval o).run P w=.ok (.value v) w)∧qjc P l.toArray Q S K r (a.put o.dst v) w):qjc P l.toArray Q S K ((i,false)::r) a w:=
 h.elim fun v hv=>⟨o,v,(qb9 l i).symm.trans hi,.inl ⟨hw,hv.1⟩,hv.2⟩
end
end
section
open Go.RowKit
def qjq:List Nat:=[116,111,107,101,110]
theorem qjr:∀x∈qjq,x<256:=by decide
def qjs (root:List Nat)(id:Nat):List Nat:=mac root (qjq++be id 4)
theorem qjt (k b:List Nat):(mac k b).length=32:=qj5 _
theorem qju (k b:List Nat):∀x∈mac k b,x<256:=qj6 _
def Lies (w:World)(g:Nat)(C:Array Value):Prop:=∃fr,w.heap[g]? =some (.cells C 5 fr)
theorem Lies.lt {w:World}{g:Nat}{C:Array Value}(h:Lies w g C):g<w.heap.size:=by
 obtain⟨fr,h⟩:=h;rcases Nat.lt_or_ge g w.heap.size with hlt|hge
 · exact hlt
 rw[Array.getElem?_eq_none hge]at h;cases h
theorem Lies.below {w w':World}{g B:Nat}{C:Array Value}(h:Lies w g C)(hb:Below B w w')(hg:g<B):Lies w' g C:=by
 obtain⟨fr,h⟩:=h;exact⟨fr,(hb.block g hg).trans h⟩
theorem Lies.reads {w:World}{g:Nat}{l:List Nat}(h:Lies w g (byv l).toArray):Reads w w.heap.size 1 (some ⟨g,0,none⟩) l.length (byv l):=by
 refine⟨by simp[byv],fun _=>⟨_,rfl,h.lt,fun j u hu=>?_⟩⟩;obtain⟨fr,h⟩:=h;rw[Addr.add_mid,cell_of_row w g _ _ _ _ h];simpa using hu
theorem qjv (w:World)(g:Nat)(C:Array Value)(n c:Nat)(h:w.heap[g]? =some (.cells C 5 (0,0))):
 ∃w',(convert 23 23 (.slice (some ⟨g,0,none⟩) n c)).run Tryz.prog w=.ok (.slice (some ⟨g,0,none⟩) n c) w'∧w.grownBy w' (some g)∧Lies w' g C:=by
 have hsh:w.shape? g=some (5,C.size):=by
  unfold World.shape?;rw[h]
 refine⟨w.freeze ⟨g,C.size,none⟩ 1,?_,⟨rfl,rfl,rfl,?_,?_⟩,?_⟩
 · simp[convert,run_underlying Tryz.underlying23,run_underlying Tryz.underlying5,markStringish,hsh]
 · simp[World.freeze]
 · intro i hi hne
   unfold World.freeze;rw[if_neg (by decide)];simp only[Array.getElem?_modify];rw[if_neg (fun e=>hne (by rw[e]))]
 unfold Lies World.freeze;rw[if_neg (by decide)];simp only[Array.getElem?_modify,if_true,h,Option.map_some];exact⟨_,rfl⟩
theorem qjw {w:World}{o:Oper}{a:Act}{K:Act→World→Prop}{Q:Exit→Act→World→Prop}(x:Operand)(ho:o.op=.convert 23 23 x)(g n c:Nat)(hx:a.eval x=.slice (some ⟨g,0,none⟩) n c)
 (C:Array Value)(h:w.heap[g]? =some (.cells C 5 (0,0)))
 (k:∀w',w.grownBy w' (some g)→Lies w' g C→K (a.put o.dst (.slice (some ⟨g,0,none⟩) n c)) w'):o.wp Tryz.prog a w K Q:=by
 obtain⟨w',h1,h2,h3⟩:=qjv w g C n c h;unfold Oper.wp execOp;simp only[ho,hx,Sem.run_bind,Sem.run_pure,Result.andThen_ok,h1];exact k w' h2 h3
theorem OwnB.grown {w w':World}{base:Nat}{v:Value}{bs:List Nat}{g:Nat}(h:OwnB w base v bs)(hg:w.grownBy w' (some g))(hlt:g<base):OwnB w' base v bs:=
 World.ownsRow.kept h hg (.inr fun e=>by have:=(World.ownsRow.lt h g e).1;omega)
theorem qjx (root:List Nat)(id:Nat)(w:World)(hl:root.length=32)(hr:∀x∈root,x<256)(hid:id<4294967296)(ht:Tabs w):
 Calls Tryz.prog 192 #[.agg (byv root).toArray,.int .u32 id] w fun e w'=>e=.returned (.agg (tokv id (.slice none 0 0) (qjs root id)).toArray)∧Below w.heap.size w w':=by
 have lR:(byv root).length=32:=by rw[qat];exact hl
 obtain⟨V,hV⟩:=xeq (byv root);rw[hV]at lR ⊢;obtain⟨W0,hW0⟩:=eqx ((w.alloc (.cells V.toArray 29)).alloc (.cells zLT 31));have k0:Blk W0 w.heap.size 29 V.toArray:=by rw[hW0];exact(Blk.new w _ _).alloc _
 have z0:Blk W0 (w.heap.size+1) 31 zLT:=by
  have h:=Blk.new (w.alloc (.cells V.toArray 29)) 31 zLT;rw[qar]at h;rw[hW0];exact h
 have b0:Below w.heap.size w W0:=by rw[hW0];exact qah (qah (tA5 _ _) _) _
 have u0:IntKind.u64.wrap (id:Int)=id:=by rw[IntKind.wrap_u64];omega
 have e4:qb0 4=4:=rfl;obtain⟨A7,HV,A1,Ht,Hr,Hl⟩:=zh6 lR hV hW0 ht hr hl;clear lR hV hW0 ht hr hl;go_enter Tryz.func192,Tryz.ntmps192
 go_wp2_with fail
 rw[←A1.out];refine(qee W0).mono ?_;rintro e w1 ⟨rfl,hw1,hb1⟩;have lW:w.heap.size+1<W0.heap.size:=z0.lt;have k1:=k0.below hb1 k0.lt;have z1:=z0.below hb1 z0.lt;have b1:=b0.trans (hb1.mono b0.size);clear k0 z0 b0 hb1;go_wp2_with fail
 refine(qed _ _ id 4 [] w1 hw1 (by omega) (by simp)).mono ?_;rintro e w2 ⟨rfl,hw2,hb2,-⟩;rw[e4,List.nil_append]at hw2;have k2:=k1.below hb2 (by omega);have z2:=z1.below hb2 lW;have b2:=b1.trans (hb2.mono (by omega));clear k1 z1 b1 hb2 hw1;go_wp2_with fail
 obtain⟨S,HS⟩:∃S:World→Prop,Hid (∀w',S w'):=⟨fun _=>True,fun _=>trivial⟩;refine qji S 10 [13,14,16] [(0,false),(1,false),(4,false)] 3 (.two 2 (.two 3 (.one 5 .done) 5 (.one 3 .done)) 5 (.one 2 (.one 3 .done))) [(6,true),(7,true),(8,true),(9,false),(10,true)] #[true,true,false,false,true,false,false,false,false,false,false] #[true,true,true,true,true,true,false,false,false,false,false] (by kernel_rfl) rfl (by kernel_rfl) (by kernel_rfl) (by kernel_rfl) (by kernel_rfl) (by kernel_rfl) (fun _ _ d _ _ h=>by cases d<;>exact h) (HS.out _) ?_;iterate 3 (refine qjp rfl rfl ⟨?_,fun w1 hS=>?_,?_⟩;rotate_left;(focus(go_simp;(try go_bits);try rfl));simp only[Act.put,tA0,tA1,tA2])
 refine qjo ?_;have hwd:Wri w2.drew W0.heap.size W0.heap.size (be id 4):=hw2.kept_call (tA5 _ _).drew;have bd:Below w2.heap.size w2 w2.drew:=(tA5 _ _).drew;have hl4:(be id 4).length≤140737488355328:=by rw[qaw];omega
 clear hw2;refine⟨fun vs w'=>∃g v,vs=[.slice (some ⟨g,0,none⟩) 5 5,.slice (some ⟨g,0,none⟩) 5 5,v]∧Reads w' w'.heap.size 1 (some ⟨g,0,none⟩) 5 (byv qjq)∧OwnB w' w2.heap.size v (be id 4)∧Below w2.heap.size w2 w',?_,?_⟩
 ·
  refine qjn rfl rfl rfl rfl ?_ ?_
  ·
   go_simp;refine⟨HS.out _,?_⟩;obtain⟨w3,hw3⟩:=eqx ((w2.alloc (.cells (byv qjq).toArray 5)).drew);have e3:w3.heap[w2.heap.size]? =some (.cells (byv qjq).toArray 5 (0,0)):=by rw[hw3];exact heap_alloc_new w2 _
   have b3:Below w2.heap.size w2 w3:=by rw[hw3];exact((tA5 _ _).alloc (tA4 _) _).drew
   have s3:w3.heap.size=w2.heap.size+1:=by rw[hw3,qcy,qar]
   have h3:=hwd.kept_call (w1:=w3) ⟨b3.os,b3.tape,b3.output,b3.size,b3.block⟩;have E3:=zh1 hw3;change qjf _ _ _ _ _ _ _ ((w2.alloc (.cells (byv qjq).toArray 5)).drew);rw[←E3.out];clear hw3;refine qjn rfl rfl rfl rfl ?_ ?_
   ·
    refine qjw (.tmp 13) rfl w2.heap.size 5 5 rfl _ e3 ?_;intro w4 g4 l4;refine⟨HS.out _,?_⟩;try simp only[Act.put,tA0,tA1,tA2]
    refine qjm rfl rfl ?_;go_simp;have b4:Below w2.heap.size w2 w4:=b3.grown g4 (by omega) (by intro g hg;injection hg with hg;omega);have h4:Wri w4 W0.heap.size W0.heap.size (be id 4):=hwd.kept_call (w1:=w4) ⟨b4.os,b4.tape,b4.output,b4.size,b4.block⟩;refine(qeg _ _ _ _ h4 hl4).mono ?_;rintro e w5 ⟨v,rfl,ho,hb⟩;refine⟨HS.out _,qjj ⟨[.slice (some ⟨w2.heap.size,0,none⟩) 5 5,.slice (some ⟨w2.heap.size,0,none⟩) 5 5,v],rfl,w2.heap.size,v,rfl,(l4.below hb l4.lt).reads,?_,?_⟩⟩
    · have:=(show OwnB w5 w4.heap.size v (be id 4) from ho).mono (base':=w2.heap.size) (by have:=g4.size;omega)
      exact this
    exact((b3.grown g4 (by omega) (by intro g hg;injection hg with hg;omega))).trans (hb.mono (by have:=g4.size;omega))
   go_simp;refine(qeg _ _ _ _ h3 hl4).mono ?_;rintro e w4 ⟨v,rfl,ho,hb⟩;refine⟨HS.out _,?_⟩;try simp only[Act.put,tA0,tA1,tA2]
   refine qjm rfl rfl ?_;refine qjw (.tmp 13) rfl w2.heap.size 5 5 rfl _ ((hb.block _ (by omega)).trans e3) ?_;intro w5 g5 l5;refine⟨HS.out _,qjj ⟨[.slice (some ⟨w2.heap.size,0,none⟩) 5 5,.slice (some ⟨w2.heap.size,0,none⟩) 5 5,v],rfl,w2.heap.size,v,rfl,l5.reads,?_,?_⟩⟩
   · exact((show OwnB w4 w3.heap.size v (be id 4) from ho).grown g5 (by omega)).mono (by omega)
   exact(b3.trans (hb.mono (by omega))).grown g5 (by have:=hb.size;omega) (by intro g hg;injection hg with hg;omega)
  go_simp;refine(qeg _ _ _ _ hwd hl4).mono ?_;rintro e w3 ⟨v,rfl,ho,hb⟩;have hb':Below w2.heap.size w2 w3:=⟨hb.os,hb.tape,hb.output,hb.size,hb.block⟩;have ho':OwnB w3 w2.heap.size v (be id 4):=ho;refine⟨HS.out _,?_⟩;try simp only[Act.put,tA0,tA1,tA2]
  refine qjm rfl rfl ?_;go_simp;refine⟨HS.out _,?_⟩;have e4:(w3.alloc (.cells (byv qjq).toArray 5)).heap[w3.heap.size]? =some (.cells (byv qjq).toArray 5 (0,0)):=heap_alloc_new w3 _;refine qjm rfl rfl ?_;refine qjw (.tmp 13) rfl w3.heap.size 5 5 rfl _ e4 ?_;intro w5 g5 l5;refine⟨HS.out _,qjj ⟨[.slice (some ⟨w3.heap.size,0,none⟩) 5 5,.slice (some ⟨w3.heap.size,0,none⟩) 5 5,v],rfl,w3.heap.size,v,rfl,l5.reads,?_,?_⟩⟩
  · have h4:OwnB (w3.alloc (.cells (byv qjq).toArray 5)) w2.heap.size v (be id 4):=ho'.alloc _
    refine World.ownsRow.kept h4 g5 (.inr fun e=>?_);have:=(World.ownsRow.lt ho' _ e).2;omega
  exact(hb'.alloc hb'.size _).grown g5 (by have:=hb'.size;simp only[qar];omega) (by intro g hg;injection hg with hg;have:=hb'.size;omega)
 rintro vs w4 - ⟨g,v,rfl,r4,o4,b4⟩;simp only[puts,Act.put,tA0,tA1,tA2];obtain⟨A4,n4,c4,rfl,nc4,-,rv⟩:=o4.sl;have ln4:=qb5 rv;rw[qaw]at ln4;obtain⟨w5,hw5⟩:=eqx (w4.alloc (.cells #[.slice (some ⟨g,0,none⟩) 5 5,.slice A4 n4 c4] 23));have x0:w5.cell? ⟨w4.heap.size,0,none⟩=some (.slice (some ⟨g,0,none⟩) 5 5):=by rw[hw5];exact(qak w4 _ _ 0).trans rfl
 have x1:w5.cell? ⟨w4.heap.size,1,none⟩=some (.slice A4 n4 c4):=by rw[hw5];exact(qak w4 _ _ 1).trans rfl
 have b5:Below w4.heap.size w4 w5:=by rw[hw5];exact(tA5 _ _).alloc (tA4 _) _
 have J:=qj9 w4.heap.size 5 5 n4 c4 _ _ qjq (be id 4) w5 x0 x1 (r4.call b5) (rv.call b5) (by omega);have A8:=zh1 ln4;clear ln4;have k5:=(k2.below b4 k2.lt).below b5 (Nat.lt_of_lt_of_le k2.lt b4.size);have z5:=(z2.below b4 z2.lt).below b5 (Nat.lt_of_lt_of_le z2.lt b4.size);have b25:=(b2.trans (b4.mono b2.size)).trans (b5.mono (Nat.le_trans b2.size b4.size));have t5:Tabs w5:=Ht.out.below b25 Ht.out.size;obtain⟨HJ,K5,Z5,A0,T5,Hw5⟩:=zh6 J k5 z5 b25 t5 hw5;clear J k5 z5 b25 t5 hw5 x0 x1 r4 o4 b4 rv b5 k2 z2 b2 hwd bd;refine qbj rfl rfl ?_;go_simp;refine⟨HS.out _,?_⟩;rw[←Hw5.out];refine qbj rfl rfl ?_;go_simp;refine HJ.out.mono ?_;rintro e w6 ⟨v6,rfl,own6,b6⟩;obtain⟨A6,n6,c6,rfl,nc6,-,r6⟩:=own6.sl;have ln6:=qb5 r6;rw[tA6,qaw,show qjq.length=5 from rfl]at ln6;have k6:=K5.out.below b6 K5.out.lt;rw[←HV.out]at k6;have rk:=qdg k6 (p:=0) (by omega);rw[Hl.out,List.drop_zero]at rk;have M6:=qja 32 32 n6 c6 _ A6 root (qjq++be id 4) w6 rk r6 Hr.out (by intro x hx;rcases List.mem_append.1 hx with h|h;exact qjr x h;exact qaz _ _ x h) (by omega) (by omega) (T5.out.below b6 T5.out.size);have A2:=zh1 M6;clear ln6;have B6:=zh1 b6;clear M6 b6 own6 r6 rk k6;refine⟨HS.out _,?_⟩;try simp only[Act.put,tA0,tA1,tA2]
 refine qbj rfl rfl ?_;go_simp;refine A2.out.mono ?_;rintro e w7 ⟨rfl,b7⟩;rw[show mac root (qjq++be id 4)=qjs root id from rfl];have lM:(byv (qjs root id)).length=32:=by rw[qat];exact qjt _ _
 have oT:=qf3 id (.slice none 0 0) rfl (qjs root id);have bT:=qfr id (byv (qjs root id)) lM (qau _);have hT:(Value.int .u32 (id:Int)::Value.slice none 0 0::byv (qjs root id))=tokv id (.slice none 0 0) (qjs root id):=rfl;have lT:=qer id (.slice none 0 0) (qjs root id) (qjt _ _);rw[hT]at bT;obtain⟨T,hTT⟩:=xeq (tokv id (.slice none 0 0) (qjs root id));rw[hTT]at bT oT lT;obtain⟨D,hD⟩:=xeq (byv (qjs root id));rw[hD]at bT ⊢;obtain⟨BT,A3,HI⟩:=zh3 bT hTT (zI 31 lT);have z7:=(Z5.out.below B6.out Z5.out.lt).below b7 (Nat.lt_of_lt_of_le Z5.out.lt B6.out.size);have b77:=(A0.out.trans (B6.out.mono A0.out.size)).trans (b7.mono (Nat.le_trans A0.out.size B6.out.size));clear bT hTT hD hT lM;refine⟨HS.out _,?_⟩;try simp only[Act.put,tA0,tA1,tA2]
 refine qbh rfl rfl ⟨.agg T.toArray,fun w1 hS=>?_,?_⟩
 · exact qfq 31 _ rfl _ _ BT.out (by simp[Act.eval])
 try simp only[Act.put,tA0,tA1,tA2]
 refine qbj rfl rfl ?_;refine wp_store_row 31 (.tmp 4) (.tmp 20) rfl (w.heap.size+1) T.toArray rfl rfl 31 _ z7 (by simpa using HI.out) (by simp[lT]) (by simpa using oT) ?_;refine⟨fun h=>absurd h (by omega),?_⟩;refine qbg ?_;go_wp2_with fail
 have z8:=z7.setRow T.toArray;have A5:=qap z8 0 T (fun j u h=>by simpa using h);exact zrt A5 Tryz.underlying31 HI.out ⟨by rw[A3.out],below_setRow b77 (by omega) _⟩
end
section
open Go.RowKit
def qjy (c:Int × Nat):List Nat:=be c.1.toNat 1++be c.2 4
def qjz (t:Tok)(c:Int × Nat):Tok × Nat:=
 if qek c.1 then(if t.2.1.length<4 then((t.1,t.2.1++[c],mac t.2.2 (qjy c)),0) else(qft,4)) else(qft,1)
theorem qk1 (A:Option Addr)(n c:Nat)(l:List (Int × Nat))(w:World)(hr:Reads w w.heap.size 2 A n (cavv l))(hn:n≤8796093022208):
 Calls Tryz.prog 248 #[.slice A n c] w fun e w'=>∃v,e=.returned v∧OwnC w' w.heap.size v l∧Below w.heap.size w w':=by
 have qn:∀(w:World) (a:Option Addr) (n c n' c':Nat),(binOp .eql 27 (.slice a n c) (.slice none n' c')).run Tryz.prog w=.ok (.bool a.isNone) w:=fun w a n c n' c'=>Lib.run_eql_slice_nil w _ _ a n c n' c' Tryz.underlying27
 have hl:l.length=n:=by have:=hr.1;rw[qez]at this;omega
 cases A with
 |none=>
  obtain rfl:n=0:=by
   rcases Nat.eq_zero_or_pos n with h|h
   · exact h
   obtain⟨ad,e,_⟩:=hr.2 h;cases e
  obtain rfl:l=[]:=List.eq_nil_of_length_eq_zero hl;go_enter Tryz.func248,Tryz.ntmps248
  go_wp2
  go_ret
  exact⟨_,rfl,OwnC.nil ..,tA5 _ _⟩
 |some ad=>
  have h0:OwnC (w.alloc (.cells #[] 132)) w.heap.size (.slice (some ⟨w.heap.size,0,none⟩) 0 0) []:=OwnC.made w [] (by simp[maxLen]);have hr1:=hr.laid (.cells #[] 132);clear hl;go_enter Tryz.func248,Tryz.ntmps248
  go_wp2_with (at_builtin;refine qf0 rfl (.tmp 5) (.tmp 6) rfl w.heap.size _ [] rfl h0 (some ad) n c l rfl hr1 (by simp;omega) (by simp) ?_)
  intro v1 w1 hown1 hb1 hg1;go_wp2
  go_ret
  exact⟨_,rfl,by simpa using hown1,((tA5 _ _).alloc (tA4 _) _).trans hb1⟩
theorem qk2 (t:Tok)(A:Option Addr)(n c:Nat)(k:Int)(N:Nat)(w:World)(hr:Reads w w.heap.size 2 A n (cavv t.2.1))(hnc:n≤c)(hn:n≤8796093022000)(ht:t.2.2.length=32)(hb:∀x∈t.2.2,x<256)(hN:N<4294967296)(hT:Tabs w):
 Calls Tryz.prog 220 #[.agg (tokv t.1 (.slice A n c) t.2.2).toArray,.agg #[.int .i64 k,.int .u32 N]] w fun e w'=>∃v,e=.returned (.tuple #[.agg (tokv (qjz t (k,N)).1.1 v (qjz t (k,N)).1.2.2).toArray,.int .i64 ((qjz t (k,N)).2:Nat)])∧OwnC w' w.heap.size v (qjz t (k,N)).1.2.1∧Below w.heap.size w w':=by
 have hl:t.2.1.length=n:=by have:=hr.1;rw[qez]at this;omega
 have hlen:=qer t.1 (.slice A n c) t.2.2 ht;have d0:(tokv t.1 (.slice A n c) t.2.2)[0]? =some (.int .u32 (t.1:Int)):=rfl;have d1:(tokv t.1 (.slice A n c) t.2.2)[1]? =some (.slice A n c):=rfl;have d2:∀j u,(byv t.2.2)[j]? =some u→(tokv t.1 (.slice A n c) t.2.2)[2+j]? =some u:=fun j u h=>by
  unfold tokv;rw[show 2+j=j+1+1 by omega,List.getElem?_cons_succ,List.getElem?_cons_succ];exact h
 obtain⟨D,hD⟩:=xeq (tokv t.1 (.slice A n c) t.2.2);rw[hD]at hlen d0 d1 d2 ⊢;obtain⟨W0,hW0⟩:=eqx (((w.alloc (.cells D.toArray 31)).alloc (.cells #[.int .i64 k,.int .u32 N] 132)).alloc (.cells zLT 31));have t0:Blk W0 w.heap.size 31 D.toArray:=by rw[hW0];exact((Blk.new w _ _).alloc _).alloc _
 have v0:Blk W0 (w.heap.size+1) 132 #[.int .i64 k,.int .u32 N]:=by
  have h:=(Blk.new (w.alloc (.cells D.toArray 31)) 132 #[.int .i64 k,.int .u32 N]).alloc (.cells zLT 31);rw[qar]at h;rw[hW0];exact h
 have z0:Blk W0 (w.heap.size+1+1) 31 zLT:=by
  have h:=Blk.new ((w.alloc (.cells D.toArray 31)).alloc (.cells #[.int .i64 k,.int .u32 N] 132)) 31 zLT;rw[qar,qar]at h;rw[hW0];exact h
 have b0:Below w.heap.size w W0:=by rw[hW0];exact qah (qah (qah (tA5 _ _) _) _) _
 have lW:w.heap.size+1+1<W0.heap.size:=z0.lt;have ck:=v0.cell 0;have cs:=t0.cell 1;rw[show (#[Value.int .i64 k,.int .u32 N]:Array Value)[0]? =some (.int .i64 k) from rfl]at ck;rw[tA3,d1]at cs;obtain⟨A4,HD,A7,D0,D1,D2,T0,V0⟩:=zh8 hW0 hD hlen d0 d1 d2 t0 v0;obtain⟨Z0,B0,HR,HT,Hl⟩:=zh5 z0 b0 hr hT hl;clear hW0 hD hlen d0 d1 d2 t0 v0 z0 b0 hr hT hl;go_enter Tryz.func220,Tryz.ntmps220
 go_upto_region 1 with(fail)
 rw[←A4.out];by_cases hk:qek k=true
 ·
  go_upto_region 3 with((with_reducible refine(qeo k _).mono ?_);(rintro _ _ ⟨rfl,rfl⟩))
  by_cases h4:n<4
  ·
   have hres:qjz t (k,N)=((t.1,t.2.1++[(k,N)],mac t.2.2 (qjy (k,N))),0):=by unfold qjz;rw[if_pos hk,if_pos (by rw[Hl.out];exact h4)]
   have k13:=qel hk;have q4:¬(n:Int) ≥ 4:=by omega
   have Hres:=zh1 hres;clear hres hk ck;go_wp2_with fail
   refine(qee W0).mono ?_;rintro e w1 ⟨rfl,hw1,hb1⟩;have v1:=V0.out.below hb1 V0.out.lt;have cv0:=v1.cell 0;have cv1:=v1.cell 1;rw[show (#[Value.int .i64 k,Value.int .u32 N]:Array Value)[0]? =some (.int .i64 k) from rfl]at cv0;rw[show (#[Value.int .i64 k,Value.int .u32 N]:Array Value)[1]? =some (.int .u32 N) from rfl]at cv1;have B1:=zh1 hb1;clear v1 hb1 cs;go_wp2_with fail
   refine(qep W0.heap.size W0.heap.size [] k N w1 hw1 (by simp) k13.1 k13.2 hN).mono ?_;rintro e w2 ⟨rfl,hw2,hb2,-⟩;rw[List.nil_append,show be k.toNat 1++be N 4=qjy (k,N) from rfl]at hw2;have b2:=B0.out.trans ((B1.out.mono B0.out.size).trans (hb2.mono B0.out.size));have t2:=(T0.out.below B1.out T0.out.lt).below hb2 T0.out.lt;have v2:=(V0.out.below B1.out V0.out.lt).below hb2 V0.out.lt;have z2:=(Z0.out.below B1.out Z0.out.lt).below hb2 Z0.out.lt;have l02:W0.heap.size≤w2.heap.size:=Nat.le_trans B1.out.size hb2.size;have b02:Below W0.heap.size W0 w2:=B1.out.trans hb2;obtain⟨A0,T2,V2,Z2,W2⟩:=zh5 b2 t2 v2 z2 hw2;clear b2 t2 v2 z2 hw2 hb2 cv0 cv1 hw1 b02;go_upto_region 7 with(fail)
   obtain⟨S,HS⟩:∃S:World→Prop,Hid (∀w',S w'=Below (w.heap.size+1+1) w2 w'):=⟨_,fun _=>rfl⟩;have hle:w.heap.size+1+1≤w2.heap.size:=by omega
   have f0:∀w',S w'→w'.cell? ⟨w.heap.size,0,none⟩=some (.int .u32 (t.1:Int)):=fun w' h=>by
    rw[HS.out]at h;rw[(T2.out.below h (by omega)).cell,tA3,D0.out]
   have f1:∀w',S w'→w'.cell? ⟨w.heap.size,1,none⟩=some (.slice A n c):=fun w' h=>by
    rw[HS.out]at h;rw[(T2.out.below h (by omega)).cell,tA3,D1.out]
   have f2:∀w',S w'→w'.cell? ⟨w.heap.size+1,0,none⟩=some (.int .i64 k):=fun w' h=>by
    rw[HS.out]at h;rw[(V2.out.below h (by omega)).cell];rfl
   have f3:∀w',S w'→w'.cell? ⟨w.heap.size+1,1,none⟩=some (.int .u32 N):=fun w' h=>by
    rw[HS.out]at h;rw[(V2.out.below h (by omega)).cell];rfl
   obtain⟨F0,F1,F2,F3⟩:=zh4 f0 f1 f2 f3;clear f0 f1 f2 f3;refine qji S 16 [27,29] [(0,false),(1,false),(2,false),(3,false),(5,false),(8,false),(9,false),(10,false)] 2 (.two 4 (.one 6 .done) 6 (.one 4 .done)) [(7,true),(11,true),(12,true),(13,false),(14,true),(15,false)] #[true,true,true,true,false,true,false,false,true,true,true,false,false,false,false,false] #[true,true,true,true,true,true,true,false,true,true,true,false,false,false,false,false] (by kernel_rfl) rfl (by kernel_rfl) (by kernel_rfl) (by kernel_rfl) (by kernel_rfl) (by kernel_rfl) (fun _ _ d _ _ h=>by cases d<;>exact h) ((HS.out _).mpr (tA5 _ w2).drew) ?_;iterate 8 (refine qjp rfl rfl ⟨?_,fun w1 hS=>?_,?_⟩;rotate_left;(focus(have g0:=F0.out w1 hS;have g1:=F1.out w1 hS;have g2:=F2.out w1 hS;have g3:=F3.out w1 hS;go_simp;try rfl));simp only[Act.put,tA0,tA1,tA2])
   refine qjo ?_;have hrd:Reads w2.drew w2.drew.heap.size 2 A n (cavv t.2.1):=(HR.out.call A0.out).drewS;have hwd:Wri w2.drew W0.heap.size W0.heap.size (qjy (k,N)):=W2.out.kept_call (tA5 _ _).drew;refine⟨fun vs w'=>∃v g,vs=[v,.slice (some ⟨g,0,none⟩) 1 1]∧OwnC w' w2.heap.size v t.2.1∧Reads w' w'.heap.size 2 (some ⟨g,0,none⟩) 1 (cavv [(k,N)])∧Below w2.heap.size w2 w',?_,?_⟩
   ·
    refine qjn rfl rfl rfl rfl ?_ ?_
    ·
     go_simp;refine(qk1 A n c t.2.1 w2.drew hrd (by omega)).mono ?_;rintro e w3 ⟨v,rfl,ho,hb⟩;have hb':Below w2.heap.size w2 w3:=⟨hb.os,hb.tape,hb.output,hb.size,hb.block⟩;have ho':OwnC w3 w2.heap.size v t.2.1:=ho;refine⟨(HS.out _).mpr (hb'.mono hle),?_⟩;try simp only[Act.put,tA0,tA1,tA2]
     refine qjm rfl rfl ?_;go_simp;refine⟨(HS.out _).mpr ((hb'.alloc hb'.size _).mono hle),?_⟩;refine qjj ⟨[v,.slice (some ⟨w3.heap.size,0,none⟩) 1 1],rfl,v,w3.heap.size,rfl,ho'.alloc _,?_,hb'.alloc hb'.size _⟩;have:=Reads.new w3 132 [.int .i64 k,.int .u32 N] 2 1 rfl;rw[qar];exact this
    go_simp;obtain⟨w3,hw3⟩:=eqx ((w2.alloc (.cells #[.int .i64 k,.int .u32 N] 132)).drew);have b3:Below w2.heap.size w2 w3:=by rw[hw3];exact((tA5 _ _).alloc (tA4 _) _).drew
    have s3:w3.heap.size=w2.heap.size+1:=by rw[hw3,qcy,qar]
    have r3:Reads w3 w3.heap.size 2 (some ⟨w2.heap.size,0,none⟩) 1 (cavv [(k,N)]):=by
     have:=Reads.new w2 132 [.int .i64 k,.int .u32 N] 2 1 rfl;rw[s3,hw3];exact this
    have E3:=zh1 hw3;rw[←E3.out];clear hw3;refine⟨(HS.out _).mpr (b3.mono hle),?_⟩;refine qjm rfl rfl ?_;go_simp;refine(qk1 A n c t.2.1 w3 ((HR.out.call A0.out).call b3) (by omega)).mono ?_;rintro e w4 ⟨v,rfl,ho,hb⟩;refine⟨(HS.out _).mpr ((b3.trans (hb.mono (by omega))).mono hle),?_⟩;refine qjj ⟨[v,.slice (some ⟨w2.heap.size,0,none⟩) 1 1],rfl,v,w2.heap.size,rfl,ho.mono (by omega),r3.call hb,b3.trans (hb.mono (by omega))⟩
   rintro vs w4 - ⟨v,g,rfl,o4,r4,b4⟩;simp only[puts,Act.put,tA0,tA1,tA2];refine qbj rfl rfl ?_;refine qfv (.tmp 27) (.tmp 29) rfl w2.heap.size v t.2.1 rfl o4 _ 1 1 [(k,N)] rfl r4 (by have:=Hl.out;omega) b4.size ?_;intro v5 w5 o5 b5 _;have b25:=b4.trans b5;refine⟨fun _=>(HS.out _).mpr (b25.mono hle),?_⟩;try simp only[Act.put,tA0,tA1,tA2]
   obtain⟨A5,n5,c5,rfl,-,-,-,-⟩:=o5.sl;have hw5:Wri w5 W0.heap.size W0.heap.size (qjy (k,N)):=W2.out.kept_call b25;obtain⟨O5,A3⟩:=zh2 o5 b25;have lc:(qjy (k,N)).length=5:=by simp[qjy,qaw]
   clear o5 b25 o4 r4 b4 b5;refine qbj rfl rfl ?_;go_simp;refine(qeg _ _ _ w5 hw5 (by rw[lc];omega)).mono ?_;rintro e w6 ⟨v6,rfl,own6,b6⟩;obtain⟨A6,n6,c6,rfl,nc6,-,r6⟩:=(show OwnB w6 w5.heap.size v6 (qjy (k,N)) from own6).sl;have ln6:=qb5 r6;rw[lc]at ln6;have b26:=A3.out.trans (b6.mono A3.out.size);have t6:=T2.out.below b26 T2.out.lt;have rk:=qfw (n:=32) t6 (by rw[qat];exact ht) D2.out;have M:=qja 32 32 n6 c6 _ A6 t.2.2 (qjy (k,N)) w6 rk r6 hb (by intro x hx;rcases List.mem_append.1 hx with h|h<;>exact qaz _ _ x h) (by omega) (by omega) ((HT.out.below A0.out HT.out.size).below b26 (Nat.le_trans HT.out.size A0.out.size));obtain⟨HM,A1,O6⟩:=zh3 M b26 (O5.out.kept b6);clear M b26 t6 rk ln6 own6 r6 b6 hw5;refine⟨(HS.out _).mpr (A1.out.mono hle),?_⟩;try simp only[Act.put,tA0,tA1,tA2]
   refine qbj rfl rfl ?_;go_simp;refine HM.out.mono ?_;rintro e w7 ⟨rfl,b7⟩;obtain⟨T,hT⟩:=xeq (tokv t.1 (.slice A5 n5 c5) (mac t.2.2 (qjy (k,N))));have lT:=qer t.1 (.slice A5 n5 c5) (mac t.2.2 (qjy (k,N))) (qjt _ _);have oT:=qf3 t.1 (.slice A5 n5 c5) rfl (mac t.2.2 (qjy (k,N)));have bT:=qfs t.1 A5 n5 c5 (byv (mac t.2.2 (qjy (k,N)))) (by rw[qat];exact qjt _ _);rw[show (Value.int .u32 (t.1:Int)::Value.slice A5 n5 c5::byv (mac t.2.2 (qjy (k,N))))=tokv t.1 (.slice A5 n5 c5) (mac t.2.2 (qjy (k,N))) from rfl]at bT;rw[hT]at lT oT bT;obtain⟨E,hE⟩:=xeq (byv (mac t.2.2 (qjy (k,N))));rw[hE]at bT ⊢;obtain⟨BT,A8⟩:=zh2 bT hT;have b27:=A1.out.trans (b7.mono A1.out.size);have z7:=Z2.out.below b27 Z2.out.lt;obtain⟨O7,HI,A2⟩:=zh3 (O6.out.kept b7) (zI 31 lT) b27;clear bT hT hE b7 b27;refine⟨(HS.out _).mpr (A2.out.mono hle),?_⟩;try simp only[Act.put,tA0,tA1,tA2]
   refine qbh rfl rfl ⟨.agg T.toArray,fun w1 hS=>?_,?_⟩
   · exact qfq 31 _ rfl _ _ BT.out (by simp[Act.eval])
   try simp only[Act.put,tA0,tA1,tA2]
   refine qbj rfl rfl ?_;refine wp_store_row 31 (.tmp 4) (.tmp 36) rfl (w.heap.size+1+1) T.toArray rfl rfl 31 _ z7 (by simpa using HI.out) (by simp[lT]) (by simpa using oT) ?_;have b8:Below w.heap.size w (w7.setRow (w.heap.size+1+1) T.toArray):=below_setRow (A0.out.trans (A2.out.mono A0.out.size)) (by omega) _;have O8:OwnC (w7.setRow (w.heap.size+1+1) T.toArray) w2.heap.size (.slice A5 n5 c5) (t.2.1++[(k,N)]):=
    World.ownsRow.kept O7.out (qam _ _ _) (.inr (qa3 O7.out z7 (by decide)))
   have z8:=z7.setRow T.toArray;refine⟨fun _=>(HS.out _).mpr (below_setRow (A2.out.mono hle) (tA4 _) _),?_⟩;try simp only[Act.put,tA0,tA1,tA2]
   iterate 1 (refine zrd rfl rfl (fun w1 hS=>by go_simp;(try go_bits);try rfl) ?_;simp only[Act.put,tA0,tA1,tA2])
   refine qbg ?_;go_wp2_with fail
   refine bodyPost_ret (qfu rfl rfl (qfx z8 lT)) rfl ⟨.slice A5 n5 c5,by rw[Hres.out,←A8.out];rfl,by rw[Hres.out];exact O8.mono (by have:=A0.out.size;omega),b8⟩
  have hres:qjz t (k,N)=(qft,4):=by unfold qjz;rw[if_pos hk,if_neg (by rw[Hl.out];exact h4)]
  have q4:(n:Int) ≥ 4:=by omega
  have Hres:=zh1 hres;clear hres hk ck;go_wp2_with (refine wpList_store_row rfl 31 (.tmp 4) (.tmp 18) rfl (w.heap.size+1+1) qfy.toArray rfl rfl 31 _ Z0.out qg0 qg1 qfz ?_)
  have z8:Blk _ _ 31 qfy.toArray:=Z0.out.setRow qfy.toArray;refine bodyPost_ret (qfu rfl rfl (qfx z8 rfl)) rfl ⟨.slice none 0 0,by rw[Hres.out];rfl,by rw[Hres.out];exact OwnC.nil _ _,?_⟩;exact below_setRow B0.out (by omega) _
 have hk':qek k=false:=by simpa using hk
 have hres:qjz t (k,N)=(qft,1):=by unfold qjz;rw[if_neg hk]
 have Hres:=zh1 hres;clear hres hk;go_wp2_with (first
  |((with_reducible refine(qeo k _).mono ?_);(rintro _ _ ⟨rfl,rfl⟩))
  |(refine wpList_store_row rfl 31 (.tmp 4) (.tmp 12) rfl (w.heap.size+1+1) qfy.toArray rfl rfl 31 _ Z0.out qg0 qg1 qfz ?_))
 have z8:Blk _ _ 31 qfy.toArray:=Z0.out.setRow qfy.toArray;refine bodyPost_ret (qfu rfl rfl (qfx z8 rfl)) rfl ⟨.slice none 0 0,by rw[Hres.out];rfl,by rw[Hres.out];exact OwnC.nil _ _,?_⟩;exact below_setRow B0.out (by omega) _
end
end Go.Proofs.YthomgopipiomhaaGreatDoor

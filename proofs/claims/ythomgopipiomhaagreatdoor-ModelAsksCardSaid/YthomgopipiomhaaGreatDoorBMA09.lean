/- Lemmas. -/
import Derived.Test.YthomgopipiomhaaGreatDoorBMA04
namespace Go.Proofs.YthomgopipiomhaaGreatDoor
open Go.RowKit
set_option linter.unusedVariables false
set_option linter.unusedSimpArgs false
set_option maxRecDepth 100000
set_option maxHeartbeats 32000000
theorem xd5 (op tree:Int)(clock:Nat)(t:Tok)(A:Option Addr)(n c:Nat)(w:World)(hr:Reads w w.heap.size 2 A n (cavv t.2.1))(hnc:n≤c)(hn:n≤8796093022000)(ht:t.Ok)(hop:op<9223372036854775808)(htr:tree<9223372036854775808):
 Zc 22 #[.agg (tokv t.1 (.slice A n c) t.2.2).toArray,.int .i64 op,.int .i64 tree,.int .u64 clock] w fun e w'=>e=.returned (.bool (qkh op tree clock t.2.1))∧Below w.heap.size w w':=by
 have hl:t.2.1.length=n:=by have:=hr.1;rw[qea]at this;omega
 have d1:(tokv t.1 (.slice A n c) t.2.2)[1]? =some (.slice A n c):=rfl;obtain⟨D,hD⟩:=xeq (tokv t.1 (.slice A n c) t.2.2);rw[hD]at d1 ⊢;obtain⟨W0,hW0⟩:=eqx (w.alloc (.cells D.toArray 31));have c1:W0.cell? ⟨w.heap.size,1,none⟩=some (.slice A n c):=by rw[hW0,qak,tA3,d1]
 have B0:Below w.heap.size w W0:=by rw[hW0];exact qah (tA5 _ _) _
 obtain⟨HR,Hl,HtO,A0,A1⟩:=zh5 hr hl ht B0 hW0;clear hD d1 hr hl ht B0 hW0;go_enter Tryz.func22,Tryz.ntmps22
 go_upto_region 2 with(fail)
 rw[←A1.o];go_loopw [9,10,11] (fun i _ _ wr=>∃k:Nat,k≤n∧i=.int .i64 k∧Hid (qkh op tree clock (t.2.1.take k)=true)∧wr=W0) (fun i _ _ _=>n - (intOf i).toNat)
 case atStart=>exact⟨0,by omega,rfl,by rw[List.take_zero];exact rfl,rfl⟩
 case round=>
  obtain⟨k,hk,rfl,hg,rfl⟩:=hrel;by_cases hkn:k<n
  ·
   have qk:(k:Int)<n:=zo;obtain⟨cav,hcav⟩:∃c,t.2.1[k]? =some c:=⟨_,tA7 (by rw[Hl.o];exact hkn)⟩;obtain⟨gb,go,hA,hgb,hrd⟩:=HR.mid zo zo;obtain⟨e0,e1⟩:=qdf t.2.1 k cav hcav;have m0:=(A0.cell (p:=⟨gb,go+k*2,none⟩) hgb).trans (hrd _ _ e0);have m1:=(A0.cell (p:=⟨gb,go+(k*2+1),none⟩) hgb).trans (hrd _ _ e1);subst hA;obtain⟨kk,NN⟩:=cav;dsimp only at m0 m1;rw[←Nat.add_assoc]at m1;have HC:=zh1 hcav;have hN:NN<4294967296:=HtO.o.2.1 (kk,NN) (tB2 HC.o);have n1:IntKind.i64.wrap (NN:Int)=NN:=tBb _ zo;have n2:IntKind.u64.wrap (NN:Int)=NN:=tBa _ zo;clear e0 e1 hrd hcav;by_cases q1:kk=1
   ·
    subst q1;by_cases ht0:tree<0
    · have Hh:Hid (qkg op tree clock (1,NN)=false):=by
       have:¬tree=(NN:Int):=zo;simp[Hid,qkg,this]
      have ht1:¬tree ≥ 0:=zo;have ht2:¬0≤tree:=zo;go_wp2
      go_ret
      exact⟨by rw[qki HC.o Hh.o];rfl,A0.o⟩
    have ht1:tree ≥ 0:=zo;have ht2:0≤tree:=zo;have ht3:IntKind.u64.wrap tree=tree:=tBa _ zo;by_cases hh:tree=NN
    · have Hh:Hid (qkg op tree clock (1,NN)=true):=by simp[Hid,qkg,hh]
      subst hh;go_wp2
      go_roundw
      case rel=>exact⟨k+1,by omega,by go_num,qkj HC.o hg.o Hh.o,by trivial⟩
      case measure=>simp[intOf];omega
    have Hh:Hid (qkg op tree clock (1,NN)=false):=by simp[Hid,qkg,hh]
    have hh2:(tree==(NN:Int))=false:=by simpa using hh
    go_wp2
    go_ret
    exact⟨by rw[qki HC.o Hh.o];rfl,A0.o⟩
   by_cases q2:kk=2
   ·
    subst q2;by_cases ho0:op<0
    · have Hh:Hid (qkg op tree clock (2,NN)=true):=by
       have:op<(NN:Int):=zo;simp[Hid,qkg,this]
      go_wp2
      go_roundw
      case rel=>exact⟨k+1,by omega,by go_num,qkj HC.o hg.o Hh.o,by trivial⟩
      case measure=>simp[intOf];omega
    have ho3:IntKind.u64.wrap op=op:=tBa _ zo;by_cases hh:op<NN
    · have Hh:Hid (qkg op tree clock (2,NN)=true):=by simp[Hid,qkg,hh]
      go_wp2
      go_roundw
      case rel=>exact⟨k+1,by omega,by go_num,qkj HC.o hg.o Hh.o,by trivial⟩
      case measure=>simp[intOf];omega
    have Hh:Hid (qkg op tree clock (2,NN)=false):=by simp[Hid,qkg,hh]
    go_wp2
    go_ret
    exact⟨by rw[qki HC.o Hh.o];rfl,A0.o⟩
   by_cases q3:kk=3
   ·
    subst q3;by_cases hh:clock<NN
    · have Hh:Hid (qkg op tree clock (3,NN)=true):=by simp[Hid,qkg,hh]
      have hh':(clock:Int)<NN:=zo;go_wp2
      go_roundw
      case rel=>exact⟨k+1,by omega,by go_num,qkj HC.o hg.o Hh.o,by trivial⟩
      case measure=>simp[intOf];omega
    have Hh:Hid (qkg op tree clock (3,NN)=false):=by simp[Hid,qkg,hh]
    have hh':¬(clock:Int)<NN:=zo;go_wp2
    go_ret
    exact⟨by rw[qki HC.o Hh.o];rfl,A0.o⟩
   have Hh:Hid (qkg op tree clock (kk,NN)=false):=by simp[Hid,qkg,q1,q2,q3]
   go_wp2
   go_ret
   exact⟨by rw[qki HC.o Hh.o];rfl,A0.o⟩
  have qk:¬(k:Int)<n:=zo;have hg':=hg.o;rw[tB5 (by rw[Hl.o];omega)]at hg';have HG:=zh1 hg';clear hg';go_wp2
  go_ret
  exact⟨by rw[HG.o];rfl,A0.o⟩
end Go.Proofs.YthomgopipiomhaaGreatDoor

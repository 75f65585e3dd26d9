/-
  Lemmas for ModelNumbers, shortened by program.
-/
import Derived.Test.YthomgopipiomhaaGreatDoorBMN05
import Derived.Test.YthomgopipiomhaaGreatDoorBMN06
import Derived.Deep.AppendSrc
namespace Go.Proofs.YthomgopipiomhaaGreatDoor
set_option linter.unusedVariables false
set_option linter.unusedSimpArgs false
set_option maxRecDepth 100000
set_option maxHeartbeats 32000000
section
open Go.RowKit
def qk3 (x:Tok):List (Int × Nat)→Option Tok
 |[]=>some x
 |c::l=>if (qjz x c).2=0 then qk3 (qjz x c).1 l else none
theorem qk4 (x:Tok)(a b:List (Int × Nat)):qk3 x (a++b)=(qk3 x a).bind fun y=>qk3 y b:=by
 induction a generalizing x with
 |nil=>rfl
 |cons c a ih=>
  simp only[List.cons_append,qk3];split
  · exact ih _
  rfl
def qk5 (root:List Nat)(id:Nat):Tok:=(id,[],qjs root id)
def qk6 (root:List Nat)(t:Tok):Bool:=
 match qk3 (qk5 root t.1) t.2.1 with
 |none=>false
 |some x=>x.2.2==t.2.2
theorem qk7 {x0 x:Tok}{l:List (Int × Nat)}{k:Nat}{c:Int × Nat}(h:qk3 x0 (l.take k)=some x)(hc:l[k]? =some c)(h0:(qjz x c).2=0):qk3 x0 (l.take (k+1))=some (qjz x c).1:=by
 rw[List.take_add_one,hc,qk4,h];simp[qk3,h0]
theorem qk9 {x0 x:Tok}{l:List (Int × Nat)}{k:Nat}{c:Int × Nat}(h:qk3 x0 (l.take k)=some x)(hc:l[k]? =some c)(h0:(qjz x c).2≠0):qk3 x0 l=none:=by
 obtain⟨hk,e⟩:=List.getElem?_eq_some_iff.1 hc;rw[←List.take_append_drop k l,qk4,h,List.drop_eq_getElem_cons hk,e];simp[qk3,h0]
theorem qka (root:List Nat)(id:Nat)(h:id<4294967296):(qk5 root id).Ok:=⟨h,fun c hc=>(nomatch hc),qjt _ _,qju _ _⟩
theorem qkb (t:Tok)(c:Int × Nat)(ht:t.Ok)(hc:c.2<4294967296):(qjz t c).1.Ok:=by
 have hz:qft.Ok:=⟨by decide,fun c hc=>(nomatch hc),by simp[qft],by intro x hx;simp[qft]at hx;omega⟩;unfold qjz;split
 ·
  split
  · refine⟨ht.1,?_,qjt _ _,qju _ _⟩
    intro d hd;simp only[List.mem_append,List.mem_singleton]at hd;rcases hd with hd|rfl
    · exact ht.2.1 d hd
    exact hc
  exact hz
 exact hz
theorem qkc (t:Tok)(c:Int × Nat):(qjz t c).1.2.1.length≤t.2.1.length+1:=by
 unfold qjz;split
 · split
   · simp
   simp[qft]
 simp[qft]
theorem qkd (root:List Nat)(t:Tok)(A:Option Addr)(n c:Nat)(w:World)(hrl:root.length=32)(hrb:∀x∈root,x<256)(hr:Reads w w.heap.size 2 A n (cavv t.2.1))(hnc:n≤c)(hn:n≤8796093022000)(ht:t.Ok)(hT:Tabs w):
 Calls Tryz.prog 178 #[.agg (byv root).toArray,.agg (tokv t.1 (.slice A n c) t.2.2).toArray] w fun e w'=>e=.returned (.bool (qk6 root t))∧Below w.heap.size w w':=by
 have hl:t.2.1.length=n:=by have:=hr.1;rw[qez]at this;omega
 have hlen:=qer t.1 (.slice A n c) t.2.2 ht.2.2.1;have d0:(tokv t.1 (.slice A n c) t.2.2)[0]? =some (.int .u32 (t.1:Int)):=rfl;have d1:(tokv t.1 (.slice A n c) t.2.2)[1]? =some (.slice A n c):=rfl;have d2:∀j u,(byv t.2.2)[j]? =some u→(tokv t.1 (.slice A n c) t.2.2)[2+j]? =some u:=fun j u h=>by
  unfold tokv;rw[show 2+j=j+1+1 by omega,List.getElem?_cons_succ,List.getElem?_cons_succ];exact h
 obtain⟨D,hD⟩:=xeq (tokv t.1 (.slice A n c) t.2.2);have lR:(byv root).length=32:=by rw[qat];exact hrl
 have M0:=fun w h=>qjx root t.1 w hrl hrb ht.1 h
 obtain⟨V,hV⟩:=xeq (byv root);rw[hD]at hlen d0 d1 d2 ⊢;rw[hV]at lR ⊢;simp only[hV]at M0;obtain⟨W0,hW0⟩:=eqx ((w.alloc (.cells V.toArray 29)).alloc (.cells D.toArray 31));have k0:Blk W0 w.heap.size 29 V.toArray:=by rw[hW0];exact(Blk.new w _ _).alloc _
 have t0:Blk W0 (w.heap.size+1) 31 D.toArray:=by
  have h:=Blk.new (w.alloc (.cells V.toArray 29)) 31 D.toArray;rw[qar]at h;rw[hW0];exact h
 have b0:Below w.heap.size w W0:=by rw[hW0];exact qah (qah (tA5 _ _) _) _
 have lW:w.heap.size+1<W0.heap.size:=t0.lt;have c0:=t0.cell 0;rw[tA3,d0]at c0;obtain⟨A7,HI,A8,A9,D1,D2,K0,T0⟩:=zh8 (qap k0 0 V (fun j u h=>by simpa using h)) (zI 29 lR) hW0 hlen d1 d2 k0 t0;obtain⟨B0,HR,HT,Hl⟩:=zh4 b0 hr hT hl;obtain⟨HM,HtO,AH⟩:=zh3 (M0 W0 (HT.out.below b0 HT.out.size)) ht lR;clear hW0 hlen d1 d2 k0 t0 b0 hr hT hl M0 d0 hD hV ht lR;go_enter Tryz.func178,Tryz.ntmps178
 go_upto_region 1 with(fail)
 rw[←A8.out];go_wp2_with (refine qaq rfl 29 (.tmp 2) rfl w.heap.size 0 rfl V _ A7.out Tryz.underlying29 rfl HI.out ?_)
 refine HM.out.mono ?_;rintro e w1 ⟨rfl,b1⟩;obtain⟨L0,hL0⟩:=xeq (tokv t.1 (.slice none 0 0) (qjs root t.1));have lL0:L0.length=34:=by rw[←hL0];exact qer _ _ _ (qjt _ _)
 have oL0:∀v∈L0,v.oneCell'=true:=by rw[←hL0];exact qf3 _ _ rfl _
 rw[hL0];have z1:=Blk.new w1 31 zLT;obtain⟨Z1,AA,AB,AC⟩:=zh4 z1 lL0 oL0 (show (Tryz.prog.info? 31).map (·.size)=some L0.toArray.size by rw[List.size_toArray,lL0];exact Tryz.tok_info);have b1':=b1;obtain⟨B1,AD⟩:=zh2 b1 hL0;clear z1 lL0 oL0 b1 hL0 c0;have t1:=T0.out.below B1.out T0.out.lt;have c1:=(Blk.alloc t1 (.cells zLT 31)).setRow_far (g:=w1.heap.size) (by have:=t1.lt;omega) L0.toArray |>.cell 1;rw[tA3,D1.out]at c1;go_wp2_with (refine wpList_store_row rfl 31 (.tmp 5) (.tmp 12) rfl w1.heap.size L0.toArray rfl rfl 31 _ Z1.out AC.out (by simp[AA.out]) (by simpa using AB.out) ?_)
 obtain⟨W2,hW2⟩:=eqx ((w1.alloc (.cells zLT 31)).setRow w1.heap.size L0.toArray);rw[←hW2];have x2:Blk W2 w1.heap.size 31 L0.toArray:=by rw[hW2];exact Z1.out.setRow _
 have t2:Blk W2 (w.heap.size+1) 31 D.toArray:=by rw[hW2];exact(Blk.alloc t1 _).setRow_far (by have:=t1.lt;omega) _
 have b2:Below w.heap.size w W2:=by rw[hW2];exact below_setRow ((B0.out.trans (B1.out.mono B0.out.size)).alloc (Nat.le_trans B0.out.size B1.out.size) _) (Nat.le_trans B0.out.size B1.out.size) _
 have lX:w.heap.size+1<w1.heap.size:=t1.lt;obtain⟨X2,T2,B2⟩:=zh3 x2 t2 b2;clear hW2 x2 t2 b2 t1 c1 b1';obtain⟨X,hX⟩:=xeq w1.heap.size;rw[hX]at X2 lX ⊢;go_loopw [16] (fun i wr=>∃(k:Nat) (x:Tok) (v:Value),k≤n∧i=.int .i64 k∧Hid (qk3 (qk5 root t.1) (t.2.1.take k)=some x)∧Hid x.Ok∧x.2.1.length≤k∧Hid (Blk wr X 31 (tokv x.1 v x.2.2).toArray)∧Hid (OwnC wr w.heap.size v x.2.1)∧Hid (Below w.heap.size w wr)∧Hid (Blk wr (w.heap.size+1) 31 D.toArray)) (fun i _=>n - (intOf i).toNat)
 case atStart=>exact⟨0,qk5 root t.1,.slice none 0 0,by omega,rfl,by rw[List.take_zero];exact rfl,qka root t.1 HtO.out.1,by simp[qk5],by rw[show tokv (qk5 root t.1).1 (.slice none 0 0) (qk5 root t.1).2.2=L0 from AD.out];exact X2.out,OwnC.nil _ _,B2.out,T2.out⟩
 case round=>
  obtain⟨k,x,v,hk,rfl,hg,hxo,hxl,hX,hv,hb,htb⟩:=hrel;by_cases hkn:k<n
  ·
   have qk:(k:Int)<n:=by omega
   obtain⟨cav,hcav⟩:∃c,t.2.1[k]? =some c:=⟨_,tA7 (by rw[Hl.out];exact hkn)⟩;obtain⟨gb,go,hA,hgb,hrd⟩:=HR.out.mid (by omega) (by omega);obtain⟨e0,e1⟩:=qeu t.2.1 k cav hcav;have m0:=(hb.out.cell (p:=⟨gb,go+k*2,none⟩) hgb).trans (hrd _ _ e0);have m1:=(hb.out.cell (p:=⟨gb,go+(k*2+1),none⟩) hgb).trans (hrd _ _ e1);subst hA;obtain⟨kk,NN⟩:=cav;dsimp only at m0 m1;rw[←Nat.add_assoc]at m1;have HC:=zh1 hcav;clear e0 e1 hrd hcav;go_upto_region 6 with(fail)
   obtain⟨W3,hW3⟩:=eqx (wr.alloc (.cells #[.int .i64 kk,.int .u32 NN] 132));rw[←hW3];have x3:Blk W3 X 31 (tokv x.1 v x.2.2).toArray:=by rw[hW3];exact hX.out.alloc _
   have v3:Blk W3 wr.heap.size 132 #[.int .i64 kk,.int .u32 NN]:=by rw[hW3];exact Blk.new _ _ _
   have o3:OwnC W3 w.heap.size v x.2.1:=by rw[hW3];exact hv.out.alloc _
   have b3:Below w.heap.size w W3:=by rw[hW3];exact qah hb.out _
   have tb3:Blk W3 (w.heap.size+1) 31 D.toArray:=by rw[hW3];exact htb.out.alloc _
   have cv0:=v3.cell 0;have cv1:=v3.cell 1;rw[show (#[Value.int .i64 kk,Value.int .u32 NN]:Array Value)[0]? =some (.int .i64 kk) from rfl]at cv0;rw[show (#[Value.int .i64 kk,Value.int .u32 NN]:Array Value)[1]? =some (.int .u32 NN) from rfl]at cv1;clear hW3;obtain⟨Ax,nx,cx,rfl,enx,ncx,-,rx⟩:=o3.sl;have hN:NN<4294967296:=HtO.out.2.1 (kk,NN) (List.mem_of_getElem? HC.out);have N3:=qk2 x Ax nx cx kk NN W3 rx ncx (by omega) hxo.out.2.2.1 hxo.out.2.2.2 hN (HT.out.below b3 HT.out.size);have lX3:=qer x.1 (.slice Ax nx cx) x.2.2 hxo.out.2.2.1;obtain⟨E,hE⟩:=xeq (tokv x.1 (.slice Ax nx cx) x.2.2);rw[hE]at x3 N3 lX3;obtain⟨AE,AF,AG,X3,O3,B3,A1,AI⟩:=zh8 (qap x3 0 E (fun j u h=>by simpa using h)) (zI 31 lX3) N3 x3 o3 b3 tb3 hN;obtain⟨A2,Hok',Hlen'⟩:=zh3 lX3 (qkb x (kk,NN) hxo.out hN) (qkc x (kk,NN));clear N3 x3 o3 b3 tb3 hN lX3 hE enx ncx rx hX hv v3 m0 m1;go_wp2_with (refine qaq rfl 31 (.tmp 5) rfl X 0 rfl E _ AE.out Tryz.underlying31 rfl AF.out ?_)
   refine AG.out.mono ?_;rintro e w4 ⟨v4,rfl,o4,b4⟩;obtain⟨r,hr⟩:=xeq (qjz x (kk,NN));rw[hr]at Hok' Hlen' o4 ⊢;obtain⟨A4,n4,c4,rfl,-,-,-,-⟩:=o4.sl;have hlF:=qer r.1.1 (.slice A4 n4 c4) r.1.2.2 Hok'.out.2.2.1;have hoF:=qf3 r.1.1 (.slice A4 n4 c4) rfl r.1.2.2;obtain⟨F,hF⟩:=xeq (tokv r.1.1 (.slice A4 n4 c4) r.1.2.2);rw[hF]at hlF hoF ⊢;have x4:=X3.out.below b4 X3.out.lt;obtain⟨A3,A5,A6,HF,X4,O4,B4,A0⟩:=zh8 (show (Tryz.prog.info? 31).map (·.size)=some F.toArray.size by rw[List.size_toArray,hlF];exact Tryz.tok_info) hlF hoF hF x4 o4 b4 hr;clear hlF hoF hF x4 o4 b4 hr;obtain⟨q,hq⟩:=xeq r.2;rw[hq];have HQ:=zh1 hq;clear hq cv0 cv1;by_cases h0:q=0
   ·
    have h0':(q:Int)=0:=by omega
    go_wp2_with (refine wpList_store_row rfl 31 (.tmp 5) (.tmp 24) rfl X F.toArray rfl rfl 31 _ X4.out A3.out (by simp[A5.out,A2.out]) (by simpa using A6.out) ?_)
    go_roundw
    case rel=>
     have hr0:(qjz x (kk,NN)).2=0:=by rw[A0.out,HQ.out,h0]
     refine⟨k+1,r.1,.slice A4 n4 c4,by omega,by go_num,?_,Hok'.out,by have:=Hlen'.out;omega,?_,?_,?_,?_⟩
     · have:=qk7 hg.out HC.out hr0
       rw[A0.out]at this;exact this
     · rw[HF.out]
       exact X4.out.setRow _
     · exact OwnC.mono (World.ownsRow.kept O4.out (qam _ _ _) (.inr (qa3 O4.out X4.out (by decide)))) B3.out.size
     · exact below_setRow (B3.out.trans (B4.out.mono B3.out.size)) (by omega) _
     exact(A1.out.below B4.out A1.out.lt).setRow_far (by omega) _
    case measure=>simp[intOf];omega
   have h0':¬(q:Int)=0:=by omega
   go_wp2_with (refine wpList_store_row rfl 31 (.tmp 5) (.tmp 24) rfl X F.toArray rfl rfl 31 _ X4.out A3.out (by simp[A5.out,A2.out]) (by simpa using A6.out) ?_)
   have hf:qk6 root t=false:=by
    unfold qk6;rw[qk9 hg.out HC.out (by rw[A0.out,HQ.out];exact h0)]
   go_ret
   exact⟨by rw[hf];rfl,below_setRow (B3.out.trans (B4.out.mono B3.out.size)) (by omega) _⟩
  have qk:¬(k:Int)<n:=by omega
  have hg':=hg.out;rw[List.take_of_length_le (by rw[Hl.out];omega)]at hg';have hgen:qk6 root t=(x.2.2==t.2.2):=by
   unfold qk6;rw[hg']
  have qe:=fun w=>qf1 w x.2.2 t.2.2 hxo.out.2.2.1 HtO.out.2.2.1 hxo.out.2.2.2 HtO.out.2.2.2
  have l1:(byv x.2.2).length=32:=by rw[qat];exact hxo.out.2.2.1
  have l2:(byv t.2.2).length=32:=by rw[qat];exact HtO.out.2.2.1
  have r1:wr.rangeAt X 2 (byv x.2.2):=qap hX.out 2 (byv x.2.2) (fun j u h=>by
   unfold tokv;rw[show 2+j=j+1+1 by omega,List.getElem?_cons_succ,List.getElem?_cons_succ];exact h)
  have r2:wr.rangeAt (w.heap.size+1) 2 (byv t.2.2):=qap htb.out 2 (byv t.2.2) D2.out;obtain⟨U1,hU1⟩:=xeq (byv x.2.2);obtain⟨U2,hU2⟩:=xeq (byv t.2.2);rw[hU1]at l1 r1;rw[hU2]at l2 r2;simp only[hU1,hU2]at qe;obtain⟨R1,R2,I1,I2,HG⟩:=zh5 r1 r2 (zI 29 l1) (zI 29 l2) hgen;clear hg' hgen l1 l2 r1 r2 hU1 hU2;go_wp2_with (first
   |(refine qaq rfl 29 (.tmp 29) rfl X 2 rfl U1 _ R1.out Tryz.underlying29 rfl I1.out ?_)
   |(refine qaq rfl 29 (.tmp 31) rfl (w.heap.size+1) 2 rfl U2 _ R2.out Tryz.underlying29 rfl I2.out ?_))
  go_ret
  exact⟨by rw[HG.out];rfl,hb.out⟩
end
section
open Go.RowKit
def qke (op tree:Int)(clock:Nat)(c:Int × Nat):Bool:=
 if c.1=1 then tree==(c.2:Int) else if c.1=2 then decide (op<(c.2:Int)) else if c.1=3 then decide (clock<c.2) else false
def qkf (op tree:Int)(clock:Nat)(l:List (Int × Nat)):Bool:=l.all (qke op tree clock)
theorem qkg {op tree:Int}{clock:Nat}{l:List (Int × Nat)}{k:Nat}{c:Int × Nat}(hc:l[k]? =some c)(h:qke op tree clock c=false):qkf op tree clock l=false:=by
 unfold qkf;rw[List.all_eq_false];exact⟨c,List.mem_of_getElem? hc,by simp[h]⟩
theorem qkh {op tree:Int}{clock:Nat}{l:List (Int × Nat)}{k:Nat}{c:Int × Nat}(hc:l[k]? =some c)(ha:qkf op tree clock (l.take k)=true)(h:qke op tree clock c=true):qkf op tree clock (l.take (k+1))=true:=by
 unfold qkf at ha ⊢;rw[List.take_add_one,hc];simp[List.all_append,ha,h]
theorem qki (op tree:Int)(clock:Nat)(t:Tok)(A:Option Addr)(n c:Nat)(w:World)(hr:Reads w w.heap.size 2 A n (cavv t.2.1))(hnc:n≤c)(hn:n≤8796093022000)(ht:t.Ok):
 Calls Tryz.prog 180 #[.agg (tokv t.1 (.slice A n c) t.2.2).toArray,.int .i64 op,.int .i64 tree,.int .u64 clock] w fun e w'=>e=.returned (.bool (qkf op tree clock t.2.1))∧Below w.heap.size w w':=by
 have hl:t.2.1.length=n:=by have:=hr.1;rw[qez]at this;omega
 have d1:(tokv t.1 (.slice A n c) t.2.2)[1]? =some (.slice A n c):=rfl;obtain⟨D,hD⟩:=xeq (tokv t.1 (.slice A n c) t.2.2);rw[hD]at d1 ⊢;have c1:(w.alloc (.cells D.toArray 31)).cell? ⟨w.heap.size,1,none⟩=some (.slice A n c):=by rw[qak,tA3,d1]
 obtain⟨HR,Hl,HtO⟩:=zh3 hr hl ht;clear hD d1 hr hl ht;go_enter Tryz.func180,Tryz.ntmps180
 go_wp2_with fail
 go_loopw [15] (fun i wr=>∃k:Nat,k≤n∧i=.int .i64 k∧Hid (qkf op tree clock (t.2.1.take k)=true)∧Hid (Below w.heap.size w wr)) (fun i _=>n - (intOf i).toNat)
 case atStart=>exact⟨0,by omega,rfl,by rw[List.take_zero];exact rfl,qah (tA5 _ _) _⟩
 case round=>
  obtain⟨k,hk,rfl,hg,hb⟩:=hrel;by_cases hkn:k<n
  ·
   have qk:(k:Int)<n:=by omega
   obtain⟨cav,hcav⟩:∃c,t.2.1[k]? =some c:=⟨_,tA7 (by rw[Hl.out];exact hkn)⟩;obtain⟨gb,go,hA,hgb,hrd⟩:=HR.out.mid (by omega) (by omega);obtain⟨e0,e1⟩:=qeu t.2.1 k cav hcav;have m0:=(hb.out.cell (p:=⟨gb,go+k*2,none⟩) hgb).trans (hrd _ _ e0);have m1:=(hb.out.cell (p:=⟨gb,go+(k*2+1),none⟩) hgb).trans (hrd _ _ e1);subst hA;obtain⟨kk,NN⟩:=cav;dsimp only at m0 m1;rw[←Nat.add_assoc]at m1;have HC:=zh1 hcav;have hN:NN<4294967296:=HtO.out.2.1 (kk,NN) (List.mem_of_getElem? HC.out);have n1:IntKind.i64.wrap (NN:Int)=NN:=IntWalk.i64_in _ (by omega);have n2:IntKind.u64.wrap (NN:Int)=NN:=IntWalk.u64_in _ (by omega);clear e0 e1 hrd hcav c1;by_cases q1:kk=1
   ·
    subst q1;by_cases hh:tree=NN
    · have Hh:Hid (qke op tree clock (1,NN)=true):=by simp[Hid,qke,hh]
      subst hh;go_wp2_with fail
      go_roundw
      case rel=>exact⟨k+1,by omega,by go_num,qkh HC.out hg.out Hh.out,qah hb.out _⟩
      case measure=>simp[intOf];omega
    have Hh:Hid (qke op tree clock (1,NN)=false):=by simp[Hid,qke,hh]
    have hh2:(tree==(NN:Int))=false:=by simpa using hh
    go_wp2_with fail
    go_ret
    exact⟨by rw[qkg HC.out Hh.out];rfl,qah hb.out _⟩
   by_cases q2:kk=2
   ·
    subst q2;by_cases hh:op<NN
    · have Hh:Hid (qke op tree clock (2,NN)=true):=by simp[Hid,qke,hh]
      go_wp2_with fail
      go_roundw
      case rel=>exact⟨k+1,by omega,by go_num,qkh HC.out hg.out Hh.out,qah hb.out _⟩
      case measure=>simp[intOf];omega
    have Hh:Hid (qke op tree clock (2,NN)=false):=by simp[Hid,qke,hh]
    go_wp2_with fail
    go_ret
    exact⟨by rw[qkg HC.out Hh.out];rfl,qah hb.out _⟩
   by_cases q3:kk=3
   ·
    subst q3;by_cases hh:clock<NN
    · have Hh:Hid (qke op tree clock (3,NN)=true):=by simp[Hid,qke,hh]
      have hh':(clock:Int)<NN:=by omega
      go_wp2_with fail
      go_roundw
      case rel=>exact⟨k+1,by omega,by go_num,qkh HC.out hg.out Hh.out,qah hb.out _⟩
      case measure=>simp[intOf];omega
    have Hh:Hid (qke op tree clock (3,NN)=false):=by simp[Hid,qke,hh]
    have hh':¬(clock:Int)<NN:=by omega
    go_wp2_with fail
    go_ret
    exact⟨by rw[qkg HC.out Hh.out];rfl,qah hb.out _⟩
   have Hh:Hid (qke op tree clock (kk,NN)=false):=by simp[Hid,qke,q1,q2,q3]
   go_wp2_with fail
   go_ret
   exact⟨by rw[qkg HC.out Hh.out];rfl,qah hb.out _⟩
  have qk:¬(k:Int)<n:=by omega
  have hg':=hg.out;rw[List.take_of_length_le (by rw[Hl.out];omega)]at hg';have HG:=zh1 hg';clear hg';go_wp2_with fail
  go_ret
  exact⟨by rw[HG.out];rfl,hb.out⟩
end
section
open Go.RowKit
def mayB (f t w:Int):Bool:=if f=1 then t==2||t==3 else if f=2 then t==1||t==3||t==4 else if f=3 then t==2||(t==4&&w==0) else false
def qkj (s:Int):Int:=if s=1 then 3 else if s=3 then 2 else if s=2 then 1 else 0
def qkk (s:Int):Bool:=s==1||s==3
def qkl (s:Int):Bool:=s==1
theorem qkm {a b:Bool}(h:a=b):Ending.returned (.bool a)=.returned (.bool b):=by rw[h]
theorem qkn {k:IntKind}{a b:Int}(h:a=b):Ending.returned (.int k a)=.returned (.int k b):=by rw[h]
theorem qko (f t n:Int)(w:World):
 Calls Tryz.prog 191 #[.int .i64 f,.int .i64 t,.int .i64 n] w fun e w'=>e=.returned (.bool (mayB f t n))∧w=w':=by
 go_enter Tryz.func191,Tryz.ntmps191
 go_wp2
 all_goals (go_ret;exact⟨qkm (by simp_all [mayB]),rfl⟩)
theorem qkp (s:Int)(w:World):
 Calls Tryz.prog 145 #[.int .i64 s] w fun e w'=>e=.returned (.int .i64 (qkj s))∧w=w':=by
 go_enter Tryz.func145,Tryz.ntmps145
 go_wp2
 all_goals (go_ret;exact⟨qkn (by simp_all [qkj]),rfl⟩)
theorem qkq (s:Int):decide (2≤qkj s)=qkk s:=by
 unfold qkj qkk;by_cases h1:s=1<;>by_cases h2:s=2<;>by_cases h3:s=3<;>simp_all
theorem qkr (s:Int):decide (3≤qkj s)=qkl s:=by
 unfold qkj qkl;by_cases h1:s=1<;>by_cases h2:s=2<;>by_cases h3:s=3<;>simp_all
theorem qks (s:Int)(w:World):
 Calls Tryz.prog 62 #[.int .i64 s] w fun e w'=>e=.returned (.bool (qkk s))∧w=w':=by
 go_enter Tryz.func62,Tryz.ntmps62
 go_wp2_with (go_at_call 145;refine(qkp _ _).mono ?_;rintro e w' ⟨rfl,rfl⟩)
 go_ret
 exact⟨qkm (qkq s),rfl⟩
theorem qkt (s:Int)(w:World):
 Calls Tryz.prog 187 #[.int .i64 s] w fun e w'=>e=.returned (.bool (qkl s))∧w=w':=by
 go_enter Tryz.func187,Tryz.ntmps187
 go_wp2_with (go_at_call 145;refine(qkp _ _).mono ?_;rintro e w' ⟨rfl,rfl⟩)
 go_ret
 exact⟨qkm (qkr s),rfl⟩
end
section
open Go.RowKit
def inv (xs:List Int):List Value:=xs.map (Value.int .i64)
section
variable {w w' : World} {base : Nat} {v : Value} {xs : List Int}
end
end
section
open Go.RowKit
def qku (op:Int):Bool:=decide (6≤op∧op≤12)
theorem qkv (op:Int)(w:World):
 Calls Tryz.prog 55 #[.int .i64 op] w fun e w'=>e=.returned (.bool (qku op))∧w=w':=by
 go_enter Tryz.func55,Tryz.ntmps55
 go_wp2
 all_goals
  go_ret
  exact⟨qen (by simp_all [qku];try omega),rfl⟩
end
section
open Go.RowKit
open Go.Extern.Stop (cell)
theorem qkw {P:Program}{t:TypeId}{fs:Array Field}(h:P.underlying t=some (.struct fs)):P.fieldsOf t=fs:=by
 unfold Program.fieldsOf;rw[h]
theorem qkx {P:Program}{w:World}{d:Nat}{xs ys:Array Value}:(Op.eqFields d xs ys []).run P w=.ok true w:=by simp[Op.eqFields]
theorem qky {P:Program}{w:World}{d:Nat}{xs ys:Array Value}{f:Field}{fs:List Field}{a b:Value}{r s:Bool}(hn:f.name≠ "_")(pa:(part f.type xs f.offset).run P w=.ok a w)(pb:(part f.type ys f.offset).run P w=.ok b w)
 (pe:(Op.equalIn d f.type a b).run P w=.ok r w)(hr:(Op.eqFields d xs ys fs).run P w=.ok s w):(Op.eqFields d xs ys (f::fs)).run P w=.ok (r&&s) w:=by
 simp only[Op.eqFields,hn,ne_eq,not_false_eq_true,if_true,Sem.run_bind,pa,pb,pe,Result.andThen_ok];cases r<;>simp[hr]
theorem Tryz.hd_size:∀w:World,(sizeOf 53).run Tryz.prog w=.ok 36 w:=fun w=>by kernel_rfl
theorem Tryz.dg_size:∀w:World,(sizeOf 29).run Tryz.prog w=.ok 32 w:=fun w=>by kernel_rfl
def qkz (h:Hd):List Value:=.int .i64 h.tree::.int .i64 h.epoch::.int .u64 (h.size:Int)::.int .u64 (h.clock:Int)::byv h.root
theorem ql0 (h:Hd):hdv h=qkz h++byv h.tag:=rfl
theorem ql1 (h:Hd)(ho:h.root.length=32):(qkz h).length=36:=by simp[qkz,qat,ho]
theorem ql2 (h:Hd)(ho:h.Ok):(hdv h).length=68:=by rw[ql0,tA6,ql1 h ho.rootl,qat,ho.tagl]
theorem ql3 (w:World)(h:Hd)(ho:h.Ok):(part 53 (hdv h).toArray 0).run Tryz.prog w=.ok (.agg (qkz h).toArray) w:=by
 have e:List.take 36 (hdv h)=qkz h:=by
  rw[ql0];exact List.take_left' (ql1 h ho.rootl)
 simp[part,isAgg,run_underlying Tryz.underlying53,Tryz.hd_size,e]
theorem ql4 (w:World)(h:Hd)(ho:h.Ok):(part 29 (hdv h).toArray 36).run Tryz.prog w=.ok (.agg (byv h.tag).toArray) w:=by
 have e:List.take 32 (List.drop 36 (hdv h))=byv h.tag:=by
  rw[ql0,List.drop_left' (ql1 h ho.rootl)];exact List.take_of_length_le (by rw[qat,ho.tagl];omega)
 simp[part,isAgg,run_underlying Tryz.underlying29,Tryz.dg_size,e]
theorem ql5 (w:World)(h:Hd)(ho:h.Ok):(part 29 (qkz h).toArray 4).run Tryz.prog w=.ok (.agg (byv h.root).toArray) w:=by
 have e:List.take 32 (List.drop 4 (qkz h))=byv h.root:=by
  show (byv h.root).take 32=_;exact List.take_of_length_le (by rw[qat,ho.rootl];omega)
 simp[part,isAgg,run_underlying Tryz.underlying29,Tryz.dg_size,e]
theorem ql6 (w:World)(h:Hd)(i:Nat)(v:Value)(t:TypeId)(k:IntKind)(hu:(Tryz.prog).underlying t=some (.int k))(hv:(qkz h)[i]? =some v):(part t (qkz h).toArray i).run Tryz.prog w=.ok v w:=by
 simp[part,isAgg,run_underlying hu,hv]
theorem ql7 (d:Nat)(w:World)(a b:List Nat)(ha:a.length=32)(hb:b.length=32)(ha':∀x∈a,x<256)(hb':∀x∈b,x<256):
 (Op.equalIn (d+2) 29 (.agg (byv a).toArray) (.agg (byv b).toArray)).run Tryz.prog w=.ok (a==b) w:=by
 have e:∀l:List Nat,(∀x∈l,x<256)→byv l=(l.map UInt8.ofNat).map cell:=by
  intro l hl;unfold byv;rw[List.map_map];refine List.map_congr_left fun x hx=>?_
  have:=hl x hx;simp[cell,Function.comp,UInt8.toNat_ofNat,Nat.mod_eq_of_lt this]
 have key:(List.map UInt8.ofNat a==List.map UInt8.ofNat b)=(a==b):=by
  rw[Bool.eq_iff_iff];simp only[beq_iff_eq];constructor
  ·
   have key:∀(a b:List Nat),(∀x∈a,x<256)→(∀x∈b,x<256)→a.map UInt8.ofNat=b.map UInt8.ofNat→a=b:=by
    intro a;induction a with
    |nil=>intro b _ _ h;simpa using h.symm
    |cons x a ih=>
     intro b ha hb h;cases b with
     |nil=>simp at h
     |cons y b=>
      simp only[List.map_cons,List.cons.injEq]at h;have h1:=congrArg UInt8.toNat h.1;have hx:=ha x (by simp);have hy:=hb y (by simp);simp[UInt8.toNat_ofNat,Nat.mod_eq_of_lt hx,Nat.mod_eq_of_lt hy]at h1;rw[h1,ih b (fun z hz=>ha z (by simp[hz])) (fun z hz=>hb z (by simp[hz])) h.2]
   exact key a b ha' hb'
  rintro rfl;rfl
 rw[e a ha',e b hb',run_equalIn_bytes w d 29 5 32 Tryz.underlying29 Tryz.underlying5 (fun _=>by kernel_rfl) _ _ (by simpa using ha) (by simpa using hb),key]
theorem ql8 (d:Nat)(w:World)(h k:Hd)(ho:h.Ok)(ko:k.Ok):
 (Op.equalIn (d+3) 53 (.agg (qkz h).toArray) (.agg (qkz k).toArray)).run Tryz.prog w=.ok (decide (h.tree=k.tree∧h.epoch=k.epoch∧h.size=k.size∧h.clock=k.clock∧h.root=k.root)) w:=by
 have hf:=qkw (P:=Tryz.prog) Tryz.underlying53;have hp:(Tryz.prog).stoodInHeld 53=false:=by kernel_rfl
 have hu:(Tryz.prog).underlying 53=some (.struct ((Tryz.prog).fieldsOf 53)):=by rw[hf];exact Tryz.underlying53
 rw[run_equalIn_struct w (d+2) 53 _ _ hu hp,hf];have e1:=fun x y=>run_equalIn_int w (d+1) 3 .i64 .i64 x y Tryz.underlying3
 have e2:=fun x y=>run_equalIn_int w (d+1) 32 .u64 .u64 x y Tryz.underlying32
 have e3:=ql7 d w h.root k.root ho.rootl ko.rootl ho.rootb ko.rootb;have p0:=fun h:Hd=>ql6 w h 0 (.int .i64 h.tree) 3 .i64 Tryz.underlying3 rfl
 have p1:=fun h:Hd=>ql6 w h 1 (.int .i64 h.epoch) 3 .i64 Tryz.underlying3 rfl
 have p2:=fun h:Hd=>ql6 w h 2 (.int .u64 (h.size:Int)) 32 .u64 Tryz.underlying32 rfl
 have p3:=fun h:Hd=>ql6 w h 3 (.int .u64 (h.clock:Int)) 32 .u64 Tryz.underlying32 rfl
 have p4:=ql5 w h ho;have p5:=ql5 w k ko;refine(qky (by decide) (p0 h) (p0 k) (e1 _ _) (qky (by decide) (p1 h) (p1 k) (e1 _ _) (qky (by decide) (p2 h) (p2 k) (e2 _ _) (qky (by decide) (p3 h) (p3 k) (e2 _ _) (qky (by decide) p4 p5 e3 qkx))))).trans ?_;congr 1
 rw[Bool.eq_iff_iff];simp only[Bool.and_eq_true,beq_iff_eq,decide_eq_true_eq,and_true,Int.natCast_inj]
theorem ql9 (d:Nat)(w:World)(h k:Hd)(ho:h.Ok)(ko:k.Ok):
 (Op.equalIn (d+4) 55 (.agg (hdv h).toArray) (.agg (hdv k).toArray)).run Tryz.prog w=.ok (decide (h=k)) w:=by
 have hf:=qkw (P:=Tryz.prog) Tryz.underlying55;have hp:(Tryz.prog).stoodInHeld 55=false:=by kernel_rfl
 have hu:(Tryz.prog).underlying 55=some (.struct ((Tryz.prog).fieldsOf 55)):=by rw[hf];exact Tryz.underlying55
 rw[run_equalIn_struct w (d+3) 55 _ _ hu hp,hf];have e1:=ql8 d w h k ho ko;have e3:=ql7 (d+1) w h.tag k.tag ho.tagl ko.tagl ho.tagb ko.tagb;have p0:=fun (h:Hd) ho=>ql3 w h ho
 have p1:=fun (h:Hd) ho=>ql4 w h ho
 refine(qky (by decide) (p0 h ho) (p0 k ko) e1 (qky (by decide) (p1 h ho) (p1 k ko) e3 qkx)).trans ?_;congr 1
 rw[Bool.eq_iff_iff];simp only[Bool.and_eq_true,beq_iff_eq,decide_eq_true_eq,and_true];have hiff:h=k ↔ (h.tree=k.tree∧h.epoch=k.epoch∧h.size=k.size∧h.clock=k.clock∧h.root=k.root)∧h.tag=k.tag:=by
  obtain⟨a,b,c,d,e,f⟩:=h;obtain⟨a',b',c',d',e',f'⟩:=k;simp only[Hd.mk.injEq];simp only[and_assoc]
 exact hiff.symm
theorem qla (w:World)(h k:Hd)(ho:h.Ok)(ko:k.Ok):(binOp .eql 55 (.agg (hdv h).toArray) (.agg (hdv k).toArray)).run Tryz.prog w=.ok (.bool (decide (h=k))) w:=by
 rw[run_eql_struct,ql9 9996 w h k ho ko];rfl
theorem qlb (w:World)(h k:Hd)(ho:h.Ok)(ko:k.Ok):(binOp .neq 55 (.agg (hdv h).toArray) (.agg (hdv k).toArray)).run Tryz.prog w=.ok (.bool !(decide (h=k))) w:=by
 rw[run_neq_struct,ql9 9996 w h k ho ko];rfl
end
section
open Go.RowKit
def digv (l:List (List Nat)):List Value:=l.flatMap byv
theorem qlc:∀(l:List (List Nat)) (_:∀d∈l,d.length=32) (k:Nat) (d:List Nat) (_:l[k]? =some d),∀j u,(byv d)[j]? =some u→(digv l)[k*32+j]? =some u
 |[],_,k,d,hk,_,_,_=>by simp at hk
 |x::l,h,0,d,hk,j,u,hu=>by
  simp at hk;subst hk;have hj:j<(byv x).length:=by
   rcases Nat.lt_or_ge j (byv x).length with h1|h1
   · exact h1
   rw[List.getElem?_eq_none h1]at hu;cases hu
  unfold digv;rw[List.flatMap_cons,Nat.zero_mul,Nat.zero_add,List.getElem?_append_left hj];exact hu
 |x::l,h,k+1,d,hk,j,u,hu=>by
  have hx:(byv x).length=32:=by rw[qat,h x (by simp)]
  have:=qlc l (fun y hy=>h y (List.mem_cons_of_mem _ hy)) k d (by simpa using hk) j u hu;unfold digv at this ⊢;rw[List.flatMap_cons,List.getElem?_append_right (by rw[hx];omega),hx,show (k+1)*32+j - 32=k*32+j from by omega];exact this
theorem qld:(byv (List.replicate 32 0)).toArray=zLD:=rfl
theorem qle:Tryz.prog.built 29 []=some (zLD:Array Value):=by kernel_rfl
theorem qlf:Tryz.prog.built 55 []=some (hdv Hd.zero).toArray:=by kernel_rfl
theorem Tryz.sig_info:(Tryz.prog.info? 55).map (·.size)=some 68:=by kernel_rfl
theorem Tryz.hd_info:(Tryz.prog.info? 53).map (·.size)=some 36:=by kernel_rfl
theorem Tryz.rsp_info:(Tryz.prog.info? 57).map (·.size)=some 106:=by kernel_rfl
theorem qlg (R:Rsp)(bv hv cav:Value)(h:R.Ok):(rspv R bv hv cav).length=106:=by
 unfold rspv;simp only[List.length_cons,tA6];rw[ql2 R.hd h.hd,qer _ _ _ h.tok.2.2.1]
theorem qlh (R:Rsp)(bv hv cav:Value)(h:R.Ok):∀j u,(hdv R.hd)[j]? =some u→(rspv R bv hv cav)[4+j]? =some u:=by
 intro j u hu;have hj:j<(hdv R.hd).length:=by
  rcases Nat.lt_or_ge j (hdv R.hd).length with h1|h1
  · exact h1
  rw[List.getElem?_eq_none h1]at hu;cases hu
 unfold rspv;rw[show 4+j=j+1+1+1+1 from by omega];simp only[List.getElem?_cons_succ];rw[List.getElem?_append_left hj];exact hu
theorem qli (R:Rsp)(bv hv cav:Value)(h:R.Ok):∀j u,(tokv R.tok.1 cav R.tok.2.2)[j]? =some u→(rspv R bv hv cav)[72+j]? =some u:=by
 intro j u hu;unfold rspv;rw[show 72+j=68+j+1+1+1+1 from by omega];simp only[List.getElem?_cons_succ];rw[List.getElem?_append_right (by rw[ql2 R.hd h.hd];omega),ql2 R.hd h.hd,show 68+j - 68=j from by omega];exact hu
theorem qlj {α:Type}{a b:List α}:∀(j:Nat) (u:α),a[j]? =some u→(a++b)[j]? =some u:=by
 intro j u hu;have hj:j<a.length:=by
  rcases Nat.lt_or_ge j a.length with h1|h1
  · exact h1
  rw[List.getElem?_eq_none h1]at hu;cases hu
 rw[List.getElem?_append_left hj];exact hu
theorem qlk {α:Type}{a b:List α}(n:Nat)(hn:a.length=n):∀(j:Nat) (u:α),b[j]? =some u→(a++b)[n+j]? =some u:=by
 intro j u hu;rw[List.getElem?_append_right (by omega),hn,show n+j - n=j from by omega];exact hu
theorem qll (h:Hd):∀u∈qkz h,u.oneCell'=true:=by
 intro u hu;unfold qkz at hu;simp only[List.mem_cons]at hu;rcases hu with rfl|rfl|rfl|rfl|hu
 · rfl
 · rfl
 · rfl
 · rfl
 exact qau _ u hu
theorem qlm (h:Hd):∀u∈hdv h,u.oneCell'=true:=by
 intro u hu;rw[ql0]at hu;rcases List.mem_append.1 hu with hu|hu
 · exact qll h u hu
 exact qau _ u hu
theorem qln
 (id:Nat)(A:Option Addr)(n c:Nat)(tag:List Nat)(w:World)(ht:tag.length=32)(htb:∀b∈tag,b<256):
  Calls Tryz.prog 75 #[.agg (tokv id (.slice A n c) tag).toArray] w fun e w'=>e=.returned (.bool (decide (id=0∧n=0∧tag=List.replicate 32 0)))∧Below w.heap.size w w':=by
  have hdig:=fun w=>qf1 w tag (List.replicate 32 0) ht (by simp) htb (by intro x hx;simp at hx;omega)
  rw[qld]at hdig;have d0:(tokv id (.slice A n c) tag)[0]? =some (.int .u32 (id:Int)):=rfl;have d1:(tokv id (.slice A n c) tag)[1]? =some (.slice A n c):=rfl;have dt:∀j u,(byv tag)[j]? =some u→(tokv id (.slice A n c) tag)[2+j]? =some u:=by
   intro j u h;rw[tokv,show 2+j=(j+1)+1 from by omega,List.getElem?_cons_succ,List.getElem?_cons_succ];exact h
  obtain⟨L,hL⟩:=xeq (tokv id (.slice A n c) tag);rw[hL]at d0 d1 dt ⊢;have hgl:(byv tag).length=32:=by rw[qat,ht]
  obtain⟨b,hb⟩:=xeq (tag==List.replicate 32 0);obtain⟨G,hG⟩:=xeq (byv tag);rw[hG]at dt hgl;simp only[hG,hb]at hdig;have HI:=zh1 (zI 29 hgl);have t0:=Blk.new w 31 L.toArray;have R1:=zh1 (qap t0 2 G dt);have c0:=(t0.cell 0).trans (show L.toArray[0]? =_ by simpa using d0);have c1:=(t0.cell 1).trans (show L.toArray[1]? =_ by simpa using d1);obtain⟨HB,A0⟩:=zh2 (show Below w.heap.size w (w.alloc (.cells L.toArray 31)) from qah (tA5 _ _) _) (show b=decide (tag=List.replicate 32 0) by rw[←hb,Bool.eq_iff_iff];simp);clear hL hG d0 d1 dt hgl t0 hb;by_cases h0:id=0
  ·
   subst h0;by_cases h1:n=0
   · subst h1
     go_enter Tryz.func75,Tryz.ntmps75
     go_wp2_with (first
      |(refine qaq rfl 29 (.tmp 13) rfl w.heap.size 2 rfl G _ R1.out Tryz.underlying29 rfl HI.out ?_)
      |(refine qbk rfl ⟨.agg (zLD:Array Value),qfq 29 _ rfl _ _ qle (by simp[Act.eval]),?_⟩))
     go_ret
     exact⟨by rw[A0.out];simp,HB.out⟩
   have q:¬(n:Int)=0:=by omega
   go_enter Tryz.func75,Tryz.ntmps75
   go_wp2
   go_ret
   exact⟨by simp[h1],HB.out⟩
  have q:¬(id:Int)=0:=by omega
  go_enter Tryz.func75,Tryz.ntmps75
  go_wp2
  go_ret
  exact⟨by simp[h0],HB.out⟩
end
structure Cfg where
 width:Int
 quantum:Int
 store:Nat
 seed:List Nat
structure Ten where
 on:Bool
 rate:Nat
 burst:Nat
 tok:Nat
 store:Nat
 used:Nat
structure Tre where
 state:Int
 tenant:Int
 weight:Int
 deficit:Int
 draws:List Nat
 leaves:List (List Nat)
 queue:List (List Nat)
 hd:Hd
structure Gra where
 tenant:Int
 role:Int
 expires:Nat
 revoked:Bool
structure Sta where
 clock:Nat
 draw:Nat
 lane:Int
 tens:List Ten
 tres:List Tre
 gras:List Gra
def Ten.zero:Ten:=⟨false,0,0,0,0,0⟩
def Tre.zero:Tre:=⟨0,0,0,0,[],[],[],Hd.zero⟩
def qlo:List Nat:=[114,111,111,116]
def qlp:List Nat:=[107,101,121]
def qlq:List Nat:=[104,101,97,100]
def qlr (seed:List Nat):List Nat:=mac seed qlo
def keyOf (seed:List Nat)(tree epoch draw:Nat):List Nat:=mac seed (qlp++(be tree 1++(be epoch 4++be draw 4)))
def qls (h:Hd):List Nat:=qlq++(be h.tree.toNat 1++(be h.epoch.toNat 4++(be h.size 8++(be h.clock 8++h.root))))
def signed (key:List Nat)(h:Hd):Hd:={h with tag:=mac key (qls h)}
def pubT (c:Cfg)(clock n:Nat)(t:Tre):Hd:=
 signed (keyOf c.seed n (t.draws.length - 1) (t.draws.getLastD 0)) ⟨n,((t.draws.length - 1:Nat):Int),t.leaves.length,clock,qdx (cutW c.width) t.leaves,[]⟩
def Sta.pub (c:Cfg)(s:Sta)(n:Nat):Sta:={s with tres:=s.tres.modify n fun t=>{t with hd:=pubT c s.clock n t}}
def qlt (l:List (List Nat)):Nat:=(l.map fun b=>b.length+16).sum
def stored (s:Sta):Nat:=(s.tres.map fun t=>qlt t.leaves+qlt t.queue).sum
def Sta.tree (s:Sta)(n:Int):Option Tre:=
 if 0≤n then(match s.tres[n.toNat]? with|none=>none|some t=>if t.state=0∨t.state=4 then none else some t) else none
def Sta.tenant (s:Sta)(n:Int):Option Ten:=if 0≤n then s.tens[n.toNat]? else none
def qlu (role op:Int):Bool:=
 (decide (role=4)&&(op==6||op==10||op==11||op==12))||(decide (3≤role∧role≤4)&&(op==7||op==8||op==9))||(decide (2≤role∧role≤4)&&op==1)||(decide (1≤role∧role≤4)&&(op==2||op==3||op==4||op==5))
def qlv (role op own asked:Int):Bool:=qlu role op&&(own==asked||role==4)
def qlw (s:Sta)(r:Req)(own:Int):Int:=
 if r.op=6∨r.op=10∨r.op=12 then r.tenant
 else if r.op=11 then(match s.gras[r.id]? with|some g=>g.tenant|none=>own)
 else if qgv r.op then(match s.tree r.tree with|some t=>t.tenant|none=>own)
 else own
def qlx (op:Int)(n:Nat):Nat:=if op=1 then 1+(min n 1048576) / 64 else 1
def qly (c:Cfg)(s:Sta)(r:Req):Nat:=
 if (qir r).1≠0 then 12
 else match s.gras[r.tid]? with
  |none=>20
  |some g=>
   if !qk6 (qlr c.seed) (r.tid,r.cavs,r.tag) then 20
   else if g.revoked||decide (g.expires≤s.clock)||!qkf r.op (if qgv r.op then r.tree else 0) s.clock r.cavs then 20
   else if !qlv g.role r.op g.tenant (qlw s r g.tenant) then 21
   else match s.tenant g.tenant with
    |none=>22
    |some x=>if x.tok<qlx r.op r.leaf.length then 22 else 0
def rWhy (n:Nat):Rsp:={qih with why:=n}
def qlz (n:Nat):Rsp:={qih with n:=n}
def qm3 (l:List (List Nat))(b:List Nat):Option Nat:=l.findIdx? (· ==b)
def Sta.setT (s:Sta)(n:Nat)(f:Tre→Tre):Sta:={s with tres:=s.tres.modify n f}
def Sta.setX (s:Sta)(n:Nat)(f:Ten→Ten):Sta:={s with tens:=s.tens.modify n f}
def qm4 (c:Cfg)(s:Sta)(r:Req)(t:Tre):Sta × Rsp:=
 if r.tree=0∨t.state≠1 then(s,rWhy 24)
 else match qm3 t.leaves r.leaf with
  |some k=>(s,qlz k)
  |none=>match qm3 t.queue r.leaf with
   |some k=>(s,qlz (t.leaves.length+k))
   |none=>
    if 64≤t.queue.length∨1024≤t.leaves.length+t.queue.length then(s,rWhy 4)
    else match s.tenant t.tenant with
     |none=>(s,rWhy 26)
     |some x=>
      if x.store<x.used+(r.leaf.length+16)∨c.store<stored s+(r.leaf.length+16) then(s,rWhy 26)
      else((s.setX t.tenant.toNat fun x=>{x with used:=(x.used+(r.leaf.length+16)) % 4294967296}).setT r.tree.toNat fun t=>{t with queue:=t.queue++[r.leaf]},qlz (t.leaves.length+t.queue.length))
def qm5 (c:Cfg)(s:Sta)(r:Req)(t:Tre):Rsp:=
 if r.op=2 then {qih with hd:=t.hd}
 else if r.op=3 then(match t.leaves[r.lo]? with|none=>rWhy 25|some b=>{qih with n:=r.lo,bytes:=b})
 else if r.op=4 then(if r.hi≤r.lo∨t.leaves.length<r.hi then rWhy 25 else {qih with n:=r.hi,hashes:=qe2 (cutW c.width) (t.leaves.take r.hi) r.lo})
 else(if r.lo=0∨r.hi<r.lo∨t.leaves.length<r.hi then rWhy 25 else {qih with n:=r.hi,hashes:=subH (cutW c.width) (t.leaves.take r.hi) r.lo true})
def qm6 (c:Cfg)(s:Sta)(r:Req):Sta × Rsp:=
 if r.tree<1∨(s.tres.length:Int)≤r.tree∨r.weight<1∨4<r.weight then(s,rWhy 25)
 else match s.tres[r.tree.toNat]? with
  |none=>(s,rWhy 25)
  |some t=>
   if t.state≠0 then(s,rWhy 27)
   else match s.tenant r.tenant with
    |none=>(s,rWhy 23)
    |some x=>if !x.on then(s,rWhy 23) else((s.setT r.tree.toNat fun _=>{Tre.zero with state:=1,tenant:=r.tenant,weight:=r.weight,draws:=[s.draw]}).pub c r.tree.toNat,qlz r.tree.toNat)
def qm7 (c:Cfg)(s:Sta)(r:Req)(t:Tre):Sta × Rsp:=
 if r.tree=0∨!mayB t.state r.state t.queue.length then(s,rWhy 24)
 else
  let s1:=if r.state=4 then s.setX t.tenant.toNat (fun x=>{x with used:=x.used - qlt t.queue}) else s
  (s1.setT r.tree.toNat (fun t=>{t with state:=r.state,queue:=if r.state=4 then [] else t.queue,deficit:=if r.state=4∨r.state=2 then 0 else t.deficit}),qlz r.state.toNat)
def qm8 (s:Sta)(r:Req):Sta × Rsp:=
 if r.tree=0 then(s,rWhy 24)
 else if r.weight<1∨4<r.weight then(s,rWhy 25)
 else(s.setT r.tree.toNat fun t=>{t with weight:=r.weight,deficit:=0},qlz r.weight.toNat)
def qm9 (c:Cfg)(s:Sta)(r:Req)(t:Tre):Sta × Rsp:=
 if 32≤t.draws.length then(s,rWhy 4)
 else
  let s1:=(s.setT r.tree.toNat fun t=>{t with draws:=t.draws++[s.draw]}).pub c r.tree.toNat
  (s1,qlz t.draws.length)
def qma (c:Cfg)(s:Sta)(r:Req):Sta × Rsp:=
 if r.role<1∨4<r.role then(s,rWhy 25)
 else match s.tenant r.tenant with
  |none=>(s,rWhy 25)
  |some x=>
   if !x.on then(s,rWhy 23)
   else if 64≤s.gras.length then(s,rWhy 4)
   else({s with gras:=s.gras++[⟨r.tenant,r.role,r.expires,false⟩]},{qlz s.gras.length with tok:=(s.gras.length,[],qjs (qlr c.seed) s.gras.length)})
def qmb (s:Sta)(r:Req):Sta × Rsp:=
 match s.gras[r.id]? with
 |none=>(s,rWhy 23)
 |some g=>if r.id=0∨g.revoked then(s,rWhy 24) else({s with gras:=s.gras.modify r.id fun g=>{g with revoked:=true}},qlz r.id)
def qmc (s:Sta)(r:Req):Sta × Rsp:=
 match s.tenant r.tenant with
 |none=>(s,rWhy 25)
 |some _=>
  if 1048576<r.rate∨1048576<r.burst then(s,rWhy 25)
  else if r.tenant=0 then(s,rWhy 24)
  else(s.setX r.tenant.toNat fun x=>{x with on:=true,rate:=r.rate,burst:=r.burst,tok:=r.burst,store:=r.store},qlz r.tenant.toNat)
def qmd (c:Cfg)(s:Sta)(r:Req):Sta × Rsp:=
 if r.op=6 then qm6 c s r
 else if r.op=10 then qma c s r
 else if r.op=11 then qmb s r
 else if r.op=12 then qmc s r
 else match s.tree r.tree with
  |none=>(s,rWhy 23)
  |some t=>
   if r.op=1 then qm4 c s r t
   else if r.op=7 then qm7 c s r t
   else if r.op=8 then qm8 s r
   else if r.op=9 then qm9 c s r t
   else(s,qm5 c s r t)
def qme (s:Sta)(r:Req):List Nat:=be s.clock 8++(be r.tid 4++(qhp r).2)
def doS (c:Cfg)(s:Sta)(r:Req):Sta × Rsp:=
 if qly c s r≠0 then(s,rWhy (qly c s r))
 else
  let (s1,a):=qmd c s r
  if a.why≠0 then(s,rWhy a.why.toNat)
  else if qku r.op&&decide (1024≤((s.tres[0]?.getD Tre.zero).leaves.length)) then(s,rWhy 4)
  else if qku r.op&&decide (c.store<stored s+64) then(s,rWhy 26)
  else
   let own:=((s.gras[r.tid]?).getD ⟨0,0,0,false⟩).tenant
   let s2:=s1.setX own.toNat fun x=>{x with tok:=x.tok - qlx r.op r.leaf.length}
   if qku r.op then
    let s3:=(s2.setT 0 fun t=>{t with leaves:=t.leaves++[qme s2 r]}).pub c 0
    (s3,if r.op=9 then {a with hd:=(s3.tres[r.tree.toNat]?.getD Tre.zero).hd} else a)
   else(s2,a)
def askS (c:Cfg)(s:Sta)(bs:List Nat):Sta × List Nat:=
 match (qi4 bs).1 with
 |some _=>(s,(qii (rWhy 12)).2)
 |none=>((doS c s (qi4 bs).2).1,(qii (doS c s (qi4 bs).2).2).2)
def qmf (ws:List Int)(at_:Nat):Option Nat:=((List.range ws.length).map fun k=>(at_+k) % ws.length).find? fun i=>decide (1≤ws.getD i 0)
def qmg (i:Nat)(t:Tre):Int:=if i=0∨!qkk t.state then 0 else t.weight
def seqS (c:Cfg)(s:Sta):Sta:=
 let at_:=if 0≤s.lane∧s.lane<s.tres.length then s.lane.toNat else 0
 match qmf (s.tres.mapIdx fun i t=>qmg i t) at_ with
 |none=>{s with lane:=at_}
 |some n=>
  let t:=s.tres[n]?.getD Tre.zero
  let d:=t.deficit+min t.weight 4*min (max c.quantum 1) 2
  let take:=(max (min d t.queue.length) 0).toNat
  let rest:=t.queue.drop take
  let s1:={s with lane:=(((n+1) % s.tres.length:Nat):Int)}.setT n fun t=>{t with deficit:=if rest=[] then 0 else d - take,leaves:=t.leaves++t.queue.take take,queue:=rest}
  if take=0 then s1 else s1.pub c n
def newS (c:Cfg):Sta:=
 Sta.pub c ⟨0,0,0,⟨true,1048576,1048576,1048576,32768,0⟩::List.replicate 15 Ten.zero,{Tre.zero with state:=1,weight:=1,draws:=[0]}::List.replicate 15 Tre.zero,[⟨0,4,18446744073709551615,false⟩]⟩ 0
section
open Go.RowKit
def Row (w:World)(v:Value)(e:TypeId)(size n:Nat)(xs:List Value):Prop:=
 xs.length=n*size∧((v=.slice none 0 0∧n=0)∨
  ∃(g o c:Nat) (cur:List Value),v=.slice (some ⟨g,o,none⟩) n c∧Blk w g e cur.toArray∧n≤c∧c≤maxLen∧o+c*size≤cur.length∧(cur.drop o).take (n*size)=xs)
def over (l:List Value)(o:Nat)(cs:List Value):List Value:=l.take o++(cs++l.drop (o+cs.length))
theorem qmh {l cs:List Value}{o:Nat}(h:o+cs.length≤l.length):(over l o cs).length=l.length:=by
 unfold over;simp only[tA6,List.length_take,List.length_drop];omega
theorem qmi {g:Nat}{t:TypeId}:∀(cs:List Value) (o:Nat) (w:World) (l:List Value),Blk w g t l.toArray→o+cs.length≤l.length→Blk (w.setCells g o cs) g t (over l o cs).toArray
 |[],o,w,l,h,_=>by simpa [World.setCells,over] using h
 |v::r,o,w,l,h,hl=>by
  have h1:=h.set_ o v;rw[List.setIfInBounds_toArray]at h1;have h2:=qmi r (o+1) _ _ h1 (by simp at hl ⊢;omega);rw[World.setCells];have ho:o<l.length:=by simp at hl;omega
  have e:over (l.set o v) (o+1) r=over l o (v::r):=by
   unfold over;rw[List.take_succ_eq_append_getElem (by simpa using ho),List.take_set_of_le (tA4 o),List.getElem_set_self,List.drop_set_of_lt (by omega)];simp[Nat.add_assoc,Nat.add_comm 1]
  rw[e]at h2;exact h2
theorem qmj (g:Nat):∀(cs:List Value) (o:Nat) (w:World),w.grownBy (w.setCells g o cs) (some g)
 |[],_,w=>World.grownBy.refl w _
 |v::r,o,w=>by
  have h1:=qab (World.grownBy.refl w (some g)) (p:=⟨g,o,none⟩) (.inl rfl) v;have h2:=qmj g r (o+1) (w.setCell ⟨g,o,none⟩ v);rw[World.setCells];exact⟨h2.os.trans h1.os,h2.tape.trans h1.tape,h2.output.trans h1.output,Nat.le_trans h1.size h2.size,fun i hi hne=>(h2.block i (Nat.lt_of_lt_of_le hi h1.size) hne).trans (h1.block i hi hne)⟩
theorem qmk {l cs:List Value}{o p n:Nat}(h:o+n≤p)(hp:p≤l.length):((over l p cs).drop o).take n=(l.drop o).take n:=by
 unfold over;rw[List.drop_append_of_le_length (by rw[List.length_take];omega),List.drop_take,List.take_append_of_le_length (by rw[List.length_take,List.length_drop];omega),List.take_take,Nat.min_eq_left (by omega)]
theorem qml {l cs xs:List Value}{o k:Nat}(hx:(l.drop o).take k=xs)(hk:xs.length=k)(hl:o+k+cs.length≤l.length):((over l (o+k) cs).drop o).take (k+cs.length)=xs++cs:=by
 unfold over;have h1:(l.take (o+k)).drop o=xs:=by rw[List.drop_take,show o+k - o=k by omega];exact hx
 rw[List.drop_append_of_le_length (by rw[List.length_take];omega),h1,List.take_append,List.take_of_length_le (by omega),hk,show k+cs.length - k=cs.length by omega,List.take_left' rfl]
section
variable {w w' : World} {v : Value} {e : TypeId} {size n : Nat} {xs : List Value}
theorem Row.lt (h:Row w v e size n xs):∀g,v.ownBlock=some g→g<w.heap.size:=by
 intro g hg;rcases h.2 with⟨rfl,_⟩|⟨g',o,c,cur,rfl,hb,_⟩
 · cases hg
 simp[Value.ownBlock]at hg;subst hg;exact hb.lt
theorem Row.keptBlock (h:Row w v e size n xs)(hk:∀g,v.ownBlock=some g→w'.heap[g]? =w.heap[g]?):Row w' v e size n xs:=by
 refine⟨h.1,?_⟩;rcases h.2 with h0|⟨g,o,c,cur,rfl,hb,rest⟩
 · exact .inl h0
 exact .inr ⟨g,o,c,cur,rfl,(hk g rfl).trans hb,rest⟩
theorem Row.call (h:Row w v e size n xs)(hb:Below w.heap.size w w'):Row w' v e size n xs:=h.keptBlock fun g hv=>hb.block g (h.lt g hv)
theorem Row.drew (h:Row w v e size n xs):Row w.drew v e size n xs:=h.keptBlock fun _ _=>rfl
theorem Row.alloc (h:Row w v e size n xs)(o:Obj):Row (w.alloc o) v e size n xs:=h.call ((tA5 _ _).alloc (tA4 _) o)
theorem Row.behind {g o c p:Nat}{cs:List Value}(h:Row w (.slice (some ⟨g,o,none⟩) n c) e size n xs)(hp:o+n*size≤p)(hfit:∀cur:List Value,Blk w g e cur.toArray→p+cs.length≤cur.length):Row (w.setCells g p cs) (.slice (some ⟨g,o,none⟩) n c) e size n xs:=by
 refine⟨h.1,?_⟩;rcases h.2 with⟨h0,_⟩|⟨g',o',c',cur,hv,hb,hn,hc,hl,ht⟩
 · cases h0
 injection hv with e1 e2 e3;injection e1 with e1;injection e1 with e1 e4;subst e1 e3 e4;have hf:=hfit cur hb;exact .inr ⟨g,o,c,over cur p cs,rfl,qmi cs p w cur hb hf,hn,hc,by rw[qmh hf];exact hl,by rw[qmk hp (by omega)];exact ht⟩
end
section
variable {P : Program} (w : World)
theorem qmm (t tx ty e:TypeId)(i:TypeInfo)(z:Value)(size bytes:Nat)(ht:P.underlying t=some (.slice e))(hi:P.info? e=some i)(hz:i.zero=some z)
 (hsize:i.size=size)(hby:i.bytes=bytes)(hzs:z.cells.size=size)
 (v:Value)(n:Nat)(xs:List Value)(hrow:Row w v e size n xs)(x:Value)(m:Nat)(news:List Value)(hsrc:Src P size tx x m news w)
 (h63:n+m≤maxLen)(hbytes:(n+m)*bytes≤140737488355328):
 (m=0∧v=.slice none 0 0∧(Builtin.append_ #[t,tx] ty #[v,x]).run P w=.ok v w)∨
 (∃(g o c:Nat) (cur:List Value),v=.slice (some ⟨g,o,none⟩) n c∧n+m≤c∧Blk w g e cur.toArray∧o+n*size+news.length≤cur.length∧
  (Builtin.append_ #[t,tx] ty #[v,x]).run P w=.ok (.slice (some ⟨g,o,none⟩) (n+m) c) (w.setCells g (o+n*size) news)∧Row (w.setCells g (o+n*size) news) (.slice (some ⟨g,o,none⟩) (n+m) c) e size (n+m) (xs++news))∨
 (∃(c':Nat) (cs:List Value),n+m≤c'∧c'≤maxLen∧cs.length=c'*size∧cs.take ((n+m)*size)=xs++news∧
  (Builtin.append_ #[t,tx] ty #[v,x]).run P w=.ok (.slice (some ⟨w.heap.size,0,none⟩) (n+m) c') (w.drew.alloc (.cells cs.toArray e))∧Row (w.drew.alloc (.cells cs.toArray e)) (.slice (some ⟨w.heap.size,0,none⟩) (n+m) c') e size (n+m) (xs++news)):=by
 subst hsize;subst hby;have hl:=hsrc.newsLen;have hlen:(xs++news).length=(n+m)*i.size:=by rw[tA6,hrow.1,hl,Nat.add_mul]
 have grow:∀(base:Option Addr) (c:Nat),c<n+m→(Builtin.firstCells i.size n (.slice base n c)).run P w.drew=.ok xs.toArray w.drew→
  ∃(c':Nat) (cs:List Value),n+m≤c'∧c'≤maxLen∧cs.length=c'*i.size∧cs.take ((n+m)*i.size)=xs++news∧
  (Builtin.append_ #[t,tx] ty #[.slice base n c,x]).run P w=.ok (.slice (some ⟨w.heap.size,0,none⟩) (n+m) c') (w.drew.alloc (.cells cs.toArray e))∧Row (w.drew.alloc (.cells cs.toArray e)) (.slice (some ⟨w.heap.size,0,none⟩) (n+m) c') e i.size (n+m) (xs++news):=by
  intro base c hc hold;have hge:=grownCap_ge w (n+m) c e;have hcm:grownCap w (n+m) c e≤maxLen:=grownCap_le_maxLen w (n+m) c e h63;have hr:=run_append_grow_src (P:=P) w t tx ty e i z ht hi hz base n c xs hold x m news hsrc hc (by simp only[maxLen]at h63;omega) (growslice_fits hc hbytes);obtain⟨Z,hZ⟩:∃Z:List Value,Z.toArray=Builtin.zeroCells z.cells (grownCap w (n+m) c e - (n+m)):=⟨_,Array.toArray_toList⟩;have hZl:Z.length=(grownCap w (n+m) c e - (n+m))*i.size:=by
   have:=congrArg Array.size hZ;rw[size_zeroCells,hzs,List.size_toArray]at this;exact this
  rw[←hZ,List.append_toArray]at hr;have hcl:(xs++news++Z).length=grownCap w (n+m) c e*i.size:=by
   rw[tA6,hlen,hZl,←Nat.add_mul];congr 1
   omega
  have htk:(xs++news++Z).take ((n+m)*i.size)=xs++news:=by rw[←hlen];exact List.take_left
  refine⟨_,xs++news++Z,hge,hcm,hcl,htk,hr,hlen,.inr ⟨w.heap.size,0,_,_,rfl,Blk.new w.drew e _,hge,hcm,by rw[hcl];omega,by rw[List.drop_zero];exact htk⟩⟩
 rcases hrow.2 with⟨rfl,rfl⟩|⟨g,o,c,cur,rfl,hb,hnc,hcm,hol,htake⟩
 ·
  have hx:xs=[]:=List.eq_nil_of_length_eq_zero (by simpa using hrow.1);subst hx;by_cases hm:m=0
  ·
   subst hm;have hn:news=[]:=List.eq_nil_of_length_eq_zero (by simpa using hl);subst hn;refine .inl ⟨rfl,rfl,?_⟩;have hc:=hsrc.cells;have hlo:=hsrc.len w;rcases hsrc.kind with⟨e',hk⟩|hk<;>simp[Builtin.append_,run_underlying ht,run_underlying hk,sizeOf,typeInfo,hi,hlo,hc,storeCells]
  exact .inr (.inr (grow none 0 (by omega) (run_firstCells_none w.drew i.size 0 0 0)))
 by_cases hroom:n+m≤c
 ·
  have hfit:o+n*i.size+news.length≤cur.length:=by
   have h2:(n+m)*i.size≤c*i.size:=Nat.mul_le_mul_right _ hroom;rw[Nat.add_mul]at h2;omega
  have hr:=run_append_room_src (P:=P) w t tx ty e i ht hi g o n c x m news hsrc hroom (fun j hj=>by rw[hb.cell,tA3,tA7 (by omega)];rfl) (fun j _=>hb.frozen _);refine .inr (.inl ⟨g,o,c,cur,rfl,hroom,hb,hfit,hr,hlen,.inr ⟨g,o,c,over cur (o+n*i.size) news,rfl,qmi news _ w cur hb hfit,hroom,hcm,by rw[qmh hfit];exact hol,?_⟩⟩);have:=qml (cs:=news) htake hrow.1 hfit;rw[hl,←Nat.add_mul]at this;exact this
 refine .inr (.inr (grow (some ⟨g,o,none⟩) c (by omega) ?_));refine run_firstCells_some w.drew i.size n ⟨g,o,none⟩ n c xs hrow.1 (fun j u hu=>?_);rw[World.cell?_drew,Addr.add_mid,hb.cell,tA3];rw[←htake,List.getElem?_take]at hu;split at hu
 · rwa[List.getElem?_drop]at hu
 cases hu
structure Appended (w w':World)(v v':Value)(e:TypeId)(size n m:Nat)(xs news:List Value):Prop where
 row:Row w' v' e size (n+m) (xs++news)
 old:Row w' v e size n xs
 only:w.grownBy w' v.ownBlock
 at_:v'.ownBlock=v.ownBlock∨v'.ownBlock=some w.heap.size
theorem qmn (t tx ty e:TypeId)(i:TypeInfo)(z:Value)(size bytes:Nat)(ht:P.underlying t=some (.slice e))(hi:P.info? e=some i)(hz:i.zero=some z)
 (hsize:i.size=size)(hby:i.bytes=bytes)(hzs:z.cells.size=size)
 (v:Value)(n:Nat)(xs:List Value)(hrow:Row w v e size n xs)(x:Value)(m:Nat)(news:List Value)(hsrc:Src P size tx x m news w)
 (h63:n+m≤maxLen)(hbytes:(n+m)*bytes≤140737488355328):
 ∃v' w',(Builtin.append_ #[t,tx] ty #[v,x]).run P w=.ok v' w'∧Appended w w' v v' e size n m xs news:=by
 rcases qmm (P:=P) w t tx ty e i z size bytes ht hi hz hsize hby hzs v n xs hrow x m news hsrc h63 hbytes with⟨rfl,rfl,hr⟩|⟨g,o,c,cur,rfl,hc,hb,hf,hr,hrw⟩|⟨c',cs,hc,hm,hl,htk,hr,hrw⟩
 · have hn:news=[]:=List.eq_nil_of_length_eq_zero (by simpa using hsrc.newsLen)
   subst hn;exact⟨_,_,hr,by simpa using hrow,hrow,World.grownBy.refl w _,.inl rfl⟩
 ·
  refine⟨_,_,hr,hrw,hrow.behind (tA4 _) (fun cur' h'=>?_),qmj g news _ w,.inl rfl⟩;have:cur'=cur:=by
   unfold Blk at hb h';rw[hb]at h';injection h' with h';injection h' with h';simpa using h'.symm
  rw[this];exact hf
 exact⟨_,_,hr,hrw,(hrow.drew).alloc _,⟨rfl,rfl,rfl,by simp,fun k hk _=>Below.heap_alloc w.drew _ k hk⟩,.inr rfl⟩
theorem Src.reads {size:Nat}{tx e':TypeId}(hk:P.underlying tx=some (.slice e')){B:Nat}{A:Option Addr}{m c:Nat}{news:List Value}(hr:Reads w B size A m news)(h1:∀u∈news,u.oneCell'=true)(hs:0<size):Src P size tx (.slice A m c) m news w:=by
 rcases A with _|ad
 ·
  have hm:m=0:=by
   rcases Nat.eq_zero_or_pos m with h0|h0
   · exact h0
   obtain⟨ad,h,_⟩:=hr.2 h0;cases h
  subst hm;have hn:news=[]:=List.eq_nil_of_length_eq_zero (by simpa using hr.1);subst hn;exact Src.ofNil w hk c
 refine Src.ofSlice w hk ad m c news hr.1 ?_ h1;intro j u hu;rcases Nat.eq_zero_or_pos m with h0|h0
 · subst h0
   have hn:news=[]:=List.eq_nil_of_length_eq_zero (by simpa using hr.1);subst hn;simp at hu
 obtain⟨ad',h,_,hc⟩:=hr.2 h0;injection h with h;subst h;exact hc j u hu
end
end
section
open Go.RowKit
abbrev Col:=Nat→Nat
structure Turns (p:Nat→Bool)(w:World)(col:Col)(w':World)(col':Col):Prop where
 os:w'.os=w.os
 tape:w'.tape=w.tape
 output:w'.output=w.output
 size:w.heap.size≤w'.heap.size
 block:∀b,b<w.heap.size→p (col b)=false→w'.heap[b]? =w.heap[b]?
 same:∀b,b<w.heap.size→col' b=col b
def Fin_ (col:Col)(w:World):Prop:=∀b,col b≠0→b<w.heap.size
section
variable {p q : Nat → Bool} {w w' w'' : World} {col col' col'' : Col}
theorem Turns.refl (p:Nat→Bool)(w:World)(col:Col):Turns p w col w col:=⟨rfl,rfl,rfl,tA4 _,fun _ _ _=>rfl,fun _ _=>rfl⟩
theorem Turns.trans (h:Turns p w col w' col')(h':Turns p w' col' w'' col''):Turns p w col w'' col'':=
 ⟨h'.os.trans h.os,h'.tape.trans h.tape,h'.output.trans h.output,Nat.le_trans h.size h'.size,
  fun b hb hp=>(h'.block b (Nat.lt_of_lt_of_le hb h.size) (by rw[h.same b hb];exact hp)).trans (h.block b hb hp),
  fun b hb=>(h'.same b (Nat.lt_of_lt_of_le hb h.size)).trans (h.same b hb)⟩
theorem Turns.mono (h:Turns p w col w' col')(hpq:∀k,p k=true→q k=true):Turns q w col w' col':=
 ⟨h.os,h.tape,h.output,h.size,fun b hb hq=>h.block b hb (by
  cases hp:p (col b) with
  |false=>rfl
  |true=>rw[hpq _ hp]at hq;cases hq),h.same⟩
theorem Turns.of_below (p:Nat→Bool)(hb:Below w.heap.size w w'):Turns p w col w' col:=⟨hb.os,hb.tape,hb.output,hb.size,fun b h _=>hb.block b h,fun _ _=>rfl⟩
theorem Turns.recolour (h:Turns p w col w' col')(hs:∀b,b<w.heap.size→col'' b=col' b):Turns p w col w' col'':=⟨h.os,h.tape,h.output,h.size,h.block,fun b hb=>(hs b hb).trans (h.same b hb)⟩
theorem Turns.of_grown {row:Option Nat}(hg:w.grownBy w' row)(hr:∀g,row=some g→p (col g)=true)(hs:∀b,b<w.heap.size→col' b=col b):Turns p w col w' col':=
 ⟨hg.os,hg.tape,hg.output,hg.size,fun b hb hp=>hg.block b hb (fun e=>by rw[hr b e.symm]at hp;cases hp),hs⟩
theorem Turns.below {B:Nat}(h:Turns p w col w' col')(hp:∀b,b<B→p (col b)=false)(hB:B≤w.heap.size):Below B w w':=
 ⟨h.os,h.tape,h.output,h.size,fun b hb=>h.block b (Nat.lt_of_lt_of_le hb hB) (hp b hb)⟩
theorem Turns.setCell {g i:Nat}(u:Value)(hp:p (col g)=true):Turns p w col (w.setCell ⟨g,i,none⟩ u) col:=
 .of_grown (row:=some g) (qab (World.grownBy.refl w _) (p:=⟨g,i,none⟩) (.inl rfl) u) (fun k e=>by injection e with e;subst e;exact hp) (fun _ _=>rfl)
theorem Turns.setCells {g o:Nat}(cs:List Value)(hp:p (col g)=true):Turns p w col (w.setCells g o cs) col:=
 .of_grown (row:=some g) (qmj g cs o w) (fun k e=>by injection e with e;subst e;exact hp) (fun _ _=>rfl)
theorem Fin_.mono (h:Fin_ col w)(hs:w.heap.size≤w'.heap.size):Fin_ col w':=fun b hb=>Nat.lt_of_lt_of_le (h b hb) hs
def Col.put (col:Col)(g k:Nat):Col:=fun b=>if b=g then k else col b
theorem Col.put_at (col:Col)(g k:Nat):col.put g k g=k:=by simp[Col.put]
theorem Col.put_old {g b:Nat}(col:Col)(k:Nat)(h:b<g):col.put g k b=col b:=by unfold Col.put;rw[if_neg (by omega)]
theorem Col.put_ne {g b:Nat}(col:Col)(k:Nat)(h:b≠g):col.put g k b=col b:=by unfold Col.put;rw[if_neg h]
theorem Fin_.put {g k:Nat}(h:Fin_ col w)(hs:w.heap.size≤w'.heap.size)(hg:g<w'.heap.size):Fin_ (col.put g k) w':=fun b hb=>by
 unfold Col.put at hb;by_cases e:b=g
 · omega
 rw[if_neg e]at hb;exact Nat.lt_of_lt_of_le (h b hb) hs
def KeepsCol (k:Nat)(w:World)(col:Col)(w':World)(col':Col):Prop:=w.heap.size≤w'.heap.size∧∀b,b<w.heap.size→col b=k→w'.heap[b]? =w.heap[b]? ∧col' b=k
theorem Turns.keeps {k:Nat}(h:Turns p w col w' col')(hp:p k=false):KeepsCol k w col w' col':=⟨h.size,fun b hb hk=>⟨h.block b hb (by rw[hk];exact hp),(h.same b hb).trans hk⟩⟩
end
def RowC (w:World)(col:Col)(k:Nat)(v:Value)(e:TypeId)(size n:Nat)(xs:List Value):Prop:=
 xs.length=n*size∧((n=0∧(v=.slice none 0 0∨∃g o,v=.slice (some ⟨g,o,none⟩) 0 0))∨
  ∃(g o c:Nat) (cur:List Value),v=.slice (some ⟨g,o,none⟩) n c∧col g=k∧Blk w g e cur.toArray∧n≤c∧c≤maxLen∧o+c*size≤cur.length∧(cur.drop o).take (n*size)=xs)
section
variable {w w' : World} {col col' : Col} {k : Nat} {v : Value} {e : TypeId} {size n : Nat} {xs : List Value}
theorem RowC.nil (w:World)(col:Col)(k:Nat)(e:TypeId)(size:Nat):RowC w col k (.slice none 0 0) e size 0 []:=⟨by simp,.inl ⟨rfl,.inl rfl⟩⟩
theorem RowC.sl (h:RowC w col k v e size n xs):∃A c,v=.slice A n c∧n≤c∧c≤maxLen∧Reads w w.heap.size size A n xs∧(0<n→∃ad,A=some ad∧col ad.block=k):=by
 rcases h.2 with⟨rfl,hv⟩|⟨g,o,c,cur,rfl,hk,hb,hn,hc,hl,ht⟩
 · have hx:xs=[]:=List.eq_nil_of_length_eq_zero (by simpa using h.1)
   subst hx;rcases hv with rfl|⟨g,o,rfl⟩
   · exact⟨none,0,rfl,tA4 _,by simp[maxLen],⟨by simp,fun h=>absurd h (by omega)⟩,fun h=>absurd h (by omega)⟩
   exact⟨_,0,rfl,tA4 _,by simp[maxLen],⟨by simp,fun h=>absurd h (by omega)⟩,fun h=>absurd h (by omega)⟩
 refine⟨_,c,rfl,hn,hc,⟨h.1,fun _=>⟨_,rfl,hb.lt,fun j u hu=>?_⟩⟩,fun _=>⟨_,rfl,hk⟩⟩;rw[Addr.add_mid,hb.cell,tA3];rw[←ht,List.getElem?_take]at hu;split at hu
 · rwa[List.getElem?_drop]at hu
 cases hu
theorem RowC.keep (h:RowC w col k v e size n xs)(hk:KeepsCol k w col w' col'):RowC w' col' k v e size n xs:=by
 refine⟨h.1,?_⟩;rcases h.2 with h0|⟨g,o,c,cur,rfl,hc,hb,rest⟩
 · exact .inl h0
 obtain⟨h1,h2⟩:=hk.2 g hb.lt hc;exact .inr ⟨g,o,c,cur,rfl,h2,h1.trans hb,rest⟩
theorem RowC.call (h:RowC w col k v e size n xs)(hb:Below w.heap.size w w'):RowC w' col k v e size n xs:=h.keep ((Turns.of_below (fun _=>false) hb).keeps rfl)
theorem RowC.of_own {base:Nat}(h:w.ownsRow base e size v n xs)(hk:∀g,v.ownBlock=some g→col g=k):RowC w col k v e size n xs:=by
 refine⟨h.1,?_⟩;rcases h.2 with⟨rfl,rfl⟩|⟨g,cap,cur,rfl,_,hg,hn,hc,hs,ht⟩
 · exact .inl ⟨rfl,.inl rfl⟩
 exact .inr ⟨g,0,cap,cur.toList,rfl,hk g rfl,by simpa [Blk] using hg,hn,hc,by simp[hs],by simpa using ht⟩
end
structure AppendedC (w:World)(col:Col)(w':World)(col':Col)(k:Nat)(v v':Value)(e:TypeId)(size n m:Nat)(xs news:List Value):Prop where
 row:RowC w' col' k v' e size (n+m) (xs++news)
 old:RowC w' col' k v e size n xs
 turns:Turns (· ==k) w col w' col'
 fin:Fin_ col w→Fin_ col' w'
 other:∀b,col' b≠col b→w.heap.size≤b
theorem qmo {P:Program}(w:World)(col:Col)(k:Nat)(t tx ty e:TypeId)(i:TypeInfo)(z:Value)(size bytes:Nat)(ht:P.underlying t=some (.slice e))(hi:P.info? e=some i)(hz:i.zero=some z)
 (hsize:i.size=size)(hby:i.bytes=bytes)(hzs:z.cells.size=size)
 (v:Value)(n:Nat)(xs:List Value)(hrow:RowC w col k v e size n xs)(x:Value)(m:Nat)(news:List Value)(hsrc:Src P size tx x m news w)
 (h63:n+m≤maxLen)(hbytes:(n+m)*bytes≤140737488355328):
 ∃v' w' col',(Builtin.append_ #[t,tx] ty #[v,x]).run P w=.ok v' w'∧AppendedC w col w' col' k v v' e size n m xs news:=by
 have main:∀(hr:Row w v e size n xs) (hc:∀g,v.ownBlock=some g→col g=k),∃v' w' col',(Builtin.append_ #[t,tx] ty #[v,x]).run P w=.ok v' w'∧AppendedC w col w' col' k v v' e size n m xs news:=by
  intro hr hc;obtain⟨v',w',hrun,ha⟩:=qmn (P:=P) w t tx ty e i z size bytes ht hi hz hsize hby hzs v n xs hr x m news hsrc h63 hbytes;by_cases hnew:v'.ownBlock=some w.heap.size
  ·
   have hlt:=ha.row.lt _ hnew;refine⟨v',w',col.put w.heap.size k,hrun,?_,?_,.of_grown ha.only (fun g hg=>by simpa using hc g hg) (fun b hb=>Col.put_old _ _ hb),fun hf=>hf.put ha.only.size hlt,fun b hb=>?_⟩
   · refine⟨ha.row.1,?_⟩
     rcases ha.row.2 with⟨rfl,h0⟩|⟨g,o,c,cur,rfl,hb,rest⟩
     · cases hnew
     obtain rfl:g=w.heap.size:=by simpa [Value.ownBlock] using hnew
     exact .inr ⟨_,o,c,cur,rfl,Col.put_at ..,hb,rest⟩
   · refine⟨hr.1,?_⟩
     rcases ha.old.2 with⟨rfl,h0⟩|⟨g,o,c,cur,rfl,hb,rest⟩
     · exact .inl ⟨h0,.inl rfl⟩
     refine .inr ⟨g,o,c,cur,rfl,?_,hb,rest⟩;rw[Col.put_old _ _ (hr.lt g rfl)];exact hc g rfl
   by_cases e:b=w.heap.size
   · omega
   exact absurd (Col.put_ne _ _ e) hb
  have hsame:v'.ownBlock=v.ownBlock:=ha.at_.resolve_right hnew;have cast:∀{v0:Value} {n0:Nat} {xs0:List Value},Row w' v0 e size n0 xs0→(∀g,v0.ownBlock=some g→col g=k)→RowC w' col k v0 e size n0 xs0:=by
   intro v0 n0 xs0 h hk;refine⟨h.1,?_⟩;rcases h.2 with⟨rfl,h0⟩|⟨g,o,c,cur,rfl,hb,rest⟩
   · exact .inl ⟨h0,.inl rfl⟩
   exact .inr ⟨g,o,c,cur,rfl,hk g rfl,hb,rest⟩
  exact⟨v',w',col,hrun,cast ha.row (fun g hg=>hc g (hsame▸hg)),cast ha.old hc,.of_grown ha.only (fun g hg=>by simpa using hc g hg) (fun _ _=>rfl),fun hf=>hf.mono ha.only.size,fun b hb=>absurd rfl hb⟩
 rcases hrow.2 with⟨rfl,hv⟩|⟨g,o,c,cur,rfl,hk,hb,rest⟩
 ·
  rcases hv with rfl|⟨g,o,rfl⟩
  · exact main ⟨hrow.1,.inl ⟨rfl,rfl⟩⟩ (fun g hg=>by cases hg)
  have hx:xs=[]:=List.eq_nil_of_length_eq_zero (by simpa using hrow.1);subst hx;subst hsize;subst hby;have hl:=hsrc.newsLen;by_cases hm:m=0
  · subst hm
    have hn:news=[]:=List.eq_nil_of_length_eq_zero (by simpa using hl);subst hn;have hr:=run_append_room_src (P:=P) w t tx ty e i ht hi g o 0 0 x 0 [] hsrc (by omega) (fun j hj=>absurd hj (by simp)) (fun j hj=>absurd hj (by simp));exact⟨_,w,col,hr,by simpa using hrow,hrow,.refl _ _ _,fun h=>h,fun b hb=>absurd rfl hb⟩
  have hge:=grownCap_ge w (0+m) 0 e;have hcm:grownCap w (0+m) 0 e≤maxLen:=grownCap_le_maxLen w (0+m) 0 e h63;have hr:=run_append_grow_src (P:=P) w t tx ty e i z ht hi hz (some ⟨g,o,none⟩) 0 0 [] (run_firstCells_some w.drew i.size 0 ⟨g,o,none⟩ 0 0 [] (by simp) (fun j u hu=>by simp at hu)) x m news hsrc (by omega) (by simp only[maxLen]at h63;omega) (growslice_fits (by omega) hbytes);obtain⟨Z,hZ⟩:∃Z:List Value,Z.toArray=Builtin.zeroCells z.cells (grownCap w (0+m) 0 e - (0+m)):=⟨_,Array.toArray_toList⟩;have hZl:Z.length=(grownCap w (0+m) 0 e - (0+m))*i.size:=by
   have:=congrArg Array.size hZ;rw[size_zeroCells,hzs,List.size_toArray]at this;exact this
  rw[←hZ,List.append_toArray]at hr;have hcl:([]++news++Z).length=grownCap w (0+m) 0 e*i.size:=by
   rw[tA6,List.nil_append,hl,hZl,←Nat.add_mul];congr 1
   omega
  have htk:([]++news++Z).take ((0+m)*i.size)=[]++news:=by
   rw[List.nil_append,Nat.zero_add,←hl];exact List.take_left
  refine⟨_,_,col.put w.heap.size k,hr,?_,?_,?_,?_,?_⟩
  · exact⟨by rw[List.nil_append,hl,Nat.zero_add],.inr ⟨w.heap.size,0,_,_,rfl,Col.put_at ..,Blk.new w.drew e _,hge,hcm,by rw[hcl];omega,by rw[List.drop_zero];exact htk⟩⟩
  · exact⟨by simp,.inl ⟨rfl,.inr ⟨g,o,rfl⟩⟩⟩
  · exact⟨rfl,rfl,rfl,by simp,fun b hb _=>Below.heap_alloc w.drew _ b hb,fun b hb=>Col.put_old _ _ hb⟩
  · exact fun hf=>hf.put (by simp) (by simp)
  intro b hb;by_cases e:b=w.heap.size
  · omega
  exact absurd (Col.put_ne _ _ e) hb
 exact main ⟨hrow.1,.inr ⟨g,o,c,cur,rfl,hb,rest⟩⟩ (fun g' hg=>by
  obtain rfl:g=g':=by simpa [Value.ownBlock] using hg
  exact hk)
section
variable {P : Program} (w : World)
theorem qmp {o:Oper}{a:Act}{K:Act→World→Prop}{Q:Exit→Act→World→Prop}(s x:Operand)(t tx:TypeId)
 (ho:o.op=.call {callee:=.builtin .append,args:=#[s,x],argTypes:=#[t,tx]})
 (col:Col)(k:Nat)(e:TypeId)(i:TypeInfo)(z:Value)(size bytes:Nat)(ht:P.underlying t=some (.slice e))(hi:P.info? e=some i)(hz:i.zero=some z)
 (hsize:i.size=size)(hby:i.bytes=bytes)(hzs:z.cells.size=size)
 (v:Value)(n:Nat)(xs:List Value)(hs:a.eval s=v)(hrow:RowC w col k v e size n xs)(xv:Value)(m:Nat)(news:List Value)(hx:a.eval x=xv)(hsrc:Src P size tx xv m news w)
 (h63:n+m≤maxLen)(hbytes:(n+m)*bytes≤140737488355328)
 (h:∀v' w' col',AppendedC w col w' col' k v v' e size n m xs news→K (a.put o.dst v') w'):o.wp P a w K Q:=by
 obtain⟨v',w',col',hrun,h2⟩:=qmo (P:=P) w col k t tx o.type e i z size bytes ht hi hz hsize hby hzs v n xs hrow xv m news hsrc h63 hbytes;unfold Oper.wp execOp;simp only[ho,resolve,invoke,builtin,Sem.run_bind,Sem.run_pure,Result.andThen_ok,List.map_toArray,List.map_cons,List.map_nil,hs,hx,hrun];exact h v' w' col' h2
end
def TextC (w:World)(col:Col)(v:Value)(bs:List Nat):Prop:=
 ∃A n c,v=.slice A n c∧n≤c∧c≤maxLen∧Reads w w.heap.size 1 A n (byv bs)∧(0<n→∃ad,A=some ad∧col ad.block=5)
def TextsC (w:World)(col:Col)(k:Nat)(v:Value)(ls:List (List Nat)):Prop:=
 ∃vs:List Value,RowC w col k v 23 1 ls.length vs∧∀(i:Nat) (bs:List Nat),ls[i]? =some bs→∃u,vs[i]? =some u∧TextC w col u bs
section
variable {w w' : World} {col col' : Col} {k : Nat} {v : Value} {bs : List Nat} {ls : List (List Nat)}
theorem TextC.keep (h:TextC w col v bs)(hk:KeepsCol 5 w col w' col'):TextC w' col' v bs:=by
 obtain⟨A,n,c,rfl,hn,hc,hr,ha⟩:=h;refine⟨A,n,c,rfl,hn,hc,⟨hr.1,fun h0=>?_⟩,fun h0=>?_⟩
 ·
  obtain⟨ad,rfl,h5⟩:=ha h0;obtain⟨ad',e,hb,hcell⟩:=hr.2 h0;injection e with e;subst e;refine⟨ad,rfl,Nat.lt_of_lt_of_le hb hk.1,fun j u hu=>?_⟩;refine(World.cell?_of_block ?_).trans (hcell j u hu);rw[qa1];exact(hk.2 _ hb h5).1
 obtain⟨ad,rfl,h5⟩:=ha h0;obtain⟨ad',e,hb,_⟩:=hr.2 h0;injection e with e;subst e;exact⟨ad,rfl,(hk.2 _ hb h5).2⟩
theorem TextsC.keep (h:TextsC w col k v ls)(hk:KeepsCol k w col w' col')(h5:KeepsCol 5 w col w' col'):TextsC w' col' k v ls:=by
 obtain⟨vs,hr,ht⟩:=h;refine⟨vs,hr.keep hk,fun i bs hi=>?_⟩;obtain⟨u,hu,ht⟩:=ht i bs hi;exact⟨u,hu,ht.keep h5⟩
theorem TextC.own {base:Nat}(h:OwnB w base v bs)(hk:∀g,v.ownBlock=some g→col g=5):TextC w col v bs:=by
 obtain⟨A,n,c,rfl,hn,hc,hr⟩:=h.sl;refine⟨A,n,c,rfl,hn,hc,hr,fun h0=>?_⟩;obtain⟨ad,rfl,hb,_⟩:=hr.2 h0;refine⟨ad,rfl,hk _ ?_⟩;rcases h.2 with⟨e,_⟩|⟨g,cap,cur,e,_⟩
 · cases e
 injection e with e;injection e with e;subst e;rfl
theorem TextC.one (h:TextC w col v bs):v.oneCell'=true:=by obtain⟨A,n,c,rfl,_⟩:=h;rfl
theorem TextsC.sl (h:TextsC w col k v ls):∃vs A c,v=.slice A ls.length c∧ls.length≤c∧c≤maxLen∧Reads w w.heap.size 1 A ls.length vs∧(∀(i:Nat) (bs:List Nat),ls[i]? =some bs→∃u,vs[i]? =some u∧TextC w col u bs):=by
 obtain⟨vs,hr,ht⟩:=h;obtain⟨A,c,h1,h2,h3,h4,_⟩:=hr.sl;exact⟨vs,A,c,h1,h2,h3,h4,ht⟩
theorem TextsC.nil (w:World)(col:Col)(k:Nat):TextsC w col k (.slice none 0 0) []:=⟨[],RowC.nil ..,fun i bs h=>by simp at h⟩
end
end
end Go.Proofs.YthomgopipiomhaaGreatDoor

/- Lemmas. -/
import Derived.Test.YthomgopipiomhaaGreatDoorBMR02
import Derived.Deep.AppendSrc
import Derived.Great.BuildSlice
namespace Go.Proofs.YthomgopipiomhaaGreatDoor
open Go.RowKit
set_option linter.unusedVariables false
set_option linter.unusedSimpArgs false
set_option maxRecDepth 100000
set_option maxHeartbeats 32000000
variable {k clock d p n g m B size i b base j fuel id:Nat}{Q:Exit→Act→World→Prop}{a:Act}{o op:Oper}{rest l:List Oper}{w w':World}{x:Int}{P:Program}{cs xs news sp:List Value}{A:Option Addr}{tx e' tt rt gt:TypeId}{K:Act→World→Prop}{u v:Value}{ds:List Nat}
def qko (x:Tok):List (Int × Nat)→Option Tok
 |[]=>some x
 |c::l=>if (qkl x c).2=0 then qko (qkl x c).1 l else none
theorem qkp(x:Tok)(a b:List (Int × Nat)):qko x (a++b)=(qko x a).bind fun y=>qko y b:=by
 induction a generalizing x with
 |nil=>rfl
 |cons c a ih=>
  simp only[List.cons_append,qko];split
  · exact ih _
  rfl
def qkq (root:List Nat)(id:Nat):Tok:=(id,[],qke root id)
def qkr (root:List Nat)(t:Tok):Bool:=
 match qko (qkq root t.1) t.2.1 with
 |none=>false
 |some x=>x.2.2==t.2.2
theorem qks{x0 x:Tok}{l:List (Int × Nat)}{c:Int × Nat}(h:qko x0 (l.take k)=some x)(hc:l[k]? =some c)(h0:(qkl x c).2=0):qko x0 (l.take (k+1))=some (qkl x c).1:=by
 rw[List.take_add_one,hc,qkp,h];simp[qko,h0]
theorem qkt{x0 x:Tok}{l:List (Int × Nat)}{c:Int × Nat}(h:qko x0 (l.take k)=some x)(hc:l[k]? =some c)(h0:(qkl x c).2≠0):qko x0 l=none:=by
 obtain⟨hk,e⟩:=tA8 hc;rw[←List.take_append_drop k l,qkp,h,List.drop_eq_getElem_cons hk,e];simp[qko,h0]
theorem qku(root:List Nat)(id:Nat)(h:id<4294967296):(qkq root id).Ok:=⟨h,fun c hc=>(nomatch hc),qkf _ _,qkg _ _⟩
theorem qkv(t:Tok)(c:Int × Nat)(ht:t.Ok)(hc:c.2<4294967296):(qkl t c).1.Ok:=by
 have hz:qgu.Ok:=⟨by decide,fun c hc=>(nomatch hc),by simp[qgu],by intro x hx;simp[qgu]at hx;omega⟩;unfold qkl;split
 ·
  split
  · refine⟨ht.1,?_,qkf _ _,qkg _ _⟩
    intro d hd;simp only[tBg,tBh]at hd;rcases hd with hd|rfl
    · exact ht.2.1 d hd
    exact hc
  exact hz
 exact hz
theorem qkw(t:Tok)(c:Int × Nat):(qkl t c).1.2.1.length≤t.2.1.length+1:=by
 unfold qkl;split
 · split
   · simp
   simp[qgu]
 simp[qgu]
theorem qkx(root:List Nat)(t:Tok)(A:Option Addr)(n c:Nat)(w:World)(hrl:root.length=32)(hrb:∀x∈root,x<256)(hr:Reads w w.heap.size 2 A n (cavv t.2.1))(hnc:n≤c)(hn:n≤8796093022000)(ht:t.Ok)(hT:Tabs w):
 Zc 178 #[.agg (byv root).toArray,.agg (tokv t.1 (.slice A n c) t.2.2).toArray] w fun e w'=>e=.returned (.bool (qkr root t))∧Zb w w':=by
 have hl:t.2.1.length=n:=by have:=hr.1;rw[qee]at this;omega
 have hlen:=qdg t.1 (.slice A n c) t.2.2 ht.2.2.1;have d0:(tokv t.1 (.slice A n c) t.2.2)[0]? =some (.int .u32 (t.1:Int)):=rfl;have d1:(tokv t.1 (.slice A n c) t.2.2)[1]? =some (.slice A n c):=rfl;have d2:∀j u,(byv t.2.2)[j]? =some u→(tokv t.1 (.slice A n c) t.2.2)[2+j]? =some u:=fun j u h=>by
  unfold tokv;rw[show 2+j=j+1+1 by omega,tBc,tBc];exact h
 obtain⟨D,hD⟩:=xeq (tokv t.1 (.slice A n c) t.2.2);have lR:(byv root).length=32:=by rw[qat];exact hrl
 have M0:=fun w h=>qkj root t.1 w hrl hrb ht.1 h
 obtain⟨V,hV⟩:=xeq (byv root);rw[hD]at hlen d0 d1 d2 ⊢;rw[hV]at lR ⊢;simp only[hV]at M0;obtain⟨W0,hW0⟩:=eqx ((w.alloc (.cells V.toArray 29)).alloc (.cells D.toArray 31));have k0:=zNb hW0;have t0:=zNc hW0;have b0:=zMb hW0;have lW:w.heap.size+1<W0.heap.size:=t0.lt;have c0:=t0.cell 0;rw[tA3,d0]at c0;obtain⟨A7,HI,A8,A9,D1,D2,K0,T0⟩:=zh8 (qap k0 0 V zjq) (zI 29 lR) hW0 hlen d1 d2 k0 t0;obtain⟨B0,HR,HT,Hl⟩:=zh4 b0 hr hT hl;obtain⟨HM,HtO,AH⟩:=zh3 (M0 W0 (HT.below b0 HT.size)) ht lR;clear hW0 hlen d1 d2 k0 t0 b0 hr hT hl M0 d0 hD hV ht lR;go_enter Tryz.func178,Tryz.ntmps178
 go_upto_region 1 with(fail)
 rw[←A8.o];go_wp2_with (refine zld A7.o zu29 HI.o ?_)
 refine zcb HM.o fun w1 b1=>?_
 obtain⟨L0,hL0⟩:=xeq (tokv t.1 (.slice none 0 0) (qke root t.1));have lL0:L0.length=34:=by rw[←hL0];exact qdg _ _ _ (qkf _ _)
 have oL0:∀v∈L0,v.oneCell'=true:=by rw[←hL0];exact qeh _ _ rfl _
 rw[hL0];have z1:=Blk.new w1 31 zLT;obtain⟨Z1,AA,AB,AC⟩:=zh4 z1 lL0 oL0 (show (Tryz.prog.info? 31).map (·.size)=some L0.toArray.size by rw[tB6,lL0];exact Tryz.tok_info);have b1':=b1;obtain⟨B1,AD⟩:=zh2 b1 hL0;clear z1 lL0 oL0 b1 hL0 c0;have t1:=T0.below B1.o T0.lt;have c1:=(Blk.alloc t1 (.cells zLT 31)).setRow_far (g:=w1.heap.size) (by have:=t1.lt;omega) L0.toArray |>.cell 1;rw[tA3,D1.o]at c1;go_wp2_with (refine wpList_store_row rfl 31 (.tmp 5) (.tmp 12) rfl w1.heap.size L0.toArray rfl rfl 31 _ Z1.o AC.o (by simp[AA.o]) (by simpa using AB.o) ?_)
 obtain⟨W2,hW2⟩:=eqx ((w1.alloc (.cells zLT 31)).setRow w1.heap.size L0.toArray);rw[←hW2];have x2:Blk W2 w1.heap.size 31 L0.toArray:=by rw[hW2];exact Z1.setRow _
 have t2:Blk W2 (w.heap.size+1) 31 D.toArray:=by rw[hW2];exact(Blk.alloc t1 _).setRow_far (by have:=t1.lt;omega) _
 have b2:Zb w W2:=by rw[hW2];exact below_setRow ((B0.trans (B1.mono B0.size)).alloc (tB1 B0.size B1.size) _) (tB1 B0.size B1.size) _
 have lX:w.heap.size+1<w1.heap.size:=t1.lt;obtain⟨X2,T2,B2⟩:=zh3 x2 t2 b2;clear hW2 x2 t2 b2 t1 c1 b1';obtain⟨X,hX⟩:=xeq w1.heap.size;rw[hX]at X2 lX ⊢;go_loopw [16] (fun i wr=>∃(k:Nat) (x:Tok) (v:Value),k≤n∧i=.int .i64 k∧Hid (qko (qkq root t.1) (t.2.1.take k)=some x)∧Hid x.Ok∧x.2.1.length≤k∧Hid (Blk wr X 31 (tokv x.1 v x.2.2).toArray)∧Hid (OwnC wr w.heap.size v x.2.1)∧Hid (Zb w wr)∧Hid (Blk wr (w.heap.size+1) 31 D.toArray)) (fun i _=>n - (intOf i).toNat)
 case atStart=>exact⟨0,qkq root t.1,.slice none 0 0,by omega,rfl,by rw[List.take_zero];exact rfl,qku root t.1 HtO.o.1,by simp[qkq],by rw[show tokv (qkq root t.1).1 (.slice none 0 0) (qkq root t.1).2.2=L0 from AD.o];exact X2.o,OwnC.nil _ _,B2.o,T2.o⟩
 case round=>
  obtain⟨k,x,v,hk,rfl,hg,hxo,hxl,hX,hv,hb,htb⟩:=hrel;by_cases hkn:k<n
  ·
   have qk:(k:Int)<n:=zo;obtain⟨cav,hcav⟩:∃c,t.2.1[k]? =some c:=⟨_,tA7 (by rw[Hl.o];exact hkn)⟩;obtain⟨gb,go,hA,hgb,hrd⟩:=HR.mid zo zo;obtain⟨e0,e1⟩:=qdj t.2.1 k cav hcav;have m0:=(hb.cell (p:=⟨gb,go+k*2,none⟩) hgb).trans (hrd _ _ e0);have m1:=(hb.cell (p:=⟨gb,go+(k*2+1),none⟩) hgb).trans (hrd _ _ e1);subst hA;obtain⟨kk,NN⟩:=cav;dsimp only at m0 m1;rw[←Nat.add_assoc]at m1;have HC:=zh1 hcav;clear e0 e1 hrd hcav;go_upto_region 6 with(fail)
   obtain⟨W3,hW3⟩:=eqx (wr.alloc (.cells #[.int .i64 kk,.int .u32 NN] 132));rw[←hW3];have x3:Blk W3 X 31 (tokv x.1 v x.2.2).toArray:=by rw[hW3];exact hX.alloc _
   have v3:=zNa hW3;have o3:OwnC W3 w.heap.size v x.2.1:=by rw[hW3];exact hv.alloc _
   have b3:Zb w W3:=by rw[hW3];exact qah hb.o _
   have tb3:Blk W3 (w.heap.size+1) 31 D.toArray:=by rw[hW3];exact htb.alloc _
   have cv0:=v3.cell 0;have cv1:=v3.cell 1;rw[show (#[Value.int .i64 kk,Value.int .u32 NN]:Array Value)[0]? =some (.int .i64 kk) from rfl]at cv0;rw[show (#[Value.int .i64 kk,Value.int .u32 NN]:Array Value)[1]? =some (.int .u32 NN) from rfl]at cv1;clear hW3;obtain⟨Ax,nx,cx,rfl,enx,ncx,-,rx⟩:=o3.sl;have hN:NN<4294967296:=HtO.o.2.1 (kk,NN) (tB2 HC.o);have N3:=qkn x Ax nx cx kk NN W3 rx ncx zo hxo.o.2.2.1 hxo.o.2.2.2 hN (HT.below b3 HT.size);have lX3:=qdg x.1 (.slice Ax nx cx) x.2.2 hxo.o.2.2.1;obtain⟨E,hE⟩:=xeq (tokv x.1 (.slice Ax nx cx) x.2.2);rw[hE]at x3 N3 lX3;obtain⟨AE,AF,AG,X3,O3,B3,A1,AI⟩:=zh8 (qap x3 0 E zjq) (zI 31 lX3) N3 x3 o3 b3 tb3 hN;obtain⟨A2,Hok',Hlen'⟩:=zh3 lX3 (qkv x (kk,NN) hxo.o hN) (qkw x (kk,NN));clear N3 x3 o3 b3 tb3 hN lX3 hE enx ncx rx hX hv v3 m0 m1;go_wp2_with (refine zld AE.o zu31 AF.o ?_)
   refine AG.o.mono ?_;rintro e w4 ⟨v4,rfl,o4,b4⟩;obtain⟨r,hr⟩:=xeq (qkl x (kk,NN));rw[hr]at Hok' Hlen' o4 ⊢;obtain⟨A4,n4,c4,rfl,-,-,-,-⟩:=o4.sl;have hlF:=qdg r.1.1 (.slice A4 n4 c4) r.1.2.2 Hok'.o.2.2.1;have hoF:=qeh r.1.1 (.slice A4 n4 c4) rfl r.1.2.2;obtain⟨F,hF⟩:=xeq (tokv r.1.1 (.slice A4 n4 c4) r.1.2.2);rw[hF]at hlF hoF ⊢;have x4:=X3.below b4 X3.lt;obtain⟨A3,A5,A6,HF,X4,O4,B4,A0⟩:=zh8 (show (Tryz.prog.info? 31).map (·.size)=some F.toArray.size by rw[tB6,hlF];exact Tryz.tok_info) hlF hoF hF x4 o4 b4 hr;clear hlF hoF hF x4 o4 b4 hr;obtain⟨q,hq⟩:=xeq r.2;rw[hq];have HQ:=zh1 hq;clear hq cv0 cv1;by_cases h0:q=0
   ·
    have h0':(q:Int)=0:=zo;go_wp2_with (refine wpList_store_row rfl 31 (.tmp 5) (.tmp 24) rfl X F.toArray rfl rfl 31 _ X4.o A3.o (by simp[A5.o,A2.o]) (by simpa using A6.o) ?_)
    go_roundw
    case rel=>
     have hr0:(qkl x (kk,NN)).2=0:=by rw[A0.o,HQ.o,h0]
     refine⟨k+1,r.1,.slice A4 n4 c4,by omega,by go_num,?_,Hok'.o,by have:=Hlen'.o;omega,?_,?_,?_,?_⟩
     · have:=qks hg.o HC.o hr0
       rw[A0.o]at this;exact this
     · rw[HF.o]
       exact X4.setRow _
     · exact OwnC.mono (tB3 O4.o (qam _ _ _) (.inr (qa3 O4.o X4.o zdc))) B3.size
     · exact below_setRow (B3.trans (B4.mono B3.size)) zo _
     exact(A1.below B4.o A1.lt).setRow_far zo _
    case measure=>simp[intOf];omega
   have h0':¬(q:Int)=0:=zo;go_wp2_with (refine wpList_store_row rfl 31 (.tmp 5) (.tmp 24) rfl X F.toArray rfl rfl 31 _ X4.o A3.o (by simp[A5.o,A2.o]) (by simpa using A6.o) ?_)
   have hf:qkr root t=false:=by
    unfold qkr;rw[qkt hg.o HC.o (by rw[A0.o,HQ.o];exact h0)]
   go_ret
   exact⟨by rw[hf];rfl,below_setRow (B3.trans (B4.mono B3.size)) zo _⟩
  have qk:¬(k:Int)<n:=zo;have hg':=hg.o;rw[tB5 (by rw[Hl.o];omega)]at hg';have hgen:qkr root t=(x.2.2==t.2.2):=by
   unfold qkr;rw[hg']
  have qe:=fun w=>qeg w x.2.2 t.2.2 hxo.o.2.2.1 HtO.o.2.2.1 hxo.o.2.2.2 HtO.o.2.2.2
  have l1:(byv x.2.2).length=32:=by rw[qat];exact hxo.o.2.2.1
  have l2:(byv t.2.2).length=32:=by rw[qat];exact HtO.o.2.2.1
  have r1:wr.rangeAt X 2 (byv x.2.2):=qap hX.o 2 (byv x.2.2) (fun j u h=>by
   unfold tokv;rw[show 2+j=j+1+1 by omega,tBc,tBc];exact h)
  have r2:wr.rangeAt (w.heap.size+1) 2 (byv t.2.2):=qap htb.o 2 (byv t.2.2) D2.o;obtain⟨U1,hU1⟩:=xeq (byv x.2.2);obtain⟨U2,hU2⟩:=xeq (byv t.2.2);rw[hU1]at l1 r1;rw[hU2]at l2 r2;simp only[hU1,hU2]at qe;obtain⟨R1,R2,I1,I2,HG⟩:=zh5 r1 r2 (zI 29 l1) (zI 29 l2) hgen;clear hg' hgen l1 l2 r1 r2 hU1 hU2;go_wp2_with (first
   |(refine zld R1.o zu29 I1.o ?_)
   |(refine zld R2.o zu29 I2.o ?_))
  go_ret
  exact⟨by rw[HG.o];rfl,hb.o⟩
def qky (op tree:Int)(clock:Nat)(c:Int × Nat):Bool:=
 if c.1=1 then tree==(c.2:Int) else if c.1=2 then decide (op<(c.2:Int)) else if c.1=3 then decide (clock<c.2) else false
def qkz (op tree:Int)(clock:Nat)(l:List (Int × Nat)):Bool:=l.all (qky op tree clock)
theorem ql0{op tree:Int}{l:List (Int × Nat)}{c:Int × Nat}(hc:l[k]? =some c)(h:qky op tree clock c=false):qkz op tree clock l=false:=by
 unfold qkz;rw[List.all_eq_false];exact⟨c,tB2 hc,by simp[h]⟩
theorem ql1{op tree:Int}{l:List (Int × Nat)}{c:Int × Nat}(hc:l[k]? =some c)(ha:qkz op tree clock (l.take k)=true)(h:qky op tree clock c=true):qkz op tree clock (l.take (k+1))=true:=by
 unfold qkz at ha ⊢;rw[List.take_add_one,hc];simp[List.all_append,ha,h]
theorem ql2(op tree:Int)(clock:Nat)(t:Tok)(A:Option Addr)(n c:Nat)(w:World)(hr:Reads w w.heap.size 2 A n (cavv t.2.1))(hnc:n≤c)(hn:n≤8796093022000)(ht:t.Ok):
 Zc 180 #[.agg (tokv t.1 (.slice A n c) t.2.2).toArray,.int .i64 op,.int .i64 tree,.int .u64 clock] w fun e w'=>e=.returned (.bool (qkz op tree clock t.2.1))∧Zb w w':=by
 have hl:t.2.1.length=n:=by have:=hr.1;rw[qee]at this;omega
 have d1:(tokv t.1 (.slice A n c) t.2.2)[1]? =some (.slice A n c):=rfl;obtain⟨D,hD⟩:=xeq (tokv t.1 (.slice A n c) t.2.2);rw[hD]at d1 ⊢;have c1:(w.alloc (.cells D.toArray 31)).cell? ⟨w.heap.size,1,none⟩=some (.slice A n c):=by rw[qak,tA3,d1]
 obtain⟨HR,Hl,HtO⟩:=zh3 hr hl ht;clear hD d1 hr hl ht;go_enter Tryz.func180,Tryz.ntmps180
 go_wp2_with fail
 go_loopw [15] (fun i wr=>∃k:Nat,k≤n∧i=.int .i64 k∧Hid (qkz op tree clock (t.2.1.take k)=true)∧Hid (Zb w wr)) (fun i _=>n - (intOf i).toNat)
 case atStart=>exact⟨0,by omega,rfl,by rw[List.take_zero];exact rfl,qah (tA5 _ _) _⟩
 case round=>
  obtain⟨k,hk,rfl,hg,hb⟩:=hrel;by_cases hkn:k<n
  ·
   have qk:(k:Int)<n:=zo;obtain⟨cav,hcav⟩:∃c,t.2.1[k]? =some c:=⟨_,tA7 (by rw[Hl.o];exact hkn)⟩;obtain⟨gb,go,hA,hgb,hrd⟩:=HR.mid zo zo;obtain⟨e0,e1⟩:=qdj t.2.1 k cav hcav;have m0:=(hb.cell (p:=⟨gb,go+k*2,none⟩) hgb).trans (hrd _ _ e0);have m1:=(hb.cell (p:=⟨gb,go+(k*2+1),none⟩) hgb).trans (hrd _ _ e1);subst hA;obtain⟨kk,NN⟩:=cav;dsimp only at m0 m1;rw[←Nat.add_assoc]at m1;have HC:=zh1 hcav;have hN:NN<4294967296:=HtO.o.2.1 (kk,NN) (tB2 HC.o);have n1:IntKind.i64.wrap (NN:Int)=NN:=tBb _ zo;have n2:IntKind.u64.wrap (NN:Int)=NN:=tBa _ zo;clear e0 e1 hrd hcav c1;by_cases q1:kk=1
   ·
    subst q1;by_cases hh:tree=NN
    · have Hh:Hid (qky op tree clock (1,NN)=true):=by simp[Hid,qky,hh]
      subst hh;go_wp2
      go_roundw
      case rel=>exact⟨k+1,by omega,by go_num,ql1 HC.o hg.o Hh.o,qah hb.o _⟩
      case measure=>simp[intOf];omega
    have Hh:Hid (qky op tree clock (1,NN)=false):=by simp[Hid,qky,hh]
    have hh2:(tree==(NN:Int))=false:=by simpa using hh
    go_wp2
    go_ret
    exact⟨by rw[ql0 HC.o Hh.o];rfl,qah hb.o _⟩
   by_cases q2:kk=2
   ·
    subst q2;by_cases hh:op<NN
    · have Hh:Hid (qky op tree clock (2,NN)=true):=by simp[Hid,qky,hh]
      go_wp2
      go_roundw
      case rel=>exact⟨k+1,by omega,by go_num,ql1 HC.o hg.o Hh.o,qah hb.o _⟩
      case measure=>simp[intOf];omega
    have Hh:Hid (qky op tree clock (2,NN)=false):=by simp[Hid,qky,hh]
    go_wp2
    go_ret
    exact⟨by rw[ql0 HC.o Hh.o];rfl,qah hb.o _⟩
   by_cases q3:kk=3
   ·
    subst q3;by_cases hh:clock<NN
    · have Hh:Hid (qky op tree clock (3,NN)=true):=by simp[Hid,qky,hh]
      have hh':(clock:Int)<NN:=zo;go_wp2
      go_roundw
      case rel=>exact⟨k+1,by omega,by go_num,ql1 HC.o hg.o Hh.o,qah hb.o _⟩
      case measure=>simp[intOf];omega
    have Hh:Hid (qky op tree clock (3,NN)=false):=by simp[Hid,qky,hh]
    have hh':¬(clock:Int)<NN:=zo;go_wp2
    go_ret
    exact⟨by rw[ql0 HC.o Hh.o];rfl,qah hb.o _⟩
   have Hh:Hid (qky op tree clock (kk,NN)=false):=by simp[Hid,qky,q1,q2,q3]
   go_wp2
   go_ret
   exact⟨by rw[ql0 HC.o Hh.o];rfl,qah hb.o _⟩
  have qk:¬(k:Int)<n:=zo;have hg':=hg.o;rw[tB5 (by rw[Hl.o];omega)]at hg';have HG:=zh1 hg';clear hg';go_wp2
  go_ret
  exact⟨by rw[HG.o];rfl,hb.o⟩
def mayB (f t w:Int):Bool:=if f=1 then t==2||t==3 else if f=2 then t==1||t==3||t==4 else if f=3 then t==2||(t==4&&w==0) else false
def ql3 (s:Int):Int:=if s=1 then 3 else if s=3 then 2 else if s=2 then 1 else 0
def ql4 (s:Int):Bool:=s==1||s==3
def ql5 (s:Int):Bool:=s==1
def within (n lo hi:Int):Int:=lo+n % (hi - lo+1)
theorem ql6{a b:Bool}(h:a=b):Ending.returned (.bool a)=.returned (.bool b):=by rw[h]
theorem ql7{k:IntKind}{a b:Int}(h:a=b):Ending.returned (.int k a)=.returned (.int k b):=by rw[h]
theorem ql8(f t n:Int)(w:World):
 Zc 191 #[.int .i64 f,.int .i64 t,.int .i64 n] w fun e w'=>e=.returned (.bool (mayB f t n))∧w=w':=by
 go_enter Tryz.func191,Tryz.ntmps191
 go_wp2
 all_goals (go_ret;exact⟨ql6 (by simp_all [mayB]),rfl⟩)
theorem ql9(s:Int)(w:World):
 Zc 145 #[.int .i64 s] w fun e w'=>e=.returned (.int .i64 (ql3 s))∧w=w':=by
 go_enter Tryz.func145,Tryz.ntmps145
 go_wp2
 all_goals (go_ret;exact⟨ql7 (by simp_all [ql3]),rfl⟩)
theorem qla(s:Int):decide (2≤ql3 s)=ql4 s:=by
 unfold ql3 ql4;by_cases h1:s=1<;>by_cases h2:s=2<;>by_cases h3:s=3<;>simp_all
theorem qlb(s:Int):decide (3≤ql3 s)=ql5 s:=by
 unfold ql3 ql5;by_cases h1:s=1<;>by_cases h2:s=2<;>by_cases h3:s=3<;>simp_all
theorem qlc(s:Int)(w:World):
 Zc 62 #[.int .i64 s] w fun e w'=>e=.returned (.bool (ql4 s))∧w=w':=by
 go_enter Tryz.func62,Tryz.ntmps62
 go_wp2_with (go_at_call 145;refine(ql9 _ _).mono ?_;rintro e w' ⟨rfl,rfl⟩)
 go_ret
 exact⟨ql6 (qla s),rfl⟩
theorem qld(s:Int)(w:World):
 Zc 187 #[.int .i64 s] w fun e w'=>e=.returned (.bool (ql5 s))∧w=w':=by
 go_enter Tryz.func187,Tryz.ntmps187
 go_wp2_with (go_at_call 145;refine(ql9 _ _).mono ?_;rintro e w' ⟨rfl,rfl⟩)
 go_ret
 exact⟨ql6 (qlb s),rfl⟩
theorem qle(n k:Int)(hk:0<k): -k<n.tmod k∧n.tmod k<k∧(n.tmod k<0→n.tmod k+k=n % k)∧(0≤n.tmod k→n.tmod k=n % k):=by
 have h:=Int.tmod_eq_emod (a:=n) (b:=k);have h0:=Int.emod_nonneg n (by omega:k≠0);have h1:=Int.emod_lt_of_pos n hk;have ha:(k.natAbs:Int)=k:=zo;split at h
 · omega
 rename_i hne
 have:n % k≠0:=fun e=>hne (.inr (Int.dvd_of_emod_eq_zero e))
 omega
theorem qlf(n lo hi:Int)(w:World)(h0: -9223372036854775808≤n)(h1:n≤9223372036854775807)(hl: -2147483648≤lo)(hh:lo≤hi)(hu:hi≤2147483647):
 Zc 23 #[.int .i64 n,.int .i64 lo,.int .i64 hi] w fun e w'=>e=.returned (.int .i64 (within n lo hi))∧w=w':=by
 obtain⟨t0,t1,t2,t3⟩:=qle n (hi - lo+1) zo;obtain⟨T2,T3⟩:=zh2 t2 t3;clear t2 t3;go_enter Tryz.func23,Tryz.ntmps23
 go_wp2
 · have:=T2.o ‹_›
   go_ret
   exact⟨ql7 (by unfold within;omega),rfl⟩
 have:=T3.o ‹_›;go_ret
 exact⟨ql7 (by unfold within;omega),rfl⟩
theorem qlg(n lo hi:Int)(hh:lo≤hi):lo≤within n lo hi∧within n lo hi≤hi:=by
 unfold within;have h0:=Int.emod_nonneg n (by omega:hi - lo+1≠0);have h1:=Int.emod_lt_of_pos n (by omega:0<hi - lo+1);omega
theorem Tryz.i64_info:(Tryz.prog.info? 3).map (fun i=>(i.zero,i.size,i.bytes))=some (some (.int .i64 0),1,8):=by kernel_rfl
def inv (xs:List Int):List Value:=xs.map (Value.int .i64)
theorem qlh(a:List Int):(inv a).length=a.length:=by simp[inv]
theorem qli(l:List Int):∀u∈inv l,u.oneCell'=true:=by
 intro u hu;obtain⟨x,_,rfl⟩:=List.mem_map.1 hu;rfl
def OwnI (w:World)(base:Nat)(v:Value)(xs:List Int):Prop:=w.ownsRow base 3 1 v xs.length (inv xs)
section
variable {w w' : World} {base : Nat} {v : Value} {xs : List Int}
theorem OwnI.sl(h:OwnI w base v xs):∃A n c,v=.slice A n c∧n=xs.length∧n≤c∧c≤maxLen∧Reads w w.heap.size 1 A n (inv xs):=by
 obtain⟨A,c,h1,h2,h3,h4⟩:=qaf h;exact⟨A,_,c,h1,rfl,h2,h3,h4⟩
theorem OwnI.kept(h:OwnI w base v xs)(hb:Zb w w'):OwnI w' base v xs:=
 tB3 h ⟨hb.os,hb.tape,hb.output,hb.size,fun k hk _=>hb.block k hk⟩ (row:=none) (by cases v.ownBlock<;>simp)
theorem OwnI.alloc(h:OwnI w base v xs)(o:Obj):OwnI (w.alloc o) base v xs:=h.kept ((tA5 _ _).alloc (tA4 _) o)
theorem OwnI.made(w:World)(l:List Int)(hc:l.length≤maxLen):OwnI (w.alloc (.cells (inv l).toArray 3)) w.heap.size (.slice (some ⟨w.heap.size,0,none⟩) l.length l.length) l:=by
 exact World.ownsRow_lit (size:=1) (e:=3) w (inv l).toArray l.length (tA4 _) hc (by simp[qlh])
end
theorem qlj{ops:Array Oper}(hgd:o.guard=none)(s x:Operand)
 (ho:o.op=.call {callee:=.builtin .append,args:=#[s,x],argTypes:=#[259,259]})
 (base:Nat)(v:Value)(bs:List Int)(hs:a.eval s=v)(hown:OwnI w base v bs)(A:Option Addr)(m c:Nat)(news:List Int)(hx:a.eval x=.slice A m c)(hr:Reads w w.heap.size 1 A m (inv news))
 (hlen:bs.length+m≤65536)(hbase:base≤w.heap.size)
 (h:∀v' w',OwnI w' base v' (bs++news)→Below base w w'→w.grownBy w' v.ownBlock→wpList Tryz.prog ops Q rest (a.put o.dst v') w'):wpList Tryz.prog ops Q (o::rest) a w:=by
 obtain⟨i0,hi0,hz0,hz1,hz2⟩:=info_parts Tryz.i64_info;have hm:news.length=m:=by have:=hr.1;simpa [inv] using this
 refine qa7 (P:=Tryz.prog) w hgd s x _ ho base 3 i0 _ 1 8 Tryz.underlying259 hi0 hz0 hz1 hz2 rfl zo v bs.length (inv bs) hs hown w.heap.size A m c (inv news) hx hr (qli _) (by simp only[maxLen];omega) zo hbase ?_;intro v' w' h1 h2 h3;refine h v' w' ?_ ?_ h2
 · unfold OwnI
   rw[tA6,hm];simpa [inv] using h1
 exact qae (tA5 _ _) hown h2 (tA4 _) hbase
theorem qlk(w:World)(l:List Int):Reads (w.alloc (.cells (inv l).toArray 3)) (w.alloc (.cells (inv l).toArray 3)).heap.size 1 (some ⟨w.heap.size,0,none⟩) l.length (inv l):=by
 have:=Reads.new w 3 (inv l) 1 l.length (by rw[qlh,Nat.mul_one]);rwa[qar]
theorem qll(w:World)(l:List Int)(g:Nat)(hg:g=w.heap.size)(m:Nat)(hm:m=l.length):Reads (w.alloc (.cells (inv l).toArray 3)) (w.alloc (.cells (inv l).toArray 3)).heap.size 1 (some ⟨g,0,none⟩) m (inv l):=by
 subst hg hm;exact qlk w l
def qlm (op:Int):Bool:=decide (6≤op∧op≤12)
theorem qln(op:Int)(w:World):
 Zc 55 #[.int .i64 op] w fun e w'=>e=.returned (.bool (qlm op))∧w=w':=by
 go_enter Tryz.func55,Tryz.ntmps55
 go_wp2
 all_goals
  go_ret
  exact⟨qdc (by simp_all [qlm];try omega),rfl⟩
theorem qlo(op:Int)(w:World):
 Zc 21 #[.int .i64 op] w fun e w'=>e=.returned (.bool (qdm op))∧w=w':=by
 go_enter Tryz.func21,Tryz.ntmps21
 go_wp2
 all_goals
  go_ret
  refine⟨?_,rfl⟩;exact qdc (by rw[Bool.eq_iff_iff];simp_all [qdm];try omega)
def qlp (R:Req):List Int:=
 [R.op]++((if qdm R.op then [R.tree] else [])++(if R.op=6 then [R.tenant,R.weight] else if R.op=7 then [R.state] else if R.op=8 then [R.weight] else if R.op=10 then [R.tenant,R.role] else if R.op=12 then [R.tenant] else []))
theorem qlq(R:Req):(qlp R).length≤5:=by
 unfold qlp;simp only[tA6];(repeat' split)<;>simp
def isByte (x:Int):Bool:=decide (0≤x∧x≤255)
def qlr (R:Req):Bool:=(qlp R).all isByte
theorem qls(h:x<0):isByte x=false:=by unfold isByte;simp;omega
theorem qlt(h:255<x):isByte x=false:=by unfold isByte;simp;omega
theorem qlu(h:0≤x)(h':x≤255):isByte x=true:=by unfold isByte;simp;omega
theorem qlv{l:List Int}(h:l[k]? =some x)(hx:isByte x=false):l.all isByte=false:=by
 rw[List.all_eq_false];exact⟨x,tB2 h,by simp[hx]⟩
theorem qlw(R:Req)(cav leafv:Value)(w:World)(ht:R.tag.length=32)(h1:1≤R.op)(h2:R.op≤12):
 Zc 97 #[.agg (reqv R cav leafv).toArray] w fun e w'=>e=.returned (.bool (qlr R))∧Zb w w':=by
 have hrr:=qdl R cav leafv ht;obtain⟨k,hk⟩:=xeq R.op;have r0:(reqv R cav leafv)[0]? =some (.int .i64 k):=by rw[←hk];rfl
 rw[hk]at h1 h2;obtain⟨L,hL⟩:=xeq (reqv R cav leafv);rw[hL]at hrr r0 ⊢;have hcell:∀(i:Nat) (v:Value),L[i]? =some v→L.toArray[i]? =some v:=fun i v h=>by simpa using h
 have t1:Blk ((w.alloc (.cells L.toArray 34)).alloc (.cells #[.int .i64 k] 3)) w.heap.size 34 L.toArray:=(Blk.new w _ _).alloc _;have hown:=OwnI.made (w.alloc (.cells L.toArray 34)) [k] (by simp[maxLen]);have B3:Zb w ((w.alloc (.cells L.toArray 34)).alloc (.cells #[.int .i64 k] 3)):=qah (qah (tA5 _ _) _) _;rw[qar]at hown;have c00:=((Blk.new w 34 L.toArray).cell 0).trans (hcell _ _ r0);have c0:=(t1.cell 0).trans (hcell _ _ r0);obtain⟨R0,HK,A1,HC,T1,A0,A2,A3⟩:=zh8 r0 hk hrr hcell t1 hown B3 (And.intro h1 h2);clear r0 hk hrr hL t1 hown B3 ht hcell h1 h2;go_enter Tryz.func97,Tryz.ntmps97
 go_wp2_with fail
 refine(qlo _ _).mono ?_;rintro e w1 ⟨rfl,rfl⟩;go_upto_if 10 with(fail)
 go_cut [3] (fun s3 wx=>∃A n c,s3=.slice A n c∧Hid (OwnI wx (w.heap.size+1) (.slice A n c) ([k]++if qdm k then [R.tree] else []))∧Hid (Blk wx w.heap.size 34 L.toArray)∧Hid (Zb w wx))
 case first=>
  cases hb:qdm k with
  |false=>
   have HX:=zh1 hb;clear hb;go_wp2
   go_meet
   case rel=>exact⟨_,_,_,rfl,by rw[HX.o];exact A0,T1,A2⟩
  |true=>
   have HX:=zh1 hb;have r35:=(A1.o 0).trans (show _=some (.int .i64 R.tree) from rfl);have e35:=(T1.cell 35).trans (HC.o _ _ r35);have t1:=T1.o;have B3:=A2.o;have hown:=A0.o;clear hb r35;go_wp2_with (at_builtin;refine qlj rfl _ _ rfl (w.heap.size+1) _ _ rfl (hown.alloc (.cells (inv [R.tree]).toArray 3)) _ _ _ [R.tree] rfl (qll _ [R.tree] _ zm _ rfl) (by first|(simp;done)|(split<;>simp)) (by have:=t1.lt;simp only[qar]at*;omega) ?_)
   intro v2 w2 hown2 hb2 hg2;have t2:=(t1.alloc (.cells (inv [R.tree]).toArray 3)).below hb2 (by first|omega|(simp only[qar]at*;omega));have B4:=(B3.alloc B3.size (.cells (inv [R.tree]).toArray 3)).trans (hb2.mono (by have:=B3.size;first|omega|(simp only[qar]at*;omega)));obtain⟨HO,HT,HB⟩:=zh3 hown2 t2 B4;clear hown2 hb2 hg2 t2 B4;clear hown t1 B3;go_wp2
   go_meet
   case rel=>
    obtain⟨As,ns,cs,rfl,-,-,-,-⟩:=HO.sl;exact⟨_,_,_,rfl,by rw[HX.o];exact HO,HT,HB⟩
 case rest=>
  obtain⟨A,n,c,rfl,ho,t1,B3⟩:=hcut;clear c00 c0 T1 A0 A2;have hown:=ho.o;have t1:=t1.o;have B3:=B3.o;have c0:=(t1.cell 0).trans (HC.o _ _ R0.o);have hrr:=A1.o;have hcell:=HC.o;go_upto_block 0 with fail
  go_cut [3] (fun s3 wx=>∃A n c,s3=.slice A n c∧Hid ((qlp R).length=n)∧Hid (Reads wx wx.heap.size 1 A n (inv (qlp R)))∧Hid (Zb w wx))
  case first=>
   have h12:=A3.o;clear A3;rcases(show k=6∨k=7∨k=8∨k=10∨k=12∨(k≠6∧k≠7∧k≠8∧k≠10∧k≠12) by omega) with rfl|rfl|rfl|rfl|rfl|⟨a1,a2,a3,a4,a5⟩
   ·
    have r36:=(hrr 1).trans (show _=some (.int .i64 (R.tenant)) from rfl);have e36:=(t1.cell 36).trans (hcell _ _ r36);have r39:=(hrr 4).trans (show _=some (.int .i64 (R.weight)) from rfl);have e39:=(t1.cell 39).trans (hcell _ _ r39);clear h12 r36 r39;have HX:=zh1 (by simp[qlp,HK.o]:qlp R=[6]++(if qdm 6 then [R.tree] else [])++([R.tenant,R.weight]));go_wp2_with (at_builtin;refine qlj rfl _ _ rfl (w.heap.size+1) _ _ rfl (hown.alloc (.cells (inv [R.tenant,R.weight]).toArray 3)) _ _ _ [R.tenant,R.weight] rfl (qll _ [R.tenant,R.weight] _ zm _ rfl) (by first|(simp;done)|(split<;>simp)) (by have:=t1.lt;simp only[qar]at*;omega) ?_)
    intro v2 w2 hown2 hb2 hg2;have t2:=(t1.alloc (.cells (inv [R.tenant,R.weight]).toArray 3)).below hb2 (by first|omega|(simp only[qar]at*;omega));have B4:=(B3.alloc B3.size (.cells (inv [R.tenant,R.weight]).toArray 3)).trans (hb2.mono (by have:=B3.size;first|omega|(simp only[qar]at*;omega)));obtain⟨HO,HT,HB⟩:=zh3 hown2 t2 B4;clear hown2 hb2 hg2 t2 B4;go_wp2
    go_meet
    case rel=>
     obtain⟨As,ns,cs,rfl,hns,hnc,hcm,hrs⟩:=HO.sl;exact⟨As,ns,cs,rfl,zh1 (by rw[HX.o];exact hns.symm),zh1 (by rw[HX.o];exact hrs),HB⟩
   ·
    have r38:=(hrr 3).trans (show _=some (.int .i64 (R.state)) from rfl);have e38:=(t1.cell 38).trans (hcell _ _ r38);clear h12 r38;have HX:=zh1 (by simp[qlp,HK.o]:qlp R=[7]++(if qdm 7 then [R.tree] else [])++([R.state]));go_wp2_with (at_builtin;refine qlj rfl _ _ rfl (w.heap.size+1) _ _ rfl (hown.alloc (.cells (inv [R.state]).toArray 3)) _ _ _ [R.state] rfl (qll _ [R.state] _ zm _ rfl) (by first|(simp;done)|(split<;>simp)) (by have:=t1.lt;simp only[qar]at*;omega) ?_)
    intro v2 w2 hown2 hb2 hg2;have t2:=(t1.alloc (.cells (inv [R.state]).toArray 3)).below hb2 (by first|omega|(simp only[qar]at*;omega));have B4:=(B3.alloc B3.size (.cells (inv [R.state]).toArray 3)).trans (hb2.mono (by have:=B3.size;first|omega|(simp only[qar]at*;omega)));obtain⟨HO,HT,HB⟩:=zh3 hown2 t2 B4;clear hown2 hb2 hg2 t2 B4;go_wp2
    go_meet
    case rel=>
     obtain⟨As,ns,cs,rfl,hns,hnc,hcm,hrs⟩:=HO.sl;exact⟨As,ns,cs,rfl,zh1 (by rw[HX.o];exact hns.symm),zh1 (by rw[HX.o];exact hrs),HB⟩
   ·
    have r39:=(hrr 4).trans (show _=some (.int .i64 (R.weight)) from rfl);have e39:=(t1.cell 39).trans (hcell _ _ r39);clear h12 r39;have HX:=zh1 (by simp[qlp,HK.o]:qlp R=[8]++(if qdm 8 then [R.tree] else [])++([R.weight]));go_wp2_with (at_builtin;refine qlj rfl _ _ rfl (w.heap.size+1) _ _ rfl (hown.alloc (.cells (inv [R.weight]).toArray 3)) _ _ _ [R.weight] rfl (qll _ [R.weight] _ zm _ rfl) (by first|(simp;done)|(split<;>simp)) (by have:=t1.lt;simp only[qar]at*;omega) ?_)
    intro v2 w2 hown2 hb2 hg2;have t2:=(t1.alloc (.cells (inv [R.weight]).toArray 3)).below hb2 (by first|omega|(simp only[qar]at*;omega));have B4:=(B3.alloc B3.size (.cells (inv [R.weight]).toArray 3)).trans (hb2.mono (by have:=B3.size;first|omega|(simp only[qar]at*;omega)));obtain⟨HO,HT,HB⟩:=zh3 hown2 t2 B4;clear hown2 hb2 hg2 t2 B4;go_wp2
    go_meet
    case rel=>
     obtain⟨As,ns,cs,rfl,hns,hnc,hcm,hrs⟩:=HO.sl;exact⟨As,ns,cs,rfl,zh1 (by rw[HX.o];exact hns.symm),zh1 (by rw[HX.o];exact hrs),HB⟩
   ·
    have r36:=(hrr 1).trans (show _=some (.int .i64 (R.tenant)) from rfl);have e36:=(t1.cell 36).trans (hcell _ _ r36);have r37:=(hrr 2).trans (show _=some (.int .i64 (R.role)) from rfl);have e37:=(t1.cell 37).trans (hcell _ _ r37);clear h12 r36 r37;have HX:=zh1 (by simp[qlp,HK.o]:qlp R=[10]++(if qdm 10 then [R.tree] else [])++([R.tenant,R.role]));go_wp2_with (at_builtin;refine qlj rfl _ _ rfl (w.heap.size+1) _ _ rfl (hown.alloc (.cells (inv [R.tenant,R.role]).toArray 3)) _ _ _ [R.tenant,R.role] rfl (qll _ [R.tenant,R.role] _ zm _ rfl) (by first|(simp;done)|(split<;>simp)) (by have:=t1.lt;simp only[qar]at*;omega) ?_)
    intro v2 w2 hown2 hb2 hg2;have t2:=(t1.alloc (.cells (inv [R.tenant,R.role]).toArray 3)).below hb2 (by first|omega|(simp only[qar]at*;omega));have B4:=(B3.alloc B3.size (.cells (inv [R.tenant,R.role]).toArray 3)).trans (hb2.mono (by have:=B3.size;first|omega|(simp only[qar]at*;omega)));obtain⟨HO,HT,HB⟩:=zh3 hown2 t2 B4;clear hown2 hb2 hg2 t2 B4;go_wp2
    go_meet
    case rel=>
     obtain⟨As,ns,cs,rfl,hns,hnc,hcm,hrs⟩:=HO.sl;exact⟨As,ns,cs,rfl,zh1 (by rw[HX.o];exact hns.symm),zh1 (by rw[HX.o];exact hrs),HB⟩
   ·
    have r36:=(hrr 1).trans (show _=some (.int .i64 (R.tenant)) from rfl);have e36:=(t1.cell 36).trans (hcell _ _ r36);clear h12 r36;have HX:=zh1 (by simp[qlp,HK.o]:qlp R=[12]++(if qdm 12 then [R.tree] else [])++([R.tenant]));go_wp2_with (at_builtin;refine qlj rfl _ _ rfl (w.heap.size+1) _ _ rfl (hown.alloc (.cells (inv [R.tenant]).toArray 3)) _ _ _ [R.tenant] rfl (qll _ [R.tenant] _ zm _ rfl) (by first|(simp;done)|(split<;>simp)) (by have:=t1.lt;simp only[qar]at*;omega) ?_)
    intro v2 w2 hown2 hb2 hg2;have t2:=(t1.alloc (.cells (inv [R.tenant]).toArray 3)).below hb2 (by first|omega|(simp only[qar]at*;omega));have B4:=(B3.alloc B3.size (.cells (inv [R.tenant]).toArray 3)).trans (hb2.mono (by have:=B3.size;first|omega|(simp only[qar]at*;omega)));obtain⟨HO,HT,HB⟩:=zh3 hown2 t2 B4;clear hown2 hb2 hg2 t2 B4;go_wp2
    go_meet
    case rel=>
     obtain⟨As,ns,cs,rfl,hns,hnc,hcm,hrs⟩:=HO.sl;exact⟨As,ns,cs,rfl,zh1 (by rw[HX.o];exact hns.symm),zh1 (by rw[HX.o];exact hrs),HB⟩
   have HX:=zh1 (show qlp R=[k]++if qdm k then [R.tree] else [] by simp only[qlp,HK.o,if_neg a1,if_neg a2,if_neg a3,if_neg a4,if_neg a5,List.append_nil]);have q1:(k==6)=false:=by simpa using a1
   have q2:(k==7)=false:=by simpa using a2
   have q3:(k==8)=false:=by simpa using a3
   have q4:(k==10)=false:=by simpa using a4
   have q5:(k==12)=false:=by simpa using a5
   obtain⟨As,ns,cs,e9,hns,hnc,hcm,hrs⟩:=hown.sl;obtain⟨E9,F1,F2,F3⟩:=zh4 e9 (show (qlp R).length=ns by rw[HX.o];exact hns.symm) (show Reads wc wc.heap.size 1 As ns (inv (qlp R)) by rw[HX.o];exact hrs) B3;clear a1 a2 a3 a4 a5 h12 hown hns hrs e9 B3;go_wp2
   go_meet
   case rel=>exact⟨As,ns,cs,E9.o,F1,F2,F3⟩
  case rest=>
   obtain⟨A,ns,c,rfl,Hns,Hrs,A4⟩:=hcut;obtain⟨X,hX⟩:=xeq (qlp R);have Hsb:=zh1 (show qlr R=X.all isByte by unfold qlr;rw[hX]);have hrs:=Hrs.o;have hfew:ns≤5:=by rw[←Hns.o];exact qlq R
   rw[hX]at Hns hrs;clear hX hown t1 B3 c0 hrr hcell A1 HC R0 HK A3 Hrs ho;go_wp2
   go_loop [4] (fun i=>∃k:Nat,k≤ns∧i=.int .i64 k∧(X.take k).all isByte=true) (fun i=>ns - (intOf i).toNat)
   case atStart=>exact⟨0,by omega,rfl,by simp⟩
   case round=>
    obtain⟨k,hk,rfl,hall⟩:=hrel;have Hall:=zh1 hall;clear hall;by_cases hlt:k<ns
    ·
     obtain⟨x,hxk⟩:∃x,X[k]? =some x:=⟨_,tA7 (by rw[Hns.o];exact hlt)⟩;obtain⟨bq,oq,rfl,-,hcell⟩:=hrs.mid zo zo;have m0:=hcell k (.int .i64 x) (by unfold inv;rw[tBj,hxk];rfl);have Hxk:=zh1 hxk;clear hxk hcell hrs;by_cases hx0:x<0
     · go_wp2
       go_ret
       exact⟨qdc (Hsb.trans (qlv Hxk.o (qls hx0))).symm,A4.o⟩
     by_cases hx1:255<x
     · go_wp2
       go_ret
       exact⟨qdc (Hsb.trans (qlv Hxk.o (qlt hx1))).symm,A4.o⟩
     go_wp2
     go_round
     case rel=>exact⟨k+1,by omega,by go_num,by rw[List.take_add_one,Hxk.o,List.all_append,Hall.o];simpa using qlu (Int.not_lt.1 hx0) (Int.not_lt.1 hx1)⟩
     case measure=>simp[intOf];omega
    obtain rfl:k=ns:=zo;go_wp2
    go_ret
    refine⟨qdc ?_,A4.o⟩;have:=Hall.o;rw[←Hns.o,List.take_length]at this;exact(Hsb.trans this).symm
section
open Go.Extern.Stop (cell)
theorem qlx{t:TypeId}{fs:Array Field}(h:P.underlying t=some (.struct fs)):P.fieldsOf t=fs:=by
 unfold Program.fieldsOf;rw[h]
theorem qly{xs ys:Array Value}:(Op.eqFields d xs ys []).run P w=.ok true w:=by simp[Op.eqFields]
theorem qlz{xs ys:Array Value}{f:Field}{fs:List Field}{a b:Value}{r s:Bool}(hn:f.name≠ "_")(pa:(part f.type xs f.offset).run P w=.ok a w)(pb:(part f.type ys f.offset).run P w=.ok b w)
 (pe:(Op.equalIn d f.type a b).run P w=.ok r w)(hr:(Op.eqFields d xs ys fs).run P w=.ok s w):(Op.eqFields d xs ys (f::fs)).run P w=.ok (r&&s) w:=by
 simp only[Op.eqFields,hn,ne_eq,not_false_eq_true,if_true,Sem.run_bind,pa,pb,pe,Result.andThen_ok];cases r<;>simp[hr]
theorem Tryz.hd_size:∀w:World,(sizeOf 53).run Tryz.prog w=.ok 36 w:=fun w=>by kernel_rfl
theorem Tryz.dg_size:∀w:World,(sizeOf 29).run Tryz.prog w=.ok 32 w:=fun w=>by kernel_rfl
def qm3 (h:Hd):List Value:=.int .i64 h.tree::.int .i64 h.epoch::.int .u64 (h.size:Int)::.int .u64 (h.clock:Int)::byv h.root
theorem qm4(h:Hd):hdv h=qm3 h++byv h.tag:=rfl
theorem qm5(h:Hd)(ho:h.root.length=32):(qm3 h).length=36:=by simp[qm3,qat,ho]
theorem qm6(h:Hd)(ho:h.Ok):(hdv h).length=68:=by rw[qm4,tA6,qm5 h ho.rootl,qat,ho.tagl]
theorem qm7(w:World)(h:Hd)(ho:h.Ok):(part 53 (hdv h).toArray 0).run Tryz.prog w=.ok (.agg (qm3 h).toArray) w:=by
 have e:List.take 36 (hdv h)=qm3 h:=by
  rw[qm4];exact List.take_left' (qm5 h ho.rootl)
 simp[part,isAgg,run_underlying Tryz.underlying53,Tryz.hd_size,e]
theorem qm8(w:World)(h:Hd)(ho:h.Ok):(part 29 (hdv h).toArray 36).run Tryz.prog w=.ok (.agg (byv h.tag).toArray) w:=by
 have e:List.take 32 (List.drop 36 (hdv h))=byv h.tag:=by
  rw[qm4,List.drop_left' (qm5 h ho.rootl)];exact tB5 (by rw[qat,ho.tagl];omega)
 simp[part,isAgg,run_underlying Tryz.underlying29,Tryz.dg_size,e]
theorem qm9(w:World)(h:Hd)(ho:h.Ok):(part 29 (qm3 h).toArray 4).run Tryz.prog w=.ok (.agg (byv h.root).toArray) w:=by
 have e:List.take 32 (List.drop 4 (qm3 h))=byv h.root:=by
  show (byv h.root).take 32=_;exact tB5 (by rw[qat,ho.rootl];omega)
 simp[part,isAgg,run_underlying Tryz.underlying29,Tryz.dg_size,e]
theorem qma(w:World)(h:Hd)(i:Nat)(v:Value)(t:TypeId)(k:IntKind)(hu:(Tryz.prog).underlying t=some (.int k))(hv:(qm3 h)[i]? =some v):(part t (qm3 h).toArray i).run Tryz.prog w=.ok v w:=by
 simp[part,isAgg,run_underlying hu,hv]
theorem qmb(d:Nat)(w:World)(a b:List Nat)(ha:a.length=32)(hb:b.length=32)(ha':∀x∈a,x<256)(hb':∀x∈b,x<256):
 (Op.equalIn (d+2) 29 (.agg (byv a).toArray) (.agg (byv b).toArray)).run Tryz.prog w=.ok (a==b) w:=by
 have e:∀l:List Nat,(∀x∈l,x<256)→byv l=(l.map UInt8.ofNat).map cell:=by
  intro l hl;unfold byv;rw[List.map_map];refine List.map_congr_left fun x hx=>?_
  have:=hl x hx;simp[cell,Function.comp,UInt8.toNat_ofNat,Nat.mod_eq_of_lt this]
 have key:(List.map UInt8.ofNat a==List.map UInt8.ofNat b)=(a==b):=by
  rw[Bool.eq_iff_iff];simp only[beq_iff_eq];constructor
  ·
   have key:∀(a b:List Nat),(∀x∈a,x<256)→(∀x∈b,x<256)→a.map UInt8.ofNat=b.map UInt8.ofNat→a=b:=by
    intro a;induction a with
    |nil=>intro b _ _ h;simpa using h.symm
    |cons x a ih=>
     intro b ha hb h;cases b with
     |nil=>simp at h
     |cons y b=>
      simp only[List.map_cons,List.cons.injEq]at h;have h1:=congrArg UInt8.toNat h.1;have hx:=ha x zm;have hy:=hb y zm;simp[UInt8.toNat_ofNat,Nat.mod_eq_of_lt hx,Nat.mod_eq_of_lt hy]at h1;rw[h1,ih b (fun z hz=>ha z (by simp[hz])) (fun z hz=>hb z (by simp[hz])) h.2]
   exact key a b ha' hb'
  rintro rfl;rfl
 rw[e a ha',e b hb',run_equalIn_bytes w d 29 5 32 Tryz.underlying29 Tryz.underlying5 (fun _=>by kernel_rfl) _ _ (by simpa using ha) (by simpa using hb),key]
theorem qmc(d:Nat)(w:World)(h k:Hd)(ho:h.Ok)(ko:k.Ok):
 (Op.equalIn (d+3) 53 (.agg (qm3 h).toArray) (.agg (qm3 k).toArray)).run Tryz.prog w=.ok (decide (h.tree=k.tree∧h.epoch=k.epoch∧h.size=k.size∧h.clock=k.clock∧h.root=k.root)) w:=by
 have hf:=qlx (P:=Tryz.prog) Tryz.underlying53;have hp:(Tryz.prog).stoodInHeld 53=false:=by kernel_rfl
 have hu:(Tryz.prog).underlying 53=some (.struct ((Tryz.prog).fieldsOf 53)):=by rw[hf];exact Tryz.underlying53
 rw[run_equalIn_struct w (d+2) 53 _ _ hu hp,hf];have e1:=fun x y=>run_equalIn_int w (d+1) 3 .i64 .i64 x y Tryz.underlying3
 have e2:=fun x y=>run_equalIn_int w (d+1) 32 .u64 .u64 x y Tryz.underlying32
 have e3:=qmb d w h.root k.root ho.rootl ko.rootl ho.rootb ko.rootb;have p0:=fun h:Hd=>qma w h 0 (.int .i64 h.tree) 3 .i64 Tryz.underlying3 rfl
 have p1:=fun h:Hd=>qma w h 1 (.int .i64 h.epoch) 3 .i64 Tryz.underlying3 rfl
 have p2:=fun h:Hd=>qma w h 2 (.int .u64 (h.size:Int)) 32 .u64 Tryz.underlying32 rfl
 have p3:=fun h:Hd=>qma w h 3 (.int .u64 (h.clock:Int)) 32 .u64 Tryz.underlying32 rfl
 have p4:=qm9 w h ho;have p5:=qm9 w k ko;refine(qlz zdc (p0 h) (p0 k) (e1 _ _) (qlz zdc (p1 h) (p1 k) (e1 _ _) (qlz zdc (p2 h) (p2 k) (e2 _ _) (qlz zdc (p3 h) (p3 k) (e2 _ _) (qlz zdc p4 p5 e3 qly))))).trans ?_;congr 1
 rw[Bool.eq_iff_iff];simp only[Bool.and_eq_true,beq_iff_eq,decide_eq_true_eq,and_true,Int.natCast_inj]
theorem qmd(d:Nat)(w:World)(h k:Hd)(ho:h.Ok)(ko:k.Ok):
 (Op.equalIn (d+4) 55 (.agg (hdv h).toArray) (.agg (hdv k).toArray)).run Tryz.prog w=.ok (decide (h=k)) w:=by
 have hf:=qlx (P:=Tryz.prog) Tryz.underlying55;have hp:(Tryz.prog).stoodInHeld 55=false:=by kernel_rfl
 have hu:(Tryz.prog).underlying 55=some (.struct ((Tryz.prog).fieldsOf 55)):=by rw[hf];exact Tryz.underlying55
 rw[run_equalIn_struct w (d+3) 55 _ _ hu hp,hf];have e1:=qmc d w h k ho ko;have e3:=qmb (d+1) w h.tag k.tag ho.tagl ko.tagl ho.tagb ko.tagb;have p0:=fun (h:Hd) ho=>qm7 w h ho
 have p1:=fun (h:Hd) ho=>qm8 w h ho
 refine(qlz zdc (p0 h ho) (p0 k ko) e1 (qlz zdc (p1 h ho) (p1 k ko) e3 qly)).trans ?_;congr 1
 rw[Bool.eq_iff_iff];simp only[Bool.and_eq_true,beq_iff_eq,decide_eq_true_eq,and_true];have hiff:h=k ↔ (h.tree=k.tree∧h.epoch=k.epoch∧h.size=k.size∧h.clock=k.clock∧h.root=k.root)∧h.tag=k.tag:=by
  obtain⟨a,b,c,d,e,f⟩:=h;obtain⟨a',b',c',d',e',f'⟩:=k;simp only[Hd.mk.injEq];simp only[and_assoc]
 exact hiff.symm
theorem qme(w:World)(h k:Hd)(ho:h.Ok)(ko:k.Ok):(binOp .eql 55 (.agg (hdv h).toArray) (.agg (hdv k).toArray)).run Tryz.prog w=.ok (.bool (decide (h=k))) w:=by
 rw[run_eql_struct,qmd 9996 w h k ho ko];rfl
theorem qmf(w:World)(h k:Hd)(ho:h.Ok)(ko:k.Ok):(binOp .neq 55 (.agg (hdv h).toArray) (.agg (hdv k).toArray)).run Tryz.prog w=.ok (.bool !(decide (h=k))) w:=by
 rw[run_neq_struct,qmd 9996 w h k ho ko];rfl
end
def digv (l:List (List Nat)):List Value:=l.flatMap byv
theorem qmg(l:List (List Nat))(h:∀d∈l,d.length=32):(digv l).length=l.length*32:=by
 unfold digv;induction l with
 |nil=>rfl
 |cons d l ih=>
  simp only[List.flatMap_cons,tA6,tBi,qat];rw[ih (fun x hx=>h x (List.mem_cons_of_mem _ hx)),h d zm];omega
theorem qmh:∀(l:List (List Nat)) (_:∀d∈l,d.length=32) (k:Nat) (d:List Nat) (_:l[k]? =some d),∀j u,(byv d)[j]? =some u→(digv l)[k*32+j]? =some u
 |[],_,k,d,hk,_,_,_=>by simp at hk
 |x::l,h,0,d,hk,j,u,hu=>by
  simp at hk;subst hk;have hj:j<(byv x).length:=by
   rcases Nat.lt_or_ge j (byv x).length with h1|h1
   · exact h1
   rw[List.getElem?_eq_none h1]at hu;cases hu
  unfold digv;rw[List.flatMap_cons,Nat.zero_mul,Nat.zero_add,tBm hj];exact hu
 |x::l,h,k+1,d,hk,j,u,hu=>by
  have hx:(byv x).length=32:=by rw[qat,h x zm]
  have:=qmh l (fun y hy=>h y (List.mem_cons_of_mem _ hy)) k d (by simpa using hk) j u hu;unfold digv at this ⊢;rw[List.flatMap_cons,tBn (by rw[hx];omega),hx,show (k+1)*32+j - 32=k*32+j from by omega];exact this
theorem qmi:(byv (List.replicate 32 0)).toArray=zLD:=rfl
theorem qmj:Tryz.prog.built 29 []=some (zLD:Array Value):=by kernel_rfl
theorem qmk:Tryz.prog.built 55 []=some (hdv Hd.zero).toArray:=by kernel_rfl
theorem Tryz.sig_info:(Tryz.prog.info? 55).map (·.size)=some 68:=by kernel_rfl
theorem Tryz.hd_info:(Tryz.prog.info? 53).map (·.size)=some 36:=by kernel_rfl
theorem Tryz.rsp_info:(Tryz.prog.info? 57).map (·.size)=some 106:=by kernel_rfl
theorem qml(R:Rsp)(bv hv cav:Value)(h:R.Ok):(rspv R bv hv cav).length=106:=by
 unfold rspv;simp only[tBi,tA6];rw[qm6 R.hd h.hd,qdg _ _ _ h.tok.2.2.1]
theorem qmm(R:Rsp)(bv hv cav:Value)(h:R.Ok):∀j u,(hdv R.hd)[j]? =some u→(rspv R bv hv cav)[4+j]? =some u:=by
 intro j u hu;have hj:j<(hdv R.hd).length:=by
  rcases Nat.lt_or_ge j (hdv R.hd).length with h1|h1
  · exact h1
  rw[List.getElem?_eq_none h1]at hu;cases hu
 unfold rspv;rw[show 4+j=j+1+1+1+1 from by omega];simp only[tBc];rw[tBm hj];exact hu
theorem qmn(R:Rsp)(bv hv cav:Value)(h:R.Ok):∀j u,(tokv R.tok.1 cav R.tok.2.2)[j]? =some u→(rspv R bv hv cav)[72+j]? =some u:=by
 intro j u hu;unfold rspv;rw[show 72+j=68+j+1+1+1+1 from by omega];simp only[tBc];rw[tBn (by rw[qm6 R.hd h.hd];omega),qm6 R.hd h.hd,show 68+j - 68=j from by omega];exact hu
theorem qmo{α:Type}{a b:List α}:∀(j:Nat) (u:α),a[j]? =some u→(a++b)[j]? =some u:=by
 intro j u hu;have hj:j<a.length:=by
  rcases Nat.lt_or_ge j a.length with h1|h1
  · exact h1
  rw[List.getElem?_eq_none h1]at hu;cases hu
 rw[tBm hj];exact hu
theorem qmp{α:Type}{a b:List α}(n:Nat)(hn:a.length=n):∀(j:Nat) (u:α),b[j]? =some u→(a++b)[n+j]? =some u:=by
 intro j u hu;rw[tBn zo,hn,show n+j - n=j from by omega];exact hu
theorem qmq(h:Hd):∀u∈qm3 h,u.oneCell'=true:=by
 intro u hu;unfold qm3 at hu;simp only[List.mem_cons]at hu;rcases hu with rfl|rfl|rfl|rfl|hu
 · rfl
 · rfl
 · rfl
 · rfl
 exact qau _ u hu
theorem qmr(h:Hd):∀u∈hdv h,u.oneCell'=true:=by
 intro u hu;rw[qm4]at hu;rcases List.mem_append.1 hu with hu|hu
 · exact qmq h u hu
 exact qau _ u hu
theorem qms
 (id:Nat)(A:Option Addr)(n c:Nat)(tag:List Nat)(w:World)(ht:tag.length=32)(htb:∀b∈tag,b<256):
  Zc 75 #[.agg (tokv id (.slice A n c) tag).toArray] w fun e w'=>e=.returned (.bool (decide (id=0∧n=0∧tag=List.replicate 32 0)))∧Zb w w':=by
  have hdig:=fun w=>qeg w tag (List.replicate 32 0) ht zm htb (by intro x hx;simp at hx;omega)
  rw[qmi]at hdig;have d0:(tokv id (.slice A n c) tag)[0]? =some (.int .u32 (id:Int)):=rfl;have d1:(tokv id (.slice A n c) tag)[1]? =some (.slice A n c):=rfl;have dt:∀j u,(byv tag)[j]? =some u→(tokv id (.slice A n c) tag)[2+j]? =some u:=by
   intro j u h;rw[tokv,show 2+j=(j+1)+1 from by omega,tBc,tBc];exact h
  obtain⟨L,hL⟩:=xeq (tokv id (.slice A n c) tag);rw[hL]at d0 d1 dt ⊢;have hgl:(byv tag).length=32:=by rw[qat,ht]
  obtain⟨b,hb⟩:=xeq (tag==List.replicate 32 0);obtain⟨G,hG⟩:=xeq (byv tag);rw[hG]at dt hgl;simp only[hG,hb]at hdig;have HI:=zh1 (zI 29 hgl);have t0:=Blk.new w 31 L.toArray;have R1:=zh1 (qap t0 2 G dt);have c0:=(t0.cell 0).trans (show L.toArray[0]? =_ by simpa using d0);have c1:=(t0.cell 1).trans (show L.toArray[1]? =_ by simpa using d1);obtain⟨HB,A0⟩:=zh2 (show Zb w (w.alloc (.cells L.toArray 31)) from qah (tA5 _ _) _) (show b=decide (tag=List.replicate 32 0) by rw[←hb,Bool.eq_iff_iff];simp);clear hL hG d0 d1 dt hgl t0 hb;by_cases h0:id=0
  ·
   subst h0;by_cases h1:n=0
   · subst h1
     go_enter Tryz.func75,Tryz.ntmps75
     go_wp2_with (first
      |(refine zld R1.o zu29 HI.o ?_)
      |(refine qbk rfl ⟨.agg (zLD:Array Value),qgr 29 _ rfl _ _ qmj (by simp[Act.eval]),?_⟩))
     go_ret
     exact⟨by rw[A0.o];simp,HB.o⟩
   have q:¬(n:Int)=0:=zo;go_enter Tryz.func75,Tryz.ntmps75
   go_wp2
   go_ret
   exact⟨by simp[h1],HB.o⟩
  have q:¬(id:Int)=0:=zo;go_enter Tryz.func75,Tryz.ntmps75
  go_wp2
  go_ret
  exact⟨by simp[h0],HB.o⟩
structure Cfg where
 width:Int
 quantum:Int
 store:Nat
 seed:List Nat
structure Ten where
 on:Bool
 rate:Nat
 burst:Nat
 tok:Nat
 store:Nat
 used:Nat
structure Tre where
 state:Int
 tenant:Int
 weight:Int
 deficit:Int
 draws:List Nat
 leaves:List (List Nat)
 queue:List (List Nat)
 hd:Hd
structure Gra where
 tenant:Int
 role:Int
 expires:Nat
 revoked:Bool
structure Sta where
 clock:Nat
 draw:Nat
 lane:Int
 tens:List Ten
 tres:List Tre
 gras:List Gra
def Ten.zero:Ten:=⟨false,0,0,0,0,0⟩
def Tre.zero:Tre:=⟨0,0,0,0,[],[],[],Hd.zero⟩
def qmt:List Nat:=[114,111,111,116]
def qmu:List Nat:=[107,101,121]
def qmv:List Nat:=[104,101,97,100]
def qmw (seed:List Nat):List Nat:=mac seed qmt
def keyOf (seed:List Nat)(tree epoch draw:Nat):List Nat:=mac seed (qmu++(be tree 1++(be epoch 4++be draw 4)))
def qmx (h:Hd):List Nat:=qmv++(be h.tree.toNat 1++(be h.epoch.toNat 4++(be h.size 8++(be h.clock 8++h.root))))
def signed (key:List Nat)(h:Hd):Hd:={h with tag:=mac key (qmx h)}
def pubT (c:Cfg)(clock n:Nat)(t:Tre):Hd:=
 signed (keyOf c.seed n (t.draws.length - 1) (t.draws.getLastD 0)) ⟨n,((t.draws.length - 1:Nat):Int),t.leaves.length,clock,qft (cutW c.width) t.leaves,[]⟩
def Sta.pub (c:Cfg)(s:Sta)(n:Nat):Sta:={s with tres:=s.tres.modify n fun t=>{t with hd:=pubT c s.clock n t}}
def qmy (l:List (List Nat)):Nat:=(l.map fun b=>b.length+16).sum
def stored (s:Sta):Nat:=(s.tres.map fun t=>qmy t.leaves+qmy t.queue).sum
def Sta.tree (s:Sta)(n:Int):Option Tre:=
 if 0≤n then(match s.tres[n.toNat]? with|none=>none|some t=>if t.state=0∨t.state=4 then none else some t) else none
def Sta.tenant (s:Sta)(n:Int):Option Ten:=if 0≤n then s.tens[n.toNat]? else none
def qmz (role op:Int):Bool:=
 (decide (role=4)&&(op==6||op==10||op==11||op==12))||(decide (3≤role∧role≤4)&&(op==7||op==8||op==9))||(decide (2≤role∧role≤4)&&op==1)||(decide (1≤role∧role≤4)&&(op==2||op==3||op==4||op==5))
def qn1 (role op own asked:Int):Bool:=qmz role op&&(own==asked||role==4)
def qn3 (s:Sta)(r:Req)(own:Int):Int:=
 if r.op=6∨r.op=10∨r.op=12 then r.tenant
 else if r.op=11 then(match s.gras[r.id]? with|some g=>g.tenant|none=>own)
 else if qdm r.op then(match s.tree r.tree with|some t=>t.tenant|none=>own)
 else own
def qn4 (op:Int)(n:Nat):Nat:=if op=1 then 1+(min n 1048576) / 64 else 1
def qn5 (c:Cfg)(s:Sta)(r:Req):Nat:=
 if (qjc r).1≠0 then 12
 else match s.gras[r.tid]? with
  |none=>20
  |some g=>
   if !qkr (qmw c.seed) (r.tid,r.cavs,r.tag) then 20
   else if g.revoked||decide (g.expires≤s.clock)||!qkz r.op (if qdm r.op then r.tree else 0) s.clock r.cavs then 20
   else if !qn1 g.role r.op g.tenant (qn3 s r g.tenant) then 21
   else match s.tenant g.tenant with
    |none=>22
    |some x=>if x.tok<qn4 r.op r.leaf.length then 22 else 0
def rWhy (n:Nat):Rsp:={qj2 with why:=n}
def qn6 (n:Nat):Rsp:={qj2 with n:=n}
def qn7 (l:List (List Nat))(b:List Nat):Option Nat:=l.findIdx? (· ==b)
def Sta.setT (s:Sta)(n:Nat)(f:Tre→Tre):Sta:={s with tres:=s.tres.modify n f}
def Sta.setX (s:Sta)(n:Nat)(f:Ten→Ten):Sta:={s with tens:=s.tens.modify n f}
def qn8 (c:Cfg)(s:Sta)(r:Req)(t:Tre):Sta × Rsp:=
 if r.tree=0∨t.state≠1 then(s,rWhy 24)
 else match qn7 t.leaves r.leaf with
  |some k=>(s,qn6 k)
  |none=>match qn7 t.queue r.leaf with
   |some k=>(s,qn6 (t.leaves.length+k))
   |none=>
    if 64≤t.queue.length∨1024≤t.leaves.length+t.queue.length then(s,rWhy 4)
    else match s.tenant t.tenant with
     |none=>(s,rWhy 26)
     |some x=>
      if x.store<x.used+(r.leaf.length+16)∨c.store<stored s+(r.leaf.length+16) then(s,rWhy 26)
      else((s.setX t.tenant.toNat fun x=>{x with used:=(x.used+(r.leaf.length+16)) % 4294967296}).setT r.tree.toNat fun t=>{t with queue:=t.queue++[r.leaf]},qn6 (t.leaves.length+t.queue.length))
def qn9 (c:Cfg)(s:Sta)(r:Req)(t:Tre):Rsp:=
 if r.op=2 then {qj2 with hd:=t.hd}
 else if r.op=3 then(match t.leaves[r.lo]? with|none=>rWhy 25|some b=>{qj2 with n:=r.lo,bytes:=b})
 else if r.op=4 then(if r.hi≤r.lo∨t.leaves.length<r.hi then rWhy 25 else {qj2 with n:=r.hi,hashes:=qfx (cutW c.width) (t.leaves.take r.hi) r.lo})
 else(if r.lo=0∨r.hi<r.lo∨t.leaves.length<r.hi then rWhy 25 else {qj2 with n:=r.hi,hashes:=subH (cutW c.width) (t.leaves.take r.hi) r.lo true})
def qna (c:Cfg)(s:Sta)(r:Req):Sta × Rsp:=
 if r.tree<1∨(s.tres.length:Int)≤r.tree∨r.weight<1∨4<r.weight then(s,rWhy 25)
 else match s.tres[r.tree.toNat]? with
  |none=>(s,rWhy 25)
  |some t=>
   if t.state≠0 then(s,rWhy 27)
   else match s.tenant r.tenant with
    |none=>(s,rWhy 23)
    |some x=>if !x.on then(s,rWhy 23) else((s.setT r.tree.toNat fun _=>{Tre.zero with state:=1,tenant:=r.tenant,weight:=r.weight,draws:=[s.draw]}).pub c r.tree.toNat,qn6 r.tree.toNat)
def qnb (c:Cfg)(s:Sta)(r:Req)(t:Tre):Sta × Rsp:=
 if r.tree=0∨!mayB t.state r.state t.queue.length then(s,rWhy 24)
 else
  let s1:=if r.state=4 then s.setX t.tenant.toNat (fun x=>{x with used:=x.used - qmy t.queue}) else s
  (s1.setT r.tree.toNat (fun t=>{t with state:=r.state,queue:=if r.state=4 then [] else t.queue,deficit:=if r.state=4∨r.state=2 then 0 else t.deficit}),qn6 r.state.toNat)
def qnc (s:Sta)(r:Req):Sta × Rsp:=
 if r.tree=0 then(s,rWhy 24)
 else if r.weight<1∨4<r.weight then(s,rWhy 25)
 else(s.setT r.tree.toNat fun t=>{t with weight:=r.weight,deficit:=0},qn6 r.weight.toNat)
def qnd (c:Cfg)(s:Sta)(r:Req)(t:Tre):Sta × Rsp:=
 if 32≤t.draws.length then(s,rWhy 4)
 else
  let s1:=(s.setT r.tree.toNat fun t=>{t with draws:=t.draws++[s.draw]}).pub c r.tree.toNat
  (s1,qn6 t.draws.length)
def qne (c:Cfg)(s:Sta)(r:Req):Sta × Rsp:=
 if r.role<1∨4<r.role then(s,rWhy 25)
 else match s.tenant r.tenant with
  |none=>(s,rWhy 25)
  |some x=>
   if !x.on then(s,rWhy 23)
   else if 64≤s.gras.length then(s,rWhy 4)
   else({s with gras:=s.gras++[⟨r.tenant,r.role,r.expires,false⟩]},{qn6 s.gras.length with tok:=(s.gras.length,[],qke (qmw c.seed) s.gras.length)})
def qnf (s:Sta)(r:Req):Sta × Rsp:=
 match s.gras[r.id]? with
 |none=>(s,rWhy 23)
 |some g=>if r.id=0∨g.revoked then(s,rWhy 24) else({s with gras:=s.gras.modify r.id fun g=>{g with revoked:=true}},qn6 r.id)
def qng (s:Sta)(r:Req):Sta × Rsp:=
 match s.tenant r.tenant with
 |none=>(s,rWhy 25)
 |some _=>
  if 1048576<r.rate∨1048576<r.burst then(s,rWhy 25)
  else if r.tenant=0 then(s,rWhy 24)
  else(s.setX r.tenant.toNat fun x=>{x with on:=true,rate:=r.rate,burst:=r.burst,tok:=r.burst,store:=r.store},qn6 r.tenant.toNat)
def qnh (c:Cfg)(s:Sta)(r:Req):Sta × Rsp:=
 if r.op=6 then qna c s r
 else if r.op=10 then qne c s r
 else if r.op=11 then qnf s r
 else if r.op=12 then qng s r
 else match s.tree r.tree with
  |none=>(s,rWhy 23)
  |some t=>
   if r.op=1 then qn8 c s r t
   else if r.op=7 then qnb c s r t
   else if r.op=8 then qnc s r
   else if r.op=9 then qnd c s r t
   else(s,qn9 c s r t)
def qni (s:Sta)(r:Req):List Nat:=be s.clock 8++(be r.tid 4++(qi9 r).2)
def doS (c:Cfg)(s:Sta)(r:Req):Sta × Rsp:=
 if qn5 c s r≠0 then(s,rWhy (qn5 c s r))
 else
  let (s1,a):=qnh c s r
  if a.why≠0 then(s,rWhy a.why.toNat)
  else if qlm r.op&&decide (1024≤((s.tres[0]?.getD Tre.zero).leaves.length)) then(s,rWhy 4)
  else if qlm r.op&&decide (c.store<stored s+64) then(s,rWhy 26)
  else
   let own:=((s.gras[r.tid]?).getD ⟨0,0,0,false⟩).tenant
   let s2:=s1.setX own.toNat fun x=>{x with tok:=x.tok - qn4 r.op r.leaf.length}
   if qlm r.op then
    let s3:=(s2.setT 0 fun t=>{t with leaves:=t.leaves++[qni s2 r]}).pub c 0
    (s3,if r.op=9 then {a with hd:=(s3.tres[r.tree.toNat]?.getD Tre.zero).hd} else a)
   else(s2,a)
def askS (c:Cfg)(s:Sta)(bs:List Nat):Sta × List Nat:=
 match (qio bs).1 with
 |some _=>(s,(qj3 (rWhy 12)).2)
 |none=>((doS c s (qio bs).2).1,(qj3 (doS c s (qio bs).2).2).2)
def qnj (s:Sta):Sta:=
 {s with clock:=if s.clock<18446744073709551615 then s.clock+1 else s.clock,tens:=s.tens.map fun x=>if x.on then {x with tok:=if x.burst<x.tok+x.rate then x.burst else x.tok+x.rate} else x}
def qnk (s:Sta)(n:Nat):Sta:={s with draw:=n}
def qnl (ws:List Int)(at_:Nat):Option Nat:=((List.range ws.length).map fun k=>(at_+k) % ws.length).find? fun i=>decide (1≤ws.getD i 0)
def qnm (i:Nat)(t:Tre):Int:=if i=0∨!ql4 t.state then 0 else t.weight
def seqS (c:Cfg)(s:Sta):Sta:=
 let at_:=if 0≤s.lane∧s.lane<s.tres.length then s.lane.toNat else 0
 match qnl (s.tres.mapIdx fun i t=>qnm i t) at_ with
 |none=>{s with lane:=at_}
 |some n=>
  let t:=s.tres[n]?.getD Tre.zero
  let d:=t.deficit+min t.weight 4*min (max c.quantum 1) 2
  let take:=(max (min d t.queue.length) 0).toNat
  let rest:=t.queue.drop take
  let s1:={s with lane:=(((n+1) % s.tres.length:Nat):Int)}.setT n fun t=>{t with deficit:=if rest=[] then 0 else d - take,leaves:=t.leaves++t.queue.take take,queue:=rest}
  if take=0 then s1 else s1.pub c n
def newS (c:Cfg):Sta:=
 Sta.pub c ⟨0,0,0,⟨true,1048576,1048576,1048576,32768,0⟩::List.replicate 15 Ten.zero,{Tre.zero with state:=1,weight:=1,draws:=[0]}::List.replicate 15 Tre.zero,[⟨0,4,18446744073709551615,false⟩]⟩ 0
def Row (w:World)(v:Value)(e:TypeId)(size n:Nat)(xs:List Value):Prop:=
 xs.length=n*size∧((v=.slice none 0 0∧n=0)∨
  ∃(g o c:Nat) (cur:List Value),v=.slice (some ⟨g,o,none⟩) n c∧Blk w g e cur.toArray∧n≤c∧c≤maxLen∧o+c*size≤cur.length∧(cur.drop o).take (n*size)=xs)
def over (l:List Value)(o:Nat)(cs:List Value):List Value:=l.take o++(cs++l.drop (o+cs.length))
theorem qnn{l:List Value}{o:Nat}(h:o+cs.length≤l.length):(over l o cs).length=l.length:=by
 unfold over;simp only[tA6,tBd,tBk];omega
theorem qno {g:Nat}{t:TypeId}:∀(cs:List Value) (o:Nat) (w:World) (l:List Value),Blk w g t l.toArray→o+cs.length≤l.length→Blk (w.setCells g o cs) g t (over l o cs).toArray
 |[],o,w,l,h,_=>by simpa [World.setCells,over] using h
 |v::r,o,w,l,h,hl=>by
  have h1:=h.set_ o v;rw[List.setIfInBounds_toArray]at h1;have h2:=qno r (o+1) _ _ h1 (by simp at hl ⊢;omega);rw[World.setCells];have ho:o<l.length:=by simp at hl;omega
  have e:over (l.set o v) (o+1) r=over l o (v::r):=by
   unfold over;rw[List.take_succ_eq_append_getElem (by simpa using ho),List.take_set_of_le (tA4 o),List.getElem_set_self,List.drop_set_of_lt zo];simp[Nat.add_assoc,Nat.add_comm 1]
  rw[e]at h2;exact h2
theorem qnp (g:Nat):∀(cs:List Value) (o:Nat) (w:World),w.grownBy (w.setCells g o cs) (some g)
 |[],_,w=>tB9 w _
 |v::r,o,w=>by
  have h1:=qab (tB9 w (some g)) (p:=⟨g,o,none⟩) (.inl rfl) v;have h2:=qnp g r (o+1) (w.setCell ⟨g,o,none⟩ v);rw[World.setCells];exact⟨h2.os.trans h1.os,h2.tape.trans h1.tape,h2.output.trans h1.output,tB1 h1.size h2.size,fun i hi hne=>(h2.block i (tB0 hi h1.size) hne).trans (h1.block i hi hne)⟩
theorem qnq{l:List Value}{o:Nat}(h:o+n≤p)(hp:p≤l.length):((over l p cs).drop o).take n=(l.drop o).take n:=by
 unfold over;rw[List.drop_append_of_le_length (by rw[tBd];omega),List.drop_take,List.take_append_of_le_length (by rw[tBd,tBk];omega),List.take_take,Nat.min_eq_left zo]
theorem qnr{l:List Value}{o:Nat}(hx:(l.drop o).take k=xs)(hk:xs.length=k)(hl:o+k+cs.length≤l.length):((over l (o+k) cs).drop o).take (k+cs.length)=xs++cs:=by
 unfold over;have h1:(l.take (o+k)).drop o=xs:=by rw[List.drop_take,show o+k - o=k by omega];exact hx
 rw[List.drop_append_of_le_length (by rw[tBd];omega),h1,List.take_append,tB5 zo,hk,show k+cs.length - k=cs.length by omega,List.take_left' rfl]
section
variable {w w' : World} {v : Value} {e : TypeId} {size n : Nat} {xs : List Value}
theorem Row.lt(h:Row w v e size n xs):∀g,v.ownBlock=some g→g<w.heap.size:=by
 intro g hg;rcases h.2 with⟨rfl,_⟩|⟨g',o,c,cur,rfl,hb,_⟩
 · cases hg
 simp[Value.ownBlock]at hg;subst hg;exact hb.lt
theorem Row.keptBlock(h:Row w v e size n xs)(hk:∀g,v.ownBlock=some g→w'.heap[g]? =w.heap[g]?):Row w' v e size n xs:=by
 refine⟨h.1,?_⟩;rcases h.2 with h0|⟨g,o,c,cur,rfl,hb,rest⟩
 · exact .inl h0
 exact .inr ⟨g,o,c,cur,rfl,(hk g rfl).trans hb,rest⟩
theorem Row.call(h:Row w v e size n xs)(hb:Zb w w'):Row w' v e size n xs:=h.keptBlock fun g hv=>hb.block g (h.lt g hv)
theorem Row.drew(h:Row w v e size n xs):Row w.drew v e size n xs:=h.keptBlock fun _ _=>rfl
theorem Row.alloc(h:Row w v e size n xs)(o:Obj):Row (w.alloc o) v e size n xs:=h.call ((tA5 _ _).alloc (tA4 _) o)
theorem Row.behind{o c:Nat}(h:Row w (.slice (some ⟨g,o,none⟩) n c) e size n xs)(hp:o+n*size≤p)(hfit:∀cur:List Value,Blk w g e cur.toArray→p+cs.length≤cur.length):Row (w.setCells g p cs) (.slice (some ⟨g,o,none⟩) n c) e size n xs:=by
 refine⟨h.1,?_⟩;rcases h.2 with⟨h0,_⟩|⟨g',o',c',cur,hv,hb,hn,hc,hl,ht⟩
 · cases h0
 injection hv with e1 e2 e3;injection e1 with e1;injection e1 with e1 e4;subst e1 e3 e4;have hf:=hfit cur hb;exact .inr ⟨g,o,c,over cur p cs,rfl,qno cs p w cur hb hf,hn,hc,by rw[qnn hf];exact hl,by rw[qnq hp zo];exact ht⟩
end
section
variable {P : Program} (w : World)
theorem qns(t tx ty e:TypeId)(i:TypeInfo)(z:Value)(size bytes:Nat)(ht:P.underlying t=some (.slice e))(hi:P.info? e=some i)(hz:i.zero=some z)
 (hsize:i.size=size)(hby:i.bytes=bytes)(hzs:z.cells.size=size)
 (v:Value)(n:Nat)(xs:List Value)(hrow:Row w v e size n xs)(x:Value)(m:Nat)(news:List Value)(hsrc:Src P size tx x m news w)
 (h63:n+m≤maxLen)(hbytes:(n+m)*bytes≤140737488355328):
 (m=0∧v=.slice none 0 0∧(Builtin.append_ #[t,tx] ty #[v,x]).run P w=.ok v w)∨
 (∃(g o c:Nat) (cur:List Value),v=.slice (some ⟨g,o,none⟩) n c∧n+m≤c∧Blk w g e cur.toArray∧o+n*size+news.length≤cur.length∧
  (Builtin.append_ #[t,tx] ty #[v,x]).run P w=.ok (.slice (some ⟨g,o,none⟩) (n+m) c) (w.setCells g (o+n*size) news)∧Row (w.setCells g (o+n*size) news) (.slice (some ⟨g,o,none⟩) (n+m) c) e size (n+m) (xs++news))∨
 (∃(c':Nat) (cs:List Value),n+m≤c'∧c'≤maxLen∧cs.length=c'*size∧cs.take ((n+m)*size)=xs++news∧
  (Builtin.append_ #[t,tx] ty #[v,x]).run P w=.ok (.slice (some ⟨w.heap.size,0,none⟩) (n+m) c') (w.drew.alloc (.cells cs.toArray e))∧Row (w.drew.alloc (.cells cs.toArray e)) (.slice (some ⟨w.heap.size,0,none⟩) (n+m) c') e size (n+m) (xs++news)):=by
 subst hsize;subst hby;have hl:=hsrc.newsLen;have hlen:(xs++news).length=(n+m)*i.size:=by rw[tA6,hrow.1,hl,Nat.add_mul]
 have grow:∀(base:Option Addr) (c:Nat),c<n+m→(Builtin.firstCells i.size n (.slice base n c)).run P w.drew=.ok xs.toArray w.drew→
  ∃(c':Nat) (cs:List Value),n+m≤c'∧c'≤maxLen∧cs.length=c'*i.size∧cs.take ((n+m)*i.size)=xs++news∧
  (Builtin.append_ #[t,tx] ty #[.slice base n c,x]).run P w=.ok (.slice (some ⟨w.heap.size,0,none⟩) (n+m) c') (w.drew.alloc (.cells cs.toArray e))∧Row (w.drew.alloc (.cells cs.toArray e)) (.slice (some ⟨w.heap.size,0,none⟩) (n+m) c') e i.size (n+m) (xs++news):=by
  intro base c hc hold;have hge:=grownCap_ge w (n+m) c e;have hcm:grownCap w (n+m) c e≤maxLen:=grownCap_le_maxLen w (n+m) c e h63;have hr:=run_append_grow_src (P:=P) w t tx ty e i z ht hi hz base n c xs hold x m news hsrc hc (by simp only[maxLen]at h63;omega) (growslice_fits hc hbytes);obtain⟨Z,hZ⟩:∃Z:List Value,Z.toArray=Builtin.zeroCells z.cells (grownCap w (n+m) c e - (n+m)):=⟨_,Array.toArray_toList⟩;have hZl:Z.length=(grownCap w (n+m) c e - (n+m))*i.size:=by
   have:=congrArg Array.size hZ;rw[size_zeroCells,hzs,tB6]at this;exact this
  rw[←hZ,List.append_toArray]at hr;have hcl:(xs++news++Z).length=grownCap w (n+m) c e*i.size:=by
   rw[tA6,hlen,hZl,←Nat.add_mul];congr 1
   omega
  have htk:(xs++news++Z).take ((n+m)*i.size)=xs++news:=by rw[←hlen];exact List.take_left
  refine⟨_,xs++news++Z,hge,hcm,hcl,htk,hr,hlen,.inr ⟨w.heap.size,0,_,_,rfl,Blk.new w.drew e _,hge,hcm,by rw[hcl];omega,by rw[List.drop_zero];exact htk⟩⟩
 rcases hrow.2 with⟨rfl,rfl⟩|⟨g,o,c,cur,rfl,hb,hnc,hcm,hol,htake⟩
 ·
  have hx:xs=[]:=tB8 (by simpa using hrow.1);subst hx;by_cases hm:m=0
  ·
   subst hm;have hn:news=[]:=tB8 (by simpa using hl);subst hn;refine .inl ⟨rfl,rfl,?_⟩;have hc:=hsrc.cells;have hlo:=hsrc.len w;rcases hsrc.kind with⟨e',hk⟩|hk<;>simp[Builtin.append_,run_underlying ht,run_underlying hk,sizeOf,typeInfo,hi,hlo,hc,storeCells]
  exact .inr (.inr (grow none 0 zo (run_firstCells_none w.drew i.size 0 0 0)))
 by_cases hroom:n+m≤c
 ·
  have hfit:o+n*i.size+news.length≤cur.length:=by
   have h2:(n+m)*i.size≤c*i.size:=Nat.mul_le_mul_right _ hroom;rw[Nat.add_mul]at h2;omega
  have hr:=run_append_room_src (P:=P) w t tx ty e i ht hi g o n c x m news hsrc hroom (fun j hj=>by rw[hb.cell,tA3,tA7 zo];rfl) (fun j _=>hb.frozen _);refine .inr (.inl ⟨g,o,c,cur,rfl,hroom,hb,hfit,hr,hlen,.inr ⟨g,o,c,over cur (o+n*i.size) news,rfl,qno news _ w cur hb hfit,hroom,hcm,by rw[qnn hfit];exact hol,?_⟩⟩);have:=qnr (cs:=news) htake hrow.1 hfit;rw[hl,←Nat.add_mul]at this;exact this
 refine .inr (.inr (grow (some ⟨g,o,none⟩) c zo ?_));refine run_firstCells_some w.drew i.size n ⟨g,o,none⟩ n c xs hrow.1 (fun j u hu=>?_);rw[World.cell?_drew,Addr.add_mid,hb.cell,tA3];rw[←htake,List.getElem?_take]at hu;split at hu
 · rwa[List.getElem?_drop]at hu
 cases hu
structure Appended (w w':World)(v v':Value)(e:TypeId)(size n m:Nat)(xs news:List Value):Prop where
 row:Row w' v' e size (n+m) (xs++news)
 old:Row w' v e size n xs
 only:w.grownBy w' v.ownBlock
 at_:v'.ownBlock=v.ownBlock∨v'.ownBlock=some w.heap.size
theorem qnt(t tx ty e:TypeId)(i:TypeInfo)(z:Value)(size bytes:Nat)(ht:P.underlying t=some (.slice e))(hi:P.info? e=some i)(hz:i.zero=some z)
 (hsize:i.size=size)(hby:i.bytes=bytes)(hzs:z.cells.size=size)
 (v:Value)(n:Nat)(xs:List Value)(hrow:Row w v e size n xs)(x:Value)(m:Nat)(news:List Value)(hsrc:Src P size tx x m news w)
 (h63:n+m≤maxLen)(hbytes:(n+m)*bytes≤140737488355328):
 ∃v' w',(Builtin.append_ #[t,tx] ty #[v,x]).run P w=.ok v' w'∧Appended w w' v v' e size n m xs news:=by
 rcases qns (P:=P) w t tx ty e i z size bytes ht hi hz hsize hby hzs v n xs hrow x m news hsrc h63 hbytes with⟨rfl,rfl,hr⟩|⟨g,o,c,cur,rfl,hc,hb,hf,hr,hrw⟩|⟨c',cs,hc,hm,hl,htk,hr,hrw⟩
 · have hn:news=[]:=tB8 (by simpa using hsrc.newsLen)
   subst hn;exact⟨_,_,hr,by simpa using hrow,hrow,tB9 w _,.inl rfl⟩
 ·
  refine⟨_,_,hr,hrw,hrow.behind (tA4 _) (fun cur' h'=>?_),qnp g news _ w,.inl rfl⟩;have:cur'=cur:=by
   unfold Blk at hb h';rw[hb]at h';injection h' with h';injection h' with h';simpa using h'.symm
  rw[this];exact hf
 exact⟨_,_,hr,hrw,(hrow.drew).alloc _,⟨rfl,rfl,rfl,by simp,fun k hk _=>Below.heap_alloc w.drew _ k hk⟩,.inr rfl⟩
theorem Src.reads(hk:P.underlying tx=some (.slice e')){c:Nat}(hr:Reads w B size A m news)(h1:∀u∈news,u.oneCell'=true)(hs:0<size):Src P size tx (.slice A m c) m news w:=by
 rcases A with _|ad
 ·
  have hm:m=0:=by
   rcases Nat.eq_zero_or_pos m with h0|h0
   · exact h0
   obtain⟨ad,h,_⟩:=hr.2 h0;cases h
  subst hm;have hn:news=[]:=tB8 (by simpa using hr.1);subst hn;exact Src.ofNil w hk c
 refine Src.ofSlice w hk ad m c news hr.1 ?_ h1;intro j u hu;rcases Nat.eq_zero_or_pos m with h0|h0
 · subst h0
   have hn:news=[]:=tB8 (by simpa using hr.1);subst hn;simp at hu
 obtain⟨ad',h,_,hc⟩:=hr.2 h0;injection h with h;subst h;exact hc j u hu
end
abbrev Col:=Nat→Nat
structure Turns (p:Nat→Bool)(w:World)(col:Col)(w':World)(col':Col):Prop where
 os:w'.os=w.os
 tape:w'.tape=w.tape
 output:w'.output=w.output
 size:w.heap.size≤w'.heap.size
 block:∀b,b<w.heap.size→p (col b)=false→w'.heap[b]? =w.heap[b]?
 same:∀b,b<w.heap.size→col' b=col b
def Fin_ (col:Col)(w:World):Prop:=∀b,col b≠0→b<w.heap.size
section
variable {p q : Nat → Bool} {w w' w'' : World} {col col' col'' : Col}
theorem Turns.refl(p:Nat→Bool)(w:World)(col:Col):Turns p w col w col:=⟨rfl,rfl,rfl,tA4 _,fun _ _ _=>rfl,fun _ _=>rfl⟩
theorem Turns.trans(h:Turns p w col w' col')(h':Turns p w' col' w'' col''):Turns p w col w'' col'':=
 ⟨h'.os.trans h.os,h'.tape.trans h.tape,h'.output.trans h.output,tB1 h.size h'.size,
  fun b hb hp=>(h'.block b (tB0 hb h.size) (by rw[h.same b hb];exact hp)).trans (h.block b hb hp),
  fun b hb=>(h'.same b (tB0 hb h.size)).trans (h.same b hb)⟩
theorem Turns.mono(h:Turns p w col w' col')(hpq:∀k,p k=true→q k=true):Turns q w col w' col':=
 ⟨h.os,h.tape,h.output,h.size,fun b hb hq=>h.block b hb (by
  cases hp:p (col b) with
  |false=>rfl
  |true=>rw[hpq _ hp]at hq;cases hq),h.same⟩
theorem Turns.of_below(p:Nat→Bool)(hb:Zb w w'):Turns p w col w' col:=⟨hb.os,hb.tape,hb.output,hb.size,fun b h _=>hb.block b h,fun _ _=>rfl⟩
theorem Turns.recolour(h:Turns p w col w' col')(hs:∀b,b<w.heap.size→col'' b=col' b):Turns p w col w' col'':=⟨h.os,h.tape,h.output,h.size,h.block,fun b hb=>(hs b hb).trans (h.same b hb)⟩
theorem Turns.of_grown{row:Option Nat}(hg:w.grownBy w' row)(hr:∀g,row=some g→p (col g)=true)(hs:∀b,b<w.heap.size→col' b=col b):Turns p w col w' col':=
 ⟨hg.os,hg.tape,hg.output,hg.size,fun b hb hp=>hg.block b hb (fun e=>by rw[hr b e.symm]at hp;cases hp),hs⟩
theorem Turns.below(h:Turns p w col w' col')(hp:∀b,b<B→p (col b)=false)(hB:B≤w.heap.size):Below B w w':=
 ⟨h.os,h.tape,h.output,h.size,fun b hb=>h.block b (tB0 hb hB) (hp b hb)⟩
theorem Turns.setCell(u:Value)(hp:p (col g)=true):Turns p w col (w.setCell ⟨g,i,none⟩ u) col:=
 .of_grown (row:=some g) (qab (tB9 w _) (p:=⟨g,i,none⟩) (.inl rfl) u) (fun k e=>by injection e with e;subst e;exact hp) (fun _ _=>rfl)
theorem Turns.setCells{o:Nat}(cs:List Value)(hp:p (col g)=true):Turns p w col (w.setCells g o cs) col:=
 .of_grown (row:=some g) (qnp g cs o w) (fun k e=>by injection e with e;subst e;exact hp) (fun _ _=>rfl)
theorem Fin_.mono(h:Fin_ col w)(hs:w.heap.size≤w'.heap.size):Fin_ col w':=fun b hb=>tB0 (h b hb) hs
def Col.put (col:Col)(g k:Nat):Col:=fun b=>if b=g then k else col b
theorem Col.put_at(col:Col)(g k:Nat):col.put g k g=k:=by simp[Col.put]
theorem Col.put_old(col:Col)(k:Nat)(h:b<g):col.put g k b=col b:=by unfold Col.put;rw[if_neg zo]
theorem Col.put_ne(col:Col)(k:Nat)(h:b≠g):col.put g k b=col b:=by unfold Col.put;rw[if_neg h]
theorem Fin_.put(h:Fin_ col w)(hs:w.heap.size≤w'.heap.size)(hg:g<w'.heap.size):Fin_ (col.put g k) w':=fun b hb=>by
 unfold Col.put at hb;by_cases e:b=g
 · omega
 rw[if_neg e]at hb;exact tB0 (h b hb) hs
def KeepsCol (k:Nat)(w:World)(col:Col)(w':World)(col':Col):Prop:=w.heap.size≤w'.heap.size∧∀b,b<w.heap.size→col b=k→w'.heap[b]? =w.heap[b]? ∧col' b=k
theorem Turns.keeps(h:Turns p w col w' col')(hp:p k=false):KeepsCol k w col w' col':=⟨h.size,fun b hb hk=>⟨h.block b hb (by rw[hk];exact hp),(h.same b hb).trans hk⟩⟩
end
def RowC (w:World)(col:Col)(k:Nat)(v:Value)(e:TypeId)(size n:Nat)(xs:List Value):Prop:=
 xs.length=n*size∧((n=0∧(v=.slice none 0 0∨∃g o,v=.slice (some ⟨g,o,none⟩) 0 0))∨
  ∃(g o c:Nat) (cur:List Value),v=.slice (some ⟨g,o,none⟩) n c∧col g=k∧Blk w g e cur.toArray∧n≤c∧c≤maxLen∧o+c*size≤cur.length∧(cur.drop o).take (n*size)=xs)
section
variable {w w' : World} {col col' : Col} {k : Nat} {v : Value} {e : TypeId} {size n : Nat} {xs : List Value}
theorem RowC.nil(w:World)(col:Col)(k:Nat)(e:TypeId)(size:Nat):RowC w col k (.slice none 0 0) e size 0 []:=⟨by simp,.inl ⟨rfl,.inl rfl⟩⟩
theorem RowC.sl(h:RowC w col k v e size n xs):∃A c,v=.slice A n c∧n≤c∧c≤maxLen∧Reads w w.heap.size size A n xs∧(0<n→∃ad,A=some ad∧col ad.block=k):=by
 rcases h.2 with⟨rfl,hv⟩|⟨g,o,c,cur,rfl,hk,hb,hn,hc,hl,ht⟩
 · have hx:xs=[]:=tB8 (by simpa using h.1)
   subst hx;rcases hv with rfl|⟨g,o,rfl⟩
   · exact⟨none,0,rfl,tA4 _,by simp[maxLen],⟨by simp,fun h=>absurd h zo⟩,fun h=>absurd h zo⟩
   exact⟨_,0,rfl,tA4 _,by simp[maxLen],⟨by simp,fun h=>absurd h zo⟩,fun h=>absurd h zo⟩
 refine⟨_,c,rfl,hn,hc,⟨h.1,fun _=>⟨_,rfl,hb.lt,fun j u hu=>?_⟩⟩,fun _=>⟨_,rfl,hk⟩⟩;rw[Addr.add_mid,hb.cell,tA3];rw[←ht,List.getElem?_take]at hu;split at hu
 · rwa[List.getElem?_drop]at hu
 cases hu
theorem RowC.keep(h:RowC w col k v e size n xs)(hk:KeepsCol k w col w' col'):RowC w' col' k v e size n xs:=by
 refine⟨h.1,?_⟩;rcases h.2 with h0|⟨g,o,c,cur,rfl,hc,hb,rest⟩
 · exact .inl h0
 obtain⟨h1,h2⟩:=hk.2 g hb.lt hc;exact .inr ⟨g,o,c,cur,rfl,h2,h1.trans hb,rest⟩
theorem RowC.call(h:RowC w col k v e size n xs)(hb:Zb w w'):RowC w' col k v e size n xs:=h.keep ((Turns.of_below (fun _=>false) hb).keeps rfl)
theorem RowC.of_own(h:w.ownsRow base e size v n xs)(hk:∀g,v.ownBlock=some g→col g=k):RowC w col k v e size n xs:=by
 refine⟨h.1,?_⟩;rcases h.2 with⟨rfl,rfl⟩|⟨g,cap,cur,rfl,_,hg,hn,hc,hs,ht⟩
 · exact .inl ⟨rfl,.inl rfl⟩
 exact .inr ⟨g,0,cap,cur.toList,rfl,hk g rfl,by simpa [Blk] using hg,hn,hc,by simp[hs],by simpa using ht⟩
end
structure AppendedC (w:World)(col:Col)(w':World)(col':Col)(k:Nat)(v v':Value)(e:TypeId)(size n m:Nat)(xs news:List Value):Prop where
 row:RowC w' col' k v' e size (n+m) (xs++news)
 old:RowC w' col' k v e size n xs
 turns:Turns (· ==k) w col w' col'
 fin:Fin_ col w→Fin_ col' w'
 other:∀b,col' b≠col b→w.heap.size≤b
theorem qnu(w:World)(col:Col)(k:Nat)(t tx ty e:TypeId)(i:TypeInfo)(z:Value)(size bytes:Nat)(ht:P.underlying t=some (.slice e))(hi:P.info? e=some i)(hz:i.zero=some z)
 (hsize:i.size=size)(hby:i.bytes=bytes)(hzs:z.cells.size=size)
 (v:Value)(n:Nat)(xs:List Value)(hrow:RowC w col k v e size n xs)(x:Value)(m:Nat)(news:List Value)(hsrc:Src P size tx x m news w)
 (h63:n+m≤maxLen)(hbytes:(n+m)*bytes≤140737488355328):
 ∃v' w' col',(Builtin.append_ #[t,tx] ty #[v,x]).run P w=.ok v' w'∧AppendedC w col w' col' k v v' e size n m xs news:=by
 have main:∀(hr:Row w v e size n xs) (hc:∀g,v.ownBlock=some g→col g=k),∃v' w' col',(Builtin.append_ #[t,tx] ty #[v,x]).run P w=.ok v' w'∧AppendedC w col w' col' k v v' e size n m xs news:=by
  intro hr hc;obtain⟨v',w',hrun,ha⟩:=qnt (P:=P) w t tx ty e i z size bytes ht hi hz hsize hby hzs v n xs hr x m news hsrc h63 hbytes;by_cases hnew:v'.ownBlock=some w.heap.size
  ·
   have hlt:=ha.row.lt _ hnew;refine⟨v',w',col.put w.heap.size k,hrun,?_,?_,.of_grown ha.only (fun g hg=>by simpa using hc g hg) (fun b hb=>Col.put_old _ _ hb),fun hf=>hf.put ha.only.size hlt,fun b hb=>?_⟩
   · refine⟨ha.row.1,?_⟩
     rcases ha.row.2 with⟨rfl,h0⟩|⟨g,o,c,cur,rfl,hb,rest⟩
     · cases hnew
     obtain rfl:g=w.heap.size:=by simpa [Value.ownBlock] using hnew
     exact .inr ⟨_,o,c,cur,rfl,Col.put_at ..,hb,rest⟩
   · refine⟨hr.1,?_⟩
     rcases ha.old.2 with⟨rfl,h0⟩|⟨g,o,c,cur,rfl,hb,rest⟩
     · exact .inl ⟨h0,.inl rfl⟩
     refine .inr ⟨g,o,c,cur,rfl,?_,hb,rest⟩;rw[Col.put_old _ _ (hr.lt g rfl)];exact hc g rfl
   by_cases e:b=w.heap.size
   · omega
   exact absurd (Col.put_ne _ _ e) hb
  have hsame:v'.ownBlock=v.ownBlock:=ha.at_.resolve_right hnew;have cast:∀{v0:Value} {n0:Nat} {xs0:List Value},Row w' v0 e size n0 xs0→(∀g,v0.ownBlock=some g→col g=k)→RowC w' col k v0 e size n0 xs0:=by
   intro v0 n0 xs0 h hk;refine⟨h.1,?_⟩;rcases h.2 with⟨rfl,h0⟩|⟨g,o,c,cur,rfl,hb,rest⟩
   · exact .inl ⟨h0,.inl rfl⟩
   exact .inr ⟨g,o,c,cur,rfl,hk g rfl,hb,rest⟩
  exact⟨v',w',col,hrun,cast ha.row (fun g hg=>hc g (hsame▸hg)),cast ha.old hc,.of_grown ha.only (fun g hg=>by simpa using hc g hg) (fun _ _=>rfl),fun hf=>hf.mono ha.only.size,fun b hb=>absurd rfl hb⟩
 rcases hrow.2 with⟨rfl,hv⟩|⟨g,o,c,cur,rfl,hk,hb,rest⟩
 ·
  rcases hv with rfl|⟨g,o,rfl⟩
  · exact main ⟨hrow.1,.inl ⟨rfl,rfl⟩⟩ (fun g hg=>by cases hg)
  have hx:xs=[]:=tB8 (by simpa using hrow.1);subst hx;subst hsize;subst hby;have hl:=hsrc.newsLen;by_cases hm:m=0
  · subst hm
    have hn:news=[]:=tB8 (by simpa using hl);subst hn;have hr:=run_append_room_src (P:=P) w t tx ty e i ht hi g o 0 0 x 0 [] hsrc zo (fun j hj=>absurd hj zm) (fun j hj=>absurd hj zm);exact⟨_,w,col,hr,by simpa using hrow,hrow,.refl _ _ _,fun h=>h,fun b hb=>absurd rfl hb⟩
  have hge:=grownCap_ge w (0+m) 0 e;have hcm:grownCap w (0+m) 0 e≤maxLen:=grownCap_le_maxLen w (0+m) 0 e h63;have hr:=run_append_grow_src (P:=P) w t tx ty e i z ht hi hz (some ⟨g,o,none⟩) 0 0 [] (run_firstCells_some w.drew i.size 0 ⟨g,o,none⟩ 0 0 [] zm (fun j u hu=>by simp at hu)) x m news hsrc zo (by simp only[maxLen]at h63;omega) (growslice_fits zo hbytes);obtain⟨Z,hZ⟩:∃Z:List Value,Z.toArray=Builtin.zeroCells z.cells (grownCap w (0+m) 0 e - (0+m)):=⟨_,Array.toArray_toList⟩;have hZl:Z.length=(grownCap w (0+m) 0 e - (0+m))*i.size:=by
   have:=congrArg Array.size hZ;rw[size_zeroCells,hzs,tB6]at this;exact this
  rw[←hZ,List.append_toArray]at hr;have hcl:([]++news++Z).length=grownCap w (0+m) 0 e*i.size:=by
   rw[tA6,List.nil_append,hl,hZl,←Nat.add_mul];congr 1
   omega
  have htk:([]++news++Z).take ((0+m)*i.size)=[]++news:=by
   rw[List.nil_append,Nat.zero_add,←hl];exact List.take_left
  refine⟨_,_,col.put w.heap.size k,hr,?_,?_,?_,?_,?_⟩
  · exact⟨by rw[List.nil_append,hl,Nat.zero_add],.inr ⟨w.heap.size,0,_,_,rfl,Col.put_at ..,Blk.new w.drew e _,hge,hcm,by rw[hcl];omega,by rw[List.drop_zero];exact htk⟩⟩
  · exact⟨by simp,.inl ⟨rfl,.inr ⟨g,o,rfl⟩⟩⟩
  · exact⟨rfl,rfl,rfl,by simp,fun b hb _=>Below.heap_alloc w.drew _ b hb,fun b hb=>Col.put_old _ _ hb⟩
  · exact fun hf=>hf.put zm zm
  intro b hb;by_cases e:b=w.heap.size
  · omega
  exact absurd (Col.put_ne _ _ e) hb
 exact main ⟨hrow.1,.inr ⟨g,o,c,cur,rfl,hb,rest⟩⟩ (fun g' hg=>by
  obtain rfl:g=g':=by simpa [Value.ownBlock] using hg
  exact hk)
section
variable {P : Program} (w : World)
theorem qnv(s x:Operand)(t tx:TypeId)
 (ho:o.op=.call {callee:=.builtin .append,args:=#[s,x],argTypes:=#[t,tx]})
 (col:Col)(k:Nat)(e:TypeId)(i:TypeInfo)(z:Value)(size bytes:Nat)(ht:P.underlying t=some (.slice e))(hi:P.info? e=some i)(hz:i.zero=some z)
 (hsize:i.size=size)(hby:i.bytes=bytes)(hzs:z.cells.size=size)
 (v:Value)(n:Nat)(xs:List Value)(hs:a.eval s=v)(hrow:RowC w col k v e size n xs)(xv:Value)(m:Nat)(news:List Value)(hx:a.eval x=xv)(hsrc:Src P size tx xv m news w)
 (h63:n+m≤maxLen)(hbytes:(n+m)*bytes≤140737488355328)
 (h:∀v' w' col',AppendedC w col w' col' k v v' e size n m xs news→K (a.put o.dst v') w'):o.wp P a w K Q:=by
 obtain⟨v',w',col',hrun,h2⟩:=qnu (P:=P) w col k t tx o.type e i z size bytes ht hi hz hsize hby hzs v n xs hrow xv m news hsrc h63 hbytes;unfold Oper.wp execOp;simp only[ho,resolve,invoke,builtin,Sem.run_bind,Sem.run_pure,Result.andThen_ok,List.map_toArray,List.map_cons,List.map_nil,hs,hx,hrun];exact h v' w' col' h2
end
def TextC (w:World)(col:Col)(v:Value)(bs:List Nat):Prop:=
 ∃A n c,v=.slice A n c∧n≤c∧c≤maxLen∧Reads w w.heap.size 1 A n (byv bs)∧(0<n→∃ad,A=some ad∧col ad.block=5)
def TextsC (w:World)(col:Col)(k:Nat)(v:Value)(ls:List (List Nat)):Prop:=
 ∃vs:List Value,RowC w col k v 23 1 ls.length vs∧∀(i:Nat) (bs:List Nat),ls[i]? =some bs→∃u,vs[i]? =some u∧TextC w col u bs
section
variable {w w' : World} {col col' : Col} {k : Nat} {v : Value} {bs : List Nat} {ls : List (List Nat)}
theorem TextC.keep(h:TextC w col v bs)(hk:KeepsCol 5 w col w' col'):TextC w' col' v bs:=by
 obtain⟨A,n,c,rfl,hn,hc,hr,ha⟩:=h;refine⟨A,n,c,rfl,hn,hc,⟨hr.1,fun h0=>?_⟩,fun h0=>?_⟩
 ·
  obtain⟨ad,rfl,h5⟩:=ha h0;obtain⟨ad',e,hb,hcell⟩:=hr.2 h0;injection e with e;subst e;refine⟨ad,rfl,tB0 hb hk.1,fun j u hu=>?_⟩;refine(World.cell?_of_block ?_).trans (hcell j u hu);rw[qa1];exact(hk.2 _ hb h5).1
 obtain⟨ad,rfl,h5⟩:=ha h0;obtain⟨ad',e,hb,_⟩:=hr.2 h0;injection e with e;subst e;exact⟨ad,rfl,(hk.2 _ hb h5).2⟩
theorem TextsC.keep(h:TextsC w col k v ls)(hk:KeepsCol k w col w' col')(h5:KeepsCol 5 w col w' col'):TextsC w' col' k v ls:=by
 obtain⟨vs,hr,ht⟩:=h;refine⟨vs,hr.keep hk,fun i bs hi=>?_⟩;obtain⟨u,hu,ht⟩:=ht i bs hi;exact⟨u,hu,ht.keep h5⟩
theorem TextC.own(h:OwnB w base v bs)(hk:∀g,v.ownBlock=some g→col g=5):TextC w col v bs:=by
 obtain⟨A,n,c,rfl,hn,hc,hr⟩:=h.sl;refine⟨A,n,c,rfl,hn,hc,hr,fun h0=>?_⟩;obtain⟨ad,rfl,hb,_⟩:=hr.2 h0;refine⟨ad,rfl,hk _ ?_⟩;rcases h.2 with⟨e,_⟩|⟨g,cap,cur,e,_⟩
 · cases e
 injection e with e;injection e with e;subst e;rfl
theorem TextC.one(h:TextC w col v bs):v.oneCell'=true:=by obtain⟨A,n,c,rfl,_⟩:=h;rfl
theorem TextsC.sl(h:TextsC w col k v ls):∃vs A c,v=.slice A ls.length c∧ls.length≤c∧c≤maxLen∧Reads w w.heap.size 1 A ls.length vs∧(∀(i:Nat) (bs:List Nat),ls[i]? =some bs→∃u,vs[i]? =some u∧TextC w col u bs):=by
 obtain⟨vs,hr,ht⟩:=h;obtain⟨A,c,h1,h2,h3,h4,_⟩:=hr.sl;exact⟨vs,A,c,h1,h2,h3,h4,ht⟩
theorem TextsC.nil(w:World)(col:Col)(k:Nat):TextsC w col k (.slice none 0 0) []:=⟨[],RowC.nil ..,fun i bs h=>by simp at h⟩
end
def tenv (x:Ten):List Value:=[.bool x.on,.int .u32 (x.rate:Int),.int .u32 (x.burst:Int),.int .u32 (x.tok:Int),.int .u32 (x.store:Int),.int .u32 (x.used:Int)]
def grav (g:Gra):List Value:=[.int .i64 g.tenant,.int .i64 g.role,.int .u64 (g.expires:Int),.bool g.revoked]
def trev (t:Tre)(vd vl vq:Value):List Value:=.int .i64 t.state::.int .i64 t.tenant::.int .i64 t.weight::.int .i64 t.deficit::vd::vl::vq::hdv t.hd
def drwv (l:List Nat):List Value:=l.map fun n:Nat=>.int .u32 (n:Int)
theorem qnw {α:Type}{sz:Nat}:∀{L:List (List α)} {n j:Nat} {c:List α},(∀c∈L,c.length=sz)→L[n]? =some c→j<sz→L.flatten[n*sz+j]? =c[j]?
 |[],n,j,c,_,h,_=>by simp at h
 |x::L,0,j,c,hl,h,hj=>by
  have hx:=hl x zm;simp only[List.getElem?_cons_zero,Option.some.injEq]at h;subst h;rw[List.flatten_cons,Nat.zero_mul,Nat.zero_add,tBm zo]
 |x::L,n+1,j,c,hl,h,hj=>by
  have hx:=hl x zm;simp only[tBc]at h;rw[List.flatten_cons,Nat.succ_mul,tBn zo,show n*sz+sz+j - x.length=n*sz+j by omega];exact qnw (fun c hc=>hl c (List.mem_cons_of_mem _ hc)) h hj
theorem qnx {α:Type}{sz:Nat}:∀{L:List (List α)},(∀c∈L,c.length=sz)→L.flatten.length=L.length*sz
 |[],_=>by simp
 |x::L,hl=>by
  rw[List.flatten_cons,tA6,hl x zm,qnx (fun c hc=>hl c (List.mem_cons_of_mem _ hc)),tBi,Nat.succ_mul];omega
theorem qny {sz:Nat}:∀{L:List (List Value)} {n j:Nat} (cs:List Value),(∀c∈L,c.length=sz)→n<L.length→j+cs.length≤sz→over L.flatten (n*sz+j) cs=(L.modify n fun c=>over c j cs).flatten
 |[],n,j,cs,_,h,_=>by simp at h
 |x::L,0,j,cs,hl,h,hj=>by
  have hx:=hl x zm;rw[List.modify_zero_cons,List.flatten_cons,List.flatten_cons,Nat.zero_mul,Nat.zero_add];unfold over;rw[List.take_append_of_le_length zo,List.drop_append_of_le_length zo];simp only[List.append_assoc]
 |x::L,n+1,j,cs,hl,h,hj=>by
  have hx:=hl x zm;rw[List.modify_succ_cons,List.flatten_cons,List.flatten_cons,←qny cs (fun c hc=>hl c (List.mem_cons_of_mem _ hc)) (by simpa using h) hj];unfold over;rw[Nat.succ_mul,show n*sz+sz+j=x.length+(n*sz+j) by omega,List.take_length_add_append,show x.length+(n*sz+j)+cs.length=x.length+(n*sz+j+cs.length) by omega,List.drop_length_add_append,List.append_assoc]
theorem qnz(l:List Value)(i:Nat)(u:Value)(h:i<l.length):over l i [u]=l.set i u:=by
 unfold over;rw[List.set_eq_take_append_cons_drop,if_pos h];simp
theorem qo0{l:List Value}{o:Nat}(h:o+cs.length≤l.length):over (l++sp) o cs=over l o cs++sp:=by
 unfold over;rw[List.take_append_of_le_length zo,List.drop_append_of_le_length zo];simp only[List.append_assoc]
theorem qo1 {α β:Type}(f:α→β)(g:α→α)(h:β→β):∀(l:List α) (n:Nat),(∀x,l[n]? =some x→h (f x)=f (g x))→(l.map f).modify n h=(l.modify n g).map f
 |[],n,_=>by simp
 |x::l,0,hx=>by simp[hx x rfl]
 |x::l,n+1,hx=>by simp[qo1 f g h l n (fun y hy=>hx y (by simpa using hy))]
def TopAt (w:World)(col:Col)(k:Nat)(e:TypeId)(g c size n:Nat)(xs:List Value):Prop:=
 col g=k∧∃sp:List Value,Blk w g e (xs++sp).toArray∧xs.length=n*size∧n≤c∧c≤maxLen∧xs.length+sp.length=c*size
section
variable {w w' : World} {col col' : Col} {k : Nat} {e : TypeId} {g c size n : Nat} {xs : List Value}
theorem TopAt.keep(h:TopAt w col k e g c size n xs)(hk:KeepsCol k w col w' col'):TopAt w' col' k e g c size n xs:=by
 obtain⟨hc,sp,hb,rest⟩:=h;obtain⟨h1,h2⟩:=hk.2 g hb.lt hc;exact⟨h2,sp,h1.trans hb,rest⟩
theorem TopAt.lt(h:TopAt w col k e g c size n xs):g<w.heap.size:=by obtain⟨hc,sp,hb,_⟩:=h;exact hb.lt
theorem TopAt.cell(h:TopAt w col k e g c size n xs)(hu:xs[i]? =some u):w.cell? ⟨g,i,none⟩=some u:=by
 obtain⟨hc,sp,hb,_⟩:=h;obtain⟨hi,_⟩:=tA8 hu;rw[hb.cell,tA3,tBm hi];exact hu
theorem TopAt.frozen(h:TopAt w col k e g c size n xs)(i:Nat):w.frozen? ⟨g,i,none⟩=false:=by obtain⟨hc,sp,hb,_⟩:=h;exact hb.frozen i
theorem TopAt.reads(h:TopAt w col k e g c size n xs):Reads w w.heap.size size (some ⟨g,0,none⟩) n xs:=
 ⟨h.2.elim fun _ h=>h.2.1,fun _=>⟨_,rfl,h.lt,fun j u hu=>by rw[Addr.add_mid];exact h.cell (by simpa using hu)⟩⟩
theorem TopAt.over(h:TopAt w col k e g c size n xs){o:Nat}(hl:o+cs.length≤xs.length):TopAt (w.setCells g o cs) col k e g c size n (over xs o cs):=by
 obtain⟨hc,sp,hb,hxl,hn,hm,hsp⟩:=h;have h2:=qno cs o w _ hb (by rw[tA6];omega);rw[qo0 hl]at h2;exact⟨hc,sp,h2,by rw[qnn hl];exact hxl,hn,hm,by rw[qnn hl];exact hsp⟩
theorem TopAt.set1(h:TopAt w col k e g c size n xs){o:Nat}(u:Value)(hl:o<xs.length):TopAt (w.setCell ⟨g,o,none⟩ u) col k e g c size n (xs.set o u):=by
 have:=h.over (o:=o) (cs:=[u]) (by simp;omega);rwa[qnz _ _ _ hl]at this
theorem TopAt.far(h:TopAt w col k e g c size n xs){p:Addr}(hp:g≠p.block)(u:Value):TopAt (w.setCell p u) col k e g c size n xs:=by
 obtain⟨hc,sp,hb,rest⟩:=h;exact⟨hc,sp,hb.far hp u,rest⟩
theorem TopAt.there(h:TopAt w col k e g c size n xs){o:Nat}(hl:o+m≤xs.length):w.there g o m:=fun j hj=>by
 obtain⟨u,hu⟩:∃u,xs[o+j]? =some u:=⟨_,tA7 zo⟩;exact⟨by rw[h.cell hu];simp,h.frozen _⟩
end
structure Loc where
 tg:Nat
 tc:Nat
 rg:Nat
 rc:Nat
 gg:Nat
 gc:Nat
 sa:Option Addr
 sn:Nat
 sc:Nat
def TreAt (w:World)(col:Col)(i:Nat)(cs:List Value)(t:Tre):Prop:=
 ∃vd vl vq,cs=trev t vd vl vq∧RowC w col (10+3*i) vd 22 1 t.draws.length (drwv t.draws)∧TextsC w col (11+3*i) vl t.leaves∧TextsC w col (12+3*i) vq t.queue
def TrsAt (w:World)(col:Col)(css:List (List Value))(l:List Tre):Prop:=css.length=l.length∧∀(i:Nat) (t:Tre),l[i]? =some t→∃cs,css[i]? =some cs∧TreAt w col i cs t
structure StAt (tt rt gt:TypeId)(w:World)(col:Col)(k:Nat)(L:Loc)(css:List (List Value))(s:Sta):Prop where
 tens:TopAt w col k tt L.tg L.tc 6 16 (s.tens.flatMap tenv)
 tres:TopAt w col (k+1) rt L.rg L.rc 75 16 css.flatten
 gras:TopAt w col (k+2) gt L.gg L.gc 4 s.gras.length (s.gras.flatMap grav)
 trs:TrsAt w col css s.tres
section
variable {w w' : World} {col col' : Col} {i : Nat} {cs : List Value} {css : List (List Value)} {t : Tre} {l : List Tre}
theorem TreAt.keep(h:TreAt w col i cs t)(hk:∀k,k=5∨10≤k→KeepsCol k w col w' col'):TreAt w' col' i cs t:=by
 obtain⟨vd,vl,vq,e,h1,h2,h3⟩:=h;exact⟨vd,vl,vq,e,h1.keep (hk _ (.inr zo)),h2.keep (hk _ (.inr zo)) (hk _ (.inl rfl)),h3.keep (hk _ (.inr zo)) (hk _ (.inl rfl))⟩
theorem TrsAt.keep(h:TrsAt w col css l)(hk:∀k,k=5∨10≤k→KeepsCol k w col w' col'):TrsAt w' col' css l:=
 ⟨h.1,fun i t ht=>by
  obtain⟨cs,h1,h2⟩:=h.2 i t ht;exact⟨cs,h1,h2.keep hk⟩⟩
theorem StAt.keep{L:Loc}{s:Sta}(h:StAt tt rt gt w col k L css s)(h1:KeepsCol k w col w' col')(h2:KeepsCol (k+1) w col w' col')(h3:KeepsCol (k+2) w col w' col')(hk:∀k,k=5∨10≤k→KeepsCol k w col w' col'):StAt tt rt gt w' col' k L css s:=
 ⟨h.tens.keep h1,h.tres.keep h2,h.gras.keep h3,h.trs.keep hk⟩
theorem qo2{h:Hd}(hk:h.Ok):(hdv h).length=68:=by
 unfold hdv;simp only[tBi,tA6,qat,hk.rootl,hk.tagl]
theorem qo3{t:Tre}(vd vl vq:Value)(h:t.hd.Ok):(trev t vd vl vq).length=75:=by
 unfold trev;simp only[tBi,qo2 h]
theorem TrsAt.lens(h:TrsAt w col css l)(hk:∀t∈l,t.hd.Ok):∀c∈css,c.length=75:=by
 intro c hc;obtain⟨i,hi,rfl⟩:=List.getElem_of_mem hc;have hi':i<l.length:=by rw[←h.1];exact hi
 obtain⟨cs,h1,vd,vl,vq,e,_⟩:=h.2 i l[i] (tA7 hi');rw[tA7 hi]at h1;injection h1 with h1;rw[h1,e];exact qo3 _ _ _ (hk _ (List.getElem_mem _))
theorem qo4{l:List Ten}{x:Ten}(h:l[n]? =some x)(hj:j<6):(l.flatMap tenv)[n*6+j]? =(tenv x)[j]? :=by
 rw[List.flatMap_def];exact qnw (fun c hc=>by obtain⟨y,_,rfl⟩:=List.mem_map.1 hc;rfl) (by rw[tBj,h];rfl) hj
theorem qo5{l:List Gra}{x:Gra}(h:l[n]? =some x)(hj:j<4):(l.flatMap grav)[n*4+j]? =(grav x)[j]? :=by
 rw[List.flatMap_def];exact qnw (fun c hc=>by obtain⟨y,_,rfl⟩:=List.mem_map.1 hc;rfl) (by rw[tBj,h];rfl) hj
theorem qo6(l:List Ten):(l.flatMap tenv).length=l.length*6:=by
 rw[List.flatMap_def,qnx (sz:=6) (fun c hc=>by obtain⟨y,_,rfl⟩:=List.mem_map.1 hc;rfl),tBl]
theorem qo7(l:List Gra):(l.flatMap grav).length=l.length*4:=by
 rw[List.flatMap_def,qnx (sz:=4) (fun c hc=>by obtain⟨y,_,rfl⟩:=List.mem_map.1 hc;rfl),tBl]
theorem qo8{l:List Ten}{cs:List Value}{f:Ten→Ten}(hn:n<l.length)(hj:j+cs.length≤6)(hf:∀x,l[n]? =some x→over (tenv x) j cs=tenv (f x)):over (l.flatMap tenv) (n*6+j) cs=(l.modify n f).flatMap tenv:=by
 rw[List.flatMap_def,List.flatMap_def,qny cs (fun c hc=>by obtain⟨y,_,rfl⟩:=List.mem_map.1 hc;rfl) (by simpa using hn) hj,qo1 _ f _ _ _ hf]
theorem qo9{l:List Gra}{cs:List Value}{f:Gra→Gra}(hn:n<l.length)(hj:j+cs.length≤4)(hf:∀x,l[n]? =some x→over (grav x) j cs=grav (f x)):over (l.flatMap grav) (n*4+j) cs=(l.modify n f).flatMap grav:=by
 rw[List.flatMap_def,List.flatMap_def,qny cs (fun c hc=>by obtain⟨y,_,rfl⟩:=List.mem_map.1 hc;rfl) (by simpa using hn) hj,qo1 _ f _ _ _ hf]
end
structure Stp where
 kind:Int
 r:Req
 who:Int
 cavs:List (Int × Nat)
 n:Nat
 raw:List Nat
instance stpInh:Inhabited Stp:=⟨⟨0,⟨0,0,[],[],0,0,0,0,0,0,0,0,0,0,0,0,[]⟩,0,[],0,[]⟩⟩
def stpv (S:Stp)(cav leafv kv rv:Value):List Value:=Value.int .i64 S.kind::(reqv S.r cav leafv++[.int .i64 S.who,kv,.int .u32 (S.n:Int),rv])
theorem qoa(S:Stp)(cav leafv kv rv:Value)(ht:S.r.tag.length=32):(stpv S cav leafv kv rv).length=53:=by
 unfold stpv;simp[qjd _ _ _ ht]
theorem qob(S:Stp)(cav leafv kv rv:Value):∀j u,(reqv S.r cav leafv)[j]? =some u→(stpv S cav leafv kv rv)[1+j]? =some u:=by
 intro j u h;obtain⟨hj,_⟩:=tA8 h;unfold stpv;rw[show 1+j=j+1 by omega,tBc,tBm hj];exact h
theorem qoc(S:Stp)(cav leafv kv rv:Value)(ht:S.r.tag.length=32)(k:Nat):(stpv S cav leafv kv rv)[49+k]? =([.int .i64 S.who,kv,.int .u32 (S.n:Int),rv]:List Value)[k]? :=by
 unfold stpv;rw[show 49+k=(48+k)+1 by omega,tBc,tBn (by rw[qjd _ _ _ ht];omega),qjd _ _ _ ht];congr 1
 omega
def StpR (w:World)(cs:List Value)(S:Stp):Prop:=
 ∃(Ac:Option Addr) (cc:Nat) (Al:Option Addr) (cl:Nat) (Ak:Option Addr) (ck:Nat) (Ar:Option Addr) (cr:Nat),
  cs=stpv S (.slice Ac S.r.cavs.length cc) (.slice Al S.r.leaf.length cl) (.slice Ak S.cavs.length ck) (.slice Ar S.raw.length cr)∧S.r.Good∧
  (S.r.cavs.length≤cc∧cc≤maxLen∧Reads w w.heap.size 2 Ac S.r.cavs.length (cavv S.r.cavs)∧S.r.cavs.length*16≤140737488351232)∧
  (S.r.leaf.length≤cl∧cl≤maxLen∧Reads w w.heap.size 1 Al S.r.leaf.length (byv S.r.leaf)∧S.r.leaf.length≤140737488351232)∧
  (S.cavs.length≤ck∧ck≤maxLen∧Reads w w.heap.size 2 Ak S.cavs.length (cavv S.cavs)∧(∀x∈S.cavs,x.2<4294967296)∧∀x∈S.cavs,(Lit.int .i64 x.1).wf=true)∧
  (S.raw.length≤cr∧cr≤maxLen∧Reads w w.heap.size 1 Ar S.raw.length (byv S.raw)∧∀b∈S.raw,b<256)∧
  S.n<4294967296∧(Lit.int .i64 S.kind).wf=true∧(Lit.int .i64 S.who).wf=true
def StpsR (w:World)(A:Option Addr)(l:List Stp):Prop:=
 ∃css:List (List Value),css.length=l.length∧(∀c∈css,c.length=53)∧(∀(i:Nat) (S:Stp),l[i]? =some S→∃cs,css[i]? =some cs∧StpR w cs S)∧Reads w w.heap.size 53 A l.length css.flatten
theorem Reads.stay(h:Reads w w.heap.size size A n xs)(hs:w.heap.size≤w'.heap.size)(hb:∀b,b<w.heap.size→w'.heap[b]? =w.heap[b]?):Reads w' w'.heap.size size A n xs:=
 ⟨h.1,fun hn=>by
  obtain⟨ad,e,hl,hc⟩:=h.2 hn;refine⟨ad,e,tB0 hl hs,fun j u hu=>?_⟩;refine(World.cell?_of_block ?_).trans (hc j u hu);rw[qa1];exact hb _ hl⟩
theorem StpR.stay{S:Stp}(h:StpR w cs S)(hs:w.heap.size≤w'.heap.size)(hb:∀b,b<w.heap.size→w'.heap[b]? =w.heap[b]?):StpR w' cs S:=by
 obtain⟨Ac,cc,Al,cl,Ak,ck,Ar,cr,h0,h1,⟨a1,a2,a3,a4⟩,⟨b1,b2,b3,b4⟩,⟨c1,c2,c3,c4⟩,⟨d1,d2,d3,d4⟩,rest⟩:=h;exact⟨Ac,cc,Al,cl,Ak,ck,Ar,cr,h0,h1,⟨a1,a2,a3.stay hs hb,a4⟩,⟨b1,b2,b3.stay hs hb,b4⟩,⟨c1,c2,c3.stay hs hb,c4⟩,⟨d1,d2,d3.stay hs hb,d4⟩,rest⟩
theorem StpsR.stay{l:List Stp}(h:StpsR w A l)(hs:w.heap.size≤w'.heap.size)(hb:∀b,b<w.heap.size→w'.heap[b]? =w.heap[b]?):StpsR w' A l:=by
 obtain⟨css,h1,h2,h3,h4⟩:=h;exact⟨css,h1,h2,fun i S hi=>by
  obtain⟨cs,h5,h6⟩:=h3 i S hi;exact⟨cs,h5,h6.stay hs hb⟩,h4.stay hs hb⟩
theorem StpsR.at_{l:List Stp}(h:StpsR w A l){S:Stp}(hi:l[i]? =some S):
 ∃g o cs,A=some ⟨g,o,none⟩∧cs.length=53∧StpR w cs S∧w.rangeAt g (o+i*53) cs:=by
 obtain⟨css,h1,h2,h3,h4⟩:=h;obtain⟨cs,h5,h6⟩:=h3 i S hi;obtain⟨hi',_⟩:=tA8 hi;obtain⟨g,o,e,-,hc⟩:=h4.mid zo zdc;refine⟨g,o,cs,e,h2 _ (tB2 h5),h6,fun j u hu=>?_⟩;obtain⟨hj,_⟩:=tA8 hu;have h53:=h2 _ (tB2 h5);have:=hc (i*53+j) u ((qnw h2 h5 zo).trans hu);rw[←Nat.add_assoc]at this;exact this
section
open Go.RowKit Go.ChangeShapes Go.WideShapes Go.ChangeAt Go.Deep
section
variable {H : Type} {enc : TypeId × Value → H} {W : World} {base : Nat} {held : Bool}
theorem qod {P:Program}{e:TypeId}:∀{l:List (DataW H)} {d:DataW H},d∈l→∀n∈d.weights P e,n∈DataW.weightsAll P e l
 |d'::r,d,hd,n,hn=>by
  simp only[DataW.weightsAll,tBg];rcases List.mem_cons.1 hd with rfl|h
  · exact Or.inl hn
  exact Or.inr (qod h n hn)
theorem qoe{x:DataW H × List MemPlace}(h:DataW.trod enc Tryz.prog W base (fun _=>true) held fuel 23 cs=some x)(hM:∀n∈x.1.weights Tryz.prog 23,n≤reachBytes):
 ∃(A:Option Addr) (c:Nat) (bs:List Nat),cs=[.slice A bs.length c]∧bs.length≤c∧c≤reachBytes∧(∀b∈bs,b<256)∧Reads W W.heap.size 1 A bs.length (byv bs):=by
 obtain⟨A,c,bs,h1,h2,h3,h4,h5⟩:=qer h;refine⟨A,c,bs,h1,h2,?_,h4,h5⟩;rcases open_ints Tryz.underlying23 Tryz.underlying5 zk h with⟨hcs,_⟩|⟨a,l,c',zs,hcs,_,hl,hm,hz,hx,hcell,hwz⟩
 · rw[hcs]at h1
   injection h1 with h1;injection h1 with e1 e2 e3;subst e3;decide
 rw[hcs]at h1;injection h1 with h1;injection h1 with e1 e2 e3;subst e3;refine hM c' ?_;rw[hx];unfold DataW.weights;rw[Tryz.underlying23];have hby:(Tryz.prog).bytesOf 5=1:=by kernel_rfl
 simp only[lits,tBl,tBd,tBk,hby];have hz':zs.length=c':=by simpa using hz
 rw[show (min l zs.length+(zs.length - l))*1=c' from by omega];exact List.mem_cons_self ..
theorem qof{x:DataW H × List MemPlace}(h:DataW.trod enc Tryz.prog W base (fun _=>true) held fuel 34 cs=some x)(hM:∀n∈x.1.weights Tryz.prog 34,n≤reachBytes):
 ∃A n c,cs[47]? =some (.slice A n c)∧c≤reachBytes:=by
 obtain⟨xs,n,-,hx0,hlen,hxl,hf⟩:=DataW.trod_struct Tryz.underlying34 h;have c5:(Tryz.prog).cellsOf 23=1:=by kernel_rfl
 obtain⟨y14,h14⟩:=qev (xs:=xs) (i:=14) (by rw[hxl];decide);have g14:=(hf 14 _ rfl).trans h14;simp only[List.getElem_toArray,List.getElem_cons_zero,List.getElem_cons_succ]at g14;rw[c5]at g14;obtain⟨A,c,bs,e1,e2,e3,e4,e5⟩:=qoe g14 (fun n hn=>hM n (by
  rw[hx0];unfold DataW.weights;rw[Tryz.underlying34];exact DataW.weights_mem_each (j:=14) rfl (by rw[tBj,h14];rfl) n hn))
 refine⟨A,bs.length,c,?_,e3⟩;have:=congrArg (·[0]?) e1;simpa [List.getElem?_drop,List.getElem?_take] using this
theorem qog{x:DataW H × List MemPlace}(h:DataW.trod enc Tryz.prog W base (fun _=>true) held fuel 44 cs=some x)(hM:∀n∈x.1.weights Tryz.prog 44,n≤reachBytes):
 ∃S,StpR W cs S∧S.raw.length≤140737488351232:=by
 obtain⟨xs,n,-,hx0,hlen,hxl,hf⟩:=DataW.trod_struct Tryz.underlying44 h;have c0:(Tryz.prog).cellsOf 3=1:=by kernel_rfl
 have c1:(Tryz.prog).cellsOf 34=48:=by kernel_rfl
 have c2:(Tryz.prog).cellsOf 27=1:=by kernel_rfl
 have c3:(Tryz.prog).cellsOf 22=1:=by kernel_rfl
 have c4:(Tryz.prog).cellsOf 23=1:=by kernel_rfl
 have c5:(Tryz.prog).cellsOf 44=53:=by kernel_rfl
 rw[c5]at hlen;have hx:∀i,i<6→∃y,xs[i]? =some y:=fun i hi=>qev (by rw[hxl];exact hi)
 obtain⟨y0,h0⟩:=hx 0 zo;obtain⟨y1,h1⟩:=hx 1 zo;obtain⟨y2,h2⟩:=hx 2 zo;obtain⟨y3,h3⟩:=hx 3 zo;obtain⟨y4,h4⟩:=hx 4 zo;obtain⟨y5,h5⟩:=hx 5 zo;have g0:=(hf 0 _ rfl).trans h0;have g1:=(hf 1 _ rfl).trans h1;have g2:=(hf 2 _ rfl).trans h2;have g3:=(hf 3 _ rfl).trans h3;have g4:=(hf 4 _ rfl).trans h4;have g5:=(hf 5 _ rfl).trans h5;simp only[List.getElem_toArray,List.getElem_cons_zero,List.getElem_cons_succ]at g0 g1 g2 g3 g4 g5;rw[c0]at g0 g2;rw[c1]at g1;rw[c2]at g3;rw[c3]at g4;rw[c4]at g5;have mem:∀(j:Nat) (t:TypeId) (y:DataW H × List MemPlace),([3,34,3,27,22,23]:List TypeId)[j]? =some t→xs[j]? =some y→∀n∈y.1.weights Tryz.prog t,n≤reachBytes:=fun j t y ht hy n hn=>hM n (by
  rw[hx0];unfold DataW.weights;rw[Tryz.underlying44];exact DataW.weights_mem_each (j:=j) ht (by rw[tBj,hy];rfl) n hn)
 obtain⟨kind,e0,-,w0⟩:=DataW.trod_int Tryz.underlying3 g0;obtain⟨R,Ac,cc,Al,cl,e1,r1,r2,r3,r4,r5,r6,r7,r8⟩:=qex g1;obtain⟨who,e2,-,w2⟩:=DataW.trod_int Tryz.underlying3 g2;obtain⟨Ak,ck,cavs,e3,k1,k2,k3,k4,k5,k6⟩:=qet g3;obtain⟨N,e4,-,w4⟩:=DataW.trod_int Tryz.underlying22 g4;obtain⟨Ar,cr,raw,e5,q1,q2,q3,q4⟩:=qoe g5 (mem 5 _ _ rfl h5);obtain⟨A',n',c',l1,l2⟩:=qof g1 (mem 1 _ _ rfl h1);have hl:(reqv R (.slice Ac R.cavs.length cc) (.slice Al R.leaf.length cl))[47]? =some (.slice Al R.leaf.length cl):=(qdl R _ _ r1.tag 12).trans rfl;rw[e1,hl]at l1;injection l1 with l1;injection l1 with l11 l12 l13;subst l13;have h8:=r8 reachBytes (mem 1 _ _ rfl h1);have er:reachBytes=140737488351232:=rfl;rw[er]at h8 l2;refine⟨⟨kind,R,who,cavs,N.toNat,raw⟩,⟨Ac,cc,Al,cl,Ak,ck,Ar,cr,?_,r1,⟨r2,r3,r6,by show R.cavs.length*16≤140737488351232;omega⟩,⟨r4,r5,r7,by show R.leaf.length≤140737488351232;omega⟩,⟨k1,k2,k5,k3,k4⟩,⟨q1,by simp only[reachBytes]at q2;simp only[maxLen];omega,q4,q3⟩,(qen w4).2,w0,w2⟩,by rw[er]at q2;exact tB1 q1 q2⟩;have:cs=(cs.drop 0).take 1++((cs.drop 1).take 48++((cs.drop 49).take 1++((cs.drop 50).take 1++((cs.drop 51).take 1++((cs.drop 52).take 1++cs.drop 53))))):=by
  rw[←qeu cs 52 1,←qeu cs 51 1,←qeu cs 50 1,←qeu cs 49 1,←qeu cs 1 48,←qeu cs 0 1];rfl
 rw[this,e0,e1,e2,e3,e4,e5,List.drop_eq_nil_of_le zo];simp[stpv,(qen w4).1]
theorem qoh{x:DataW H × List MemPlace}(h:DataW.trod enc Tryz.prog W base (fun _=>true) held fuel 26 cs=some x)(hM:∀n∈x.1.weights Tryz.prog 26,n≤reachBytes):
 ∃(A:Option Addr) (c:Nat) (l:List Stp),cs=[.slice A l.length c]∧l.length≤c∧c≤maxLen∧StpsR W A l∧∀S∈l,S.raw.length≤140737488351232:=by
 have ce:(Tryz.prog).cellsOf 44=53:=by kernel_rfl
 rcases open_slice Tryz.underlying26 h with⟨hcs,_⟩|⟨a,len,c,m,n,D,Pl,hcs,_,hl,hm,hmm,hx0,hel⟩
 · exact⟨none,0,[],hcs,tA4 _,by simp[maxLen],⟨[],rfl,fun c h=>(nomatch h),fun i S h=>by simp at h,Reads.none_⟩,fun S h=>(nomatch h)⟩
 have hmc:m=c:=by simpa using hmm
 have each:∀i,i<len→∃p:Stp × List Value,(StpR W p.2 p.1∧p.1.raw.length≤140737488351232)∧p.2.length=53∧∀j u,p.2[j]? =some u→W.cell? (a.add (i*53+j))=some u:=fun i hi=>by
  obtain⟨cs',h1,h2⟩:=hel i zo;rw[ce]at h1;obtain⟨_,hlen,hcell⟩:=World.cells?_some h1;obtain⟨S,hS⟩:=qog h2 (fun n hn=>hM n (by
   rw[hx0];unfold DataW.weights;rw[Tryz.underlying26];simp only[List.mem_cons,tBg];exact .inr (.inl (qod (List.mem_map.2 ⟨i,List.mem_range.2 hi,rfl⟩) n hn))))
  refine⟨(S,cs'),hS,hlen,fun j u hu=>?_⟩;dsimp only at hu;have hj:j<53:=by
   have:=(tA8 hu).1;omega
  have:=hcell j hj;rw[add_add]at this;rw[this];exact hu
 obtain⟨q,hq⟩:=choose_lt each;have hlen53:∀c∈(List.range len).map (fun i=>(q i).2),c.length=53:=fun c hc=>by
  obtain⟨i,hi,rfl⟩:=List.mem_map.1 hc;exact(hq i (List.mem_range.1 hi)).2.1
 refine⟨some a,c,(List.range len).map fun i=>(q i).1,by rw[tBl,List.length_range];exact hcs,by rw[tBl,List.length_range];exact hl,hm,⟨(List.range len).map fun i=>(q i).2,by simp,hlen53,fun i S hi=>?_,?_⟩,fun S hS=>by
  obtain⟨i,hi,rfl⟩:=List.mem_map.1 hS;exact(hq i (List.mem_range.1 hi)).1.2⟩
 · obtain⟨hi',e⟩:=tA8 hi
   rw[tBl,List.length_range]at hi';simp at e;subst e;exact⟨(q i).2,by simp[hi'],(hq i hi').1.1⟩
 rw[tBl,List.length_range];refine⟨by rw[qnx hlen53];simp,fun hn=>⟨a,rfl,?_,fun j u hu=>?_⟩⟩
 · have hq0:=hq 0 hn
   have hc:=hq0.2.2 0 _ (tA7 (by rw[hq0.2.1];decide));have hb:=World.block_lt_of_cell? _ _ hc;rwa[qa1]at hb
 have hj:j<len*53:=by
  have:=(tA8 hu).1;rw[qnx hlen53]at this;simpa using this
 have hi:j / 53<len:=zo;have e:((List.range len).map fun i=>(q i).2)[j / 53]? =some (q (j / 53)).2:=by simp[hi]
 have h1:=qnw (j:=j % 53) hlen53 e (Nat.mod_lt _ zdc);rw[show j / 53*53+j % 53=j by omega]at h1;have:=(hq (j / 53) hi).2.2 (j % 53) u (by rw[←h1];exact hu);rwa[show j / 53*53+j % 53=j by omega]at this
theorem qoi{x:DataW H × List MemPlace}(h:DataW.trod enc Tryz.prog W base (fun _=>true) held fuel 25 cs=some x)(hM:∀n∈x.1.weights Tryz.prog 25,n≤reachBytes):
 ∃(c:Cfg) (A:Option Addr) (k:Nat),cs=[.int .i64 c.width,.int .i64 c.quantum,.int .u32 (c.store:Int),.slice A c.seed.length k]∧(Lit.int .i64 c.width).wf=true∧(Lit.int .i64 c.quantum).wf=true∧c.store<4294967296∧c.seed.length≤k∧k≤reachBytes∧(∀b∈c.seed,b<256)∧Reads W W.heap.size 1 A c.seed.length (byv c.seed):=by
 obtain⟨xs,n,-,hx0,hlen,hxl,hf⟩:=DataW.trod_struct Tryz.underlying25 h;have c0:(Tryz.prog).cellsOf 3=1:=by kernel_rfl
 have c3:(Tryz.prog).cellsOf 22=1:=by kernel_rfl
 have c4:(Tryz.prog).cellsOf 23=1:=by kernel_rfl
 have c5:(Tryz.prog).cellsOf 25=4:=by kernel_rfl
 rw[c5]at hlen;have hx:∀i,i<4→∃y,xs[i]? =some y:=fun i hi=>qev (by rw[hxl];exact hi)
 obtain⟨y0,h0⟩:=hx 0 zo;obtain⟨y1,h1⟩:=hx 1 zo;obtain⟨y2,h2⟩:=hx 2 zo;obtain⟨y3,h3⟩:=hx 3 zo;have g0:=(hf 0 _ rfl).trans h0;have g1:=(hf 1 _ rfl).trans h1;have g2:=(hf 2 _ rfl).trans h2;have g3:=(hf 3 _ rfl).trans h3;simp only[List.getElem_toArray,List.getElem_cons_zero,List.getElem_cons_succ]at g0 g1 g2 g3;rw[c0]at g0 g1;rw[c3]at g2;rw[c4]at g3;obtain⟨wd,e0,-,w0⟩:=DataW.trod_int Tryz.underlying3 g0;obtain⟨qu,e1,-,w1⟩:=DataW.trod_int Tryz.underlying3 g1;obtain⟨st,e2,-,w2⟩:=DataW.trod_int Tryz.underlying22 g2;obtain⟨A,k,seed,e3,q1,q2,q3,q4⟩:=qoe g3 (fun n hn=>hM n (by
  rw[hx0];unfold DataW.weights;rw[Tryz.underlying25];exact DataW.weights_mem_each (j:=3) rfl (by rw[tBj,h3];rfl) n hn))
 refine⟨⟨wd,qu,st.toNat,seed⟩,A,k,?_,w0,w1,(qen w2).2,q1,q2,q3,q4⟩;have:cs=(cs.drop 0).take 1++((cs.drop 1).take 1++((cs.drop 2).take 1++((cs.drop 3).take 1++cs.drop 4))):=by
  rw[←qeu cs 3 1,←qeu cs 2 1,←qeu cs 1 1,←qeu cs 0 1];rfl
 rw[this,e0,e1,e2,e3,List.drop_eq_nil_of_le zo];simp[(qen w2).1]
end
end
structure Cfg.Ok (c:Cfg):Prop where
 w1:1≤c.width
 w2:c.width≤32
 q1:1≤c.quantum
 q2:c.quantum≤2
 store:c.store≤32768
 seed:c.seed.length≤64
 seedb:∀x∈c.seed,x<256
structure Ten.Ok (x:Ten):Prop where
 rate:x.rate≤1048576
 burst:x.burst≤1048576
 tok:x.tok≤x.burst
 store:x.store<4294967296
 used:x.used<4294967296
def LeafOk (b:List Nat):Prop:=b.length≤400∧∀x∈b,x<256
structure Tre.Ok (t:Tre):Prop where
 state:0≤t.state∧t.state≤4
 tenant:0≤t.tenant∧t.tenant<16
 weight:0≤t.weight∧t.weight≤4
 deficit:t.deficit=0
 live:t.state≠0→1≤t.weight∧t.draws≠[]
 draws:t.draws.length≤32
 drawb:∀x∈t.draws,x<4294967296
 leaves:t.leaves.length+t.queue.length≤1024
 leafb:∀b∈t.leaves,LeafOk b
 queue:t.queue.length≤64
 queueb:∀b∈t.queue,LeafOk b
 hd:t.hd.Ok
 hdt:0≤t.hd.tree∧t.hd.tree<16
 hde:0≤t.hd.epoch∧t.hd.epoch<32
 hds:t.hd.size≤t.leaves.length
structure Gra.Ok (g:Gra):Prop where
 tenant:0≤g.tenant∧g.tenant<16
 role:1≤g.role∧g.role≤4
 expires:g.expires<18446744073709551616
structure Sta.Ok (s:Sta):Prop where
 clock:s.clock<18446744073709551616
 draw:s.draw<4294967296
 lane:0≤s.lane∧s.lane<16
 tensn:s.tens.length=16
 tresn:s.tres.length=16
 grasn:s.gras.length≤64
 tens:∀x∈s.tens,x.Ok
 tres:∀t∈s.tres,t.Ok
 gras:∀g∈s.gras,g.Ok
 owner:s.gras[0]? =some ⟨0,4,18446744073709551615,false⟩
 first:∃t,s.tres[0]? =some t∧t.state=1∧t.queue=[]
theorem qoj {α:Type}{f:α→α}:∀{l:List α} {n:Nat} {x:α},x∈l.modify n f→x∈l∨∃y,l[n]? =some y∧x=f y
 |[],n,x,h=>by simp at h
 |a::l,0,x,h=>by
  rw[List.modify_zero_cons]at h;rcases List.mem_cons.1 h with rfl|h
  · exact .inr ⟨a,rfl,rfl⟩
  exact .inl (List.mem_cons_of_mem _ h)
 |a::l,n+1,x,h=>by
  rw[List.modify_succ_cons]at h;rcases List.mem_cons.1 h with rfl|h
  · exact .inl zm
  rcases qoj h with h|⟨y,h1,h2⟩
  · exact .inl (List.mem_cons_of_mem _ h)
  exact .inr ⟨y,by simpa using h1,h2⟩
theorem qok{α:Type}{P:α→Prop}{f:α→α}{l:List α}(h:∀x∈l,P x)(hf:∀x,l[n]? =some x→P x→P (f x)):∀x∈l.modify n f,P x:=by
 intro x hx;rcases qoj hx with h1|⟨y,h1,rfl⟩
 · exact h x h1
 exact hf y h1 (h y (tB2 h1))
theorem Sta.Ok.tre{s:Sta}(h:s.Ok){t:Tre}(ht:s.tres[n]? =some t):t.Ok:=h.tres t (tB2 ht)
theorem Sta.Ok.ten{s:Sta}(h:s.Ok){x:Ten}(hx:s.tens[n]? =some x):x.Ok:=h.tens x (tB2 hx)
theorem Sta.Ok.gra{s:Sta}(h:s.Ok){g:Gra}(hg:s.gras[n]? =some g):g.Ok:=h.gras g (tB2 hg)
theorem Ten.zero_ok:Ten.zero.Ok:=⟨by decide,by decide,by decide,by decide,by decide⟩
theorem Tre.zero_ok:Tre.zero.Ok:=
 ⟨by decide,by decide,by decide,rfl,fun h=>absurd rfl h,by decide,fun x h=>(nomatch h),by decide,fun x h=>(nomatch h),by decide,fun x h=>(nomatch h),Hd.zero_Ok,by decide,by decide,by decide⟩
theorem Sta.Ok.setT{s:Sta}(h:s.Ok){f:Tre→Tre}(hf:∀t,s.tres[n]? =some t→t.Ok→(f t).Ok)(h0:n=0→∀t,s.tres[0]? =some t→t.state=1→t.queue=[]→(f t).state=1∧(f t).queue=[]):(s.setT n f).Ok:=by
 refine⟨h.clock,h.draw,h.lane,h.tensn,by simp[Sta.setT,h.tresn],h.grasn,h.tens,qok h.tres hf,h.gras,h.owner,?_⟩;obtain⟨t,h1,h2,h3⟩:=h.first;by_cases e:n=0
 · subst e
   obtain⟨h4,h5⟩:=h0 rfl t h1 h2 h3;exact⟨f t,by simp[Sta.setT,List.getElem?_modify,h1],h4,h5⟩
 exact⟨t,by simp[Sta.setT,List.getElem?_modify,h1,e],h2,h3⟩
theorem Sta.Ok.setX{s:Sta}(h:s.Ok){f:Ten→Ten}(hf:∀x,s.tens[n]? =some x→x.Ok→(f x).Ok):(s.setX n f).Ok:=
 ⟨h.clock,h.draw,h.lane,by simp[Sta.setX,h.tensn],h.tresn,h.grasn,qok h.tens hf,h.tres,h.gras,h.owner,h.first⟩
theorem qol(w:Nat)(b:List Nat)(hw:w≤32):(sumH w b).length=32:=qg4 (qjp b) hw
theorem qom(w:Nat)(b:List Nat):∀x∈sumH w b,x<256:=qg5 (qjq b)
theorem qon(w:Nat)(hw:w≤32):∀(l:List (List Nat)),(qft w l).length=32∧∀x∈qft w l,x<256:=by
 intro l;by_cases h:l.length≤1
 · match l,h with
   |[],_=>rw[qfu];exact⟨qol _ _ hw,qom _ _⟩
   |[b],_=>rw[qfv];exact⟨qol _ _ hw,qom _ _⟩
   |_::_::_,h=>simp at h
 rw[qfw w zo];exact⟨qol _ _ hw,qom _ _⟩
theorem qoo(c:Cfg)(clock n:Nat)(t:Tre)(hc:clock<18446744073709551616)(ht:t.leaves.length<18446744073709551616):(pubT c clock n t).Ok:=by
 obtain⟨h1,h2⟩:=qon (cutW c.width) (qfp _).2 t.leaves;exact⟨ht,hc,h1,h2,qkf _ _,qkg _ _⟩
theorem Tre.Ok.pub{t:Tre}(h:t.Ok)(c:Cfg)(clock n:Nat)(hc:clock<18446744073709551616)(hn:n<16):{t with hd:=pubT c clock n t:Tre}.Ok:=by
 have hd:=h.draws;have hl:=h.leaves;exact {h with hd:=qoo c clock n t hc zo,hdt:=⟨by simp[pubT,signed];try omega,by simp[pubT,signed];try omega⟩,hde:=⟨by simp[pubT,signed];try omega,by simp[pubT,signed];try omega⟩,hds:=by simp[pubT,signed]}
theorem Sta.Ok.pub{s:Sta}(h:s.Ok)(c:Cfg)(hn:n<16):(s.pub c n).Ok:=
 h.setT (n:=n) (f:=fun t=>{t with hd:=pubT c s.clock n t}) (fun t _ ht=>ht.pub c _ n h.clock hn) (fun _ t _ h1 h2=>⟨h1,h2⟩)
theorem qop{α:Type}{l:List α}{x:α}(f:α→α)(h:l[n]? =some x):(l.modify n f)[n]? =some (f x):=by rw[List.getElem?_modify,h];simp
theorem qoq{α:Type}(l:List α)(f:α→α)(h:n≠i):(l.modify n f)[i]? =l[i]? :=by rw[List.getElem?_modify];simp[h]
def mdlv (c:Cfg)(s:Sta)(L:Loc):Array Value:=#[.int .i64 c.width,.int .i64 c.quantum,.int .u32 (c.store:Int),.slice L.sa L.sn L.sc,.int .u64 (s.clock:Int),.int .u32 (s.draw:Int),.int .i64 s.lane,.slice (some ⟨L.tg,0,none⟩) 16 L.tc,.slice (some ⟨L.rg,0,none⟩) 16 L.rc,.slice (some ⟨L.gg,0,none⟩) s.gras.length L.gc]
structure Mdl (w:World)(col:Col)(k g:Nat)(c:Cfg)(s:Sta)(L:Loc)(css:List (List Value)):Prop where
 blk:Blk w g 117 (mdlv c s L)
 own:col g=1
 base:3≤w.heap.size∧∀b,b<3→col b=0
 fin:Fin_ col w
 seed:TextC w col (.slice L.sa L.sn L.sc) c.seed
 st:StAt 92 74 66 w col k L css s
def Kind (k:Nat):Prop:=k=2∨k=6
section
variable {w w' : World} {col col' : Col} {k g : Nat} {c : Cfg} {s s' : Sta} {L : Loc} {css : List (List Value)}
theorem Mdl.keep{p:Nat→Bool}(h:Mdl w col k g c s L css)(ht:Turns p w col w' col')(h1:p 1=false)(h5:p 5=false)(hk:p k=false)(hk1:p (k+1)=false)(hk2:p (k+2)=false)(hp:∀i,10≤i→p i=false)(hf:Fin_ col' w'):Mdl w' col' k g c s L css:=
 ⟨(ht.block g h.blk.lt (by rw[h.own];exact h1)).trans h.blk,(ht.same g h.blk.lt).trans h.own,⟨tB1 h.base.1 ht.size,fun b hb=>(ht.same b (tB0 hb h.base.1)).trans (h.base.2 b hb)⟩,hf,h.seed.keep (ht.keeps h5),h.st.keep (ht.keeps hk) (ht.keeps hk1) (ht.keeps hk2) fun i hi=>ht.keeps (by rcases hi with rfl|hi;exact h5;exact hp i hi)⟩
theorem Mdl.call(h:Mdl w col k g c s L css)(hb:Zb w w'):Mdl w' col k g c s L css:=
 h.keep (Turns.of_below (fun _=>false) hb) rfl rfl rfl rfl rfl (fun _ _=>rfl) (h.fin.mono hb.size)
theorem Mdl.seedR(h:Mdl w col k g c s L css):Reads w w.heap.size 1 L.sa L.sn (byv c.seed):=by
 obtain⟨A,n,m,e,_,_,hr,_⟩:=h.seed;injection e with e1 e2 e3;subst e1 e2;exact hr
theorem Mdl.own1(h:Mdl w col k g c s L css)(hk:Kind k)(i:Nat)(u:Value)(e:(mdlv c s L).setIfInBounds i u=mdlv c s' L)(ht:s'.tens=s.tens)(hr:s'.tres=s.tres)(hg:s'.gras=s.gras):Mdl (w.setCell ⟨g,i,none⟩ u) col k g c s' L css:=by
 have hT:Turns (· ==1) w col (w.setCell ⟨g,i,none⟩ u) col:=Turns.setCell u (by simp[h.own]);refine⟨?_,h.own,⟨tB1 h.base.1 hT.size,h.base.2⟩,h.fin.mono hT.size,h.seed.keep (hT.keeps rfl),?_⟩
 · rw[←e]
   exact h.blk.set_ i u
 have h2:=h.st.keep (w':=w.setCell ⟨g,i,none⟩ u) (col':=col) (hT.keeps (by rcases hk with rfl|rfl<;>rfl)) (hT.keeps (by rcases hk with rfl|rfl<;>rfl)) (hT.keeps (by rcases hk with rfl|rfl<;>rfl)) (fun i hi=>hT.keeps (by simp;omega));exact⟨by rw[ht];exact h2.tens,h2.tres,by rw[hg];exact h2.gras,by rw[hr];exact h2.trs⟩
theorem Mdl.treOver(h:Mdl w col k g c s L css)(hk:Kind k)(hs:s.Ok){t:Tre}(ht:s.tres[n]? =some t)(f:Tre→Tre)(hj:j+cs.length≤75)
 (hf:∀vd vl vq,over (trev t vd vl vq) j cs=trev (f t) vd vl vq)(hd:(f t).draws=t.draws)(hl:(f t).leaves=t.leaves)(hq:(f t).queue=t.queue):
 Mdl (w.setCells L.rg (n*75+j) cs) col k g c (s.setT n f) L (css.modify n fun x=>over x j cs):=by
 obtain⟨hn,_⟩:=tA8 ht;have hlen:=h.st.trs.lens (fun t ht=>(hs.tres t ht).hd);have hcl:css.length=16:=by rw[h.st.trs.1,hs.tresn]
 have hn16:n<16:=by rw[←hs.tresn];exact hn
 have hfl:css.flatten.length=1200:=by rw[qnx hlen,hcl]
 have hT:Turns (· ==k+1) w col (w.setCells L.rg (n*75+j) cs) col:=Turns.setCells cs (by simp[h.st.tres.1]);have k1:∀i,i≠k+1→KeepsCol i w col (w.setCells L.rg (n*75+j) cs) col:=fun i hi=>hT.keeps (by simpa using hi)
 have hne:g≠L.rg:=by
  intro e;have a:=h.own;rw[e,h.st.tres.1]at a;rcases hk with rfl|rfl<;>cases a
 refine⟨?_,h.own,⟨tB1 h.base.1 hT.size,h.base.2⟩,h.fin.mono hT.size,h.seed.keep (k1 5 (by rcases hk with rfl|rfl<;>decide)),?_,?_,?_,?_⟩
 · exact h.blk.grown (qnp L.rg cs _ w) (by intro e;injection e with e;exact hne e)
 · exact h.st.tens.keep (k1 k zo)
 · have:=h.st.tres.over (o:=n*75+j) (cs:=cs) (by rw[hfl];omega)
   rwa[qny cs hlen (by rw[hcl];exact hn16) hj]at this
 · exact h.st.gras.keep (k1 (k+2) zo)
 refine⟨by rw[List.length_modify,h.st.trs.1];simp[Sta.setT],fun i t' ht'=>?_⟩;by_cases e:n=i
 ·
  subst e;rw[show (s.setT n f).tres=s.tres.modify n f from rfl,qop f ht]at ht';injection ht' with ht';subst ht';obtain⟨c0,h1,vd,vl,vq,e1,r1,r2,r3⟩:=h.st.trs.2 n t ht;refine⟨over c0 j cs,qop _ h1,vd,vl,vq,by rw[e1];exact hf vd vl vq,?_,?_,?_⟩
  · rw[hd];exact r1.keep (k1 _ (by rcases hk with rfl|rfl<;>omega))
  · rw[hl];exact r2.keep (k1 _ (by rcases hk with rfl|rfl<;>omega)) (k1 5 (by rcases hk with rfl|rfl<;>decide))
  rw[hq];exact r3.keep (k1 _ (by rcases hk with rfl|rfl<;>omega)) (k1 5 (by rcases hk with rfl|rfl<;>decide))
 rw[show (s.setT n f).tres=s.tres.modify n f from rfl,qoq _ f e]at ht';obtain⟨c0,h1,h2⟩:=h.st.trs.2 i t' ht';exact⟨c0,by rw[qoq _ _ e];exact h1,h2.keep fun i hi=>k1 i (by rcases hk with rfl|rfl<;>omega)⟩
theorem Mdl.tenOver(h:Mdl w col k g c s L css)(hk:Kind k)(hs:s.Ok){x:Ten}(hx:s.tens[n]? =some x)(f:Ten→Ten)(hj:j+cs.length≤6)
 (hf:over (tenv x) j cs=tenv (f x)):Mdl (w.setCells L.tg (n*6+j) cs) col k g c (s.setX n f) L css:=by
 obtain⟨hn,_⟩:=tA8 hx;have hn16:n<16:=by rw[←hs.tensn];exact hn
 have hT:Turns (· ==k) w col (w.setCells L.tg (n*6+j) cs) col:=Turns.setCells cs (by simp[h.st.tens.1]);have k1:∀i,i≠k→KeepsCol i w col (w.setCells L.tg (n*6+j) cs) col:=fun i hi=>hT.keeps (by simpa using hi)
 have hne:g≠L.tg:=by
  intro e;have a:=h.own;rw[e,h.st.tens.1]at a;rcases hk with rfl|rfl<;>cases a
 refine⟨?_,h.own,⟨tB1 h.base.1 hT.size,h.base.2⟩,h.fin.mono hT.size,h.seed.keep (k1 5 (by rcases hk with rfl|rfl<;>decide)),?_,h.st.tres.keep (k1 _ zo),h.st.gras.keep (k1 _ zo),h.st.trs.keep fun i hi=>k1 i (by rcases hk with rfl|rfl<;>omega)⟩
 · exact h.blk.grown (qnp L.tg cs _ w) (by intro e;injection e with e;exact hne e)
 have:=h.st.tens.over (o:=n*6+j) (cs:=cs) (by rw[qo6,hs.tensn];omega);rwa[qo8 hn hj (fun y hy=>by rw[hx]at hy;injection hy with hy;subst hy;exact hf)]at this
theorem Mdl.graOver(h:Mdl w col k g c s L css)(hk:Kind k){x:Gra}(hx:s.gras[n]? =some x)(f:Gra→Gra)(hj:j+cs.length≤4)
 (hf:over (grav x) j cs=grav (f x)):Mdl (w.setCells L.gg (n*4+j) cs) col k g c {s with gras:=s.gras.modify n f} L css:=by
 obtain⟨hn,_⟩:=tA8 hx;have hT:Turns (· ==k+2) w col (w.setCells L.gg (n*4+j) cs) col:=Turns.setCells cs (by simp[h.st.gras.1]);have k1:∀i,i≠k+2→KeepsCol i w col (w.setCells L.gg (n*4+j) cs) col:=fun i hi=>hT.keeps (by simpa using hi)
 have hne:g≠L.gg:=by
  intro e;have a:=h.own;rw[e,h.st.gras.1]at a;rcases hk with rfl|rfl<;>cases a
 refine⟨?_,h.own,⟨tB1 h.base.1 hT.size,h.base.2⟩,h.fin.mono hT.size,h.seed.keep (k1 5 (by rcases hk with rfl|rfl<;>decide)),h.st.tens.keep (k1 _ zo),h.st.tres.keep (k1 _ zo),?_,h.st.trs.keep fun i hi=>k1 i (by rcases hk with rfl|rfl<;>omega)⟩
 · have hb:=h.blk.grown (qnp L.gg cs (n*4+j) w) (by intro e;injection e with e;exact hne e)
   unfold mdlv at hb ⊢;simpa using hb
 have:=h.st.gras.over (o:=n*4+j) (cs:=cs) (by rw[qo7];omega);rw[qo9 hn hj (fun y hy=>by rw[hx]at hy;injection hy with hy;subst hy;exact hf)]at this;simpa using this
theorem Mdl.stRange(h:Mdl w col k g c s L css):w.rangeAt g 4 [.int .u64 (s.clock:Int),.int .u32 (s.draw:Int),.int .i64 s.lane,.slice (some ⟨L.tg,0,none⟩) 16 L.tc,.slice (some ⟨L.rg,0,none⟩) 16 L.rc,.slice (some ⟨L.gg,0,none⟩) s.gras.length L.gc]:=
 qap (l:=(mdlv c s L).toList) (by simpa using h.blk) 4 _ (fun j u hu=>by
  match j,hu with
  |0,hu=>exact hu
  |1,hu=>exact hu
  |2,hu=>exact hu
  |3,hu=>exact hu
  |4,hu=>exact hu
  |5,hu=>exact hu
  |j+6,hu=>simp at hu)
theorem Mdl.cfgRange(h:Mdl w col k g c s L css):w.rangeAt g 0 [.int .i64 c.width,.int .i64 c.quantum,.int .u32 (c.store:Int),.slice L.sa L.sn L.sc]:=
 qap (l:=(mdlv c s L).toList) (by simpa using h.blk) 0 _ (fun j u hu=>by
  match j,hu with
  |0,hu=>exact hu
  |1,hu=>exact hu
  |2,hu=>exact hu
  |3,hu=>exact hu
  |j+4,hu=>simp at hu)
theorem Mdl.c0(h:Mdl w col k g c s L css):w.cell? ⟨g,0,none⟩=some (.int .i64 c.width):=h.blk.cell 0
theorem Mdl.c1(h:Mdl w col k g c s L css):w.cell? ⟨g,1,none⟩=some (.int .i64 c.quantum):=h.blk.cell 1
theorem Mdl.c2(h:Mdl w col k g c s L css):w.cell? ⟨g,2,none⟩=some (.int .u32 (c.store:Int)):=h.blk.cell 2
theorem Mdl.c4(h:Mdl w col k g c s L css):w.cell? ⟨g,4,none⟩=some (.int .u64 (s.clock:Int)):=h.blk.cell 4
theorem Mdl.c5(h:Mdl w col k g c s L css):w.cell? ⟨g,5,none⟩=some (.int .u32 (s.draw:Int)):=h.blk.cell 5
theorem Mdl.c6(h:Mdl w col k g c s L css):w.cell? ⟨g,6,none⟩=some (.int .i64 s.lane):=h.blk.cell 6
theorem Mdl.c7(h:Mdl w col k g c s L css):w.cell? ⟨g,7,none⟩=some (.slice (some ⟨L.tg,0,none⟩) 16 L.tc):=h.blk.cell 7
theorem Mdl.c8(h:Mdl w col k g c s L css):w.cell? ⟨g,8,none⟩=some (.slice (some ⟨L.rg,0,none⟩) 16 L.rc):=h.blk.cell 8
theorem Mdl.c9(h:Mdl w col k g c s L css):w.cell? ⟨g,9,none⟩=some (.slice (some ⟨L.gg,0,none⟩) s.gras.length L.gc):=h.blk.cell 9
theorem Tabs.turns{p:Nat→Bool}(h:Tabs w)(ht:Turns p w col w' col')(h0:p 0=false)(hb:3≤w.heap.size∧∀b,b<3→col b=0):Tabs w':=
 h.below (ht.below (B:=3) (fun b hb'=>by rw[hb.2 b hb'];exact h0) hb.1) (tA4 _)
theorem qor{p:Nat→Bool}{o:Nat}(h:w.cell? ⟨b,o,none⟩=some v)(ht:Turns p w col w' col')(h0:p (col b)=false):w'.cell? ⟨b,o,none⟩=some v:=
 (World.cell?_of_block (ht.block b (World.block_lt_of_cell? _ _ h) h0)).trans h
end
section
open Go
section
variable {P : Program} {Q : Exit → Act → World → Prop} {S : World → Prop} {n : Nat}
theorem qos{r:List (Nat × Bool)}(hi:nth l i=some op)(hw:Region.wanted op (yielded l.toArray a.tmps)=true)
 (ty:TypeId)(x:Operand)(ho:op.op=.load ty x)(b o:Nat)(hx:a.eval x=.pointer (some ⟨b,o,none⟩))(cs:List Value)(d:TypeDesc)(hS:∀w,S w→w.rangeAt b o cs)
 (hu:P.underlying ty=some d)(hd:d.isRow=true)(hsz:(P.info? ty).map (·.size)=some cs.length)
 (h:qba P l.toArray Q S n r (a.put op.dst (.agg cs.toArray)) w):qba P l.toArray Q S n ((i,false)::r) a w:=
 ⟨op,_,(qb9 l i).symm.trans hi,yieldsIf_load_mid hw ty x ho b o hx cs d hS hu hd hsz,h⟩
end
end
theorem qot:∀x∈qmu,x<256:=by decide
theorem qou:∀x∈qmt,x<256:=by decide
theorem qov:∀x∈qmv,x<256:=by decide
theorem qow:qb0 1=1:=by decide
theorem qox:qb0 4=4:=by decide
theorem qoy:qb0 8=8:=by decide
theorem qoz(seed:List Nat)(tree epoch draw:Nat)(A:Option Addr)(n c:Nat)(w:World)(hr:Reads w w.heap.size 1 A n (byv seed))(hs:∀x∈seed,x<256)(hn:n≤64)(ht:tree<4294967296)(he:epoch<4294967296)(hd:draw<4294967296)(hT:Tabs w):
 Zc 176 #[.slice A n c,.int .i64 (tree:Int),.int .i64 (epoch:Int),.int .u32 (draw:Int)] w fun e w'=>e=.returned (.agg (byv (keyOf seed tree epoch draw)).toArray)∧Zb w w':=by
 obtain⟨W0,hW0⟩:=eqx (w.alloc (.cells zLD 29));have z0:Blk W0 w.heap.size 29 (byv (List.replicate 32 0)).toArray:=by rw[hW0];exact Blk.new w _ _
 have b0:=zMa hW0;have q1:IntKind.u64.wrap (tree:Int)=(tree:Int):=tBa _ zo;have q2:IntKind.u64.wrap (epoch:Int)=(epoch:Int):=tBa _ zo;have q3:IntKind.u64.wrap (draw:Int)=(draw:Int):=tBa _ zo;obtain⟨A4,A1,A2,HR,HT,HS,A0⟩:=zh7 hW0 z0 b0 hr hT hs z0.lt;clear hW0 z0 b0 hr hT hs;go_enter Tryz.func176,Tryz.ntmps176
 go_wp2_with fail
 rw[←A4.o];refine(qd3 W0).mono ?_;rintro e w1 ⟨rfl,h1,b1⟩;obtain⟨hww1,Zw1,Bw1⟩:=zh3 h1 (A1.below b1 A1.lt) (A2.trans (b1.mono A2.size));clear h1 b1;go_wp2_with fail
 refine(qd2 _ _ (tree) 1 _ w1 hww1.o zo (by simp only[tA6,qaw,List.length_nil,qow,qox,qoy];omega)).mono ?_;rintro e w2 ⟨rfl,hw2,bw2,-⟩;simp only[qow,qox,qoy]at hw2;obtain⟨hww2,Zw2,Bw2⟩:=zh3 hw2 (Zw1.below bw2 (by first|exact A0.o|omega)) (Bw1.trans (bw2.mono (by first|exact Nat.le_of_lt A0.o|omega)));clear hw2 bw2;go_wp2_with fail
 refine(qd2 _ _ (epoch) 4 _ w2 hww2.o zo (by simp only[tA6,qaw,List.length_nil,qow,qox,qoy];omega)).mono ?_;rintro e w3 ⟨rfl,hw3,bw3,-⟩;simp only[qow,qox,qoy]at hw3;obtain⟨hww3,Zw3,Bw3⟩:=zh3 hw3 (Zw2.below bw3 (by first|exact A0.o|omega)) (Bw2.trans (bw3.mono (by first|exact Nat.le_of_lt A0.o|omega)));clear hw3 bw3;go_wp2_with fail
 refine(qd2 _ _ (draw) 4 _ w3 hww3.o zo (by simp only[tA6,qaw,List.length_nil,qow,qox,qoy];omega)).mono ?_;rintro e w4 ⟨rfl,hw4,bw4,-⟩;simp only[qow,qox,qoy]at hw4;obtain⟨hww4,Zw4,Bw4⟩:=zh3 hw4 (Zw3.below bw4 (by first|exact A0.o|omega)) (Bw3.trans (bw4.mono (by first|exact Nat.le_of_lt A0.o|omega)));clear hw4 bw4;have e4:(w4.alloc (.cells (byv qmu).toArray 5)).heap[w4.heap.size]? =some (.cells (byv qmu).toArray 5 (0,0)):=heap_alloc_new w4 _;go_wp2_with (refine wpList_plain rfl fun K9 hK9=>qki (.tmp 24) rfl w4.heap.size 3 3 rfl (byv qmu).toArray e4 ?_)
 intro w5 g5 l5;refine hK9 _ _ ?_;have b45:Zb w4 w5:=((tA5 _ _).alloc (tA4 _) (.cells (byv qmu).toArray 5)).grown g5 zm (by intro g hg;injection hg with hg;omega);obtain⟨hww5,Zw5,Bw5,R5⟩:=zh4 (hww4.kept_call b45) (Zw4.below b45 Zw4.lt) (Bw4.trans (b45.mono Bw4.size)) l5.reads;clear e4 g5 l5 b45;go_wp2_with fail
 refine(qd5 _ _ _ _ hww5.o (by simp only[tA6,qaw,List.length_nil];omega)).mono ?_;rintro e w6 ⟨v6,rfl,o6,b6⟩;replace o6:OwnB w6 w5.heap.size v6 (be tree 1++(be epoch 4++be draw 4)):=OwnB.cast (OwnB.of o6) (by simp only[List.append_assoc,List.nil_append]);obtain⟨A6,n6,c6,rfl,nc6,-,r6⟩:=o6.sl;have l6:=qb5 r6;obtain⟨Zw6,Bw6⟩:=zh2 (Zw5.below b6 Zw5.lt) (Bw5.trans (b6.mono Bw5.size));obtain⟨w7,hw7⟩:=eqx (w6.alloc (.cells #[.slice (some ⟨w4.heap.size,0,none⟩) 3 3,.slice A6 n6 c6] 23));have b67:=zMa hw7;have x0:w7.cell? ⟨w6.heap.size,0,none⟩=some (.slice (some ⟨w4.heap.size,0,none⟩) 3 3):=by rw[hw7];exact(qak w6 _ _ 0).trans rfl
 have x1:w7.cell? ⟨w6.heap.size,1,none⟩=some (.slice A6 n6 c6):=by rw[hw7];exact(qak w6 _ _ 1).trans rfl
 have J:=qjt w6.heap.size 3 3 n6 c6 _ _ (qmu) (be tree 1++(be epoch 4++be draw 4)) w7 x0 x1 ((R5.call b6).call b67) (r6.call b67) (by simp only[tA6,qaw]at l6;omega);obtain⟨HJ,A5,Zw7,Bw7⟩:=zh4 J hw7 (Zw6.below b67 Zw6.lt) (Bw6.trans (b67.mono Bw6.size));clear J x0 x1 b67 hw7 b6 r6 l6 nc6 o6;go_wp2_with fail
 rw[←A5.o];refine HJ.o.mono ?_;rintro e w8 ⟨v8,rfl,o8,b8⟩;obtain⟨A8,n8,c8,rfl,nc8,-,r8⟩:=o8.sl;have l8:=qb5 r8;obtain⟨Zw8,Bw8⟩:=zh2 (Zw7.below b8 Zw7.lt) (Bw7.trans (b8.mono Bw7.size));have M:=qju n c n8 c8 A A8 seed (qmu++(be tree 1++(be epoch 4++be draw 4))) w8 (HR.call Bw8.o) r8 HS.o (by
  intro x hx;simp only[tBg]at hx;rcases hx with h|h|h|h
  · exact qot x h
  · exact qaz _ _ x h
  · exact qaz _ _ x h
  exact qaz _ _ x h) hn (by have:=l8;simp only[tA6,qaw]at this;rw[←this];decide) (HT.below Bw8.o HT.size)
 have HM:=zh1 M;clear M r8 l8;go_wp2_with fail
 refine zcb HM.o fun w9 b9=>?_
 obtain⟨Z9,B9⟩:=zh2 (Zw8.below b9 Zw8.lt) (Bw8.trans (b9.mono Bw8.size));clear b9;obtain⟨X9,hX9⟩:=xeq (byv (mac seed (qmu++(be tree 1++(be epoch 4++be draw 4)))));have lX9:X9.length=32:=by rw[←hX9,qat];exact qkf _ _
 have oX9:∀u∈X9,u.oneCell'=true:=by rw[←hX9];exact qau _
 try rw[hX9]
 obtain⟨A7,A9,AA,A3⟩:=zh4 hX9 lX9 oX9 (zI 29 lX9);clear hX9 lX9 oX9;go_wp2_with (refine zst Z9.o A3.o (by simp[A9.o,qat]) AA.o ?_)
 have z9:=Z9.setRow X9.toArray;have AB:=qap z9 0 X9 zjq;exact zrt AB zu29 A3.o ⟨(by rw[←A7.o];try rfl),below_setRow B9.o (by first|omega|exact tA4 _) _⟩
def hd0v (h:Hd):List Value:=.int .i64 h.tree::.int .i64 h.epoch::.int .u64 (h.size:Int)::.int .u64 (h.clock:Int)::byv h.root
theorem qp0(h:Hd)(w:World)(ht:0≤h.tree∧h.tree<4294967296)(he:0≤h.epoch∧h.epoch<4294967296)(hs:h.size<18446744073709551616)(hc:h.clock<18446744073709551616)(hl:h.root.length=32):
 Zc 217 #[.agg (hd0v h).toArray] w fun e w'=>∃v,e=.returned v∧OwnB w' w.heap.size v (qmx h)∧Zb w w':=by
 obtain⟨tree,ht'⟩:∃k:Nat,h.tree=(k:Int):=⟨h.tree.toNat,by omega⟩;obtain⟨epoch,he'⟩:∃k:Nat,h.epoch=(k:Int):=⟨h.epoch.toNat,by omega⟩;have hres:qmx h=qmv++(be tree 1++(be epoch 4++(be h.size 8++(be h.clock 8++h.root)))):=by unfold qmx;rw[ht',he',tBe,tBe]
 have d0:(hd0v h)[0]? =some (.int .i64 (tree:Int)):=by rw[←ht'];rfl
 have d1:(hd0v h)[1]? =some (.int .i64 (epoch:Int)):=by rw[←he'];rfl
 have d2:(hd0v h)[2]? =some (.int .u64 (h.size:Int)):=rfl;have d3:(hd0v h)[3]? =some (.int .u64 (h.clock:Int)):=rfl;have d4:∀j u,(byv h.root)[j]? =some u→(hd0v h)[4+j]? =some u:=fun j u hu=>by
  unfold hd0v;rw[show 4+j=j+1+1+1+1 by omega,tBc,tBc,tBc,tBc];exact hu
 obtain⟨D,hD⟩:=xeq (hd0v h);obtain⟨size,hsz⟩:=xeq h.size;obtain⟨clock,hck⟩:=xeq h.clock;obtain⟨root,hrt⟩:=xeq h.root;rw[hD]at d0 d1 d2 d3 d4 ⊢;rw[hsz]at d2 hs hres;rw[hck]at d3 hc hres;rw[hrt]at d4 hl hres;rw[hres];rw[ht']at ht;rw[he']at he;clear hD hsz hck hrt hres ht' he';obtain⟨W0,hW0⟩:=eqx (w.alloc (.cells D.toArray 53));have z0:=zNa hW0;have b0:=zMa hW0;have q1:IntKind.u64.wrap (tree:Int)=(tree:Int):=tBa _ zo;have q2:IntKind.u64.wrap (epoch:Int)=(epoch:Int):=tBa _ zo;have lR:(byv root).length=32:=by rw[qat];exact hl
 obtain⟨A4,A1,A2,A0,D0,D1,D2,D3⟩:=zh8 hW0 z0 b0 z0.lt d0 d1 d2 d3;obtain⟨D4,LR,HL⟩:=zh3 d4 lR hl;clear hW0 z0 b0 d0 d1 d2 d3 d4 lR hl;go_enter Tryz.func217,Tryz.ntmps217
 go_wp2_with fail
 rw[←A4.o];refine(qd3 W0).mono ?_;rintro e w1 ⟨rfl,h1,b1⟩;obtain⟨hww1,Zw1,Bw1⟩:=zh3 h1 (A1.below b1 A1.lt) (A2.trans (b1.mono A2.size));clear h1 b1;have c1:=(Zw1.cell 0).trans (show D.toArray[0]? =some (.int .i64 (tree:Int)) by simpa using D0.o);go_wp2_with fail
 refine(qd2 _ _ (tree) 1 _ w1 hww1.o zo (by simp only[tA6,qaw,List.length_nil,qow,qox,qoy];omega)).mono ?_;rintro e w2 ⟨rfl,hw2,bw2,-⟩;simp only[qow,qox,qoy]at hw2;obtain⟨hww2,Zw2,Bw2⟩:=zh3 hw2 (Zw1.below bw2 (by first|exact A0.o|omega)) (Bw1.trans (bw2.mono (by first|exact Nat.le_of_lt A0.o|omega)));clear hw2 bw2;clear c1;have c1:=(Zw2.cell 1).trans (show D.toArray[1]? =some (.int .i64 (epoch:Int)) by simpa using D1.o);go_wp2_with fail
 refine(qd2 _ _ (epoch) 4 _ w2 hww2.o zo (by simp only[tA6,qaw,List.length_nil,qow,qox,qoy];omega)).mono ?_;rintro e w3 ⟨rfl,hw3,bw3,-⟩;simp only[qow,qox,qoy]at hw3;obtain⟨hww3,Zw3,Bw3⟩:=zh3 hw3 (Zw2.below bw3 (by first|exact A0.o|omega)) (Bw2.trans (bw3.mono (by first|exact Nat.le_of_lt A0.o|omega)));clear hw3 bw3;clear c1;have c1:=(Zw3.cell 2).trans (show D.toArray[2]? =some (.int .u64 (size:Int)) by simpa using D2.o);go_wp2_with fail
 refine(qd2 _ _ (size) 8 _ w3 hww3.o zo (by simp only[tA6,qaw,List.length_nil,qow,qox,qoy];omega)).mono ?_;rintro e w3b ⟨rfl,hw3b,bw3b,-⟩;simp only[qow,qox,qoy]at hw3b;obtain⟨hww3b,Zw3b,Bw3b⟩:=zh3 hw3b (Zw3.below bw3b (by first|exact A0.o|omega)) (Bw3.trans (bw3b.mono (by first|exact Nat.le_of_lt A0.o|omega)));clear hw3b bw3b;clear c1;have c1:=(Zw3b.cell 3).trans (show D.toArray[3]? =some (.int .u64 (clock:Int)) by simpa using D3.o);go_wp2_with fail
 refine(qd2 _ _ (clock) 8 _ w3b hww3b.o zo (by simp only[tA6,qaw,List.length_nil,qow,qox,qoy];omega)).mono ?_;rintro e w3c ⟨rfl,hw3c,bw3c,-⟩;simp only[qow,qox,qoy]at hw3c;obtain⟨hww3c,Zw3c,Bw3c⟩:=zh3 hw3c (Zw3b.below bw3c (by first|exact A0.o|omega)) (Bw3b.trans (bw3c.mono (by first|exact Nat.le_of_lt A0.o|omega)));clear hw3c bw3c;clear c1;have A3:=zh1 (qap Zw3c.o 4 (byv root) D4.o);have hI:(Tryz.prog.info? 29).map (·.size)=some (byv root).length:=by rw[LR.o];exact Tryz.dig_info
 obtain⟨V,hV⟩:=xeq (byv root);rw[hV]at hI A3;obtain⟨HI,HV⟩:=zh2 hI hV;clear hI hV;go_wp2_with (refine zld A3.o zu29 HI.o ?_)
 rw[←HV.o];refine(qd8 _ _ _ root w3c hww3c.o (by simp only[tA6,qaw,List.length_nil];omega) HL.o).mono ?_;rintro e w4 ⟨rfl,h4,b4,-⟩;obtain⟨hww4,Zw4,Bw4⟩:=zh3 h4 (Zw3c.below b4 (by first|exact A0.o|omega)) (Bw3c.trans (b4.mono (by first|exact Nat.le_of_lt A0.o|omega)));clear h4 b4;have e4:(w4.alloc (.cells (byv qmv).toArray 5)).heap[w4.heap.size]? =some (.cells (byv qmv).toArray 5 (0,0)):=heap_alloc_new w4 _;go_wp2_with (refine wpList_plain rfl fun K9 hK9=>qki (.tmp 27) rfl w4.heap.size 4 4 rfl (byv qmv).toArray e4 ?_)
 intro w5 g5 l5;refine hK9 _ _ ?_;have b45:Zb w4 w5:=((tA5 _ _).alloc (tA4 _) (.cells (byv qmv).toArray 5)).grown g5 zm (by intro g hg;injection hg with hg;omega);obtain⟨hww5,Zw5,Bw5,R5⟩:=zh4 (hww4.kept_call b45) (Zw4.below b45 Zw4.lt) (Bw4.trans (b45.mono Bw4.size)) l5.reads;have LR:=HL.o;clear e4 g5 l5 b45;go_wp2_with fail
 refine(qd5 _ _ _ _ hww5.o (by simp only[tA6,qaw,List.length_nil];omega)).mono ?_;rintro e w6 ⟨v6,rfl,o6,b6⟩;replace o6:OwnB w6 w5.heap.size v6 (be tree 1++(be epoch 4++(be size 8++(be clock 8++root)))):=OwnB.cast (OwnB.of o6) (by simp only[List.append_assoc,List.nil_append]);obtain⟨A6,n6,c6,rfl,nc6,-,r6⟩:=o6.sl;have l6:=qb5 r6;obtain⟨Zw6,Bw6⟩:=zh2 (Zw5.below b6 Zw5.lt) (Bw5.trans (b6.mono Bw5.size));obtain⟨w7,hw7⟩:=eqx (w6.alloc (.cells #[.slice (some ⟨w4.heap.size,0,none⟩) 4 4,.slice A6 n6 c6] 23));have b67:=zMa hw7;have x0:w7.cell? ⟨w6.heap.size,0,none⟩=some (.slice (some ⟨w4.heap.size,0,none⟩) 4 4):=by rw[hw7];exact(qak w6 _ _ 0).trans rfl
 have x1:w7.cell? ⟨w6.heap.size,1,none⟩=some (.slice A6 n6 c6):=by rw[hw7];exact(qak w6 _ _ 1).trans rfl
 have J:=qjt w6.heap.size 4 4 n6 c6 _ _ (qmv) (be tree 1++(be epoch 4++(be size 8++(be clock 8++root)))) w7 x0 x1 ((R5.call b6).call b67) (r6.call b67) (by simp only[tA6,qaw]at l6;omega);obtain⟨HJ,A5,Zw7,Bw7⟩:=zh4 J hw7 (Zw6.below b67 Zw6.lt) (Bw6.trans (b67.mono Bw6.size));clear J x0 x1 b67 hw7 b6 r6 l6 nc6 o6;go_wp2_with fail
 rw[←A5.o];refine HJ.o.mono ?_;rintro e w8 ⟨v8,rfl,o8,b8⟩;obtain⟨A8,n8,c8,rfl,nc8,-,r8⟩:=o8.sl;have l8:=qb5 r8;obtain⟨Zw8,Bw8⟩:=zh2 (Zw7.below b8 Zw7.lt) (Bw7.trans (b8.mono Bw7.size));go_wp2
 go_ret
 exact⟨_,rfl,o8.mono Bw7.size,Bw8.o⟩
theorem qp1(a b c d:Value)(R M:List Value)(hR:R.length=32)(hM:M.length=32):Tryz.prog.built 55 [(0,.agg (a::b::c::d::R).toArray),(1,.agg M.toArray)]=some (a::b::c::d::(R++M)).toArray:=by
 obtain⟨a0,a1,a2,a3,a4,a5,a6,a7,a8,a9,a10,a11,a12,a13,a14,a15,a16,a17,a18,a19,a20,a21,a22,a23,a24,a25,a26,a27,a28,a29,a30,a31,rfl⟩:=qgq R hR;obtain⟨b0,b1,b2,b3,b4,b5,b6,b7,b8,b9,b10,b11,b12,b13,b14,b15,b16,b17,b18,b19,b20,b21,b22,b23,b24,b25,b26,b27,b28,b29,b30,b31,rfl⟩:=qgq M hM;kernel_rfl
theorem qp2(a b c d:Value)(R:List Value)(hR:R.length=32)(ha:∃n,a=.int .i64 n)(hb:∃n,b=.int .i64 n)(hc:∃n,c=.int .u64 n)(hd:∃n,d=.int .u64 n):Tryz.prog.built 53 [(0,a),(1,b),(2,c),(3,d),(4,.agg R.toArray)]=some (a::b::c::d::R).toArray:=by
 obtain⟨a0,a1,a2,a3,a4,a5,a6,a7,a8,a9,a10,a11,a12,a13,a14,a15,a16,a17,a18,a19,a20,a21,a22,a23,a24,a25,a26,a27,a28,a29,a30,a31,rfl⟩:=qgq R hR;obtain⟨_,rfl⟩:=ha;obtain⟨_,rfl⟩:=hb;obtain⟨_,rfl⟩:=hc;obtain⟨_,rfl⟩:=hd;kernel_rfl
theorem qp3(h:Hd)(hl:h.root.length=32):(hd0v h).length=36:=by unfold hd0v;simp only[tBi,qat,hl]
theorem qp4(h:Hd)(hb:∀x∈h.root,x<256):∀x∈qmx h,x<256:=by
 intro x hx;unfold qmx at hx;simp only[tBg]at hx;rcases hx with h1|h1|h1|h1|h1|h1
 · exact qov x h1
 · exact qaz _ _ x h1
 · exact qaz _ _ x h1
 · exact qaz _ _ x h1
 · exact qaz _ _ x h1
 exact hb x h1
theorem qp5(h:Hd)(hl:h.root.length=32):(qmx h).length=57:=by
 unfold qmx;simp only[tA6,qaw,hl];rfl
theorem qp6(c:Cfg)(seedv:Value)(A:Option Addr)(n k:Nat)(w:World)(hr:Reads w w.heap.size 1 A n (byv c.seed))(hs:∀x∈c.seed,x<256)(hn:n≤64)(hT:Tabs w):
 Zc 179 #[.agg #[.int .i64 c.width,.int .i64 c.quantum,.int .u32 (c.store:Int),.slice A n k]] w fun e w'=>e=.returned (.agg (byv (qmw c.seed)).toArray)∧Zb w w':=by
 obtain⟨W0,hW0⟩:=eqx ((w.alloc (.cells #[.int .i64 c.width,.int .i64 c.quantum,.int .u32 (c.store:Int),.slice A n k] 25)).alloc (.cells zLD 29));have z0:Blk W0 (w.heap.size+1) 29 (byv (List.replicate 32 0)).toArray:=by
  have h:=Blk.new (w.alloc (.cells #[.int .i64 c.width,.int .i64 c.quantum,.int .u32 (c.store:Int),.slice A n k] 25)) 29 zLD;rw[qar]at h;rw[hW0];exact h
 have b0:=zMb hW0;obtain⟨w4,rfl⟩:=eqx W0;have e4:(w4.alloc (.cells (byv qmt).toArray 5)).heap[w4.heap.size]? =some (.cells (byv qmt).toArray 5 (0,0)):=heap_alloc_new w4 _;have s4:w4.heap.size=w.heap.size+1+1:=by rw[hW0];simp
 obtain⟨A0,E4,Zw4,Bw4,HR,HT,HS,S4⟩:=zh8 hW0 e4 z0 b0 hr hT hs s4;clear hW0 z0 b0 hr hT hs e4 s4;have e4:=E4.o;rw[S4.o,A0.o]at e4;go_enter Tryz.func179,Tryz.ntmps179
 go_wp2_with (refine wpList_plain rfl fun K9 hK9=>qki (.tmp 5) rfl (w.heap.size+1+1) 4 4 rfl (byv qmt).toArray e4 ?_)
 clear e4;rw[←A0.o];intro w5 g5 l5;refine hK9 _ _ ?_;have b45:Zb w4 w5:=((tA5 _ _).alloc (tA4 _) (.cells (byv qmt).toArray 5)).grown g5 zm (by intro g hg;injection hg with hg;have:=S4.o;omega);obtain⟨Zw5,Bw5⟩:=zh2 (Zw4.below b45 Zw4.lt) (Bw4.trans (b45.mono Bw4.size));have M:=qju n k 4 4 A _ c.seed qmt w5 (HR.call Bw5.o) l5.reads HS.o qou hn zdc (HT.below Bw5.o HT.size);have HM:=zh1 M;clear M g5 l5 b45;go_wp2_with fail
 refine zcb HM.o fun w9 b9=>?_
 obtain⟨Z9,B9⟩:=zh2 (Zw5.below b9 Zw5.lt) (Bw5.trans (b9.mono Bw5.size));clear b9;obtain⟨X9,hX9⟩:=xeq (byv (mac c.seed qmt));have lX9:X9.length=32:=by rw[←hX9,qat];exact qkf _ _
 have oX9:∀u∈X9,u.oneCell'=true:=by rw[←hX9];exact qau _
 try rw[hX9]
 obtain⟨A2,A3,A4,A1⟩:=zh4 hX9 lX9 oX9 (zI 29 lX9);clear hX9 lX9 oX9;go_wp2_with (refine zst Z9.o A1.o (by simp[A3.o,qat]) A4.o ?_)
 have z9:=Z9.setRow X9.toArray;have A5:=qap z9 0 X9 zjq;exact zrt A5 zu29 A1.o ⟨(by rw[←A2.o];try rfl),below_setRow B9.o (by first|omega|exact tA4 _) _⟩
theorem qp7(key:List Nat)(h:Hd)(w:World)(lk:key.length=32)(bk:∀x∈key,x<256)(ht:0≤h.tree∧h.tree<4294967296)(he:0≤h.epoch∧h.epoch<4294967296)(hs:h.size<18446744073709551616)(hc:h.clock<18446744073709551616)(hl:h.root.length=32)(hb:∀x∈h.root,x<256)(hT:Tabs w):
 Zc 175 #[.agg (byv key).toArray,.agg (hd0v h).toArray] w fun e w'=>e=.returned (.agg (hdv (signed key h)).toArray)∧Zb w w':=by
 have lD:=qp3 h hl;have KB:=fun w=>qp0 h w ht he hs hc hl
 have hB:=qp4 h hb;have lB:=qp5 h hl;have bS:=qp1 (.int .i64 h.tree) (.int .i64 h.epoch) (.int .u64 (h.size:Int)) (.int .u64 (h.clock:Int)) (byv h.root) (byv (mac key (qmx h))) (by rw[qat,hl]) (by rw[qat,qkf]);have oS:=qmr (signed key h);have lS:(hdv (signed key h)).length=68:=by unfold hdv signed;simp only[tBi,tA6,qat,hl,qkf]
 rw[show (Value.int .i64 h.tree::.int .i64 h.epoch::.int .u64 (h.size:Int)::.int .u64 (h.clock:Int)::(byv h.root++byv (mac key (qmx h))))=hdv (signed key h) from rfl,show (Value.int .i64 h.tree::.int .i64 h.epoch::.int .u64 (h.size:Int)::.int .u64 (h.clock:Int)::byv h.root)=hd0v h from rfl]at bS;obtain⟨X,hX⟩:=xeq (hdv (signed key h));obtain⟨D,hD⟩:=xeq (hd0v h);obtain⟨MM,hMM⟩:=xeq (mac key (qmx h));obtain⟨hdb,hhb⟩:=xeq (qmx h);obtain⟨V,hV⟩:=xeq (byv key);rw[hX]at bS oS lS ⊢;rw[hD]at bS lD ⊢;simp only[hD,hhb]at KB;rw[hMM]at bS;rw[hhb]at hMM hB lB;obtain⟨MV,hMV⟩:=xeq (byv MM);rw[hMV]at bS;obtain⟨W0,hW0⟩:=eqx (((w.alloc (.cells V.toArray 29)).alloc (.cells D.toArray 53)).alloc (.cells Tryz.zeroCells55 55));have k0:Blk W0 w.heap.size 29 (byv key).toArray:=by rw[hV,hW0];exact((Blk.new w _ _).alloc _).alloc _
 have d0:=zNe hW0;have z0:Blk W0 (w.heap.size+1+1) 55 (hdv Hd.zero).toArray:=by
  have h:=Blk.new ((w.alloc (.cells V.toArray 29)).alloc (.cells D.toArray 53)) 55 Tryz.zeroCells55;rw[qar,qar]at h;rw[hW0];rw[show (hdv Hd.zero).toArray=Tryz.zeroCells55 by kernel_rfl];exact h
 have b0:=zMc hW0;rw[hV];obtain⟨K0,D0,Z0,B0,A4,A5,HB,LB⟩:=zh8 k0 d0 z0 b0 hW0 KB hB lB;obtain⟨BS,OS,LS,HX,A6,A7,LK,BK⟩:=zh8 bS oS lS hX hMM hMV lk bk;obtain⟨HT,LD,L0⟩:=zh3 hT lD z0.lt;clear k0 d0 z0 b0 hW0 KB hB lB bS oS lS hX hMM hMV lk bk hT lD hD hhb hV;go_enter Tryz.func175,Tryz.ntmps175
 go_upto_region 1 with(fail)
 rw[←A4.o];obtain⟨S,HS⟩:=zS fun w'=>Zb W0 w'
 refine zrs S 6 (zq 0 3 [(3,true),(4,true),(5,false),(6,true)]) ((HS.o _).mpr (tA5 _ _).drew) ?_;obtain⟨A0,A2⟩:=zh2 (fun(w':World)(h:S w')=>qap (D0.below ((HS.o w').mp h) D0.lt) 0 D zjq) (zI 53 LD.o);refine qos rfl rfl 53 (.tmp 3) rfl (w.heap.size+1) 0 rfl D _ A0.o Tryz.underlying53 rfl A2.o ?_;refine zP ?_;iterate 1 (refine zrb ?_)
 refine qos rfl rfl 53 (.tmp 3) rfl (w.heap.size+1) 0 rfl D _ A0.o Tryz.underlying53 rfl A2.o ?_;refine zP ?_;obtain⟨Wd,hWd,bd⟩:=zdr W0;rw[←hWd];clear hWd;refine zw ?_;go_simp;refine(A5.o Wd).mono ?_;rintro e w1 ⟨v1,rfl,o1,b1⟩;obtain⟨A1,n1,c1,rfl,nc1,-,r1⟩:=o1.sl;have l1:=qb5 r1;rw[LB.o]at l1;have b1':=bd.trans (b1.mono bd.size);have k1:=K0.below b1' K0.lt;have rk:=qfc k1 (p:=0) zo;rw[LK.o,List.drop_zero]at rk;have M:=qju 32 32 n1 c1 _ A1 key hdb w1 rk r1 BK.o HB.o zo zo ((HT.below B0.o HT.size).below b1' (tB1 HT.size B0.size));rw[A6.o,A7.o]at M;obtain⟨HM,B1⟩:=zh2 M b1';clear M rk k1 b1 b1' o1 r1 l1 nc1 bd;refine⟨(HS.o _).mpr B1.o,zput ?_⟩;refine zw ?_;go_simp;refine zcb HM.o fun w2 b2=>?_
 have B2:=zh1 (B1.trans (b2.mono B1.size));clear b2;refine⟨(HS.o _).mpr B2.o,zput ?_⟩;refine qbh rfl rfl ⟨.agg X.toArray,fun w1 hS=>qgr 55 _ rfl _ _ BS.o (by simp[Act.eval]),?_⟩;refine zP ?_;have Z2:=Z0.below B2.o Z0.lt;have IX:(Tryz.prog.info? 55).map (·.size)=some X.length:=by rw[LS.o];kernel_rfl
 refine zw ?_;refine wp_store_row 55 (.tmp 4) (.tmp 10) rfl (w.heap.size+1+1) X.toArray rfl rfl 55 _ Z2 (by simpa using IX) (by simp[LS.o,qo2 Hd.zero_Ok]) (by simpa using OS.o) ?_;refine⟨fun h=>absurd h zdc,zput ?_⟩;refine qbg ?_;have z9:=Z2.setRow X.toArray;have A3:=qap z9 0 X zjq;obtain⟨A8,A9⟩:=zh2 A3 IX;clear IX z9 A3 Z2;go_wp2_with fail
 exact zrt A8.o zu55 A9.o ⟨rfl,below_setRow (B0.trans (B2.mono B0.size)) zo _⟩
section
open Go
section
variable {P : Program} {ops : Array Oper} {Q : Exit → Act → World → Prop} {md : Region.Mode} {S : World → Prop} {n : Nat}
def qp8 (md:Region.Mode)(ops:Array Oper)(n:Nat)(M:List (Nat × List Nat))(L1:Array Bool):Nat→Array Bool→Bool
 |0,listed=>listed==L1
 |m+1,listed=>!(Region.ready md ops listed).isEmpty&&(Region.ready md ops listed).all fun i=>decide (i<n)&&M.any (fun x=>x.1==i)&&qp8 md ops n M L1 m (listed.setIfInBounds i true)
def qp9 (md:Region.Mode)(ops:Array Oper)(M:List (Nat × List Nat)):Bool:=
 M.all fun x=>x.2.all fun d=>match ops[x.1]? with|none=>false|some o=>o.after.any fun e=>Region.binds md e&&e.on==d
def Each:List (Nat × List Nat)→(Nat→List Nat→Prop)→Prop
 |[],_=>True
 |(i,ds)::r,p=>p i ds∧Each r p
theorem Each.get{p:Nat→List Nat→Prop}:∀{M:List (Nat × List Nat)},Each M p→∀x∈M,p x.1 x.2
 |[],_,x,hx=>(nomatch hx)
 |(i,ds)::r,h,x,hx=>by
  rcases List.mem_cons.1 hx with rfl|hx
  · exact h.1
  exact h.2.get x hx
def qpa (P:Program)(ops:Array Oper)(Q:Exit→Act→World→Prop)(S:World→Prop)(Inv:(Nat→Bool)→Act→World→Prop)(i:Nat)(ds:List Nat):Prop:=
 ∀(D:Nat→Bool) (a:Act) (w:World),S w→Inv D a w→D i=false→(∀d∈ds,D d=true)→wpOp P ops Q i (fun a' w'=>S w'∧Inv (fun j=>D j||j==i) a' w') a w
def qpb (P:Program)(ops:Array Oper)(Q:Exit→Act→World→Prop)(S:World→Prop)(n:Nat)(M:List (Nat × List Nat))(L0 L1:Array Bool)(post:List (Nat × Bool))(a:Act)(w:World):Prop:=
 ∃Inv:(Nat→Bool)→Act→World→Prop,Inv (fun j=>L0.getD j false) a w∧Each M (qpa P ops Q S Inv)∧∀a' w',S w'→Inv (fun j=>L1.getD j false) a' w'→qba P ops Q S n post a' w'
theorem qpc{Inv:(Nat→Bool)→Act→World→Prop}{M:List (Nat × List Nat)}{L1:Array Bool}(hd:qp9 md ops M=true)(hM:Each M (qpa P ops Q S Inv))
 (hK:∀a w,S w→HeadInv md ops n L1→Inv (fun j=>L1.getD j false) a w→wpAnyS P md ops Q S n fuel L1 a w):
 ∀(m:Nat) (listed:Array Bool) (a:Act) (w:World),HeadInv md ops n listed→S w→qp8 md ops n M L1 m listed=true→Inv (fun j=>listed.getD j false) a w→wpAnyS P md ops Q S n (m+fuel) listed a w:=by
 intro m;induction m with
 |zero=>
  intro listed a w inv hS ho h;simp only[qp8,beq_iff_eq]at ho;subst ho;simpa using hK a w hS inv h
 |succ m ih=>
  intro listed a w inv hS ho h;rw[Nat.add_right_comm];simp only[qp8,Bool.and_eq_true,Bool.not_eq_true',List.all_eq_true,decide_eq_true_eq,List.any_eq_true,beq_iff_eq]at ho;obtain⟨hne,hall⟩:=ho;refine⟨fun h0=>(by rw[h0]at hne;simp at hne),fun i hi=>?_⟩;obtain⟨⟨hin,x,hx,hxi⟩,ho⟩:=hall i hi;obtain⟨hun,o,hoi,haft⟩:=mem_ready.1 hi;subst hxi;have hlt:x.1<listed.size:=by
   rcases Nat.lt_or_ge x.1 listed.size with h'|h'
   · exact h'
   simp[Array.getElem?_eq_none h']at hun
  have h0:listed.getD x.1 false=false:=by
   simp only[Array.getD_eq_getD_getElem?,Array.getElem?_eq_getElem hlt,Option.getD_some]at hun ⊢;exact hun
  refine wpOp_mono (fun a' w' h'=>⟨fun _=>h'.1,ih _ _ _ (inv.set hi hin) h'.1 ho ?_⟩) (hM.get x hx _ a w hS h h0 ?_)
  ·
   have e:(fun j=>(listed.setIfInBounds x.1 true).getD j false)=fun j=>listed.getD j false||j==x.1:=by
    funext j
    by_cases hj:x.1=j
    · subst hj
      simp[Array.getD_eq_getD_getElem?,hlt]
    rw[getD_set_ne false hj];have:(j==x.1)=false:=by simpa using fun e=>hj e.symm
    rw[this,Bool.or_false]
   rw[e];exact h'.2
  intro d hdm;have:=List.all_eq_true.1 (List.all_eq_true.1 hd x hx) d hdm;rw[hoi]at this;simp only[Array.any_eq_true',Bool.and_eq_true,beq_iff_eq]at this;obtain⟨e,he,hb,rfl⟩:=this;exact haft e he hb
def qpd (P:Program)(ops:Array Oper)(Q:Exit→Act→World→Prop)(S:World→Prop)(n:Nat)(ds:List Nat)(M:List (Nat × List Nat))(L0 L1:Array Bool)(post:List (Nat × Bool))(a:Act)(w:World):Prop:=
 ∃Inv:(Nat→Bool)→List Value→World→Prop,(∃vs,a=puts a ds vs∧Inv (fun j=>L0.getD j false) vs w)∧
  Each M (fun i deps=>∀(D:Nat→Bool) (vs:List Value) (w:World),S w→Inv D vs w→D i=false→(∀d∈deps,D d=true)→wpOp P ops Q i (fun a' w'=>S w'∧∃vs',a'=puts a ds vs'∧Inv (fun j=>D j||j==i) vs' w') (puts a ds vs) w)∧
  ∀vs w',S w'→Inv (fun j=>L1.getD j false) vs w'→qba P ops Q S n post (puts a ds vs) w'
theorem Each.imp {p q:Nat→List Nat→Prop}(h:∀i ds,p i ds→q i ds):∀{M:List (Nat × List Nat)},Each M p→Each M q
 |[],_=>trivial
 |(i,ds)::r,hp=>⟨h i ds hp.1,Each.imp h hp.2⟩
theorem qpe{M:List (Nat × List Nat)}{L0 L1:Array Bool}{post:List (Nat × Bool)}(h:qpd P ops Q S n ds M L0 L1 post a w):qpb P ops Q S n M L0 L1 post a w:=by
 obtain⟨Inv,⟨vs,e,h0⟩,h1,h2⟩:=h;refine⟨fun D a' w'=>∃vs,a'=puts a ds vs∧Inv D vs w',⟨vs,e,h0⟩,h1.imp ?_,?_⟩
 · rintro i deps hp D a' w' hS ⟨vs,rfl,hI⟩ hD hd
   exact hp D vs w' hS hI hD hd
 rintro a' w' hS ⟨vs,rfl,hI⟩;exact h2 vs w' hS hI
theorem qpf {K K':Act→World→Prop}(hK:∀a w,K a w→K' a w):∀(r:List (Nat × Bool)) (a:Act) (w:World),qjw P ops Q S K r a w→qjw P ops Q S K' r a w
 |[],a,w,h=>hK a w h
 |(i,false)::r,a,w,h=>by
  obtain⟨o,v,h1,h2,h3⟩:=h;exact⟨o,v,h1,h2,qpf hK r _ _ h3⟩
 |(i,true)::r,a,w,h=>wpOp_mono (fun a' w' h'=>⟨h'.1,qpf hK r _ _ h'.2⟩) h
theorem qpg(S:World→Prop)(n:Nat)(ds:List Nat)(pre:List (Nat × Bool))(m:Nat)(M:List (Nat × List Nat))(post:List (Nat × Bool))(L0 L1:Array Bool)
 (hm:P.follows .mixedOrders=true)(hlen:(pre.length+(m+post.length)==ops.size)=true)(hsel:Region.noSelect ops=true)(ht:qbe .any ops n=true)
 (ho:qjv .any ops n pre (Array.replicate ops.size false)=some L0)(h1:qp8 .any ops n M L1 m L0=true)(hd:qp9 .any ops M=true)
 (hp:qb8 .any ops n post L1=true)(hQ:∀c a d v w,Q (.panic c) (a.put d v) w→Q (.panic c) a w)(hS:S w.drew)
 (h:qjw P ops Q S (qpd P ops Q S n ds M L0 L1 post) pre a w.drew):(Code.region id ops true).wp P Q a w:=by
 replace h:=qpf (K':=qpb P ops Q S n M L0 L1 post) (fun a w h=>qpe h) _ _ _ h;have ht':Tails .any ops n:=by
  unfold qbe at ht;simp only[Bool.or_eq_true,beq_iff_eq,Bool.and_eq_true,decide_eq_true_eq]at ht;exact ht.imp (fun h=>h) fun ⟨⟨a,b⟩,c⟩=>⟨a,b,c⟩
 have hl:pre.length+(m+post.length)=ops.size:=by simpa using hlen
 refine wp_region_any hm (qb6 (n:=n) (S:=S) _ _ _ _ ?_);rw[←hl];rw[hl];have key:=qjx (P:=P) (Q:=Q) (S:=S) (K:=qpb P ops Q S n M L0 L1 post) (L':=L0) (fuel:=m+post.length) hsel hQ ht' (fun a w hS inv hk=>by
  obtain⟨Inv,k0,k1,k3⟩:=hk;refine qpc hd k1 ?_ m L0 a w inv hS h1 k0;intro a' w' hS' inv' hI;exact qbb qbc hsel hQ ht' post L1 _ _ inv' hS' hp (k3 a' w' hS' hI))
  pre (Array.replicate ops.size false) a w.drew qbd hS ho h
 rw[hl]at key;exact key
theorem qph(h1:(execOp a.eval o).run P w=.ok (.value v) w)(h:K (a.put o.dst v) w):o.wp P a w K Q:=by
 unfold Oper.wp;rw[h1];exact h
theorem qpi{r:List (Nat × Bool)}(hi:nth l i=some op)(hw:Region.wanted op (yielded l.toArray a.tmps)=true)
 (ty:TypeId)(x:Operand)(ho:op.op=.load ty x)(b o:Nat)(hx:a.eval x=.pointer (some ⟨b,o,none⟩))(cs:List Value)(d:TypeDesc)(hS:∀w,S w→w.rangeAt b o cs)
 (hu:P.underlying ty=some d)(hd:d.isRow=true)(hsz:(P.info? ty).map (·.size)=some cs.length)
 (h:qjw P l.toArray Q S K r (a.put op.dst (.agg cs.toArray)) w):qjw P l.toArray Q S K ((i,false)::r) a w:=
 ⟨op,_,(qb9 l i).symm.trans hi,yieldsIf_load_mid hw ty x ho b o hx cs d hS hu hd hsz,h⟩
theorem qpj(h:∀K',(∀a w,K a w→K' a w)→wpOp P ops Q i K' a w):wpOp P ops Q i K a w:=h K fun _ _ h=>h
end
end
theorem qpk(b:Int)(cells:Array Value)(hc:cells.size=1):Instr.fill (fun i=>some (i*1,1)) cells [(0,.int .u8 b)]=some #[.int .u8 b]:=by
 obtain⟨l⟩:=cells;cases l with
 |nil=>simp at hc
 |cons x l=>
  cases l with
  |nil=>simp[Instr.fill,Value.cells]
  |cons y l=>simp at hc
theorem qpl(x:Operand)(ho:o.op=.buildSlice 23 1 #[(0,x)])
 (b:Int)(hx:a.eval x=.int .u8 b)
 (h:K (a.put o.dst (.slice (some ⟨w.heap.size,0,none⟩) 1 1)) (w.alloc (.cells #[.int .u8 b] 5))):o.wp Tryz.prog a w K Q:=by
 obtain⟨i0,hi0,hz0,hz1,hz2⟩:=info_parts Tryz.u8_info;refine wp_buildSlice 23 5 1 #[(0,x)] ho #[.int .u8 b] i0 _ Tryz.underlying23 hi0 hz0 (by rw[hz1];omega) (by rw[hz1];omega) ?_ h;rw[hz1];simp only[List.map_toArray,List.map_cons,List.map_nil,hx];exact qpk b _ zm
theorem qpm(h:Blk w g 5 #[.int .u8 (b:Int)]):Reads w w.heap.size 1 (some ⟨g,0,none⟩) 1 (byv [b]):=by
 refine⟨rfl,fun _=>⟨_,rfl,h.lt,fun j u hu=>?_⟩⟩;rw[Addr.add_mid,h.cell (0+j)];simpa [byv] using hu
theorem qpn(k:Int)(w:World):
 Zc 246 #[.int .i64 k] w fun e w'=>e=.returned (.int .i64 (cutW k:Nat))∧w=w':=by
 by_cases h:k<1∨32<k
 ·
  have H:Hid (((cutW k:Nat):Int)=32):=by unfold Hid cutW;rw[if_pos h];rfl
  by_cases h1:k<1
  · clear h
    go_enter Tryz.func246,Tryz.ntmps246
    go_wp2
    go_ret
    exact⟨by rw[H.o];rfl,rfl⟩
  have h2:32<k:=zo;clear h;go_enter Tryz.func246,Tryz.ntmps246
  go_wp2
  go_ret
  exact⟨by rw[H.o];rfl,rfl⟩
 have H:Hid (((cutW k:Nat):Int)=k):=by unfold Hid cutW;rw[if_neg h];omega
 have h1:¬k<1:=zo;have h2:¬32<k:=zo;clear h;go_enter Tryz.func246,Tryz.ntmps246
 go_wp2
 go_ret
 exact⟨by rw[H.o];rfl,rfl⟩
theorem qpo(d:List Nat)(k:Nat)(hd:d.length=32)(hk:k≤32):splice (byv (List.replicate 32 0)) 0 (byv (d.take k))=byv (cutD d k):=by
 rw[qez,tBd,hd,Nat.min_eq_left hk];rfl
theorem qpp(d:List Nat)(k:Nat)(w:World)(hd:d.length=32)(hk:k≤32):
 Zc 244 #[.agg (byv d).toArray,.int .i64 (k:Int)] w fun e w'=>e=.returned (.agg (byv (cutD d k)).toArray)∧Zb w w':=by
 have lD:(byv d).length=32:=by rw[qat];exact hd
 have hcut:=qpo d k hd hk;have lX:(byv (cutD d k)).length=32:=by rw[qat];exact qg4 hd hk
 obtain⟨W0,hW0⟩:=eqx (((w.alloc (.cells (byv d).toArray 29)).alloc (.cells zLD 29)).alloc (.cells zLD 29));have k0:=zNd hW0;have z0:Blk W0 (w.heap.size+1) 29 (byv (List.replicate 32 0)).toArray:=by
  have h:=(Blk.new (w.alloc (.cells (byv d).toArray 29)) 29 zLD).alloc (.cells zLD 29);rw[qar]at h;rw[hW0];exact h
 have y0:Blk W0 (w.heap.size+1+1) 29 (byv (List.replicate 32 0)).toArray:=by
  have h:=Blk.new ((w.alloc (.cells (byv d).toArray 29)).alloc (.cells zLD 29)) 29 zLD;rw[qar,qar]at h;rw[hW0];exact h
 have b0:=zMc hW0;obtain⟨V,hV⟩:=xeq (byv d);rw[hV]at lD k0 hW0 ⊢;have q1:¬(k:Int)<0:=zo;have q2:¬(32:Int)<k:=zo;have q3:(0:Int)≤k:=zo;have q4:(k:Int)≤32:=zo;obtain⟨A0,K0,Z0,Y0,B0,HC,HV,LX⟩:=zh8 hW0 k0 z0 y0 b0 hcut hV lX;clear hW0 k0 z0 y0 b0 hcut hV lX;go_enter Tryz.func244,Tryz.ntmps244
 go_upto_region 2 with(fail)
 rw[←A0.o];obtain⟨S,HS⟩:∃S:World→Prop,Hid (∀w',S w'):=⟨fun _=>True,fun _=>trivial⟩;refine zrs S 5 (zq 0 5 [(5,true)]) (HS.o _) ?_;repeat(refine qbh rfl rfl ⟨?_,fun w1 hS=>?_,?_⟩;rotate_left;(focus(go_simp;(try rfl)));simp only[Act.put,tA0,tA1,tA2])
 refine zw ?_;have hcell:∀j u,(byv (d.take k))[j]? =some u→W0.drew.cell? ((⟨w.heap.size,0,none⟩:Addr).add j)=some u:=fun j u hu=>by
  have hd':(byv d)[j]? =some u:=by
   unfold byv at hu ⊢;rw[List.map_take,List.getElem?_take]at hu;split at hu
   · exact hu
   cases hu
  rw[HV.o]at hd';rw[Addr.add_mid,Nat.zero_add];exact(K0.drew.cell j).trans (by rw[tA3];exact hd')
 refine qf1 (.tmp 6) (.tmp 10) 23 23 rfl 5 zk zk _ _ _ _ _ _ rfl rfl (w.heap.size+1+1) 0 (byv (List.replicate 32 0)) 29 Y0.drew (byv (d.take k)) (by rw[qat,tBd,hd]) (fun h0=>⟨rfl,_,rfl,hcell⟩) (by rw[qat,qat,tBd,List.length_replicate];omega) (qau _) ?_;intro w1 hg1 hgr;have y1:Blk w1 (w.heap.size+1+1) 29 (byv (cutD d k)).toArray:=by rw[←HC.o];exact hg1
 have z1:Blk w1 (w.heap.size+1) 29 (byv (List.replicate 32 0)).toArray:=Z0.drew.grown hgr (by intro e;injection e with e;omega);have b1:Zb w w1:=(B0.drew).grown hgr (by have:=B0.size;exact this) (by intro g hg;injection hg with hg;omega);clear hcell hg1 hgr q1 q2 q3 q4 lD;refine⟨fun _=>(HS.o _),zput ?_⟩;refine qbg ?_;obtain⟨X,hX⟩:=xeq (byv (cutD d k));rw[hX]at y1 LX;obtain⟨A1,HI,Z1,B1,HX⟩:=zh5 (qap y1 0 X zjq) (zI 29 LX.o) z1 b1 hX;clear y1 z1 b1 hX;have HO:=zh1 (show ∀u∈X,u.oneCell'=true by rw[←HX.o];exact qau _);go_wp2_with (first
  |(refine zld A1.o zu29 HI.o ?_)
  |(refine zst Z1.o HI.o (by simp[LX.o,qat]) HO.o ?_))
 have z9:=Z1.setRow X.toArray;have A2:=qap z9 0 X zjq;exact zrt A2 zu29 HI.o ⟨by rw[←HX.o],below_setRow B1.o zo _⟩
theorem qpq(W:Int)(bs:List Nat)(A:Option Addr)(n c:Nat)(w:World)(hb:∀x∈bs,x<256)(hr:Reads w w.heap.size 1 A n (byv bs))(hnc:n≤c)(hn:n≤1152921504606846975)(ht:Tabs w):
 Zc 211 #[.int .i64 W,.slice A n c] w fun e w'=>e=.returned (.agg (byv (sumH (cutW W) bs)).toArray)∧Zb w w':=by
 have lc:=qfp W;obtain⟨W0,hW0⟩:=eqx (w.alloc (.cells zLD 29));have z0:Blk W0 w.heap.size 29 (byv (List.replicate 32 0)).toArray:=by rw[hW0];exact Blk.new w _ _
 have b0:=zMa hW0;have S0:=qfo n c A bs W0 hb (hr.call b0) hnc hn (ht.below b0 ht.size);obtain⟨A1,Z0,B0,A2⟩:=zh4 hW0 z0 b0 S0;clear hW0 z0 b0 S0 hb hr ht hnc hn;go_enter Tryz.func211,Tryz.ntmps211
 go_wp2_with fail
 rw[←A1.o];refine zcb A2.o fun w1 b1=>?_
 obtain⟨Z1,B1⟩:=zh2 (Z0.below b1 Z0.lt) (B0.trans (b1.mono B0.size));clear b1;go_wp2_with fail
 refine(qpn _ _).mono ?_;rintro e w2 ⟨rfl,rfl⟩;go_wp2_with fail
 refine zcb (qpp (sha bs) (cutW W) w1 (qjp bs) lc.2) fun w2 b2=>?_
 obtain⟨Z2,B2⟩:=zh2 (Z1.below b2 Z1.lt) (B1.trans (b2.mono B1.size));clear b2;obtain⟨X9,hX9⟩:=xeq (byv (cutD (sha bs) (cutW W)));have lX9:X9.length=32:=by rw[←hX9,qat];exact qg4 (qjp bs) lc.2
 have oX9:∀u∈X9,u.oneCell'=true:=by rw[←hX9];exact qau _
 try rw[hX9]
 obtain⟨A3,A4,A5,A0⟩:=zh4 hX9 lX9 oX9 (zI 29 lX9);clear hX9 lX9 oX9;go_wp2_with (refine zst Z2.o A0.o (by simp[A4.o,qat]) A5.o ?_)
 have z9:=Z2.setRow X9.toArray;have A6:=qap z9 0 X9 zjq;exact zrt A6 zu29 A0.o ⟨(by rw[←A3.o];try rfl),below_setRow B2.o (by first|omega|exact tA4 _) _⟩
theorem qpr(w:World)(b:Nat):Reads (w.alloc (.cells #[.int .u8 (b:Int)] 5)) (w.alloc (.cells #[.int .u8 (b:Int)] 5)).heap.size 1 (some ⟨w.heap.size,0,none⟩) 1 (byv [b]):=by
 have:=Reads.new1 w 5 (.int .u8 (b:Int));simpa [byv] using this
theorem qps(W:Int)(bs:List Nat)(A:Option Addr)(n c:Nat)(w:World)(hb:∀x∈bs,x<256)(hr:Reads w w.heap.size 1 A n (byv bs))(hnc:n≤c)(hn:n≤4294967296)(ht:Tabs w):
 Zc 213 #[.int .i64 W,.slice A n c] w fun e w'=>e=.returned (.agg (byv (qfq (cutW W) bs)).toArray)∧Zb w w':=by
 have hln:=qb5 hr;obtain⟨W0,hW0⟩:=eqx (w.alloc (.cells zLD 29));obtain⟨W1,hW1⟩:=eqx (W0.alloc (.cells #[.int .u8 0] 5));obtain⟨W2,hW2⟩:=eqx (W1.alloc (.cells #[.slice (some ⟨W0.heap.size,0,none⟩) 1 1,.slice A n c] 23));have s0:W0.heap.size=w.heap.size+1:=by rw[hW0];simp
 have s1:W1.heap.size=w.heap.size+1+1:=by rw[hW1,qar,s0]
 have b0:=zMa hW0;have b01:=zMa hW1;have b12:=zMa hW2;have b2:Zb w W2:=(b0.trans (b01.mono b0.size)).trans (b12.mono zo);have z2:Blk W2 w.heap.size 29 (byv (List.replicate 32 0)).toArray:=by
  have z0:Blk W0 w.heap.size 29 (byv (List.replicate 32 0)).toArray:=by rw[hW0];exact Blk.new w _ _
  exact(z0.below b01 z0.lt).below b12 zo
 have r1:Reads W1 W1.heap.size 1 (some ⟨W0.heap.size,0,none⟩) 1 (byv [0]):=by rw[hW1];exact qpr W0 0
 have x0:W2.cell? ⟨W1.heap.size,0,none⟩=some (.slice (some ⟨W0.heap.size,0,none⟩) 1 1):=by rw[hW2];exact(qak W1 _ _ 0).trans rfl
 have x1:W2.cell? ⟨W1.heap.size,1,none⟩=some (.slice A n c):=by rw[hW2];exact(qak W1 _ _ 1).trans rfl
 have J:=qjt W1.heap.size 1 1 n c _ _ [0] bs W2 x0 x1 (r1.call b12) (hr.call b2) zo;rw[s0]at hW2;rw[s1]at J;obtain⟨Z2,B2,HJ,A1,A2,A4,T2,Hb⟩:=zh8 z2 b2 J hW0 hW1 hW2 (ht.below b2 ht.size) hb;have HL:=zh1 hln;clear hW0 hW1 hW2 s0 s1 b0 b01 b12 b2 z2 r1 x0 x1 J hb hr ht hln;go_enter Tryz.func213,Tryz.ntmps213
 go_wp2_with fail
 rw[←A1.o,←A2.o,←A4.o];refine HJ.o.mono ?_;rintro e w3 ⟨v3,rfl,o3,b3⟩;obtain⟨A3,n3,c3,rfl,nc3,-,r3⟩:=o3.sl;have l3:=qb5 r3;have l3':n3≤1152921504606846975:=by rw[tA6,List.length_singleton]at l3;have:=HL.o;omega
 have M:=qpq W (0::bs) A3 n3 c3 w3 (by intro x hx;rcases List.mem_cons.1 hx with rfl|h;decide;exact Hb.o x h) r3 nc3 l3' (T2.below b3 T2.size);obtain⟨HM,Z3,B3⟩:=zh3 M (Z2.below b3 Z2.lt) (B2.trans (b3.mono B2.size));clear M o3 b3 r3 l3 l3' nc3;go_wp2_with fail
 refine zcb HM.o fun w4 b4=>?_
 obtain⟨Z4,B4⟩:=zh2 (Z3.below b4 Z3.lt) (B3.trans (b4.mono B3.size));clear b4;obtain⟨X9,hX9⟩:=xeq (byv (sumH (cutW W) (0::bs)));have lX9:X9.length=32:=by rw[←hX9,qat];exact qg4 (qjp _) (qfp W).2
 have oX9:∀u∈X9,u.oneCell'=true:=by rw[←hX9];exact qau _
 try rw[hX9]
 obtain⟨A5,A6,A7,A0⟩:=zh4 hX9 lX9 oX9 (zI 29 lX9);clear hX9 lX9 oX9;go_wp2_with (refine zst Z4.o A0.o (by simp[A6.o,qat]) A7.o ?_)
 have z9:=Z4.setRow X9.toArray;have A8:=qap z9 0 X9 zjq;exact zrt A8 zu29 A0.o ⟨(by rw[←A5.o];try rfl),below_setRow B4.o (by first|omega|exact tA4 _) _⟩
end Go.Proofs.YthomgopipiomhaaGreatDoor

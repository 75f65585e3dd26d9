/- Lemmas. -/
import Derived.Test.YthomgopipiomhaaGreatDoorBMR01
import Derived.Stop.Asserts
import Derived.Lib.IfaceEq
namespace Go.Proofs.YthomgopipiomhaaGreatDoor
open Go.RowKit
set_option linter.unusedVariables false
set_option linter.unusedSimpArgs false
set_option maxRecDepth 100000
set_option maxHeartbeats 32000000
variable {B k g base n fuel id i j:Nat}{w w' w1 w2:World}{bs:List Nat}{v:Value}{t1 t2 ty:TypeId}{o o':Oper}{a:Act}{P:Program}{Q:Exit→Act→World→Prop}{K:Act→World→Prop}{xs:List Value}{R:Req}{l:List Oper}
abbrev RSt:=Nat × Option (Nat × Nat)
def qg6 (s:RSt)(a y:Nat):RSt:=match s.2 with
 |none=>(s.1,some (a,y))
 |some _=>s
def qg7 (bs:List Nat)(s:RSt)(n:Nat):RSt × List Nat:=match s.2 with
 |some _=>(s,[])
 |none=>if n≤bs.length - s.1 then((s.1+n,none),(bs.drop s.1).take n) else((s.1,some (bs.length,10)),[])
def num (l:List Nat):Nat:=l.foldl (fun n c=>n*256+c) 0
def rNum (bs:List Nat)(s:RSt)(k:Nat):RSt × Nat:=((qg7 bs s k).1,num (qg7 bs s k).2)
def rEnd (bs:List Nat)(s:RSt):Option (Nat × Nat):=match s.2 with
 |some x=>some x
 |none=>if s.1<bs.length then some (s.1,11) else none
def RNo (w:World)(B:Nat)(p:Option Addr):Option (Nat × Nat)→Prop
 |none=>p=none
 |some x=>∃h,p=some ⟨h,0,none⟩∧B≤h∧Blk w h 302 #[.int .i64 (x.1:Int),.int .i64 (x.2:Int)]
def Rd (w:World)(B g:Nat)(bs:List Nat)(s:RSt):Prop:=
 ∃A n c p,Blk w g 239 #[.slice A n c,.int .i64 (s.1:Int),.pointer p]∧B≤g∧OwnB w B (.slice A n c) bs∧n=bs.length∧n≤c∧s.1≤n∧n≤140737488355328∧RNo w B p s.2
theorem RNo.kept{p:Option Addr}{x:Option (Nat × Nat)}{row:Option Nat}(h:RNo w B p x)(hg:w.grownBy w' row)(hr:∀k cs,row=some k→¬Blk w k 302 cs):RNo w' B p x:=by
 cases x with
 |none=>exact h
 |some x=>
  obtain⟨k,e,hB,hk⟩:=h;exact⟨k,e,hB,hk.grown hg fun e=>hr k _ e.symm hk⟩
theorem Rd.kept{s:RSt}{t:TypeId}{cs:Array Value}(h:Rd w B g bs s)(hg:w.grownBy w' (some k))(hk:Blk w k t cs)(h1:t≠302)(h2:5≠t)(h3:g≠k):Rd w' B g bs s:=by
 obtain⟨A,n,c,p,hb,hB,ho,hn,hc,hs,hm,hp⟩:=h;refine⟨A,n,c,p,hb.grown hg (fun e=>h3 (by injection e)),hB,tB3 ho hg (.inr (qa3 ho hk h2)),hn,hc,hs,hm,hp.kept hg ?_⟩;rintro k' cs' e hk';injection e with e;subst e;exact hk.ne_ hk' h1 rfl
theorem Rd.below{s:RSt}(h:Rd w B g bs s)(hb:Zb w w'):Rd w' B g bs s:=by
 obtain⟨A,n,c,p,hg,hB,ho,hn,hc,hs,hm,hp⟩:=h;exact⟨A,n,c,p,hg.below hb hg.lt,hB,ho.kept hb,hn,hc,hs,hm,hp.kept (qad hb none) (fun _ _ e=>by cases e)⟩
theorem Rd.grown{s:RSt}{l:List (Int × Nat)}(h:Rd w B g bs s)(ho:OwnC w base v l)(hg:w.grownBy w' v.ownBlock):Rd w' B g bs s:=by
 rcases ho.2 with⟨rfl,_⟩|⟨q,cap,cur,rfl,_,hh,_⟩
 · exact h.below ⟨hg.os,hg.tape,hg.output,hg.size,fun k hk=>hg.block k hk (by simp[Value.ownBlock])⟩
 obtain⟨A,n,c,p,hgb,-⟩:=id h;exact h.kept (k:=q) (by simpa [Value.ownBlock] using hg) (show Blk w q 132 cur from hh) zdc zdc (hgb.ne_ (show Blk w q 132 cur from hh) zdc)
theorem Rd.lt{s:RSt}(h:Rd w B g bs s):g<w.heap.size:=by
 obtain⟨A,n,c,p,hg,-⟩:=h;exact hg.lt
theorem Rd.le{s:RSt}(h:Rd w B g bs s):B≤g:=by
 obtain⟨A,n,c,p,hg,hB,-⟩:=h;exact hB
theorem qg8(h:w.grownBy w' (some g))(hB:B≤g)(hg:g<w.heap.size):Below B w w':=
 ⟨h.os,h.tape,h.output,h.size,fun k hk=>h.block k zo (fun e=>by injection e;omega)⟩
theorem qg9(bs:List Nat)(A:Option Addr)(n c:Nat)(w:World)(hr:Reads w w.heap.size 1 A n (byv bs))(hn:n≤140737488355328):
 Zc 68 #[.slice A n c] w fun e w'=>∃g,e=.returned (.pointer (some ⟨g,0,none⟩))∧Rd w' w.heap.size g bs (0,none)∧Zb w w':=by
 have hl:=qb5 hr;go_enter Tryz.func68,Tryz.ntmps68
 go_wp2_with fail
 refine(qd4 A n c w.heap.size (byv bs) w hr (qau _) hn).mono ?_;rintro e w1 ⟨v,rfl,own1,b1⟩;obtain⟨A1,c1,rfl,hc1,-,-⟩:=qaf own1;go_wp2
 go_ret
 subst hl;exact⟨_,rfl,⟨A1,_,c1,none,Blk.new _ _ _,b1.size,OwnB.alloc own1 _,rfl,hc1,Nat.zero_le _,hn,rfl⟩,qah b1 _⟩
theorem qga(B g:Nat)(bs:List Nat)(s:RSt)(a y:Nat)(w:World)(h:Rd w B g bs s)(hy:y≠0):
 Zc 149 #[.pointer (some ⟨g,0,none⟩),.int .i64 a,.int .i64 y] w fun e w'=>e=.returned (.tuple #[])∧Rd w' B g bs (qg6 s a y)∧w.grownBy w' (some g):=by
 obtain⟨s1,s2⟩:=s;obtain⟨A,n,c,p,hg,hB,ho,hn,hc,hs,hm,hp⟩:=h;have c2:=hg.cell 2;rw[show (#[Value.slice A n c,.int .i64 (s1:Int),.pointer p]:Array Value)[2]? =some (.pointer p) from rfl]at c2;have f2:=hg.frozen 2;have hy':¬(y:Int)=0:=zo;have hlt:=hg.lt;obtain⟨HG,HO⟩:=zh2 hg ho;clear hg ho;cases s2 with
 |none=>
  obtain rfl:p=none:=hp;go_enter Tryz.func149,Tryz.ntmps149
  go_wp2
  go_end0
  refine⟨rfl,⟨A,n,c,some ⟨w.heap.size,0,none⟩,?_,hB,?_,hn,hc,hs,hm,?_⟩,?_⟩
  · exact(HG.set_ 2 _).alloc _
  · exact(OwnB.far HO.o (p:=⟨g,2,none⟩) (OwnB.blk_ne HO.o HG.o zdc) _).alloc _
  · exact⟨_,rfl,by omega,by simpa using Blk.new (w.setCell ⟨g,2,none⟩ (.pointer (some ⟨w.heap.size,0,none⟩))) 302 #[.int .i64 (a:Int),.int .i64 (y:Int)]⟩
  exact qaa (qab (tB9 _ _) (.inl rfl) _) _
 |some x=>
  obtain⟨k,rfl,hk,hkb⟩:=hp;have HK:=zh1 hkb;clear hkb;go_enter Tryz.func149,Tryz.ntmps149
  go_wp2
  go_end0
  exact⟨rfl,⟨A,n,c,_,HG.o,hB,HO.o,hn,hc,hs,hm,⟨k,rfl,hk,HK.o⟩⟩,tB9 _ _⟩
theorem qgb(B g:Nat)(bs:List Nat)(s:RSt)(y:Nat)(w:World)(h:Rd w B g bs s)(hy:y≠0):
 Zc 72 #[.pointer (some ⟨g,0,none⟩),.int .i64 y] w fun e w'=>e=.returned (.tuple #[])∧Rd w' B g bs (qg6 s s.1 y)∧w.grownBy w' (some g):=by
 have h':=h;obtain⟨A,n,c,p,hg,-⟩:=h';have c1:=hg.cell 1;rw[show (#[Value.slice A n c,.int .i64 (s.1:Int),.pointer p]:Array Value)[1]? =some (.int .i64 (s.1:Int)) from rfl]at c1;have H:=zh1 h;clear h hg;go_enter Tryz.func72,Tryz.ntmps72
 go_wp2_with fail
 refine(qga B g bs s s.1 y w H.o hy).mono ?_;rintro e w1 ⟨rfl,h1,g1⟩;go_wp2
 go_end0
 exact⟨rfl,h1,g1⟩
theorem qgc(B g:Nat)(bs:List Nat)(s:RSt)(m:Nat)(w:World)(h:Rd w B g bs s)(hm1:m≤140737488355328):
 Zc 147 #[.pointer (some ⟨g,0,none⟩),.int .i64 m] w fun e w'=>∃A n c,e=.returned (.slice A n c)∧n≤c∧Reads w' w'.heap.size 1 A n (byv (qg7 bs s m).2)∧Rd w' B g bs (qg7 bs s m).1∧w.grownBy w' (some g):=by
 have h':=h;obtain⟨s1,s2⟩:=s;obtain⟨A,n,c,p,hg,hB,ho,hn,hc,hs,hm,hp⟩:=h';have c0:=hg.cell 0;have c1:=hg.cell 1;have c2:=hg.cell 2;have f1:=hg.frozen 1;rw[show (#[Value.slice A n c,.int .i64 (s1:Int),.pointer p]:Array Value)[0]? =some (.slice A n c) from rfl]at c0;rw[show (#[Value.slice A n c,.int .i64 (s1:Int),.pointer p]:Array Value)[1]? =some (.int .i64 (s1:Int)) from rfl]at c1;rw[show (#[Value.slice A n c,.int .i64 (s1:Int),.pointer p]:Array Value)[2]? =some (.pointer p) from rfl]at c2;obtain⟨H,HG,HO,HN,HP⟩:=zh5 h hg ho hn hp;clear hg ho h hn hp;dsimp only at hs;cases s2 with
 |some x=>
  obtain⟨k,rfl,hk,hkb⟩:=HP.o;clear hkb;go_enter Tryz.func147,Tryz.ntmps147
  go_wp2
  go_ret
  exact⟨none,0,0,rfl,tA4 _,Reads.none_,H.o,tB9 _ _⟩
 |none=>
  obtain rfl:p=none:=HP.o;by_cases hmn:m≤n - s1
  ·
   have q1:¬(m:Int)>n - s1:=zo;have hr:qg7 bs (s1,none) m=((s1+m,none),(bs.drop s1).take m):=by
    show (if m≤bs.length - s1 then _ else _)=_;rw[←HN.o,if_pos hmn]
   have HR:=zh1 hr;have q2:(s1:Int)+m≤n:=zo;clear hr;go_enter Tryz.func147,Tryz.ntmps147
   go_wp2
   obtain⟨S,HS⟩:=zS fun w'=>w'.cell? ⟨g,0,none⟩=some (.slice A n c)∧w'.cell? ⟨g,1,none⟩=some (.int .i64 (s1:Int))
   refine zrs S 12 (zq 0 12 []) ((HS.o _).mpr ⟨c0,c1⟩) ?_;repeat(refine zrt0 ?_)
   refine qbg ?_;go_upto_region 7 with(fail)
   obtain⟨W1,hW1⟩:=eqx (w.setCell ⟨g,1,none⟩ (.int .i64 ((s1:Int)+m)));have hd:(w.setCell ⟨g,1,none⟩ (.int .i64 ((s1:Int)+m))).drew=W1.drew:=by rw[hW1]
   rw[hd];have hg1:=HG.set_ 1 (.int .i64 ((s1:Int)+m));rw[←hW1]at hg1;have k0:W1.cell? ⟨g,0,none⟩=some (.slice A n c):=hg1.cell 0;have k1:W1.cell? ⟨g,1,none⟩=some (.int .i64 ((s1:Int)+m)):=hg1.cell 1;have e1:(s1:Int)+m - m=s1:=zo;clear c0 c1 c2 f1 HS;obtain⟨S',HS⟩:∃S:World→Prop,Hid (∀w',S w'=(w'.cell? ⟨g,0,none⟩=some (.slice A n c)∧w'.cell? ⟨g,1,none⟩=some (.int .i64 ((s1:Int)+m)))):=⟨_,fun _=>rfl⟩;refine zrs S' 16 (zq 0 16 []) ((HS.o _).mpr ⟨k0,k1⟩) ?_;repeat(refine zrt0 ?_)
   obtain⟨A2,hA2⟩:∃A2,(if c=s1 then A else Option.map (fun x=>x.add s1) A)=A2:=⟨_,rfl⟩;obtain⟨C2,hC2⟩:=xeq (c - s1);refine qbh rfl rfl ⟨.slice A2 m C2,fun w1 hS=>?_,?_⟩
   · rw[HS.o]at hS
     go_split_ands
     go_simp;rw[if_pos ⟨by omega,by omega⟩,if_pos zo,show ((s1:Int)+m).toNat - s1=m by omega]
   obtain⟨A0,A1⟩:=zh2 hA2 hC2;clear hA2 hC2;simp only[Act.put,tA0,tA1,tA2];repeat(refine zrt0 ?_)
   refine qbg ?_;go_wp2
   go_ret
   have own1:OwnB W1 B (.slice A n c) bs:=by
    rw[hW1];exact OwnB.far HO.o (p:=⟨g,1,none⟩) (OwnB.blk_ne HO.o HG.o zdc) _
   obtain⟨A',c',e,-,-,rd⟩:=OwnB.slice own1;rw[←HN.o]at e rd;injection e with e _ _;subst e;have rd2:=(rd.cut (k:=s1) (cap:=c) hs hc).pre (k:=m) zo;rw[Nat.mul_one]at rd2;rw[A0.o]at rd2;refine⟨A2,m,C2,rfl,by have:=A1.o;omega,?_,?_,?_⟩
   · rw[HR.o,show byv ((bs.drop s1).take m)=((byv bs).drop s1).take m by simp[byv]]
     exact rd2
   · rw[HR.o]
     exact⟨A,n,c,none,hg1,hB,own1,HN.o,hc,by dsimp only;omega,hm,rfl⟩
   rw[hW1];exact qa9 (qa9 (qab (g:=g) (p:=⟨g,1,none⟩) (tB9 w _) (.inl rfl) _))
  have q1:(m:Int)>n - s1:=zo;have hr:qg7 bs (s1,none) m=((s1,some (n,10)),[]):=by
   show (if m≤bs.length - s1 then _ else _)=_;rw[←HN.o,if_neg hmn]
  have HR:=zh1 hr;clear hr;go_enter Tryz.func147,Tryz.ntmps147
  go_wp2
  obtain⟨S,HS⟩:=zS fun w'=>w'.cell? ⟨g,0,none⟩=some (.slice A n c)∧w'.cell? ⟨g,1,none⟩=some (.int .i64 (s1:Int))
  refine zrs S 12 (zq 0 12 []) ((HS.o _).mpr ⟨c0,c1⟩) ?_;repeat(refine zrt0 ?_)
  refine qbg ?_;go_wp2_with fail
  refine(qga B g bs (s1,none) n 10 w.drew H.o zdc).mono ?_;rintro _ w1 ⟨rfl,h1,g1⟩;go_wp2
  go_ret
  exact⟨none,0,0,rfl,tA4 _,by rw[HR.o];exact Reads.none_,by rw[HR.o];exact h1,⟨g1.os,g1.tape,g1.output,g1.size,g1.block⟩⟩
theorem qgd(l:List Nat)(c:Nat):num (l++[c])=num l*256+c:=by simp[num]
theorem qge(l:List Nat)(h:∀x∈l,x<256):num l<256^l.length:=by
 have key:∀k,num (l.take k)<256^(l.take k).length:=by
  intro k;induction k with
  |zero=>simp[num]
  |succ k ih=>
   by_cases hk:k<l.length
   · rw[List.take_add_one,tA7 hk,Option.toList_some,qgd,tA6]
     have:=h _ (List.getElem_mem hk);rw[List.length_singleton,Nat.pow_succ];omega
   rw[tB5 zo]at ih ⊢;exact ih
 simpa [List.take_length] using key l.length
theorem or64(n c:Nat)(hn:n<72057594037927936)(hc:c<256):bits .or .u64 ((n:Int)*256) (c:Int)=((n*256+c:Nat):Int):=by
 have e:n*256+c=(n*256)|||c:=by
  have:=Nat.two_pow_add_eq_or_of_lt (i:=8) (b:=c) (by simpa using hc) n;rw[Nat.mul_comm];exact this
 have h1:(n*256:Nat)<2^64:=zo;have h2:((n*256)|||c)<2^64:=Nat.or_lt_two_pow h1 zo;rw[e,show ((n:Int)*256)=((n*256:Nat):Int) by push_cast;rfl];show IntKind.u64.wrap ((BitVec.ofInt 64 ((n*256:Nat):Int)|||BitVec.ofInt 64 (c:Int)).toNat:Int)=_;rw[BitVec.toNat_or,BitVec.ofInt_natCast,BitVec.ofInt_natCast,BitVec.toNat_ofNat,BitVec.toNat_ofNat,Nat.mod_eq_of_lt h1,Nat.mod_eq_of_lt (show c<2^64 by omega),IntKind.wrap_u64];omega
theorem qgf(bs:List Nat)(s:RSt)(m:Nat):(qg7 bs s m).2.length≤m:=by
 unfold qg7;split
 · simp
 split
 · simp;omega
 simp
theorem qgg(bs:List Nat)(s:RSt)(m:Nat)(h:∀x∈bs,x<256):∀x∈(qg7 bs s m).2,x<256:=by
 unfold qg7;split
 · simp
 split
 · intro x hx
   exact h x (List.mem_of_mem_drop (tB7 hx))
 simp
theorem qgh(bs:List Nat)(s:RSt)(m:Nat)(h:∀x∈bs,x<256):(rNum bs s m).2<256^m:=
 tB0 (qge _ (qgg bs s m h)) (Nat.pow_le_pow_right zo (qgf bs s m))
theorem qgi(B g:Nat)(bs:List Nat)(s:RSt)(k:Int)(w:World)(h:Rd w B g bs s)(hb:∀x∈bs,x<256):
 Zc 69 #[.pointer (some ⟨g,0,none⟩),.int .i64 k] w fun e w'=>e=.returned (.int .u64 (rNum bs s (qb0 k)).2)∧Rd w' B g bs (rNum bs s (qb0 k)).1∧w.grownBy w' (some g):=by
 obtain⟨hs1,hs8⟩:=qb1 k;go_enter Tryz.func69,Tryz.ntmps69
 go_wp2_with fail
 refine zca (qd1 _ _) ?_;obtain⟨z,hz⟩:=xeq (qb0 k);rw[hz]at hs1 hs8 ⊢;have HZ:=zh1 hz;clear hz;go_wp2_with fail
 refine(qgc B g bs s z w h zo).mono ?_;rintro e w1 ⟨A,n,c,rfl,hnc,rd,h1,g1⟩;have hlt:=qgg bs s z hb;have hle:=qgf bs s z;have HX:Hid (rNum bs s z=((qg7 bs s z).1,num (qg7 bs s z).2)):=rfl;obtain⟨T,hT⟩:=xeq ((qg7 bs s z).2);obtain⟨s',hs'⟩:=xeq ((qg7 bs s z).1);rw[hT]at rd hlt hle HX;rw[hs']at h1 HX;have hl:=qb5 rd;have hn8:n≤8:=zo;obtain⟨A1,H1,G1,HL⟩:=zh4 rd h1 g1 hl;clear rd h1 g1 hT hs' h hl;go_wp2
 obtain⟨wo,rfl⟩:=eqx w1;go_loopw [5,13] (fun v i wr=>∃j:Nat,j≤n∧i=.int .i64 j∧v=.int .u64 (num (T.take j):Nat)∧wr=wo) (fun _ i _=>n - (intOf i).toNat)
 case atStart=>exact⟨0,by omega,rfl,rfl,rfl⟩
 case round=>
  obtain⟨j,hj,rfl,rfl,rfl⟩:=hrel;by_cases hjn:j<n
  ·
   have qk:(j:Int)<n:=zo;obtain⟨x,hx⟩:∃x,T[j]? =some x:=⟨_,tA7 (by rw[HL.o];exact hjn)⟩;obtain⟨gb,go,hA,hgb,hrd⟩:=A1.mid zo zo;have m0:=hrd j (.int .u8 x) (by simp[byv,hx]);subst hA;have hx256:x<256:=hlt x (tB2 hx);have hxx:IntKind.u64.wrap (x:Int)=x:=tBa _ zo;have hnl:=qge (T.take j) (fun y hy=>hlt y (tB7 hy));have hpow:256^(T.take j).length≤256^7:=Nat.pow_le_pow_right zo (by rw[tBd];have:=HL.o;omega);have hnew:num (T.take (j+1))=num (T.take j)*256+x:=by rw[List.take_add_one,hx];exact qgd _ _
   obtain⟨y,hy⟩:=xeq (num (T.take j));rw[hy]at hnl hnew ⊢;have hy56:y<72057594037927936:=zo;have hor:=or64 y x hy56 hx256;have A0:=zh1 hnew;clear hnl hpow hnew hy hrd hx;have HJ:=zh1 hjn;go_wp2
   go_roundw
   case rel=>exact⟨j+1,HJ.o,by go_num,by rw[A0.o];push_cast;rfl,by first|rfl|trivial⟩
   case measure=>have:=HJ.o;simp[intOf];omega
  have qk:¬(j:Int)<n:=zo;rw[tB5 (by rw[HL.o];omega)];go_wp2
  go_ret
  exact⟨by rw[HZ.o,HX.o];rfl,by rw[HZ.o,HX.o];exact H1.o,G1.o⟩
def rDig (bs:List Nat)(s:RSt):RSt × List Nat:=((qg7 bs s 32).1,(qg7 bs s 32).2++List.replicate (32 - (qg7 bs s 32).2.length) 0)
theorem qgj(bs:List Nat)(s:RSt):(rDig bs s).2.length=32:=by
 have:=qgf bs s 32;simp[rDig];omega
theorem qgk(bs:List Nat)(s:RSt)(h:∀x∈bs,x<256):∀x∈(rDig bs s).2,x<256:=by
 intro x hx;simp only[rDig,tBg,List.mem_replicate]at hx;rcases hx with hx|⟨-,rfl⟩
 · exact qgg bs s 32 h x hx
 omega
theorem qgl(B g:Nat)(bs:List Nat)(s:RSt)(w:World)(h:Rd w B g bs s):
 Zc 71 #[.pointer (some ⟨g,0,none⟩)] w fun e w'=>e=.returned (.agg (byv (rDig bs s).2).toArray)∧Rd w' B g bs (rDig bs s).1∧w.grownBy w' (some g):=by
 have hX:rDig bs s=((qg7 bs s 32).1,(qg7 bs s 32).2++List.replicate (32 - (qg7 bs s 32).2.length) 0):=rfl;have hle:=qgf bs s 32;have T2:=fun w h=>qgc B g bs s 32 w h zo
 obtain⟨T,hT⟩:=xeq ((qg7 bs s 32).2);obtain⟨s',hs'⟩:=xeq ((qg7 bs s 32).1);rw[hT]at hle;rw[hT,hs']at hX;simp only[hT,hs']at T2;obtain⟨HX,A0,H⟩:=zh3 hX T2 h;have hlt:=h.lt;clear hX T2 hT hs' h;obtain⟨W0,hW0⟩:=eqx ((w.alloc (.cells zLD 29)).alloc (.cells zLD 29));have r0:=zNb hW0;have d0:=zNc hW0;have b0:=zMb hW0;obtain⟨R0,D0,B0,A1⟩:=zh4 r0 d0 b0 hW0;clear r0 d0 b0 hW0;go_enter Tryz.func71,Tryz.ntmps71
 go_upto_region 2 with(fail)
 rw[←A1.o];obtain⟨S,HS⟩:∃S:World→Prop,Hid (∀w',S w'):=⟨fun _=>True,fun _=>trivial⟩;refine zrs S 3 [(0,false),(1,false),(2,true),(3,true)] (HS.o _) ?_;iterate 2 (refine zrb ?_)
 refine zw ?_;go_simp;refine(A0.o W0.drew (H.below B0.drew)).mono ?_;rintro e w1 ⟨A,n,c,rfl,hnc,rd,h1,g1⟩;refine⟨HS.o _,zput ?_⟩;have hl:=qb5 rd;have d1:=D0.grown (w:=W0.drew) g1 (by simp;omega);have r1:=R0.grown (w:=W0.drew) g1 (by simp;omega);refine zw ?_;refine qf1 (.tmp 4) (.tmp 6) 23 23 rfl 5 zk zk _ _ _ _ _ _ rfl rfl (w.heap.size+1) 0 (byv (List.replicate 32 0)) 29 d1 (byv T) (by rw[qat,hl];show n=min n 32;omega) (fun h0=>⟨rfl,?_⟩) (by rw[qat,qat,List.length_replicate];omega) (qau _) ?_
 · obtain⟨ad,e,-,hc⟩:=rd.2 (by rw[qat]at h0;omega)
   exact⟨ad,e,hc⟩
 intro w2 HG2 g2;rw[show (byv T).length=n by rw[qat,hl]];refine⟨fun _=>HS.o _,zput ?_⟩;refine qbg ?_;have d2:Blk w2 (w.heap.size+1) 29 (byv (T++List.replicate (32 - T.length) 0)).toArray:=by
  have h:=HG2.o;rw[qez]at h;exact h
 have r2:=r1.grown g2 zm;have h2:Rd w2 B g bs s':=h1.kept g2 d1 zdc zdc zo;obtain⟨D,hD⟩:=xeq (T++List.replicate (32 - T.length) 0);have lD:(byv D).length=32:=by rw[qat,←hD];simp;omega
 have oD:=qau D;rw[hD]at d2 HX;obtain⟨A2,HI,HI',R2,D2,H2,G1,G2⟩:=zh8 (qap d2 0 (byv D) zjq) (show (Tryz.prog.info? 29).map (·.size)=some (byv D).length by rw[lD];exact Tryz.dig_info) (show (Tryz.prog.info? 29).map (·.size)=some (byv D).toArray.size by rw[tB6,lD];exact Tryz.dig_info) r2 d2 h2 g1 g2;obtain⟨LD,OD⟩:=zh2 lD oD;clear r2 d2 h2 g1 g2 d1 r1 lD oD rd h1 hD HG2;go_wp2_with (first
  |(refine zld A2.o zu29 HI.o ?_)
  |(refine wpList_store_row rfl 29 (.tmp 2) (.tmp 8) rfl w.heap.size (byv D).toArray rfl rfl 29 _ R2.o HI'.o (by simp[LD.o]) (by simpa using OD.o) ?_))
 have z8:=R2.setRow (byv D).toArray;have A3:=qap z8 0 (byv D) zjq;refine bodyPost_ret (v:=.agg (byv D).toArray) (qao rfl rfl (run_loadVar_mid _ _ 0 _ (byv D) _ A3 Tryz.underlying29 rfl (by simpa using HI.o))) rfl ⟨by rw[HX.o],?_,?_⟩
 · rw[HX.o]
   exact H2.kept (qam _ _ _) R2.o zdc zdc zo
 have q1:=qac (qad B0.drew (some g)) (row:=some g) G1.o zm;have q2:=qac q1 G2.o zm;exact qac q2 (qam w2 w.heap.size _) zm
def RErr (w:World)(B:Nat)(v:Value):Option (Nat × Nat)→Prop
 |none=>v=.nilIface
 |some x=>∃h,v=.iface 237 (.pointer (some ⟨h,0,none⟩))∧B≤h∧Blk w h 302 #[.int .i64 (x.1:Int),.int .i64 (x.2:Int)]
theorem qgm(B g:Nat)(bs:List Nat)(s:RSt)(w:World)(h:Rd w B g bs s):
 Zc 151 #[.pointer (some ⟨g,0,none⟩)] w fun e w'=>∃v,e=.returned v∧RErr w' w.heap.size v (rEnd bs s)∧Zb w w':=by
 obtain⟨s1,s2⟩:=s;obtain⟨A,n,c,p,hg,hB,ho,hn,hc,hs,hm,hp⟩:=h;have c0:=hg.cell 0;have c1:=hg.cell 1;have c2:=hg.cell 2;rw[show (#[Value.slice A n c,.int .i64 (s1:Int),.pointer p]:Array Value)[0]? =some (.slice A n c) from rfl]at c0;rw[show (#[Value.slice A n c,.int .i64 (s1:Int),.pointer p]:Array Value)[1]? =some (.int .i64 (s1:Int)) from rfl]at c1;rw[show (#[Value.slice A n c,.int .i64 (s1:Int),.pointer p]:Array Value)[2]? =some (.pointer p) from rfl]at c2;dsimp only at hs;have hlt:=hg.lt;cases s2 with
 |some x=>
  obtain⟨a,y⟩:=x;obtain⟨k,rfl,hk,hkb⟩:=hp;have k0:=hkb.cell 0;have k1:=hkb.cell 1;rw[show (#[Value.int .i64 (a:Int),.int .i64 (y:Int)]:Array Value)[0]? =some (.int .i64 (a:Int)) from rfl]at k0;rw[show (#[Value.int .i64 (a:Int),.int .i64 (y:Int)]:Array Value)[1]? =some (.int .i64 (y:Int)) from rfl]at k1;have hklt:=hkb.lt;clear hkb hg ho;go_enter Tryz.func151,Tryz.ntmps151
  go_wp2
  obtain⟨S,HS⟩:=zS fun w'=>w'.cell? ⟨g,2,none⟩=some (.pointer (some ⟨k,0,none⟩))∧w'.cell? ⟨k,0,none⟩=some (.int .i64 (a:Int))∧w'.cell? ⟨k,1,none⟩=some (.int .i64 (y:Int))
  refine zrs S 18 (zq 0 15 [(15,true),(16,false),(17,false)]) ((HS.o _).mpr ⟨c2,k0,k1⟩) ?_;repeat(refine zrt0 ?_)
  refine zw ?_;go_simp;refine⟨(HS.o _).mpr ⟨qaj c2 _,qaj k0 _,qaj k1 _⟩,zput ?_⟩;repeat(refine zrt0 ?_)
  refine qbg ?_;go_wp2
  go_ret
  exact⟨_,rfl,⟨_,rfl,tA4 _,Blk.new _ _ _⟩,qah (tA5 _ _).drew _⟩
 |none=>
  obtain rfl:p=none:=hp;by_cases hlt2:s1<n
  ·
   have q:(s1:Int)<n:=zo;have HE:Hid (rEnd bs (s1,none)=some (s1,11)):=by
    show (if s1<bs.length then _ else _)=_;rw[←hn,if_pos hlt2]
   clear hg ho hn;go_enter Tryz.func151,Tryz.ntmps151
   go_wp2
   obtain⟨S,HS⟩:=zS fun w'=>w'.cell? ⟨g,0,none⟩=some (.slice A n c)∧w'.cell? ⟨g,1,none⟩=some (.int .i64 (s1:Int))
   refine zrs S 11 (zq 0 11 []) ((HS.o _).mpr ⟨c0,c1⟩) ?_;repeat(refine zrt0 ?_)
   refine qbg ?_;go_wp2
   go_ret
   exact⟨_,rfl,by rw[HE.o];exact⟨_,rfl,tA4 _,Blk.new _ _ _⟩,qah (tA5 _ _).drew _⟩
  have q:¬(s1:Int)<n:=zo;have HE:Hid (rEnd bs (s1,none)=none):=by
   show (if s1<bs.length then _ else _)=_;rw[←hn,if_neg hlt2]
  clear hg ho hn;go_enter Tryz.func151,Tryz.ntmps151
  go_wp2
  obtain⟨S,HS⟩:=zS fun w'=>w'.cell? ⟨g,0,none⟩=some (.slice A n c)∧w'.cell? ⟨g,1,none⟩=some (.int .i64 (s1:Int))
  refine zrs S 11 (zq 0 11 []) ((HS.o _).mpr ⟨c0,c1⟩) ?_;repeat(refine zrt0 ?_)
  refine qbg ?_;go_wp2
  go_ret
  exact⟨_,rfl,by rw[HE.o];rfl,(tA5 _ _).drew⟩
section
open Go.RowKit Go.Extern.Stop Go.Stop Go.Extern
theorem qgn(t:Value)(w:World):
 Zc 126 #[.nilIface,t] w fun e w'=>e=.returned (.bool false)∧w'=w:=by
 go_enter Tryz.func126,Tryz.ntmps126
 go_wp2
 go_ret
 exact⟨rfl,rfl⟩
theorem As.methodKind(h:Value)(w:World):(Go.method 495 327 (.agg #[h]) "Kind").run Tryz.prog w=.ok (280,h) w:=by kernel_rfl
theorem rlm(z:Sem Value)(f:TypeId→Addr→Nat→Nat→Sem Value)(v:Value):
 ReflectliteValue.method z f #[v]=(do match ←ReflectliteValue.parts v with|none=>z|some (t,a,fl)=>f t a fl (fl % 32)):=rfl
theorem As.methodElem(h:Value)(w:World):(Go.method 495 327 (.agg #[h]) "Elem").run Tryz.prog w=.ok (294,.agg #[h]) w:=by kernel_rfl
theorem As.methodImplements(h:Value)(w:World):(Go.method 495 327 (.agg #[h]) "Implements").run Tryz.prog w=.ok (295,.agg #[h]) w:=by kernel_rfl
theorem As.methodAssignableTo(h:Value)(w:World):(Go.method 495 327 (.agg #[h]) "AssignableTo").run Tryz.prog w=.ok (292,.agg #[h]) w:=by kernel_rfl
theorem rls(v x:Value):ReflectliteValue.set #[v,x]=(do
 let (some (dst,a,fl),some (src,b,_)):=(←ReflectliteValue.parts v,←ReflectliteValue.parts x)
  |unsupported (.noEntry "extern/(internal/reflectlite.Value).Set.zeroValue")
 if fl / ReflectliteValue.flagAddr % 2==0 then unsupported (.noEntry "extern/(internal/reflectlite.Value).Set.unaddressable")
 let val ←loadVar src b
 if ←Rtype.directlyAssignable dst src then storeVar dst a val
 else if ←Rtype.implements dst src then
  if (←Rtype.kind src)==20 then
   match val with
   |.nilIface=>unsupported (.noEntry "extern/reflectlite: a nil value of one interface type handed on as a value of another")
   |_=>storeVar dst a val
  else storeVar dst a (.iface src val)
 else panicString ("reflectlite.Set: value of type "++(←Rtype.spelt src)++ " is not assignable to type "++(←Rtype.spelt dst))
 pure (.tuple #[])):=rfl
structure AsT (t1 t2 tb:TypeId):Prop where
 valueOf27:∀(t:Addr) (w:World),(ReflectliteValue.unpack (.iface t2 (.pointer (some t)))).run Tryz.prog w=.ok (.agg #[.pointer (some ⟨3,t2,none⟩),.pointer (some ⟨w.heap.size,0,none⟩),.int .u64 150]) (w.alloc (.cells #[.pointer (some t)] t2)):=by(intros;kernel_rfl)
 type27:∀(a:Addr) (w:World),(ReflectliteValue.methodAny (ReflectliteValue.valueError "reflectlite.Value.Type" 0) (fun t _ _ _=>ReflectliteType.toType t) #[.agg #[.pointer (some ⟨3,t2,none⟩),.pointer (some a),.int .u64 150]]).run Tryz.prog w=.ok (.iface 327 (.agg #[.pointer (some ⟨3,t2,none⟩)])) w:=by(intros;kernel_rfl)
 kind27:∀(w:World),((ReflectliteType.abiMethod fun t=>(fun a:Nat=>Value.int IntKind.u8 (a:Int))<$>Rtype.kind t) #[.pointer (some ⟨3,t2,none⟩)]).run Tryz.prog w=.ok (.int .u8 22) w:=by(intros;kernel_rfl)
 kind25:∀(w:World),((ReflectliteType.abiMethod fun t=>(fun a:Nat=>Value.int IntKind.u8 (a:Int))<$>Rtype.kind t) #[.pointer (some ⟨3,t1,none⟩)]).run Tryz.prog w=.ok (.int .u8 22) w:=by(intros;kernel_rfl)
 parts27:∀(a:Addr) (w:World),(ReflectliteValue.parts (.agg #[.pointer (some ⟨3,t2,none⟩),.pointer (some a),.int .u64 150])).run Tryz.prog w=.ok (some (t2,a,150)) w:=by(intros;kernel_rfl)
 elem27:∀(w:World),(ReflectliteType.method ReflectliteType.elem #[.agg #[.pointer (some ⟨3,t2,none⟩)]]).run Tryz.prog w=.ok (.iface 327 (.agg #[.pointer (some ⟨3,t1,none⟩)])) w:=by(intros;kernel_rfl)
 implements25:∀(w:World),(ReflectliteType.relation "Implements" ReflectliteType.implements_ #[.agg #[.pointer (some ⟨3,t1,none⟩)],.iface 327 (.agg #[.pointer (some ⟨3,81,none⟩)])]).run Tryz.prog w=.ok (.bool true) w:=by(intros;kernel_rfl)
 typeOf25:∀(v:Value) (w:World),(ReflectliteType.typeOf #[.iface t1 v]).run Tryz.prog w=.ok (.iface 327 (.agg #[.pointer (some ⟨3,t1,none⟩)])) w:=by(intros;kernel_rfl)
 assignable25:∀(w:World),(ReflectliteType.relation "AssignableTo" ReflectliteType.assignableTo #[.agg #[.pointer (some ⟨3,t1,none⟩)],.iface 327 (.agg #[.pointer (some ⟨3,t1,none⟩)])]).run Tryz.prog w=.ok (.bool true) w:=by(intros;kernel_rfl)
 valueOf25:∀(e:Addr) (w:World),(ReflectliteValue.unpack (.iface t1 (.pointer (some e)))).run Tryz.prog w=.ok (.agg #[.pointer (some ⟨3,t1,none⟩),.pointer (some ⟨w.heap.size,0,none⟩),.int .u64 150]) (w.alloc (.cells #[.pointer (some e)] t1)):=by(intros;kernel_rfl)
 elemOf27:∀(w:World),(Rtype.elem? t2).run Tryz.prog w=.ok (some t1) w:=by(intros;kernel_rfl)
 mk25:∀(p:Addr) (w:World),(ReflectliteValue.mk t1 p ReflectliteValue.flagAddr).run Tryz.prog w=.ok (.agg #[.pointer (some ⟨3,t1,none⟩),.pointer (some p),.int .u64 406]) w:=by(intros;kernel_rfl)
 parts25a:∀(a:Addr) (w:World),(ReflectliteValue.parts (.agg #[.pointer (some ⟨3,t1,none⟩),.pointer (some a),.int .u64 406])).run Tryz.prog w=.ok (some (t1,a,406)) w:=by(intros;kernel_rfl)
 parts25:∀(a:Addr) (w:World),(ReflectliteValue.parts (.agg #[.pointer (some ⟨3,t1,none⟩),.pointer (some a),.int .u64 150])).run Tryz.prog w=.ok (some (t1,a,150)) w:=by(intros;kernel_rfl)
 direct25:∀(w:World),(Rtype.directlyAssignable t1 t1).run Tryz.prog w=.ok true w:=by(intros;kernel_rfl)
 size25:∀(w:World),(sizeOf t1).run Tryz.prog w=.ok 1 w:=by(intros;kernel_rfl)
 u1:Tryz.prog.underlying t1=some (.pointer tb):=by kernel_rfl
 u2:Tryz.prog.underlying t2=some (.pointer t1):=by kernel_rfl
theorem AsT.isNil27{tb:TypeId}(h:AsT t1 t2 tb)(a p:Addr)(W:World)(ha:W.cell? a=some (.pointer (some p))):
 (ReflectliteValue.method (ReflectliteValue.valueError "reflectlite.Value.IsNil" 0) ReflectliteValue.isNil #[.agg #[.pointer (some ⟨3,t2,none⟩),.pointer (some a),.int .u64 150]]).run Tryz.prog W=.ok (.bool false) W:=by
 rw[rlm];simp only[Sem.run_bind,h.parts27,Result.andThen];simp[ReflectliteValue.isNil,loadVar,isAgg,underlying,h.u2,ha,Result.andThen]
theorem AsT.elemV27{tb:TypeId}(h:AsT t1 t2 tb)(a p:Addr)(W:World)(ha:W.cell? a=some (.pointer (some p))):
 (ReflectliteValue.method (ReflectliteValue.valueError "reflectlite.Value.Elem" 0) ReflectliteValue.elem #[.agg #[.pointer (some ⟨3,t2,none⟩),.pointer (some a),.int .u64 150]]).run Tryz.prog W
  =.ok (.agg #[.pointer (some ⟨3,t1,none⟩),.pointer (some p),.int .u64 406]) W:=by
 rw[rlm];simp only[Sem.run_bind,h.parts27,Result.andThen];simp[ReflectliteValue.elem,loadVar,isAgg,underlying,h.u2,ha,Result.andThen,h.elemOf27,h.mk25]
theorem AsT.set25{tb:TypeId}(h:AsT t1 t2 tb)(ta b e:Addr)(old:Value)(W:World)(hb:W.cell? b=some (.pointer (some e)))(ht:W.cell? ta=some old)(hf:W.frozen? ta=false):
 (ReflectliteValue.set #[.agg #[.pointer (some ⟨3,t1,none⟩),.pointer (some ta),.int .u64 406],.agg #[.pointer (some ⟨3,t1,none⟩),.pointer (some b),.int .u64 150]]).run Tryz.prog W
  =.ok (.tuple #[]) (W.setCell ta (.pointer (some e))):=by
 rw[rls];simp only[Sem.run_bind,h.parts25a,h.parts25,Result.andThen];simp[ReflectliteValue.flagAddr,loadVar,isAgg,underlying,h.u1,hb,Result.andThen,h.direct25,h.size25,storeVar,Value.cells,storeCells,Addr.add];rw[run_store Tryz.prog W ta _ _ (by rfl)];simp[ht,hf]
theorem qgo{tb:TypeId}(h:AsT t1 t2 tb)(e t:Addr)(old:Value)(w:World)(hg:w.cell? ⟨0,0,none⟩=some (.iface 327 (.agg #[.pointer (some ⟨3,81,none⟩)])))(ht0:w.cell? t=some old)(hf0:w.frozen? t=false):
 Zc 126 #[.iface t1 (.pointer (some e)),.iface t2 (.pointer (some t))] w fun ev w'=>ev=.returned (.bool true)∧w'=((((w.alloc (.cells #[.pointer (some t)] t2)).alloc (.cells #[.pointer (some ⟨3,t2,none⟩),.pointer (some ⟨w.heap.size,0,none⟩),.int .u64 150] 284)).alloc (.cells #[.pointer (some ⟨3,t2,none⟩),.pointer (some ⟨w.heap.size,0,none⟩),.int .u64 150] 284)).alloc (.cells #[.pointer (some e)] t1)).setCell t (.pointer (some e)):=by
 have h6:=@run_callFunc_extern Tryz.prog 181 _ (fun args=>ReflectliteValue.unpack (args.getD 0 (.tuple #[]))) Tryz.func181 zk zk zk zk;have h7:=@run_callFunc_extern Tryz.prog 182 _ (ReflectliteValue.methodAny (ReflectliteValue.valueError "reflectlite.Value.Type" 0) (fun t _ _ _=>ReflectliteType.toType t)) Tryz.func182 zk zk zk zk;have h8:=@run_callFunc_extern Tryz.prog 183 _ (ReflectliteValue.method (ReflectliteValue.valueError "reflectlite.Value.IsNil" 0) ReflectliteValue.isNil) Tryz.func183 zk zk zk zk;have h27:=@run_callFunc_extern Tryz.prog 280 _ (ReflectliteType.abiMethod fun t=>do pure (.int .u8 (←Rtype.kind t))) Tryz.func280 zk zk zk zk;have h37:=@run_callFunc_extern Tryz.prog 294 _ (ReflectliteType.method ReflectliteType.elem) Tryz.func294 zk zk zk zk;have h38:=@run_callFunc_extern Tryz.prog 295 _ (ReflectliteType.relation "Implements" ReflectliteType.implements_) Tryz.func295 zk zk zk zk;have h10:=@run_callFunc_extern Tryz.prog 221 _ ReflectliteType.typeOf Tryz.func221 zk zk zk zk;have h35:=@run_callFunc_extern Tryz.prog 292 _ (ReflectliteType.relation "AssignableTo" ReflectliteType.assignableTo) Tryz.func292 zk zk zk zk;have h11:=@run_callFunc_extern Tryz.prog 222 _ (ReflectliteValue.method (ReflectliteValue.valueError "reflectlite.Value.Elem" 0) ReflectliteValue.elem) Tryz.func222 zk zk zk zk;have h12:=@run_callFunc_extern Tryz.prog 223 _ ReflectliteValue.set Tryz.func223 zk zk zk zk;have tO:=h.typeOf25;have mA:=As.methodAssignableTo;have a25:=h.assignable25;have v25:=h.valueOf25;have f6:=h.valueOf27;have f7:=h.type27;have mK:=As.methodKind;have mE:=As.methodElem;have mI:=As.methodImplements;have k27:=h.kind27;have k25:=h.kind25;have e27:=h.elem27;have i25:=h.implements25;have n8:=h.isNil27 ⟨w.heap.size,0,none⟩ t ((w.alloc (.cells #[.pointer (some t)] t2)).alloc (.cells #[.pointer (some ⟨3,t2,none⟩),.pointer (some ⟨w.heap.size,0,none⟩),.int .u64 150] 284)) zm;have hlt:0<w.heap.size:=by
  rcases Nat.eq_zero_or_pos w.heap.size with h0|h
  · simp[World.cell?,h0]at hg
  exact h
 have hg2:((w.alloc (.cells #[.pointer (some t)] t2)).alloc (.cells #[.pointer (some ⟨3,t2,none⟩),.pointer (some ⟨w.heap.size,0,none⟩),.int .u64 150] 284)).cell? ⟨0,0,none⟩=some (.iface 327 (.agg #[.pointer (some ⟨3,81,none⟩)])):=by
  rw[World.cell?_alloc_lt _ _ ⟨0,0,none⟩ zm,World.cell?_alloc_lt _ _ ⟨0,0,none⟩ hlt];exact hg
 have htl:t.block<w.heap.size:=by
  rcases Nat.lt_or_ge t.block w.heap.size with h|h
  · exact h
  simp[World.cell?,Array.getElem?_eq_none h]at ht0
 have el:=h.elemV27 ⟨w.heap.size,0,none⟩ t (((w.alloc (.cells #[.pointer (some t)] t2)).alloc (.cells #[.pointer (some ⟨3,t2,none⟩),.pointer (some ⟨w.heap.size,0,none⟩),.int .u64 150] 284)).alloc (.cells #[.pointer (some ⟨3,t2,none⟩),.pointer (some ⟨w.heap.size,0,none⟩),.int .u64 150] 284)) (by rw[World.cell?_alloc_lt _ _ ⟨w.heap.size,0,none⟩ (by simp;omega)];simp);have st:=h.set25 t ⟨w.heap.size+1+1+1,0,none⟩ e old ((((w.alloc (.cells #[.pointer (some t)] t2)).alloc (.cells #[.pointer (some ⟨3,t2,none⟩),.pointer (some ⟨w.heap.size,0,none⟩),.int .u64 150] 284)).alloc (.cells #[.pointer (some ⟨3,t2,none⟩),.pointer (some ⟨w.heap.size,0,none⟩),.int .u64 150] 284)).alloc (.cells #[.pointer (some e)] t1))
  (by rw[World.cell?_alloc_at _ _ _ _ zm];rfl)
  (by rw[World.cell?_alloc_lt _ _ t (by simp;omega),World.cell?_alloc_lt _ _ t (by simp;omega),World.cell?_alloc_lt _ _ t (by simp;omega),World.cell?_alloc_lt _ _ t htl];exact ht0)
  (by rw[World.frozen?_alloc_old _ _ t (by simp;omega),World.frozen?_alloc_old _ _ t (by simp;omega),World.frozen?_alloc_old _ _ t (by simp;omega),World.frozen?_alloc_old _ _ t (Nat.ne_of_lt htl)];exact hf0)
 go_enter Tryz.func126,Tryz.ntmps126
 go_wp2
 refine wp_loop_rounds 1 ?_;rw[rounds_succ];go_wp2
 go_ret
 exact⟨rfl,rfl⟩
theorem qgp(e t:Addr)(old:Value)(w:World)(hg:w.cell? ⟨0,0,none⟩=some (.iface 327 (.agg #[.pointer (some ⟨3,81,none⟩)])))(ht0:w.cell? t=some old)(hf0:w.frozen? t=false):
 Zc 126 #[.iface 237 (.pointer (some e)),.iface 243 (.pointer (some t))] w fun ev w'=>ev=.returned (.bool true)∧w'=((((w.alloc (.cells #[.pointer (some t)] 243)).alloc (.cells #[.pointer (some ⟨3,243,none⟩),.pointer (some ⟨w.heap.size,0,none⟩),.int .u64 150] 284)).alloc (.cells #[.pointer (some ⟨3,243,none⟩),.pointer (some ⟨w.heap.size,0,none⟩),.int .u64 150] 284)).alloc (.cells #[.pointer (some e)] 237)).setCell t (.pointer (some e)):=qgo (tb:=302) {} e t old w hg ht0 hf0
end
theorem qgq{α:Type}:∀(l:List α),l.length=32→∃a0 a1 a2 a3 a4 a5 a6 a7 a8 a9 a10 a11 a12 a13 a14 a15 a16 a17 a18 a19 a20 a21 a22 a23 a24 a25 a26 a27 a28 a29 a30 a31,l=[a0,a1,a2,a3,a4,a5,a6,a7,a8,a9,a10,a11,a12,a13,a14,a15,a16,a17,a18,a19,a20,a21,a22,a23,a24,a25,a26,a27,a28,a29,a30,a31]
 |[a0,a1,a2,a3,a4,a5,a6,a7,a8,a9,a10,a11,a12,a13,a14,a15,a16,a17,a18,a19,a20,a21,a22,a23,a24,a25,a26,a27,a28,a29,a30,a31],_=>⟨a0,a1,a2,a3,a4,a5,a6,a7,a8,a9,a10,a11,a12,a13,a14,a15,a16,a17,a18,a19,a20,a21,a22,a23,a24,a25,a26,a27,a28,a29,a30,a31,rfl⟩
theorem qgr(t:TypeId)(parts:Array (Nat × Operand))(ho:o.op=.build t parts)(cells:Array Value)(l:List (Nat × Value))
 (h:P.built t l=some cells)(hl:(parts.map fun(i,x)=>(i,a.eval x)).toList=l):(execOp a.eval o).run P w=.ok (.value (.agg cells)) w:=by
 subst hl;unfold execOp;simp only[ho,Sem.run_bind,run_build w t _ cells h,Result.andThen_ok,Sem.run_pure]
theorem qgs(id:Nat)(M:List Value)(h:M.length=32)(h1:∀v∈M,v.oneCell'=true):Tryz.prog.built 31 [(0,.int .u32 id),(2,.agg M.toArray)]=some (Value.int .u32 (id:Int)::.slice none 0 0::M).toArray:=by
 obtain⟨a0,a1,a2,a3,a4,a5,a6,a7,a8,a9,a10,a11,a12,a13,a14,a15,a16,a17,a18,a19,a20,a21,a22,a23,a24,a25,a26,a27,a28,a29,a30,a31,rfl⟩:=qgq M h;kernel_rfl
theorem qgt(id:Nat)(A:Option Addr)(n c:Nat)(M:List Value)(h:M.length=32):Tryz.prog.built 31 [(0,.int .u32 id),(1,.slice A n c),(2,.agg M.toArray)]=some (Value.int .u32 (id:Int)::.slice A n c::M).toArray:=by
 obtain⟨a0,a1,a2,a3,a4,a5,a6,a7,a8,a9,a10,a11,a12,a13,a14,a15,a16,a17,a18,a19,a20,a21,a22,a23,a24,a25,a26,a27,a28,a29,a30,a31,rfl⟩:=qgq M h;kernel_rfl
abbrev Tok:=Nat × List (Int × Nat) × List Nat
def qgu:Tok:=(0,[],List.replicate 32 0)
theorem qgv{fn:Func}{t s:Tmp}{tmps:Array Value}(h:fn.results=#[.cell t ty,.tmp s])(ht:tmps.getD t undef=.pointer (some ⟨g,0,none⟩))
 (hl:(loadVar ty ⟨g,0,none⟩).run P w=.ok v w):(results fn tmps).run P w=.ok (.tuple #[v,tmps.getD s undef]) w:=by
 unfold results;rw[h];simp only[Array.getD_eq_getD_getElem?]at ht;simp[ht,asAddr,hl,Sem.run_pure]
theorem qgw(s x:Operand)
 (ho:o.op=.call {callee:=.builtin .append,args:=#[s,x],argTypes:=#[27,27]})
 (base:Nat)(v:Value)(l:List (Int × Nat))(hs:a.eval s=v)(hown:OwnC w base v l)(A:Option Addr)(m c:Nat)(news:List (Int × Nat))(hx:a.eval x=.slice A m c)(hr:Reads w w.heap.size 2 A m (cavv news))
 (hlen:l.length+m≤8796093022208)(hbase:base≤w.heap.size)
 (h:∀v' w',OwnC w' base v' (l++news)→Below base w w'→w.grownBy w' v.ownBlock→K (a.put o.dst v') w'):o.wp Tryz.prog a w K Q:=by
 obtain⟨i0,hi0,hz0,hz1,hz2⟩:=info_parts Tryz.cav_info;have hm:news.length=m:=by have:=hr.1;rw[qee]at this;omega
 refine qa6 (P:=Tryz.prog) w s x _ ho base 132 i0 _ 2 16 Tryz.underlying27 hi0 hz0 hz1 hz2 rfl zo v l.length (cavv l) hs hown w.heap.size A m c (cavv news) hx hr (qec _) (by simp only[maxLen];omega) zo hbase ?_;intro v' w' h1 h2 h3;refine h v' w' ?_ ?_ h2
 · unfold OwnC
   rw[qed,tA6,hm];exact h1
 exact qae (tA5 _ _) hown h2 (tA4 _) hbase
theorem qgx{o:Nat}{t:TypeId}{L:List Value}(h:Blk w g t L.toArray)(hn:xs.length=n)(hx:∀j u,xs[j]? =some u→L[o+j]? =some u):Reads w w.heap.size 1 (some ⟨g,o,none⟩) n xs:=by
 subst hn;refine⟨by simp,fun _=>⟨_,rfl,h.lt,fun j u hu=>?_⟩⟩;rw[Addr.add_mid,h.cell];simpa using hx j u hu
theorem qgy{L:List Value}(h:Blk w g 31 L.toArray)(hl:L.length=34):(loadVar 31 ⟨g,0,none⟩).run Tryz.prog w=.ok (.agg L.toArray) w:=
 run_loadVar_mid _ _ 0 _ L _ (qap h 0 L zjq) Tryz.underlying31 rfl (by rw[hl];exact Tryz.tok_info)
def qgz:List Value:=tokv 0 (.slice none 0 0) (List.replicate 32 0)
theorem qh0:qgz.toArray.all (·.oneCell')=true:=all_oneCell_toArray (qeh 0 (.slice none 0 0) rfl (List.replicate 32 0))
theorem qh1:(Tryz.prog.info? 31).map (·.size)=some qgz.toArray.size:=by kernel_rfl
theorem qh2:(zLT:Array Value).size=qgz.toArray.size:=rfl
def Tok.Ok (t:Tok):Prop:=t.1<4294967296∧(∀c∈t.2.1,c.2<4294967296)∧t.2.2.length=32∧∀x∈t.2.2,x<256
theorem Blk.setRow_far{t:TypeId}{cs:Array Value}(h:Blk w k t cs)(hne:k≠g)(c':Array Value):Blk (w.setRow g c') k t cs:=
 h.grown (qam w g c') (fun e=>by injection e with e;exact hne e)
def qh3 (bs:List Nat):Nat→RSt→List (Int × Nat)→RSt × List (Int × Nat)
 |0,s,l=>(s,l)
 |n+1,s,l=>
  if qd9 ((rNum bs s 1).2:Int) then qh3 bs n (rNum bs (rNum bs s 1).1 4).1 (l++[(((rNum bs s 1).2:Int),(rNum bs (rNum bs s 1).1 4).2)])
  else(qg6 (rNum bs s 1).1 (rNum bs s 1).1.1 12,l)
def qh4 (bs:List Nat)(s:RSt)(n:Nat):RSt × Nat:=if 4<n then(qg6 s s.1 4,0) else(s,n)
def decT (bs:List Nat)(s:RSt):RSt × Tok:=
 let a:=rNum bs s 4
 let b:=rNum bs a.1 1
 let c:=qh4 bs b.1 b.2
 let d:=qh3 bs c.2 c.1 []
 let f:=rDig bs d.1
 (f.1,(a.2,d.2,f.2))
def qh5 (bs:List Nat):Option (Nat × Nat) × Tok:=match rEnd bs (decT bs (0,none)).1 with
 |none=>(none,(decT bs (0,none)).2)
 |some x=>(some x,qgu)
theorem adv(h:Below B w w1)(k:w1.grownBy w2 (some g))(hB:B≤g)(hg:g<w1.heap.size):Below B w w2:=h.trans (qg8 k hB hg)
theorem qh6:Tryz.prog.built 31 []=some qgz.toArray:=by kernel_rfl
theorem qh7(h tb:Nat)(old:Value)(w:World)(hg:w.cell? ⟨0,0,none⟩=some (.iface 327 (.agg #[.pointer (some ⟨3,81,none⟩)])))(ht:Blk w tb 237 #[old]):
 Zc 126 #[.iface 237 (.pointer (some ⟨h,0,none⟩)),.iface 243 (.pointer (some ⟨tb,0,none⟩))] w fun e w'=>e=.returned (.bool true)∧Blk w' tb 237 #[.pointer (some ⟨h,0,none⟩)]∧w.grownBy w' (some tb):=by
 refine(qgp ⟨h,0,none⟩ ⟨tb,0,none⟩ old w hg (by simpa using ht.cell 0) (ht.frozen 0)).mono ?_;rintro e w' ⟨rfl,rfl⟩;refine⟨rfl,?_,qab (qaa (qaa (qaa (qaa (tB9 _ _) _) _) _) _) (.inl rfl) _⟩;have:=((((ht.alloc (.cells #[.pointer (some ⟨tb,0,none⟩)] 243)).alloc (.cells #[.pointer (some ⟨3,243,none⟩),.pointer (some ⟨w.heap.size,0,none⟩),.int .u64 150] 284)).alloc (.cells #[.pointer (some ⟨3,243,none⟩),.pointer (some ⟨w.heap.size,0,none⟩),.int .u64 150] 284)).alloc (.cells #[.pointer (some ⟨h,0,none⟩)] 237)).set_ 0 (.pointer (some ⟨h,0,none⟩));simpa using this
theorem qh8(id:Nat)(v:Value)(t tag:List Nat)(h:t.length=32)(h':tag.length=32):(tokv id v t).take 2++(byv tag++(tokv id v t).drop (2+(byv tag).length))=tokv id v tag:=by
 rw[qat,h',List.drop_eq_nil_of_le (by rw[qdg _ _ _ h];omega)];simp[tokv]
theorem qh9(id:Nat):Tryz.prog.built 31 [(0,.int .u32 id)]=some (tokv id (.slice none 0 0) (List.replicate 32 0)).toArray:=by kernel_rfl
theorem qha(bs:List Nat)(A:Option Addr)(n c:Nat)(w:World)(hr:Reads w w.heap.size 1 A n (byv bs))(hn:n≤140737488355328)(hb:∀x∈bs,x<256)(hE:w.cell? ⟨0,0,none⟩=some (.iface 327 (.agg #[.pointer (some ⟨3,81,none⟩)]))):
 Zc 74 #[.slice A n c] w fun e w'=>∃v r,e=.returned (.tuple #[.agg (tokv (qh5 bs).2.1 v (qh5 bs).2.2.2).toArray,r])∧OwnC w' w.heap.size v (qh5 bs).2.2.1∧RErr w' w.heap.size r (qh5 bs).1∧Zb w w':=by
 have HB:=zh1 hb;have r0:=Blk.new w 31 zLT;obtain⟨HE,R0,HR⟩:=zh3 hE r0 (hr.laid (.cells zLT 31));clear hE r0 hr;go_enter Tryz.func74,Tryz.ntmps74
 go_wp2_with fail
 refine(qg9 bs A n c _ HR.o hn).mono ?_;rintro e w1 ⟨g,rfl,h1,b1⟩;go_wp2_with fail
 obtain⟨B,hB⟩:=xeq ((w.alloc (.cells zLT 31)).heap.size);have hB1:B=w.heap.size+1:=by rw[←hB,qar]
 have r1:=R0.below b1 R0.lt;have bl1:Zb w w1:=((tA5 _ _).alloc (tA4 _) _).trans (b1.mono (by rw[hB];omega));rw[hB]at h1;clear b1 hB;refine(qgi B g bs (0,none) 4 w1 h1 HB.o).mono ?_;rintro e w2 ⟨rfl,h2,g2⟩;have hBg:=h1.le;have bl2:=adv bl1 g2 zo h1.lt;have r2:=r1.grown g2 (by simp;omega);have a4:=qgh bs (0,none) 4 HB.o;have e4:qb0 4=4:=rfl;rw[e4]at h2 ⊢;clear e4;obtain⟨ra,hra⟩:=xeq (rNum bs (0,none) 4);rw[hra]at h2 a4 ⊢;obtain⟨s2,id⟩:=ra;dsimp only at h2 a4 ⊢;have hid:id<4294967296:=Nat.lt_of_lt_of_eq a4 zdc;have u0:IntKind.u32.wrap (id:Int)=id:=by rw[IntKind.wrap_u32];omega
 obtain⟨RA,H2,A5,R2⟩:=zh4 hra h2 bl2 r2;clear h1 h2 g2 bl1 bl2 r1 r2 hra a4;have bD:=qh9 id;have lD:=qdg id (.slice none 0 0) (List.replicate 32 0) zm;have oD:=qeh id (.slice none 0 0) rfl (List.replicate 32 0);obtain⟨D,hD⟩:=xeq (tokv id (.slice none 0 0) (List.replicate 32 0));rw[hD]at bD lD oD;obtain⟨I2,Z2,BD,LD,OD,HD⟩:=zh6 (show (Tryz.prog.info? 31).map (·.size)=some D.toArray.size by rw[tB6,lD];exact Tryz.tok_info) (Blk.new w2 31 zLT) bD lD oD hD;clear bD lD oD hD;go_upto_region 3 with(first
  |(refine qbk rfl ⟨.agg D.toArray,qgr 31 _ rfl _ _ BD.o (by simp[Act.eval]),?_⟩)
  |(refine wpList_store_row rfl 31 (.tmp 5) (.tmp 15) rfl w2.heap.size D.toArray rfl rfl 31 _ Z2.o I2.o (by simp[LD.o]) (by simpa using OD.o) ?_))
 obtain⟨w3,hw3⟩:=eqx ((w2.alloc (.cells zLT 31)).setRow w2.heap.size D.toArray);rw[←hw3];obtain⟨G5,hG5⟩:=xeq w2.heap.size;have t3:Blk w3 G5 31 D.toArray:=by rw[hw3,←hG5];exact Z2.setRow _
 have b23:Zb w2 w3:=by rw[hw3];exact below_setRow ((tA5 _ _).alloc (tA4 _) _) (tA4 _) _
 have h3:=H2.below b23;have r3:=R2.below b23 R2.lt;have bl3:Zb w w3:=A5.trans (b23.mono A5.size);have hgG:g<G5:=by rw[←hG5];exact H2.lt
 rw[hG5];clear hw3 b23 hG5 Z2 H2 R2 A5;go_wp2_with fail
 refine(qgi B g bs s2 1 w3 h3 HB.o).mono ?_;rintro e w4 ⟨rfl,h4,g4⟩;have bl4:=adv bl3 g4 zo h3.lt;have r4:=r3.grown g4 (by simp;omega);have t4:=t3.grown g4 (by simp;omega);have m4:=qgh bs s2 1 HB.o;have e1:qb0 1=1:=rfl;rw[e1]at h4 ⊢;clear e1;obtain⟨rb,hrb⟩:=xeq (rNum bs s2 1);rw[hrb]at h4 m4 ⊢;obtain⟨s4,m⟩:=rb;dsimp only at h4 m4 ⊢;have m4':m<256:=Nat.lt_of_lt_of_eq m4 zdc;obtain⟨RB,H4,A6,R4,T4⟩:=zh5 hrb h4 bl4 r4 t4;clear h3 h4 g4 bl3 bl4 r3 r4 t3 t4 hrb m4;go_upto_if 19 with(fail)
 obtain⟨⟨s5,m'⟩,hhd⟩:∃x,qh4 bs s4 m=x:=⟨_,rfl⟩;have A7:=zh1 hhd;have hm':m'≤4:=by unfold qh4 at hhd;split at hhd<;>(injection hhd;omega)
 clear hhd;go_cut [6] (fun s6 wx=>s6=.int .u64 m'∧Hid (Rd wx B g bs s5)∧Hid (Blk wx G5 31 D.toArray)∧Hid (Blk wx w.heap.size 31 zLT)∧Hid (Zb w wx))
 case first=>
  by_cases hm:4<m
  ·
   have hmi:(4:Int)<m:=zo;have hd:=A7.o;rw[qh4,if_pos hm]at hd;injection hd with hd1 hd2;subst hd1 hd2;go_wp2_with fail
   refine(qgb B g bs s4 4 w4 H4.o zdc).mono ?_;rintro e w5 ⟨rfl,h5,g5⟩;obtain⟨AI,AJ,AK,H5⟩:=zh4 (adv A6.o g5 zo H4.lt) (R4.grown g5 (by simp;omega)) (T4.grown g5 (by simp;omega)) h5;clear h5 g5;go_wp2
   go_meet
   case rel=>exact⟨rfl,H5.o,AK.o,AJ.o,AI.o⟩
  have hmi:¬(4:Int)<m:=zo;have hd:=A7.o;rw[qh4,if_neg hm]at hd;injection hd with hd1 hd2;subst hd1 hd2;go_wp2
  go_meet
  case rel=>exact⟨rfl,H4.o,T4.o,R4.o,A6.o⟩
 case rest=>
  obtain⟨rfl,H5,T5,R5,A8⟩:=hcut;clear H4 T4 R4 A6;go_upto_block 0 with fail
  go_cut [] (fun wx=>∃(s:RSt) (l:List (Int × Nat)) (v:Value),Hid (qh3 bs m' s5 []=(s,l))∧l.length≤4∧Hid (Rd wx B g bs s)∧Hid (OwnC wx w.heap.size v l)∧Hid (Blk wx G5 31 (tokv id v (List.replicate 32 0)).toArray)∧Hid (Blk wx w.heap.size 31 zLT)∧Hid (Zb w wx))
  case first=>
   go_wp2_with fail
   go_loopw [23] (fun i wr=>∃(j:Nat) (s:RSt) (l:List (Int × Nat)) (v:Value),j≤m'∧i=.int .u64 j∧l.length≤j∧Hid (qh3 bs (m' - j) s l=qh3 bs m' s5 [])∧Hid (Rd wr B g bs s)∧Hid (OwnC wr w.heap.size v l)∧Hid (Blk wr G5 31 (tokv id v (List.replicate 32 0)).toArray)∧Hid (Blk wr w.heap.size 31 zLT)∧Hid (Zb w wr)) (fun i _=>m' - (intOf i).toNat)
   case atStart=>exact⟨0,s5,[],.slice none 0 0,by omega,rfl,by simp,rfl,H5.o,OwnC.nil _ _,by rw[HD.o];exact T5.o,R5.o,A8.o⟩
   case round=>
    clear H5 T5 R5 A8;obtain⟨j,s,l,v,hj,rfl,hl,hdec,hrd,hov,htb,hrb,hbl⟩:=hrel;by_cases hjm:j<m'
    ·
     have qk:(j:Int)<m':=zo;go_wp2_with fail
     refine(qgi B g bs s 1 wr hrd.o HB.o).mono ?_;rintro e wa ⟨rfl,ha,ga⟩;have hkl:=qgh bs s 1 HB.o;have e1:qb0 1=1:=rfl;rw[e1]at ha ⊢;clear e1;obtain⟨⟨sa,k⟩,hka⟩:∃x,rNum bs s 1=x:=⟨_,rfl⟩;rw[hka]at ha hkl ⊢;dsimp only at ha hkl ⊢;have hk256:k<256:=Nat.lt_of_lt_of_eq hkl zdc;have hki:IntKind.i64.wrap (k:Int)=k:=tBb _ zo;obtain⟨BLa,Ra,Ta⟩:=zh3 (adv hbl.o ga zo hrd.lt) (hrb.grown ga (by simp;omega)) (htb.grown ga (by simp;omega));have Oa:=zh1 (show OwnC wa w.heap.size v l from tB3 hov.o ga (.inr (fun e=>by
      obtain⟨A',n',c',p',hgb,-⟩:=hrd.o;exact qa3 hov.o hgb zdc e)))
     obtain⟨Ha,KA⟩:=zh2 ha hka;clear ha ga hkl hka hrd hov htb hrb hbl;by_cases hkb:qd9 (k:Int)=true
     ·
      go_wp2_with fail
      refine(qdd k _).mono ?_;rintro e _ ⟨rfl,rfl⟩;rw[hkb];go_upto_region 12 with(fail)
      have t1:=Ta.cell 1;rw[show (tokv id v (List.replicate 32 0)).toArray[1]? =some v from rfl]at t1;have b4:=qgh bs sa 4 HB.o;have RN:=fun w h=>qgi B g bs sa 4 w h HB.o
      have e4:qb0 4=4:=rfl;rw[e4]at RN;clear e4;obtain⟨⟨sb,N⟩,hkb4⟩:∃x,rNum bs sa 4=x:=⟨_,rfl⟩;simp only[hkb4,Zb]at RN b4;have hN:N<4294967296:=Nat.lt_of_lt_of_eq b4 zdc;have hNi:IntKind.u32.wrap (N:Int)=N:=by rw[IntKind.wrap_u32];omega
      obtain⟨KB,AL⟩:=zh2 hkb4 RN;clear b4 hkb4 RN;have hlt:G5<wa.heap.size:=Ta.lt;obtain⟨S,HS⟩:=zS fun w'=>w'.cell? ⟨G5,1,none⟩=some v
      refine zrs S 10 (zq 0 4 [(4,true),(5,false),(6,false),(7,true),(8,true),(9,false),(10,true)]) ((HS.o _).mpr t1) ?_;repeat(refine zrt0 ?_)
      refine zw ?_;go_simp;refine(AL.o wa.drew Ha.o).mono ?_;rintro e wb ⟨rfl,hbb,gb⟩;have tb:=(show Blk wa.drew G5 31 _ from Ta.o).grown gb (by simp;omega);have rb:=(show Blk wa.drew w.heap.size 31 _ from Ra.o).grown gb (by simp;omega);have tb1:=tb.cell 1;rw[show (tokv id v (List.replicate 32 0)).toArray[1]? =some v from rfl]at tb1;have hgl:g<wa.heap.size:=Ha.lt;have blb:=adv (show Zb w wa.drew from BLa.drew) gb zo hgl;have ob:OwnC wb w.heap.size v l:=tB3 (show OwnC wa.drew w.heap.size v l from Oa.o) gb (.inr (fun e=>by
       obtain⟨A',n',c',p',hgb,-⟩:=Ha.o;exact qa3 Oa.o hgb zdc e))
      refine⟨(HS.o _).mpr tb1,zput ?_⟩;repeat(refine zrt0 ?_)
      refine zw ?_;go_simp;refine⟨(HS.o _).mpr (qaj tb1 _),zput ?_⟩;have hbB:=blb.size;have rc:Reads (wb.alloc (.cells #[.int .i64 (k:Int),.int .u32 (N:Int)] 132)) (wb.alloc (.cells #[.int .i64 (k:Int),.int .u32 (N:Int)] 132)).heap.size 2 (some ⟨wb.heap.size,0,none⟩) 1 (cavv [((k:Int),N)]):=by
       have:=Reads.new wb 132 (cavv [((k:Int),N)]) 2 1 (by rw[qee];rfl);rw[qar];exact this
      refine zw ?_;refine qgw (.tmp 34) (.tmp 40) rfl w.heap.size v l rfl (ob.alloc _) _ 1 1 [((k:Int),N)] rfl rc zo (by rw[qar];omega) ?_;intro v9 wd od bd gd;obtain⟨A9,n9,c9,rfl,-,-,-,-⟩:=od.sl;have td:=(tb.alloc (.cells #[.int .i64 (k:Int),.int .u32 (N:Int)] 132)).grown gd (Ne.symm (qa3 ob tb zdc));have td1:=td.cell 1;rw[show (tokv id v (List.replicate 32 0)).toArray[1]? =some v from rfl]at td1;refine⟨fun _=>(HS.o _).mpr td1,zput ?_⟩;repeat(refine zrt0 ?_)
      have td1f:=td.frozen 1;have hd:=(hbb.below ((tA5 _ _).alloc (tA4 _) (.cells #[.int .i64 (k:Int),.int .u32 (N:Int)] 132))).grown (ob.alloc _) gd;have rd:=(rb.alloc (.cells #[.int .i64 (k:Int),.int .u32 (N:Int)] 132)).grown gd (Ne.symm (qa3 ob rb zdc));have bld:Zb w wd:=(qah blb _).trans bd;have ne1:=qa3 od td zdc;refine zw ?_;go_simp;refine qbg ?_;have AM:=zh1 (hd.kept (k:=G5) (tB9 _ _ |> fun q=>qab (p:=⟨G5,1,none⟩) q (.inl rfl) (.slice A9 n9 c9)) td zdc zdc zo);have AN:Hid (Blk (wd.setCell ⟨G5,1,none⟩ (.slice A9 n9 c9)) G5 31 (tokv id (.slice A9 n9 c9) (List.replicate 32 0)).toArray):=by
       have:=td.set_ 1 (.slice A9 n9 c9);rw[show (tokv id v (List.replicate 32 0)).toArray.setIfInBounds 1 (.slice A9 n9 c9)=(tokv id (.slice A9 n9 c9) (List.replicate 32 0)).toArray by simp[tokv]]at this;exact this
      obtain⟨AO,AP,AQ⟩:=zh3 (rd.far (p:=⟨G5,1,none⟩) (by show w.heap.size≠G5;omega) (.slice A9 n9 c9)) (show OwnC (wd.setCell ⟨G5,1,none⟩ (.slice A9 n9 c9)) w.heap.size (.slice A9 n9 c9) (l++[((k:Int),N)]) from qal od (p:=⟨G5,1,none⟩) ne1 (.slice A9 n9 c9)) (bld.setCell (p:=⟨G5,1,none⟩) (by show w.heap.size≤G5;omega) (.slice A9 n9 c9));have A2:Hid (qh3 bs (m' - (j+1)) sb (l++[((k:Int),N)])=qh3 bs m' s5 []):=by
       show _=_;rw[←hdec.o,show m' - j=(m' - (j+1))+1 by omega];show _=(if qd9 ((rNum bs s 1).2:Int) then _ else _);rw[KA.o,if_pos hkb,KB.o]
      clear hd rd bld ne1 td td1 td1f tb tb1 rb blb ob od bd gd hbb gb rc Ha Oa Ta Ra BLa t1;go_wp2
      go_roundw
      case rel=>exact⟨j+1,sb,l++[((k:Int),N)],(.slice A9 n9 c9),by omega,by go_num,by rw[tA6];simp;omega,A2.o,AM.o,AP.o,AN.o,AO.o,AQ.o⟩
      case measure=>simp[intOf];omega
     have hkb':qd9 (k:Int)=false:=by simpa using hkb
     go_wp2_with fail
     refine(qdd k _).mono ?_;rintro e _ ⟨rfl,rfl⟩;rw[hkb'];go_wp2_with fail
     refine(qgb B g bs sa 12 wa Ha.o zdc).mono ?_;rintro e wb ⟨rfl,hbb,gb⟩;obtain⟨BLb,Rb,Tb⟩:=zh3 (adv BLa.o gb zo Ha.lt) (Ra.grown gb (by simp;omega)) (Ta.grown gb (by simp;omega));have Ob:=zh1 (show OwnC wb w.heap.size v l from tB3 Oa.o gb (.inr (fun e=>by
      obtain⟨A',n',c',p',hgb,-⟩:=Ha.o;exact qa3 Oa.o hgb zdc e)))
     have Hb:=zh1 hbb;have A2:Hid (qh3 bs m' s5 []=(qg6 sa sa.1 12,l)):=by
      rw[←hdec.o,show m' - j=(m' - j - 1)+1 by omega];show (if qd9 ((rNum bs s 1).2:Int) then _ else _)=_;rw[KA.o,if_neg (by simp[hkb'])]
     clear hbb gb Ha Oa Ta Ra BLa;go_wp2
     go_meet
     case rel=>exact⟨qg6 sa sa.1 12,l,v,A2.o,by omega,Hb.o,Ob.o,Tb.o,Rb.o,BLb.o⟩
    have qk:¬(j:Int)<m':=zo;have hd:=hdec.o;rw[show m' - j=0 by omega]at hd;have A2:=zh1 hd.symm;clear hd;go_wp2
    go_meet
    case rel=>exact⟨s,l,v,A2.o,by omega,hrd.o,hov.o,htb.o,hrb.o,hbl.o⟩
  case rest=>
   obtain⟨s,l,v,hdec,hl4,H6,O6,T6,R6,AD⟩:=hcut;clear H5 T5 R5 A8;go_wp2_with fail
   refine(qgl B g bs s wc H6.o).mono ?_;rintro e w7 ⟨rfl,h7,g7⟩;have ltag:=qgj bs s;obtain⟨⟨s7,tag⟩,hdg⟩:∃x,rDig bs s=x:=⟨_,rfl⟩;rw[hdg]at h7 ltag ⊢;dsimp only at h7 ltag ⊢;have DG:=zh1 hdg;have t7:=T6.grown g7 (by simp;omega);have r7:=R6.grown g7 (by simp;omega);have bl7:=adv AD.o g7 zo H6.lt;have o7:OwnC w7 w.heap.size v l:=tB3 O6.o g7 (.inr (fun e=>by
    obtain⟨A',n',c',p',hgb,-⟩:=H6.o;exact qa3 O6.o hgb zdc e))
   have htt:=qh8 id v (List.replicate 32 0) tag zm ltag;have lV:(byv tag).length=32:=by rw[qat];exact ltag
   have oV:=qau tag;obtain⟨TH,SC⟩:=zh2 (qel t7 2 32 (by rw[qdg _ _ _ zm];decide)) (Blk.setCells (byv tag) 2 w7 _ t7 (by rw[qdg _ _ _ zm,lV];decide));rw[htt]at SC;obtain⟨V,hV⟩:=xeq (byv tag);rw[hV]at SC lV oV ⊢;obtain⟨IV,TH',OV⟩:=zh3 (show (Tryz.prog.info? 29).map (·.size)=some V.toArray.size by rw[tB6,lV];exact Tryz.dig_info) (show w7.there G5 2 V.toArray.size by rw[tB6,lV];exact TH.o) (all_oneCell_toArray oV);have gsc:=qej G5 V 2 w7;obtain⟨H7,O7,R7,A3⟩:=zh4 (h7.kept gsc t7 zdc zdc zo) (show OwnC (w7.setCells G5 2 V) w.heap.size v l from tB3 o7 gsc (.inr (qa3 o7 t7 zdc))) (r7.grown gsc (by simp;omega)) (adv bl7 gsc zo t7.lt);clear h7 g7 t7 r7 bl7 o7 hdg htt lV oV hV TH gsc H6 O6 T6 R6 AD;go_upto_region 15 with(refine wpList_store_mid rfl 29 (.tmp 46) (.tmp 45) rfl G5 2 V.toArray rfl rfl TH'.o IV.o OV.o ?_)
   obtain⟨w8,hw8⟩:=eqx (w7.setCells G5 2 V);rw[←hw8]at SC H7 O7 R7 A3 ⊢;clear hw8;have T8:=zh1 SC.o;go_wp2_with fail
   obtain⟨w9,hw9⟩:=eqx (w8.alloc (.cells #[.pointer none] 237));rw[←hw9];have p9:=zNa hw9;have b89:=zMa hw9;obtain⟨P8,hP8⟩:=xeq w8.heap.size;rw[hP8]at p9 ⊢;refine(qgm B g bs s7 w9 (H7.below b89)).mono ?_;rintro e w10 ⟨r,rfl,her,b910⟩;have b810:=b89.trans (b910.mono b89.size);have t10:=T8.below b810 T8.lt;have r10:=R7.below b810 R7.lt;have p10:=p9.below b910 p9.lt;have o10:=O7.kept b810;have bl10:=A3.trans (b810.mono A3.size);have AE:Hid (decT bs (0,none)=(s7,(id,l,tag))):=by
    show _=_;unfold decT;simp only[RA.o,RB.o,A7.o,hdec.o,DG.o]
   obtain⟨AA,AF,A4,AB,A0⟩:=zh5 p10 t10 r10 o10 bl10;have hPG:P8≠w.heap.size∧P8≠G5∧w.heap.size<P8:=by
    have:=R7.lt;have:=SC.lt;omega
   have AG:=zh1 (show w.heap.size<w9.heap.size by have:=p9.lt;omega);clear b810 t10 r10 p10 o10 bl10 b89 hP8 hw9 p9 SC T8 H7 O7 R7 A3 DG;cases hend:rEnd bs s7 with
   |none=>
    rw[hend]at her;have er:r=.nilIface:=her;subst er;have A1:Hid (qh5 bs=(none,(id,l,tag))):=by
     show _=_;unfold qh5;rw[AE.o,hend]
    clear hend her;have lT:=qdg id v tag ltag;obtain⟨Av,nv,cv,rfl,-,-,-,-⟩:=AB.sl;have oT:=qeh id (.slice Av nv cv) rfl tag;obtain⟨T,hT⟩:=xeq (tokv id (.slice Av nv cv) tag);rw[hT]at AF lT oT;obtain⟨RG,IT,IT',LT,OT,ET⟩:=zh6 (qap AF.o 0 T zjq) (zI 31 lT) (show (Tryz.prog.info? 31).map (·.size)=some T.toArray.size by rw[tB6,lT];exact Tryz.tok_info) lT oT hT;clear lT oT hT;go_wp2_with fail
    refine(qgn _ w10).mono ?_;rintro e _ ⟨rfl,rfl⟩;go_wp2_with (first
     |(refine zld RG.o zu31 IT.o ?_)
     |(refine wpList_store_row rfl 31 (.tmp 2) (.tmp 55) rfl w.heap.size T.toArray rfl rfl 31 _ A4.o IT'.o (by simp[LT.o]) (by simpa using OT.o) ?_))
    have z:=A4.setRow T.toArray;refine bodyPost_ret (qgv rfl rfl (qgy z LT.o)) rfl ⟨.slice Av nv cv,.nilIface,?_,?_,?_,?_⟩
    · rw[A1.o,←ET.o]
      rfl
    · rw[A1.o]
      exact tB3 AB.o (qam _ _ _) (.inr (qa3 AB.o A4.o zdc))
    · rw[A1.o]
      rfl
    exact below_setRow A0.o (tA4 _) _
   |some x=>
    rw[hend]at her;obtain⟨hh,rfl,hhB,hkb⟩:=her;have A1:Hid (qh5 bs=(some x,qgu)):=by
     show _=_;unfold qh5;rw[AE.o,hend]
    have hg10:=(A0.cell (p:=⟨0,0,none⟩) (World.block_lt_of_cell? _ _ HE.o)).trans HE.o;obtain⟨HK,AS⟩:=zh2 hkb (qh7 hh P8 (.pointer none) w10 hg10 AA.o);clear hend hkb hg10;go_wp2_with fail
    refine AS.o.mono ?_;rintro e w11 ⟨rfl,p11,g11⟩;have r11:=A4.grown g11 (by simp;omega);have k11:=HK.grown g11 (by
     intro e;injection e with e;subst e;exact HK.ne_ AA.o zdc rfl)
    have bl11:=adv A0.o g11 zo AA.lt;have p11c:=p11.cell 0;rw[show (#[Value.pointer (some ⟨hh,0,none⟩)]:Array Value)[0]? =some (.pointer (some ⟨hh,0,none⟩)) from rfl]at p11c;obtain⟨AH,AR,AC,AT⟩:=zh4 r11 k11 bl11 p11;clear p11 g11 r11 k11 bl11;go_wp2_with fail
    obtain⟨S,HS⟩:=zS fun w'=>w'.cell? ⟨P8,0,none⟩=some (.pointer (some ⟨hh,0,none⟩))
    refine zrs S 5 (zq 0 3 [(3,true),(4,false)]) ((HS.o _).mpr p11c) ?_;refine qbh rfl rfl ⟨.agg qgz.toArray,fun w1 hS=>qgr 31 _ rfl _ _ qh6 (by simp[Act.eval]),?_⟩;refine zP ?_;repeat(refine zrt0 ?_)
    refine zw ?_;refine wp_store_row 31 (.tmp 2) (.tmp 52) rfl w.heap.size qgz.toArray rfl rfl 31 _ AH.o qh1 qh2 qh0 ?_;have z:=AH.setRow qgz.toArray;have kz:=AR.setRow_far (g:=w.heap.size) (by have:=AG.o;omega) qgz.toArray;have pz:=(AT.setRow_far (g:=w.heap.size) zo qgz.toArray).cell 0;rw[show (#[Value.pointer (some ⟨hh,0,none⟩)]:Array Value)[0]? =some (.pointer (some ⟨hh,0,none⟩)) from rfl]at pz;refine⟨fun _=>(HS.o _).mpr pz,zput ?_⟩;repeat(refine zrt0 ?_)
    refine qbg ?_;go_wp2_with fail
    refine bodyPost_ret (qgv rfl rfl (qgy z rfl)) rfl ⟨.slice none 0 0,.iface 237 (.pointer (some ⟨hh,0,none⟩)),?_,?_,?_,?_⟩
    · rw[A1.o]
      rfl
    · rw[A1.o]
      exact OwnC.nil _ _
    · rw[A1.o]
      exact⟨hh,rfl,tB1 (Nat.le_of_lt AG.o) hhB,kz⟩
    exact below_setRow AC.drew (tA4 _) _
theorem qhb(k:Int)(w:World):
 Zc 162 #[.int .i64 k] w fun e w'=>e=.returned (.int .i64 (qb0 k))∧w=w':=by
 by_cases h1:k<1
 · have H:Hid (((qb0 k:Nat):Int)=1):=by unfold Hid qb0;omega
   go_enter Tryz.func162,Tryz.ntmps162
   go_wp2
   go_ret
   exact⟨qd0 H.symm,rfl⟩
 by_cases h8:8<k
 · have H:Hid (((qb0 k:Nat):Int)=8):=by unfold Hid qb0;omega
   go_enter Tryz.func162,Tryz.ntmps162
   go_wp2
   go_ret
   exact⟨qd0 H.symm,rfl⟩
 have H:Hid (((qb0 k:Nat):Int)=k):=by unfold Hid qb0;omega
 go_enter Tryz.func162,Tryz.ntmps162
 go_wp2
 go_ret
 exact⟨qd0 H.symm,rfl⟩
theorem qhc(A:Option Addr)(L c n:Nat)(k:Int)(bs:List Nat)(w:World)(hr:Reads w w.heap.size 1 A L (byv bs))(hl:bs.length≤4294967296)(hn:n<18446744073709551616):
 Zc 99 #[.slice A L c,.int .u64 n,.int .i64 k] w fun e w'=>∃v,e=.returned v∧OwnB w' w.heap.size v (bs++be n (qb0 k))∧Zb w w':=by
 obtain⟨hs1,hs8⟩:=qb1 k;have hr0:=hr.laid (.cells #[] 5);have hL:=qb5 hr;rw[hL]at hl;have HL:=zh1 hL;clear hL hr;go_enter Tryz.func99,Tryz.ntmps99
 go_wp2_with (at_builtin;refine qe3 rfl (.tmp 9) (.tmp 10) rfl w.heap.size _ [] rfl (OwnB.made w [] (by simp[maxLen])) A L c bs rfl hr0 (by simp;omega) zm ?_)
 intro v1 w1 hown1 hb1 hg1;have hB1:Zb w w1:=((tA5 _ _).alloc (tA4 _) _).trans hb1;go_wp2_with fail
 refine(qhb _ _).mono ?_;rintro e w2 ⟨rfl,rfl⟩;obtain⟨s,hs⟩:=xeq (qb0 k);have Hs:=zh1 hs;rw[hs]at hs1 hs8 ⊢;clear hs hb1 hg1 hr0;go_wp2
 go_loopw [7,8] (fun out i wr=>∃j m:Nat,s=j+m∧i=.int .i64 ((m:Int) - 1)∧OwnB wr w.heap.size out (bs++(be n s).take j)∧Zb w wr) (fun _ i _=>(intOf i+1).toNat)
 case atStart=>exact⟨0,s,by omega,rfl,by simpa using hown1,hB1⟩
 case round=>
  obtain⟨j,m,hjm,rfl,hown,hb⟩:=hrel;clear hown1 hB1;cases m with
  |zero=>
   obtain rfl:j=s:=zo;rw[tB5 (by rw[qaw];omega)]at hown;go_wp2
   go_ret
   exact⟨_,rfl,by rw[Hs.o];exact hown,hb⟩
  |succ m=>
   have em:((m+1:Nat):Int) - 1=m:=zo;rw[em];clear em;have hlj:(bs++(be n s).take j).length≤4294967296+8:=by have:=HL.o;rw[tA6,tBd,qaw];omega
   have Hjm:=zh1 hjm;clear hjm;have hm8:m≤7:=by have:=Hjm.o;omega
   go_wp2_with (at_builtin;refine qe3 rfl (.tmp 19) (.tmp 26) rfl w.heap.size _ _ rfl (hown.alloc _) _ 1 1 [n / 2^(8*m) % 256] rfl (by simpa using qe7 wr (n / 2^(8*m) % 256)) zo (by have:=hb.size;simp;omega) ?_)
   intro v1 w1 hown1 hb1 hg1;have HW:Hid (OwnB w1 w.heap.size v1 (bs++(be n s).take (j+1))):=by
    have e:s - 1 - j=m:=by have:=Hjm.o;omega
    rw[qax n s j (by have:=Hjm.o;omega),e];rw[show qav n m=n / 2^(8*m) % 256 from by unfold qav;rw[Nat.pow_mul]];exact hown1
   have HB:=zh1 ((hb.alloc hb.size (.cells #[.int .u8 ((n / 2^(8*m) % 256:Nat):Int)] 5)).trans hb1);clear hown1 hb1 hg1 hb hown;go_wp2
   go_roundw
   case rel=>exact⟨j+1,m,by have:=Hjm.o;omega,rfl,HW.o,HB.o⟩
   case measure=>simp[intOf]
theorem qhd(A A2:Option Addr)(L M c c2:Nat)(bs xs:List Nat)(w:World)(hr:Reads w w.heap.size 1 A L (byv bs))(hx:Reads w w.heap.size 1 A2 M (byv xs))(hl:bs.length≤4294967296)(h2:M≤c2)(hc:c2≤maxLen):
 Zc 98 #[.slice A L c,.slice A2 M c2] w fun e w'=>∃v,e=.returned v∧OwnB w' w.heap.size v (bs++txt xs)∧Zb w w':=by
 unfold maxLen at hc;have hM:=qb5 hx;obtain⟨k,hk⟩:=xeq (xs.length % 65536);have hand:((M:Int) % 65536)=((k:Nat):Int):=zo;have hk1:k≤M:=zo;have hk2:k≤65535:=zo;have hk3:(k:Int)≤c2:=zo;have HK:=zh1 hk;clear hk hM;go_enter Tryz.func98,Tryz.ntmps98
 go_wp2_with fail
 rw[hand];clear hand;have hw64:IntKind.u64.wrap (k:Int)=k:=by rw[IntKind.wrap_u64];omega
 obtain⟨S,HS⟩:∃S:World→Prop,Hid (∀w',S w'):=⟨fun _=>True,fun _=>trivial⟩;refine zrs S 9 (zq 0 3 (zq 4 3 [(3,true),(7,true),(8,false)])) (HS.o _) ?_;repeat(refine qbh rfl rfl ⟨?_,fun w1 hS=>?_,?_⟩;rotate_left;(focus(go_simp;(try rfl)));simp only[Act.put,tA0,tA1,tA2])
 refine zw ?_;go_simp;refine(qhc A L c k 2 bs _ hr.drew hl zo).mono ?_;rintro e w1 ⟨v1,rfl,hown1,hb1⟩;have hb2:=qe6 hb1;have hx1:=(hx.call hb2).pre (k:=k) hk1;rw[show qb0 2=2 from rfl]at hown1;refine⟨by first|exact HS.o _|exact fun _=>HS.o _,?_⟩;refine zw ?_;have etk:(byv xs).take k=byv (xs.take k):=by simp[byv]
 rw[etk]at hx1;refine qe4 (.tmp 12) (.tmp 15) rfl w.heap.size _ _ rfl hown1 A2 k c2 (xs.take k) rfl hx1 (by rw[tA6,qaw];omega) hb2.size ?_;intro v2 w2 hown2 hb3 hg2;refine⟨by first|exact HS.o _|exact fun _=>HS.o _,zput ?_⟩;repeat(refine qbh rfl rfl ⟨?_,fun w1 hS=>?_,?_⟩;rotate_left;(focus(go_simp;(try rfl)));simp only[Act.put,tA0,tA1,tA2])
 refine qbg ?_;have HO:Hid (OwnB w2 w.heap.size v2 (bs++txt xs)):=by
  unfold txt;rw[HK.o,←List.append_assoc];exact hown2
 have HB:=zh1 (hb2.trans hb3);clear hown2 hb3 hg2 hb2 hb1 hown1 hx1 etk hw64;go_wp2
 go_ret
 exact⟨_,rfl,HO.o,HB.o⟩
theorem qhe(k:Int)(w:World):
 Zc 143 #[.int .i64 k] w fun e w'=>e=.returned (.bool (qd9 k))∧w=w':=by
 go_enter Tryz.func143,Tryz.ntmps143
 go_wp2
 all_goals
  go_ret
  refine⟨?_,rfl⟩;exact qdc (by rw[Bool.eq_iff_iff];simp_all [qd9];try omega)
theorem qhf(id:Nat)(l:List (Int × Nat))(tag:List Nat)(h4:¬4<l.length)(h:l.all (fun c=>qd9 c.1)=true):qdb id l tag=(0,be id 4++be l.length 1++cavb l++tag):=by
 unfold qdb;rw[if_neg h4,if_pos h]
theorem qhg(n:Nat):be n 1=[n % 256]:=by simp[be,qav]
theorem qhh(id:Nat)(l:List (Int × Nat))(A:Option Addr)(c:Nat)(tag:List Nat)(w:World)(hr:Reads w w.heap.size 2 A l.length (cavv l))(hlc:l.length≤c)(hc:c≤maxLen)(hid:id<4294967296)(hln:∀x∈l,x.2<4294967296)(ht:tag.length=32):
 Zc 157 #[.agg (tokv id (.slice A l.length c) tag).toArray] w fun e w'=>∃v,e=.returned (.tuple #[v,.int .i64 ((qdb id l tag).1:Int)])∧OwnB w' w.heap.size v (qdb id l tag).2∧Zb w w':=by
 unfold maxLen at hc;obtain⟨D,hD⟩:=xeq ((tokv id (.slice A l.length c) tag).toArray);have d0:D[0]? =some (.int .u32 (id:Int)):=by rw[←hD];rfl
 have d1:D[1]? =some (.slice A l.length c):=by rw[←hD];rfl
 have dt:∀j u,(byv tag)[j]? =some u→D[2+j]? =some u:=by
  intro j u h;rw[←hD,tA3,tokv,show 2+j=(j+1)+1 from by omega,tBc,tBc];exact h
 rw[hD];obtain⟨DT,A0⟩:=zh2 dt hln;clear hD dt hln;by_cases h4:4<l.length
 · have H:Hid (qdb id l tag=(4,[])):=by unfold Hid qdb;rw[if_pos h4]
   go_enter Tryz.func157,Tryz.ntmps157
   go_wp2
   go_ret2
   exact⟨_,by rw[H.o];rfl,by rw[H.o];exact OwnB.nil _ _,(tA5 _ _).alloc (tA4 _) _⟩
 have Ha:Hid (qdb id l tag=if l.all fun c=>qd9 c.1 then(0,be id 4++be l.length 1++cavb l++tag) else(1,[])):=by unfold Hid qdb;rw[if_neg h4]
 have t0:Blk (w.alloc (.cells D 31)) w.heap.size 31 D:=Blk.new w _ D;go_enter Tryz.func157,Tryz.ntmps157
 go_wp2_with fail
 refine(qhc none 0 0 id 4 [] _ Reads.none_ zm zo).mono ?_;rintro e w1 ⟨v1,rfl,hown1,hb1⟩;simp only[qar,Zb]at hown1 hb1;have B1:Zb w w1:=((tA5 _ _).alloc (tA4 _) _).trans (hb1.mono zo);have t1:=t0.below hb1 zo;have hr1:=(hr.alloc (tA4 _) (.cells D 31)).below (hb1.mono zo);rw[List.nil_append,show qb0 4=4 from rfl]at hown1;have c0:=t1.cell 0;have c1:=t1.cell 1;rw[d0]at c0;rw[d1]at c1;clear hb1 hr t0;have:=t1.lt;have hlm:((l.length:Nat):Int) % 256=((l.length % 256:Nat):Int):=rfl;go_wp2_with (at_builtin;refine qe3 rfl (.tmp 14) (.tmp 19) rfl (w.heap.size+1) _ _ rfl (hown1.alloc _) _ 1 1 [l.length] rfl (qe7 w1 l.length) (by first|omega|(simp only[tA6,tBi,List.length_nil,tBd,qaw]<;>omega)) (by first|omega|(simp only[qar]<;>omega)) ?_)
 intro v2 w2 hown2 hb2 hg2;have ebl:[l.length]=be l.length 1:=by rw[qhg,Nat.mod_eq_of_lt zo]
 rw[ebl]at hown2;have t2:=(t1.alloc (.cells #[.int .u8 (l.length:Int)] 5)).below hb2 zo;have hr2:=(hr1.alloc zo (.cells #[.int .u8 (l.length:Int)] 5)).below (hb2.mono zo);have B2:=(B1.alloc zo (.cells #[.int .u8 (l.length:Int)] 5)).trans (hb2.mono zo);clear hg2 hb2 hown1 hr1 t1 c0 c1 hlm ebl B1;have hsz2:=t2.lt;go_wp2
 go_loopw [4,5] (fun b i wr=>∃k:Nat,k≤l.length∧i=.int .i64 k∧(l.take k).all (fun c=>qd9 c.1)=true∧OwnB wr (w.heap.size+1) b (be id 4++be l.length 1++cavb (l.take k))∧Below (w.heap.size+1) w2 wr) (fun _ i _=>l.length - (intOf i).toNat)
 case atStart=>exact⟨0,by omega,rfl,by simp,by simpa [cavb] using hown2,tA5 _ _⟩
 case round=>
  obtain⟨k,hk,rfl,hall,hown,hbr⟩:=hrel;have tr:=t2.below hbr zo;have hrr:=hr2.below (hbr.mono zo);have Hall:=zh1 hall;have hszr:=hbr.size;have hszr':w.heap.size+1≤wr.heap.size:=zo;clear hall t2 hr2 hown2;have c1:=tr.cell 1;rw[d1]at c1;by_cases hlt:k<l.length
  ·
   have hx:l[k]? =some l[k]:=tA7 hlt;obtain⟨x,hxe⟩:=xeq (l[k]);rw[hxe]at hx;clear hxe;obtain⟨q0,q1⟩:=qdj l k x hx;obtain⟨b,o,rfl,hab,hcell⟩:=hrr.mid zo zo;have m0:=hcell _ _ q0;have m1:=hcell _ _ q1;rw[←Nat.add_assoc]at m1;have Hx:=zh1 hx;clear hx q0 q1 hcell;go_wp2_with fail
   refine zca (qhe _ _) ?_;cases hkb:qd9 x.1 with
   |true=>
    obtain⟨k1,k3⟩:=qda hkb;obtain⟨kd,hkd⟩:∃kd:Nat,x.1=(kd:Int):=⟨x.1.toNat,by omega⟩;have hxn:=A0.o x (tB2 Hx.o);rw[hkd]at k1 k3 m0;have hcv:IntKind.u8.wrap (kd:Int)=kd:=IntWalk.u8_in _ zo;have hcw:IntKind.u64.wrap (x.2:Int)=x.2:=tBa _ zo;go_wp2_with fail
    obtain⟨S,HS⟩:=zS fun w'=>w'.cell? ⟨w.heap.size,1,none⟩=some (.slice (some ⟨b,o,none⟩) l.length c)∧w'.cell? ⟨b,o+k*2,none⟩=some (.int .i64 kd)∧w'.cell? ⟨b,o+k*2+1,none⟩=some (.int .u32 (x.2:Int))
    refine zrs S 19 (zq 0 8 (zq 10 7 [(8,true),(9,true),(17,true),(18,false)])) ((HS.o _).mpr ⟨c1,m0,m1⟩) ?_;repeat(refine zrt0 ?_)
    refine zw ?_;go_simp;refine⟨(HS.o _).mpr ⟨qaj c1 _,qaj m0 _,qaj m1 _⟩,?_⟩;refine zw ?_;have hkb8:b<(wr.alloc (.cells #[.int .u8 (kd:Int)] 5)).heap.size:=by rw[qar];omega
    refine qe4 (.tmp 36) (.tmp 44) rfl (w.heap.size+1) _ _ rfl (hown.alloc (.cells #[.int .u8 (kd:Int)] 5)).drew _ 1 1 [kd] rfl (qe7 wr kd).drewS (by have:=qdi (l.take k);simp only[tA6,qaw,tBd]at*;omega) (by rw[qe5,qar];omega) ?_;intro v3 w3 hown3 hb3 hg3;have hb3':Below (w.heap.size+1) wr w3:=((tA5 _ _).alloc hszr' _).drew.trans hb3;have n1:=(hb3'.cell (p:=⟨w.heap.size,1,none⟩) zm).trans c1;have n0:=(hb3'.cell (p:=⟨b,o+k*2,none⟩) (by simp;omega)).trans m0;have n2:=(hb3'.cell (p:=⟨b,o+k*2+1,none⟩) (by simp;omega)).trans m1;refine⟨fun _=>(HS.o _).mpr ⟨n1,n0,n2⟩,?_⟩;simp only[Act.put,tA0,tA1,tA2];obtain⟨A3,n3,c3,rfl,hl3,hm3,hr3⟩:=hown3.sl;refine zw ?_;go_simp;refine(qhc A3 n3 c3 x.2 4 _ _ hr3 (by have:=qdi (l.take k);simp only[tA6,qaw,tBd,tBi,List.length_nil]at*;omega) zo).mono ?_;rintro e w4 ⟨v4,rfl,hown4,hb4⟩;have p1:=qai n1 hb4;have p0:=qai n0 hb4;have p2:=qai n2 hb4;refine⟨by first|exact(HS.o _).mpr ⟨p1,p0,p2⟩|exact fun _=>(HS.o _).mpr ⟨p1,p0,p2⟩,?_⟩;repeat(refine zrt0 ?_)
    refine qbg ?_;have HO:Hid (OwnB w4 (w.heap.size+1) v4 (be id 4++be l.length 1++cavb (l.take (k+1)))):=by
     have e1:x.1.toNat=kd:=zo;rw[qdh l k x Hx.o,←List.append_assoc,←List.append_assoc,e1,qhg kd,Nat.mod_eq_of_lt zo];exact hown4.mono (by have:=hb3'.size;omega)
    have HB:=zh1 (hbr.trans (hb3'.trans (hb4.mono (by have:=hb3'.size;omega))));have hka:(l.take (k+1)).all (fun c=>qd9 c.1)=true:=by
     rw[List.take_add_one,Hx.o,List.all_append,Hall.o];simpa using hkb
    have Hka:=zh1 hka;clear p0 p1 p2 n0 n1 n2 hown4 hb4 hown3 hb3 hg3 hb3' hown hbr tr hrr c1 m0 m1 HS hka hkb hcv hcw;go_wp2
    go_roundw
    case rel=>exact⟨k+1,by omega,by go_num,Hka.o,HO.o,HB.o⟩
    case measure=>simp[intOf];omega
   |false=>
    have H:Hid (qdb id l tag=(1,[])):=by
     unfold Hid;rw[Ha.o,if_neg];intro h;have:=List.all_eq_true.1 h x (tB2 Hx.o);rw[hkb]at this;cases this
    have HB:=zh1 (B2.trans (hbr.mono zo));go_wp2
    go_ret2
    exact⟨_,by rw[H.o];rfl,by rw[H.o];exact OwnB.nil _ _,HB.o⟩
  obtain rfl:k=l.length:=zo;rw[List.take_length]at hown;have H:Hid (qdb id l tag=(0,be id 4++be l.length 1++cavb l++tag)):=qhf id l tag h4 (by simpa using Hall.o);have hrt:Reads wr wr.heap.size 1 (some ⟨w.heap.size,2,none⟩) 32 (byv tag):=by
   refine⟨by rw[qat,ht],fun _=>⟨_,rfl,tr.lt,fun j u hu=>?_⟩⟩;rw[Addr.add_mid,tr.cell (2+j)];exact DT.o j u hu
  go_wp2_with (at_builtin;refine qe3 rfl (.tmp 54) (.tmp 56) rfl (w.heap.size+1) _ _ rfl hown _ 32 32 tag rfl hrt (by have:=qdi l;simp only[tA6,qaw]at*;omega) zo ?_)
  intro v3 w3 hown3 hb3 hg3;obtain⟨HO,HB⟩:=zh2 (hown3.mono (show w.heap.size≤w.heap.size+1 by omega)) ((B2.trans (hbr.mono zo)).trans (hb3.mono zo));clear hown3 hb3 hg3 hown hbr tr hrr c1 hrt;go_wp2
  go_ret2
  exact⟨_,by rw[H.o];rfl,by rw[H.o];simpa [List.append_assoc] using HO.o,HB.o⟩
theorem qhi(bs:List Nat)(s:RSt)(n:Nat)(x:Nat × Nat)(h:s.2=some x):qg7 bs s n=(s,[]):=by
 unfold qg7;rw[h]
theorem qhj(bs:List Nat)(s:RSt)(n:Nat)(x:Nat × Nat)(h:s.2=some x):rNum bs s n=(s,0):=by
 unfold rNum;rw[qhi bs s n x h];rfl
theorem qhk(s:RSt)(a y:Nat)(x:Nat × Nat)(h:s.2=some x):qg6 s a y=s:=by
 unfold qg6;rw[h]
theorem qhl(s:RSt)(a y:Nat):(qg6 s a y).2≠none:=by
 unfold qg6;split
 · simp
 rename_i h
 simp[h]
theorem qhm(bs:List Nat)(n:Nat)(s:RSt)(l:List (Int × Nat))(x:Nat × Nat)(h:s.2=some x):(qh3 bs n s l).1=s:=by
 cases n with
 |zero=>rfl
 |succ n=>
  unfold qh3;rw[qhj bs s 1 x h];simp[qd9,qhk s s.1 12 x h]
theorem qhn{fn:Func}{t s r:Tmp}{tmps:Array Value}(h:fn.results=#[.cell t ty,.tmp s,.tmp r])(ht:tmps.getD t undef=.pointer (some ⟨g,0,none⟩))
 (hl:(loadVar ty ⟨g,0,none⟩).run P w=.ok v w):(results fn tmps).run P w=.ok (.tuple #[v,tmps.getD s undef,tmps.getD r undef]) w:=by
 unfold results;rw[h];simp only[Array.getD_eq_getD_getElem?]at ht;simp[ht,asAddr,hl,Sem.run_pure]
def qho (bs:List Nat)(s:RSt)(most:Nat):RSt × List Nat:=
 qg7 bs (if (rNum bs s 2).1.2=none∧most<(rNum bs s 2).2 then(s.1,some (s.1,3)) else(rNum bs s 2).1) (rNum bs s 2).2
theorem qhp(bs:List Nat)(s:RSt)(m:Nat)(h:∀x∈bs,x<256):∀x∈(qho bs s m).2,x<256:=qgg _ _ _ h
theorem Rd.at_le{s:RSt}(h:Rd w B g bs s):s.1≤bs.length:=by
 obtain⟨A,n,c,p,hg,hB,ho,hn,hc,hs,hm,hp⟩:=h;omega
theorem qhq(B g:Nat)(bs:List Nat)(s:RSt)(m:Nat)(w:World)(h:Rd w B g bs s)(hb:∀x∈bs,x<256)(hm:m≤65536):
 Zc 70 #[.pointer (some ⟨g,0,none⟩),.int .i64 m] w fun e w'=>∃v,e=.returned v∧OwnB w' w.heap.size v (qho bs s m).2∧Rd w' B g bs (qho bs s m).1∧w.grownBy w' (some g):=by
 have h':=h;obtain⟨A,n,c,p,hg,-⟩:=h';have c1:=hg.cell 1;rw[show (#[Value.slice A n c,.int .i64 (s.1:Int),.pointer p]:Array Value)[1]? =some (.int .i64 (s.1:Int)) from rfl]at c1;have H:=zh1 h;clear h hg;go_enter Tryz.func70,Tryz.ntmps70
 go_wp2_with fail
 refine(qgi B g bs s 2 w H.o hb).mono ?_;rintro e w1 ⟨rfl,h1,g1⟩;have hlt:=qgh bs s 2 hb;have e2:qb0 2=2:=rfl;rw[e2]at h1 ⊢;clear e2;have hRB:qho bs s m=qg7 bs (if (rNum bs s 2).1.2=none∧m<(rNum bs s 2).2 then(s.1,some (s.1,3)) else(rNum bs s 2).1) (rNum bs s 2).2:=rfl;have hsl:=H.at_le;obtain⟨⟨s1,k⟩,hk⟩:∃x,rNum bs s 2=x:=⟨_,rfl⟩;rw[hk]at h1 hlt hRB ⊢;dsimp only at h1 hlt hRB ⊢;have hk2:k<65536:=Nat.lt_of_lt_of_eq hlt zdc;have kw:IntKind.i64.wrap (k:Int)=k:=tBb _ zo;have A3:=zh1 hRB;have h1':=h1;obtain⟨A1,n1,c1',p1,hg1,hB1,ho1,hn1,hc1,hs1,hm1,hp1⟩:=h1';have c2:=hg1.cell 2;have f1:=hg1.frozen 1;have d1:=hg1.cell 1;rw[show (#[Value.slice A1 n1 c1',.int .i64 (s1.1:Int),.pointer p1]:Array Value)[2]? =some (.pointer p1) from rfl]at c2;rw[show (#[Value.slice A1 n1 c1',.int .i64 (s1.1:Int),.pointer p1]:Array Value)[1]? =some (.int .i64 (s1.1:Int)) from rfl]at d1;obtain⟨H1,G1,HP⟩:=zh3 h1 g1 hp1;have hlt1:=hg1.lt;obtain⟨A4,A5⟩:=zh2 hg1 ho1;clear h1 g1 hlt hRB hk c1 hp1 hg1 ho1;cases hs2:s1.2 with
 |some x=>
  have hx:=HP.o;rw[hs2]at hx;obtain⟨kb,rfl,hkB,hkb⟩:=hx;have e:Hid (qho bs s m=qg7 bs s1 k):=by
   show _=_;rw[A3.o,if_neg (by rw[hs2];simp)]
  have T:=zh1 (qgc B g bs s1 k w1 H1.o zo);clear hkb;go_wp2_with fail
  refine T.o.mono ?_;rintro e2 w2 ⟨A2,n2,c2,rfl,hnc2,rd2,h2,g2⟩;go_wp2_with fail
  refine(qd4 A2 n2 c2 w2.heap.size _ w2 rd2 (qau _) (by have:=qb5 rd2;have:=qgf bs s1 k;omega)).mono ?_;rintro e3 w3 ⟨v,rfl,own3,b3⟩;have l2:=qb5 rd2;go_wp2
  go_ret
  rw[e.o];refine⟨v,rfl,OwnB.mono (base:=w2.heap.size) (by unfold OwnB;rw[l2];exact own3) ?_,h2.below b3,?_⟩
  · exact tB1 G1.size g2.size
  exact qac (qac G1.o g2 (fun d e=>by injection e with e;exact .inl e.symm)) (qad b3 none) (fun d e=>by cases e)
 |none=>
  have hx:=HP.o;rw[hs2]at hx;obtain rfl:p1=none:=hx;by_cases hkm:m<k
  ·
   have q:(m:Int)<k:=zo;have e:Hid (qho bs s m=qg7 bs (s.1,some (s.1,3)) k):=by
    show _=_;rw[A3.o,if_pos ⟨hs2,hkm⟩]
   have hset:Rd (w1.setCell ⟨g,1,none⟩ (.int .i64 (s.1:Int))) B g bs (s.1,none):=
    ⟨A1,n1,c1',none,A4.set_ 1 _,hB1,OwnB.far A5.o (p:=⟨g,1,none⟩) (OwnB.blk_ne A5.o A4.o zdc) _,hn1,hc1,by dsimp only;omega,hm1,rfl⟩
   obtain⟨A0,GS⟩:=zh2 hset (qab (p:=⟨g,1,none⟩) G1.o (.inl rfl) (.int .i64 (s.1:Int)));clear hset;go_upto_region 5 with(fail)
   obtain⟨wa,hwa⟩:=eqx (w1.setCell ⟨g,1,none⟩ (.int .i64 (s.1:Int)));rw[←hwa]at A0 GS ⊢;clear hwa c2 d1 f1;go_wp2_with fail
   refine(qga B g bs (s.1,none) s.1 3 wa A0.o zdc).mono ?_;rintro e5 wb ⟨rfl,hb5,g5⟩;obtain⟨GB,T⟩:=zh2 (qac GS.o g5 (fun d e=>by injection e with e;exact .inl e.symm)) (qgc B g bs (s.1,some (s.1,3)) k wb hb5 zo);clear hb5 g5;go_wp2_with fail
   refine T.o.mono ?_;rintro e2 w2 ⟨A2,n2,c2,rfl,hnc2,rd2,h2,g2⟩;go_wp2_with fail
   refine(qd4 A2 n2 c2 w2.heap.size _ w2 rd2 (qau _) (by have:=qb5 rd2;have:=qgf bs (s.1,some (s.1,3)) k;omega)).mono ?_;rintro e3 w3 ⟨v,rfl,own3,b3⟩;have l2:=qb5 rd2;go_wp2
   go_ret
   rw[e.o];refine⟨v,rfl,OwnB.mono (base:=w2.heap.size) (by unfold OwnB;rw[l2];exact own3) ?_,h2.below b3,?_⟩
   · exact tB1 GB.size g2.size
   exact qac (qac GB.o g2 (fun d e=>by injection e with e;exact .inl e.symm)) (qad b3 none) (fun d e=>by cases e)
  have q:¬(m:Int)<k:=zo;have e:Hid (qho bs s m=qg7 bs s1 k):=by
   show _=_;rw[A3.o,if_neg (fun h=>hkm h.2)]
  have T:=zh1 (qgc B g bs s1 k w1 H1.o zo);go_wp2_with fail
  refine T.o.mono ?_;rintro e2 w2 ⟨A2,n2,c2,rfl,hnc2,rd2,h2,g2⟩;go_wp2_with fail
  refine(qd4 A2 n2 c2 w2.heap.size _ w2 rd2 (qau _) (by have:=qb5 rd2;have:=qgf bs s1 k;omega)).mono ?_;rintro e3 w3 ⟨v,rfl,own3,b3⟩;have l2:=qb5 rd2;go_wp2
  go_ret
  rw[e.o];refine⟨v,rfl,OwnB.mono (base:=w2.heap.size) (by unfold OwnB;rw[l2];exact own3) ?_,h2.below b3,?_⟩
  · exact tB1 G1.size g2.size
  exact qac (qac G1.o g2 (fun d e=>by injection e with e;exact .inl e.symm)) (qad b3 none) (fun d e=>by cases e)
theorem qhr(B g:Nat)(bs:List Nat)(s:RSt)(w:World)(h:Rd w B g bs s)(hE:w.cell? ⟨0,0,none⟩=some (.iface 327 (.agg #[.pointer (some ⟨3,81,none⟩)]))):
 Zc 76 #[.pointer (some ⟨g,0,none⟩)] w fun e w'=>∃v,e=.returned v∧RErr w' w.heap.size v (rEnd bs s)∧Zb w w':=by
 have p0:=Blk.new w 237 #[.pointer none];obtain⟨W0,hW0⟩:=eqx (w.alloc (.cells #[.pointer none] 237));have b0:=zMa hW0;rw[←hW0]at p0;have hlt:=World.block_lt_of_cell? _ _ hE;obtain⟨HE,H0,P0,B0,A1⟩:=zh5 hE (h.below b0) p0 b0 hW0;clear hE h p0 b0 hW0;go_enter Tryz.func76,Tryz.ntmps76
 go_upto_region 2 with(fail)
 rw[←A1.o];go_wp2_with fail
 refine(qgm B g bs s W0 H0.o).mono ?_;rintro e w1 ⟨v,rfl,er,b1⟩;have p1:=P0.below b1 P0.lt;have B1:=zh1 (B0.trans (b1.mono B0.size));have hB0:=B0.size;cases hend:rEnd bs s with
 |none=>
  rw[hend]at er;have er0:v=.nilIface:=er;subst er0;go_wp2_with fail
  refine(qgn _ w1).mono ?_;rintro e2 _ ⟨rfl,rfl⟩;go_wp2
  go_ret
  exact⟨_,rfl,by rw[hend];rfl,B1.o⟩
 |some x=>
  rw[hend]at er;obtain⟨hh,rfl,hhB,hkb⟩:=er;have hg1:=(B1.cell (p:=⟨0,0,none⟩) hlt).trans HE.o;obtain⟨AS,HK,P1,A0⟩:=zh4 (qh7 hh w.heap.size (.pointer none) w1 hg1 p1) hkb p1 hend;clear hkb p1 hg1 hend;go_wp2_with fail
  refine AS.o.mono ?_;rintro e2 w2 ⟨rfl,p2,g2⟩;have c2:=p2.cell 0;rw[show (#[Value.pointer (some ⟨hh,0,none⟩)]:Array Value)[0]? =some (.pointer (some ⟨hh,0,none⟩)) from rfl]at c2;have k2:=HK.grown g2 (by
   intro e;injection e with e;subst e;exact HK.ne_ P1.o zdc rfl)
  obtain⟨B2,K2⟩:=zh2 (adv B1.o g2 (tA4 _) P1.lt) k2;clear p2 g2 k2;go_wp2
  go_ret
  exact⟨_,rfl,by rw[A0.o];exact⟨hh,rfl,tB1 hB0 hhB,K2.o⟩,B2.o⟩
theorem qhs (n:Nat):∀k,num (be n k)=n % 256^k
 |0=>by simp[be,num];omega
 |k+1=>by
  have e:be n (k+1)=be (n / 256) k++[n % 256]:=by
   unfold be;rw[List.range_succ,List.map_append];congr 1
   · refine List.map_congr_left fun j hj=>?_
     have hj':=List.mem_range.1 hj;unfold qav;rw[show k+1 - 1 - j=(k - 1 - j)+1 by omega,Nat.pow_succ,Nat.mul_comm,Nat.div_div_eq_div_mul]
   simp[qav]
  rw[e,qgd,qhs (n / 256) k,Nat.pow_succ,Nat.mul_comm (256^k) 256,Nat.mod_mul];omega
theorem qht:∀(l:List Nat),(∀x∈l,x<256)→be (num l) l.length=l:=by
 intro l hl;have key:∀k,k≤l.length→be (num (l.take k)) k=l.take k:=by
  intro k;induction k with
  |zero=>intro _;simp[be]
  |succ k ih=>
   intro hk;have hk':k<l.length:=zo;have hx:=hl _ (List.getElem_mem hk');rw[List.take_add_one,tA7 hk',Option.toList_some,qgd];have e:∀n x,x<256→be (n*256+x) (k+1)=be n k++[x]:=by
    intro n x hx;unfold be;rw[List.range_succ,List.map_append];congr 1
    · refine List.map_congr_left fun j hj=>?_
      have hj':=List.mem_range.1 hj;unfold qav;rw[show k+1 - 1 - j=(k - 1 - j)+1 by omega,Nat.pow_succ,Nat.mul_comm (256^_) 256,←Nat.div_div_eq_div_mul];congr 2
      omega
    simp[qav];omega
   rw[e _ _ hx,ih zo]
 have:=key l.length (tA4 _);simpa using this
theorem qhu(pre x rest:List Nat)(k:Nat)(hk:x.length=k):qg7 (pre++(x++rest)) (pre.length,none) k=((pre.length+k,none),x):=by
 unfold qg7;simp only;rw[if_pos (by simp;omega)];congr 1
 rw[List.drop_left' rfl,←hk,List.take_left' rfl]
theorem qhv(pre rest:List Nat)(n k:Nat)(hn:n<256^k):rNum (pre++(be n k++rest)) (pre.length,none) k=((pre.length+k,none),n):=by
 unfold rNum;rw[qhu pre (be n k) rest k (qaw n k)];simp only;rw[qhs,Nat.mod_eq_of_lt hn]
theorem qhw(c:Int × Nat)(l:List (Int × Nat)):cavb (c::l)=be c.1.toNat 1++(be c.2 4++cavb l):=by simp[cavb]
theorem qhx:∀(l acc:List (Int × Nat)) (pre rest:List Nat),(∀c∈l,qd9 c.1=true∧c.2<4294967296)→qh3 (pre++(cavb l++rest)) l.length (pre.length,none) acc=((pre.length+(cavb l).length,none),acc++l)
 |[],acc,pre,rest,_=>by simp[qh3,cavb]
 |c::l,acc,pre,rest,h=>by
  obtain⟨hk,hn⟩:=h c zm;have hb:=qda hk;have hk1:c.1.toNat<256^1:=zo;have hn4:c.2<256^4:=Nat.lt_of_lt_of_eq hn zdc;have e1:rNum (pre++(cavb (c::l)++rest)) (pre.length,none) 1=((pre.length+1,none),c.1.toNat):=by
   have:=qhv pre ((be c.2 4++cavb l)++rest) c.1.toNat 1 hk1;rw[qhw];simpa [List.append_assoc] using this
  have e2:rNum (pre++(cavb (c::l)++rest)) (pre.length+1,none) 4=((pre.length+1+4,none),c.2):=by
   have:=qhv (pre++be c.1.toNat 1) (cavb l++rest) c.2 4 hn4;rw[tA6,qaw]at this;rw[qhw];simpa [List.append_assoc] using this
  have e3:((c.1.toNat:Nat):Int)=c.1:=zo;have ih:=qhx l (acc++[c]) (pre++(be c.1.toNat 1++be c.2 4)) rest (fun x hx=>h x (List.mem_cons_of_mem _ hx));rw[tA6,tA6,qaw,qaw]at ih;show qh3 _ (l.length+1) _ _=_;unfold qh3;simp only[e1,e2,e3,hk,if_true];rw[show ((c.1,c.2):Int × Nat)=c from rfl,show pre.length+1+4=pre.length+(1+4) by omega];rw[show (pre++(be c.1.toNat 1++be c.2 4))++(cavb l++rest)=pre++(cavb (c::l)++rest) by rw[qhw];simp[List.append_assoc]]at ih;rw[ih,qhw];simp[qaw];omega
theorem qhy(id:Nat)(l:List (Int × Nat))(tag rest:List Nat)(hid:id<4294967296)(hl:l.length≤4)(hc:∀c∈l,qd9 c.1=true∧c.2<4294967296)(ht:tag.length=32):
 decT (be id 4++(be l.length 1++(cavb l++(tag++rest)))) (0,none)=((37+5*l.length,none),(id,l,tag)):=by
 have e1:rNum (be id 4++(be l.length 1++(cavb l++(tag++rest)))) (0,none) 4=((4,none),id):=by
  have:=qhv [] (be l.length 1++(cavb l++(tag++rest))) id 4 (Nat.lt_of_lt_of_eq hid zdc);simpa using this
 have e2:rNum (be id 4++(be l.length 1++(cavb l++(tag++rest)))) (4,none) 1=((5,none),l.length):=by
  have:=qhv (be id 4) (cavb l++(tag++rest)) l.length 1 zo;rw[qaw]at this;exact this
 have hcl:(cavb l).length=5*l.length:=qdi l;have e3:qh3 (be id 4++(be l.length 1++(cavb l++(tag++rest)))) l.length (5,none) []=((5+5*l.length,none),l):=by
  have:=qhx l [] (be id 4++be l.length 1) (tag++rest) hc;rw[tA6,qaw,qaw,hcl]at this;simpa [List.append_assoc] using this
 have e4:rDig (be id 4++(be l.length 1++(cavb l++(tag++rest)))) (5+5*l.length,none)=((5+5*l.length+32,none),tag):=by
  have:=qhu (be id 4++(be l.length 1++cavb l)) tag rest 32 ht;rw[tA6,tA6,qaw,qaw,hcl]at this;unfold rDig;rw[show be id 4++(be l.length 1++(cavb l++(tag++rest)))=(be id 4++(be l.length 1++cavb l))++(tag++rest) by simp[List.append_assoc],show 5+5*l.length=4+(1+5*l.length) by omega,this];simp[ht]
 unfold decT;simp only[e1,e2,qh4];rw[if_neg zo];simp only[e3,e4];rw[show 5+5*l.length+32=37+5*l.length by omega]
theorem qhz(id:Nat)(l:List (Int × Nat))(tag:List Nat)(hid:id<4294967296)(hc:∀c∈l,c.2<4294967296)(ht:tag.length=32)(h:(qdb id l tag).1=0):qh5 (qdb id l tag).2=(none,(id,l,tag))∧l.length≤4:=by
 unfold qdb at h ⊢;split at h
 · simp at h
 rename_i h4
 split at h
 ·
  rename_i hk
  rw[if_neg h4,if_pos hk];refine⟨?_,by omega⟩;have hkk:∀c∈l,qd9 c.1=true∧c.2<4294967296:=fun c hcl=>⟨by simpa using List.all_eq_true.1 hk c hcl,hc c hcl⟩
  have e:=qhy id l tag [] hid zo hkk ht;rw[List.append_nil]at e;show qh5 (be id 4++be l.length 1++cavb l++tag)=_;rw[show be id 4++be l.length 1++cavb l++tag=be id 4++(be l.length 1++(cavb l++tag)) by simp[List.append_assoc]];unfold qh5;rw[e];have hl:(be id 4++(be l.length 1++(cavb l++tag))).length=37+5*l.length:=by
   simp only[tA6,qaw,qdi,ht];omega
  unfold rEnd;simp only[hl,Nat.lt_irrefl,if_false]
 simp at h
theorem qi0(bs:List Nat)(s:RSt)(k:Nat)(hs:s.1≤bs.length)(h:(qg7 bs s k).1.2=none):
 s.2=none∧(qg7 bs s k).1=(s.1+k,none)∧s.1+k≤bs.length∧(qg7 bs s k).2.length=k∧bs.take (s.1+k)=bs.take s.1++(qg7 bs s k).2:=by
 unfold qg7 at h ⊢;split at h
 · rename_i x hx
   rw[hx]at h;cases h
 rename_i hx
 split at h
 · rename_i hk
   rw[if_pos hk];refine⟨hx,rfl,by omega,by simp;omega,?_⟩;rw[List.take_add]
 cases h
theorem qi1(bs:List Nat)(s:RSt)(k:Nat)(hs:s.1≤bs.length)(hb:∀x∈bs,x<256)(h:(rNum bs s k).1.2=none):
 s.2=none∧(rNum bs s k).1=(s.1+k,none)∧s.1+k≤bs.length∧bs.take (s.1+k)=bs.take s.1++be (rNum bs s k).2 k:=by
 obtain⟨h1,h2,h3,h4,h5⟩:=qi0 bs s k hs h;refine⟨h1,h2,h3,?_⟩;have:=qht (qg7 bs s k).2 (qgg bs s k hb);rw[h4]at this;rw[h5];show _=_++be (num (qg7 bs s k).2) k;rw[this]
theorem qi2 (bs:List Nat)(hb:∀x∈bs,x<256):∀(n:Nat) (s:RSt) (acc:List (Int × Nat)),s.1≤bs.length→(qh3 bs n s acc).1.2=none→
 s.2=none∧(qh3 bs n s acc).1=(s.1+5*n,none)∧s.1+5*n≤bs.length∧
  ∃l,(qh3 bs n s acc).2=acc++l∧l.length=n∧(∀c∈l,qd9 c.1=true∧c.2<4294967296)∧bs.take (s.1+5*n)=bs.take s.1++cavb l
 |0,s,acc,hs,h=>by
  obtain⟨s1,s2⟩:=s;have h':s2=none:=h;subst h';exact⟨rfl,rfl,hs,[],by simp[qh3],rfl,by simp,by simp[cavb]⟩
 |n+1,s,acc,hs,h=>by
  unfold qh3 at h ⊢;split at h
  ·
   rename_i hk
   rw[if_pos hk];have hmid:(rNum bs (rNum bs s 1).1 4).1.2=none:=by
    cases h2:(rNum bs (rNum bs s 1).1 4).1.2 with
    |none=>rfl
    |some x=>
     rw[qhm bs n _ _ x h2,h2]at h;cases h
   have hmid1:(rNum bs s 1).1.2=none:=by
    cases h2:(rNum bs s 1).1.2 with
    |none=>rfl
    |some x=>
     rw[qhj bs _ 4 x h2,h2]at hmid;cases hmid
   obtain⟨a1,a2,a3,a4⟩:=qi1 bs s 1 hs hb hmid1;have kb:=qda hk;have h4l:=qgh bs (rNum bs s 1).1 4 hb;rw[a2]at h hmid h4l ⊢;obtain⟨b1,b2,b3,b4⟩:=qi1 bs (s.1+1,none) 4 a3 hb hmid;obtain⟨c1,c2,c3,l,c4,c5,c6,c7⟩:=qi2 bs hb n _ _ (by rw[b2];exact b3) h;rw[b2]at c2 c3 c7;refine⟨a1,?_,?_,(((rNum bs s 1).2:Int),(rNum bs (s.1+1,none) 4).2)::l,?_,by simp[c5],?_,?_⟩
   · rw[b2,c2]
     simp only;congr 1
     omega
   · simp only at c3
     omega
   · rw[c4]
     simp
   · intro c hc
     rcases List.mem_cons.1 hc with rfl|hc
     · exact⟨hk,Nat.lt_of_lt_of_eq h4l zdc⟩
     exact c6 c hc
   simp only at c7 b4 a4;rw[show s.1+5*(n+1)=s.1+1+4+5*n by omega,c7,b4,a4,qhw];simp[List.append_assoc]
  exact absurd h (qhl _ _ _)
theorem qi3(bs:List Nat)(hb:∀x∈bs,x<256)(h:(decT bs (0,none)).1.2=none):
 ∃id l tag,decT bs (0,none)=((37+5*l.length,none),(id,l,tag))∧id<4294967296∧l.length≤4∧(∀c∈l,qd9 c.1=true∧c.2<4294967296)∧tag.length=32∧(∀x∈tag,x<256)∧37+5*l.length≤bs.length∧bs.take (37+5*l.length)=be id 4++be l.length 1++cavb l++tag:=by
 have hdef:decT bs (0,none)=((rDig bs (qh3 bs (qh4 bs (rNum bs (rNum bs (0,none) 4).1 1).1 (rNum bs (rNum bs (0,none) 4).1 1).2).2 (qh4 bs (rNum bs (rNum bs (0,none) 4).1 1).1 (rNum bs (rNum bs (0,none) 4).1 1).2).1 []).1).1,
  ((rNum bs (0,none) 4).2,(qh3 bs (qh4 bs (rNum bs (rNum bs (0,none) 4).1 1).1 (rNum bs (rNum bs (0,none) 4).1 1).2).2 (qh4 bs (rNum bs (rNum bs (0,none) 4).1 1).1 (rNum bs (rNum bs (0,none) 4).1 1).2).1 []).2,
   (rDig bs (qh3 bs (qh4 bs (rNum bs (rNum bs (0,none) 4).1 1).1 (rNum bs (rNum bs (0,none) 4).1 1).2).2 (qh4 bs (rNum bs (rNum bs (0,none) 4).1 1).1 (rNum bs (rNum bs (0,none) 4).1 1).2).1 []).1).2)):=rfl
 rw[hdef]at h ⊢;simp only at h;obtain⟨D,hD⟩:=xeq (qh3 bs (qh4 bs (rNum bs (rNum bs (0,none) 4).1 1).1 (rNum bs (rNum bs (0,none) 4).1 1).2).2 (qh4 bs (rNum bs (rNum bs (0,none) 4).1 1).1 (rNum bs (rNum bs (0,none) 4).1 1).2).1 []);rw[hD]at h ⊢;have hDn:D.1.2=none:=by
  cases h2:D.1.2 with
  |none=>rfl
  |some x=>
   unfold rDig at h;rw[qhi bs _ 32 x h2]at h;simp only at h;rw[h2]at h;cases h
 have hhead:4<(rNum bs (rNum bs (0,none) 4).1 1).2→False:=fun h4=>by
  unfold qh4 at hD;rw[if_pos h4]at hD;rw[←hD]at hDn;exact qhl _ _ _ hDn
 have hhd:qh4 bs (rNum bs (rNum bs (0,none) 4).1 1).1 (rNum bs (rNum bs (0,none) 4).1 1).2=((rNum bs (rNum bs (0,none) 4).1 1).1,(rNum bs (rNum bs (0,none) 4).1 1).2):=by
  unfold qh4;rw[if_neg hhead]
 rw[hhd]at hD;simp only at hD;have h1n:(rNum bs (rNum bs (0,none) 4).1 1).1.2=none:=by
  cases h2:(rNum bs (rNum bs (0,none) 4).1 1).1.2 with
  |none=>rfl
  |some x=>
   rw[←hD,qhm bs _ _ _ x h2,h2]at hDn;cases hDn
 have h0n:(rNum bs (0,none) 4).1.2=none:=by
  cases h2:(rNum bs (0,none) 4).1.2 with
  |none=>rfl
  |some x=>
   rw[qhj bs _ 1 x h2,h2]at h1n;cases h1n
 obtain⟨a1,a2,a3,a4⟩:=qi1 bs (0,none) 4 (Nat.zero_le _) hb h0n;have hid:=qgh bs (0,none) 4 hb;rw[a2]at h1n hD hhead;obtain⟨b1,b2,b3,b4⟩:=qi1 bs (0+4,none) 1 a3 hb h1n;rw[b2]at hD;rw[←hD]at hDn;obtain⟨c1,c2,c3,l,c4,c5,c6,c7⟩:=qi2 bs hb _ _ [] b3 hDn;rw[hD]at c2 c4;have hDD:D=((0+4+1+5*(rNum bs (0+4,none) 1).2,none),l):=by
  rw[show D=(D.1,D.2) from rfl,c2,c4];rfl
 rw[hDD]at h ⊢;simp only at h c3 c7 a4 b4 ⊢;obtain⟨d1,d2,d3,d4,d5⟩:=qi0 bs (0+4+1+5*(rNum bs (0+4,none) 1).2,none) 32 c3 h;have hdl:=qgj bs (0+4+1+5*(rNum bs (0+4,none) 1).2,none);have hdb:=qgk bs (0+4+1+5*(rNum bs (0+4,none) 1).2,none) hb;have hdd:(rDig bs (0+4+1+5*(rNum bs (0+4,none) 1).2,none)).2=(qg7 bs (0+4+1+5*(rNum bs (0+4,none) 1).2,none) 32).2:=by
  unfold rDig;simp only;rw[d4];simp
 have hd1:(rDig bs (0+4+1+5*(rNum bs (0+4,none) 1).2,none)).1=(0+4+1+5*(rNum bs (0+4,none) 1).2+32,none):=d2;rw[←c5]at hd1 hdd hdl hdb d3 d5 c7 hhead b4 ⊢;have e37:0+4+1+5*l.length+32=37+5*l.length:=zo;refine⟨(rNum bs (0,none) 4).2,l,(rDig bs (0+4+1+5*l.length,none)).2,?_,Nat.lt_of_lt_of_eq hid zdc,Nat.le_of_not_lt hhead,c6,hdl,hdb,?_,?_⟩
 · rw[hd1,e37]
 · rw[←e37]
   exact d3
 simp only at d5;rw[←e37,d5,c7,b4,a4,hdd];simp[List.append_assoc]
theorem qi4(bs:List Nat)(hb:∀x∈bs,x<256)(h:(qh5 bs).1=none):
 ∃id l tag,qh5 bs=(none,(id,l,tag))∧id<4294967296∧l.length≤4∧(∀c∈l,qd9 c.1=true∧c.2<4294967296)∧tag.length=32∧(∀x∈tag,x<256)∧qdb id l tag=(0,bs):=by
 unfold qh5 at h ⊢;cases hE:rEnd bs (decT bs (0,none)).1 with
 |some x=>
  rw[hE]at h;cases h
 |none=>
  have hn:(decT bs (0,none)).1.2=none:=by
   unfold rEnd at hE;split at hE
   · cases hE
   assumption
  obtain⟨id,l,tag,e,h1,h2,h3,h4,h5,h6,h7⟩:=qi3 bs hb hn;have hlen:bs.length≤37+5*l.length:=by
   rw[e]at hE;unfold rEnd at hE;simp only at hE;split at hE
   · cases hE
   omega
  refine⟨id,l,tag,by simp only[e],h1,h2,h3,h4,h5,?_⟩;rw[tB5 hlen]at h7;unfold qdb;rw[if_neg zo,if_pos (List.all_eq_true.2 fun c hc=>by simpa using (h3 c hc).1),h7]
theorem qi5(bs:List Nat)(hb:∀x∈bs,x<256):(qh5 bs).2.Ok∧(qh5 bs).2.2.1.length≤4:=by
 cases h:(qh5 bs).1 with
 |none=>
  obtain⟨id,l,tag,e,h1,h2,h3,h4,h5,-⟩:=qi4 bs hb h;rw[e];exact⟨⟨h1,fun c hc=>(h3 c hc).2,h4,h5⟩,h2⟩
 |some x=>
  have:(qh5 bs).2=qgu:=by
   unfold qh5 at h ⊢;split at h
   · cases h
   rfl
  rw[this];exact⟨⟨by decide,fun c hc=>(nomatch hc),by simp[qgu],by intro x hx;simp[qgu]at hx;omega⟩,by simp[qgu]⟩
theorem qi6(v:Int)(w:World):
 Zc 154 #[.int .i64 v] w fun e w'=>e=.returned (.bool (decide (0≤v∧v≤255)))∧w=w':=by
 by_cases h0:0≤v
 ·
  by_cases h1:v≤255
  · go_enter Tryz.func154,Tryz.ntmps154
    go_wp2
    go_ret
    exact⟨qdc (by simp[h0,h1]),rfl⟩
  go_enter Tryz.func154,Tryz.ntmps154
  go_wp2
  go_ret
  exact⟨qdc (by simp[h0,h1]),rfl⟩
 go_enter Tryz.func154,Tryz.ntmps154
 go_wp2
 go_ret
 exact⟨qdc (by simp;omega),rfl⟩
def Req.num (R:Req)(o:Nat):Int:=
 match o with
 |35=>R.tree|36=>R.tenant|37=>R.role|38=>R.state|39=>R.weight|40=>R.id|41=>R.lo|42=>R.hi|43=>R.rate|44=>R.burst|45=>R.store|46=>R.expires|_=>0
def qi7 (R:Req)(f:Fld):Nat:=
 if f.2.1=1 then(if 0≤R.num f.2.2∧R.num f.2.2≤255 then 0 else 1)
 else if f.2.1=2∨f.2.1=3 then 0
 else if 256<R.leaf.length then 3 else 0
def fldB (R:Req)(f:Fld):List Nat:=
 if f.2.1=1∨f.2.1=2∨f.2.1=3 then be (R.num f.2.2).toNat f.1 else txt R.leaf
def qi8 (R:Req):List Fld→List Nat→Nat × List Nat
 |[],acc=>(0,acc)
 |f::l,acc=>if qi7 R f=0 then qi8 R l (acc++fldB R f) else(qi7 R f,[])
def qi9 (R:Req):Nat × List Nat:=
 match fieldsOf R.op with
 |none=>(1,[])
 |some l=>qi8 R l (be R.op.toNat 1)
theorem qia(R:Req)(l:List Fld)(k:Nat)(acc:List Nat)(h:∀f∈l.take k,qi7 R f=0):qi8 R l acc=qi8 R (l.drop k) (acc++(l.take k).flatMap (fldB R)):=by
 induction l generalizing k acc with
 |nil=>simp[qi8]
 |cons f l ih=>
  cases k with
  |zero=>simp
  |succ k=>
   rw[List.take_succ_cons]at h;rw[qi8,if_pos (h f zm),ih k _ (fun x hx=>h x (by simp[hx]))];simp
theorem qib(R:Req)(l:List Fld)(k:Nat)(f:Fld)(acc:List Nat)(h:∀f∈l.take k,qi7 R f=0)(hk:l[k]? =some f)(hf:qi7 R f≠0):qi8 R l acc=(qi7 R f,[]):=by
 rw[qia R l k acc h];have hlt:k<l.length:=by
  rcases Nat.lt_or_ge k l.length with h|h
  · exact h
  rw[List.getElem?_eq_none h]at hk;cases hk
 rw[List.drop_eq_getElem_cons hlt];have:l[k]=f:=by rw[tA7 hlt]at hk;simpa using hk
 rw[this,qi8,if_neg hf]
theorem qic(g:Nat)(l:List Fld)(k:Nat)(f:Fld)(h:l[k]? =some f)(j:Nat)(hj:j<4):(qdn g l)[k*4+j]? =(fldv g f)[j]? :=by
 have h4:∀f,(fldv g f).length=4:=by intro f;unfold fldv;split<;>(try split)<;>(try split)<;>rfl
 unfold qdn;induction l generalizing k with
 |nil=>simp at h
 |cons y l ih=>
  rw[List.flatMap_cons];cases k with
  |zero=>simp at h;subst h;rw[tBm (by rw[h4];omega)];simp
  |succ k=>
   rw[tBn (by rw[h4];omega),h4,←ih k (by simpa using h)];congr 1
   omega
def IsFld (f:Fld):Prop:=f=(1,1,35)∨f=(1,1,36)∨f=(1,1,37)∨f=(1,1,38)∨f=(1,1,39)∨f=(4,2,40)∨f=(8,3,41)∨f=(8,3,42)∨f=(4,2,43)∨f=(4,2,44)∨f=(4,2,45)∨f=(8,3,46)∨f=(0,0,0)
theorem qid(op:Int)(l:List Fld)(hl:fieldsOf op=some l)(f:Fld)(hf:f∈l):IsFld f:=by
 unfold fieldsOf at hl;repeat' split at hl
 all_goals simp only[Option.some.injEq,reduceCtorEq]at hl
 all_goals subst hl
 all_goals simp only[List.mem_cons,List.not_mem_nil,or_false]at hf
 all_goals unfold IsFld
 all_goals first|(rcases hf with rfl|rfl|rfl|rfl<;>simp)|(rcases hf with rfl|rfl|rfl<;>simp)|(rcases hf with rfl|rfl<;>simp)|(subst hf;simp)
theorem qie(R:Req)(cav leafv:Value)(ht:R.tag.length=32)(op:Int)(l:List Fld)(hl:fieldsOf op=some l)(f:Fld)(hf:f∈l):
 (f.2.1=1∧f.1=1∧(reqv R cav leafv)[f.2.2]? =some (.int .i64 (R.num f.2.2)))∨(f.2.1=2∧f.1=4∧0≤R.num f.2.2∧(reqv R cav leafv)[f.2.2]? =some (.int .u32 (R.num f.2.2)))∨(f.2.1=3∧f.1=8∧0≤R.num f.2.2∧(reqv R cav leafv)[f.2.2]? =some (.int .u64 (R.num f.2.2)))∨f=(0,0,0):=by
 have hr:=qdl R cav leafv ht;have q:∀o k,o=35+k→(reqv R cav leafv)[o]? =(R.rest leafv)[k]? :=fun o k e=>by rw[e];exact hr k
 have h:=qid op l hl f hf;clear hf hl;unfold IsFld at h;focus
  rcases h with rfl|rfl|rfl|rfl|rfl|rfl|rfl|rfl|rfl|rfl|rfl|rfl|rfl
  · exact .inl ⟨rfl,rfl,q 35 0 rfl⟩
  · exact .inl ⟨rfl,rfl,q 36 1 rfl⟩
  · exact .inl ⟨rfl,rfl,q 37 2 rfl⟩
  · exact .inl ⟨rfl,rfl,q 38 3 rfl⟩
  · exact .inl ⟨rfl,rfl,q 39 4 rfl⟩
  · exact .inr (.inl ⟨rfl,rfl,Int.natCast_nonneg _,q 40 5 rfl⟩)
  · exact .inr (.inr (.inl ⟨rfl,rfl,Int.natCast_nonneg _,q 41 6 rfl⟩))
  · exact .inr (.inr (.inl ⟨rfl,rfl,Int.natCast_nonneg _,q 42 7 rfl⟩))
  · exact .inr (.inl ⟨rfl,rfl,Int.natCast_nonneg _,q 43 8 rfl⟩)
  · exact .inr (.inl ⟨rfl,rfl,Int.natCast_nonneg _,q 44 9 rfl⟩)
  · exact .inr (.inl ⟨rfl,rfl,Int.natCast_nonneg _,q 45 10 rfl⟩)
  · exact .inr (.inr (.inl ⟨rfl,rfl,Int.natCast_nonneg _,q 46 11 rfl⟩))
  exact .inr (.inr (.inr rfl))
theorem qif(op:Int)(l:List Fld)(hl:fieldsOf op=some l):1≤op∧op≤12∧l.length≤4:=by
 unfold fieldsOf at hl;repeat' split at hl
 all_goals simp only[Option.some.injEq,reduceCtorEq]at hl
 all_goals (subst hl;refine⟨?_,?_,?_⟩<;>first|omega|simp)
theorem Wri.drew(h:Wri w B g bs):Wri w.drew B g bs:=h.kept_call ((tA5 _ _).drew)
theorem Wri.lt(h:Wri w B g bs):g<w.heap.size:=by
 obtain⟨v,h,-,-⟩:=h;exact h.lt
theorem qig(R:Req)(l:List Fld)(k:Nat)(f:Fld)(hx:l[k]? =some f)(hall:∀f∈l.take k,qi7 R f=0)(hf:qi7 R f=0)(hb:fldB R f=bs)(acc:List Nat):
 (∀f∈l.take (k+1),qi7 R f=0)∧acc++(l.take (k+1)).flatMap (fldB R)=acc++(l.take k).flatMap (fldB R)++bs:=by
 rw[List.take_add_one,hx];refine⟨fun y hy=>?_,by simp[hb]⟩;rcases List.mem_append.1 hy with h|h
 · exact hall y h
 simp at h;rw[h];exact hf
theorem qih(R:Req)(f:Fld)(h:IsFld f):(fldB R f).length≤65540:=by
 have ht:(txt R.leaf).length≤65540:=by
  unfold txt;rw[tA6,qaw,tBd];omega
 have hb:∀a s,s≤8→(be a s).length≤65540:=fun a s h=>by rw[qaw];omega
 unfold IsFld at h;rcases h with rfl|rfl|rfl|rfl|rfl|rfl|rfl|rfl|rfl|rfl|rfl|rfl|rfl<;>unfold fldB<;>simp<;>first|exact ht|exact hb _ _ zo
theorem qii(R:Req)(n:Nat)(l:List Fld)(h:∀f∈l,IsFld f)(hl:l.length≤4)(k:Nat):(be n 1++(l.take k).flatMap (fldB R)).length≤4294967296:=by
 have key:∀l:List Fld,(∀f∈l,IsFld f)→(l.flatMap (fldB R)).length≤65540*l.length:=by
  intro l;induction l with
  |nil=>intro _;simp
  |cons f l ih=>
   intro h;rw[List.flatMap_cons,tA6,tBi];have h1:=qih R f (h f zm);have h2:=ih fun g hg=>h g (by simp[hg])
   omega
 have h1:=key (l.take k) fun f hf=>h f (tB7 hf)
 have h2:(l.take k).length≤l.length:=by rw[tBd];omega
 rw[tA6,qaw];omega
structure Req.Fit (R:Req):Prop where
 tag:R.tag.length=32
 num:∀o,R.num o<18446744073709551616
theorem qij(R:Req)(cav:Value)(Al:Option Addr)(cl:Nat)(w:World)(hR:R.Fit)(hleaf:Reads w w.heap.size 1 Al R.leaf.length (byv R.leaf))(hlc:R.leaf.length≤cl)(hc:cl≤maxLen):
 Zc 141 #[.agg (reqv R cav (.slice Al R.leaf.length cl)).toArray] w fun e w'=>∃v,e=.returned (.tuple #[v,.int .i64 ((qi9 R).1:Int)])∧w'.ownsRow w.heap.size 5 1 v (qi9 R).2.length (byv (qi9 R).2)∧Zb w w':=by
 unfold maxLen at hc;have hfc:=qie R cav (.slice Al R.leaf.length cl) hR.tag R.op;have hd47:=qdl R cav (.slice Al R.leaf.length cl) hR.tag 12;have hd0:(reqv R cav (.slice Al R.leaf.length cl))[0]? =some (.int .i64 R.op):=rfl;rw[show (R.rest (.slice Al R.leaf.length cl))[12]? =some (.slice Al R.leaf.length cl) from rfl]at hd47;obtain⟨D,hD⟩:=xeq ((reqv R cav (.slice Al R.leaf.length cl)).toArray);have hat:∀i,(reqv R cav (.slice Al R.leaf.length cl))[i]? =D[i]? :=fun i=>by rw[←hD];exact List.getElem?_toArray.symm
 rw[hat]at hd47 hd0;simp only[hat]at hfc;rw[hD];have A1:=zh1 hfc;clear hfc hat hD;have e1:qb0 1=1:=rfl;have e4:qb0 4=4:=rfl;have e8:qb0 8=8:=rfl;go_enter Tryz.func141,Tryz.ntmps141
 go_wp2_with fail
 have t0:Blk (w.alloc (.cells D 34)) w.heap.size 34 D:=Blk.new w _ D;refine(qe2 w.heap.size D R.op _ t0 hd0).mono ?_;rintro e w1 ⟨v,rfl,hown,hb1⟩;have B1:=qag (qah (tA5 w.heap.size w) (.cells D 34)) hb1;have t1:=t0.below hb1 t0.lt;have hz0:(w.alloc (.cells D 34)).heap.size=w.heap.size+1:=by simp
 try simp only[Zb,Zb]at hb1;rw[hz0]at hb1
 have hlf1:=(hleaf.alloc (tA4 _) (.cells D 34)).below (hb1.mono (Nat.le_succ _));obtain⟨o,ho⟩:=xeq (fieldsOf R.op);rw[ho]at hown ⊢;cases o with
 |none=>
  have H:Hid (qi9 R=(1,[])):=by unfold Hid qi9;rw[ho]
  go_wp2
  go_ret2
  exact⟨_,by rw[H.o];rfl,by rw[H.o];exact World.ownsRow_nil ..,B1⟩
 |some l=>
  have H:Hid (qi9 R=qi8 R l (be R.op.toNat 1)):=by unfold Hid qi9;rw[ho]
  obtain⟨o1,o2,hl4⟩:=qif R.op l ho;simp only[Option.getD_some,Option.isSome_some]at hown ⊢;obtain⟨A,c,rfl,hnc,hcm,hr1⟩:=qaf hown;go_wp2_with fail
  refine(qd3 _).mono ?_;rintro e w2 ⟨rfl,hw2,hb2⟩;obtain⟨W,hW⟩:=xeq w1.heap.size;rw[hW]at hw2 hr1;have hWl:w.heap.size<W:=by have:=t1.lt;omega
  have hb2':Below W w1 w2:=by rw[←hW];exact hb2
  rw[hW];have B2:=B1.trans (hb2'.mono zo);have t2:=t1.below hb2' hWl;have hr2:=hr1.below hb2';have hlf2:=hlf1.below (hb2'.mono zo);clear hb2 hb2' t0 t1 hb1 hown hr1 hlf1 hleaf;obtain⟨n,hn⟩:∃n:Nat,R.op=(n:Int):=⟨R.op.toNat,by omega⟩;have hn':R.op.toNat=n:=zo;rw[hn']at H;rw[hn]at o1 o2 hd0;have c0:=t2.cell 0;rw[hd0]at c0;go_wp2_with fail
  refine(qd2 W W n 1 [] _ hw2 zo zm).mono ?_;rintro e w3 ⟨rfl,hw3,hb3,-⟩;rw[e1,List.nil_append]at hw3;have B3:=B2.trans (hb3.mono zo);have t3:=t2.below hb3 hWl;have hr3:=hr2.below hb3;have hlf3:=hlf2.below (hb3.mono zo);clear hw2 hb3 t2 hr2 hlf2 c0 B2;go_wp2
  go_loopw [23] (fun i wr=>∃k:Nat,k≤l.length∧i=.int .i64 k∧(∀f∈l.take k,qi7 R f=0)∧Wri wr W W (be n 1++(l.take k).flatMap (fldB R))∧Below W w3 wr) (fun i _=>l.length - (intOf i).toNat)
  case atStart=>exact⟨0,by omega,rfl,by simp,by simpa using hw3,tA5 _ _⟩
  case round=>
   obtain⟨k,hk,rfl,hall,hwr,hbr⟩:=hrel;have tr:=t3.below hbr hWl;have hrr:=hr3.below hbr;have hlr:=hlf3.below (hbr.mono zo);have Hall:=zh1 hall;clear hall t3 hr3 hw3 hlf3;have A0:=zh1 (qii R n l (fun f hf=>qid R.op l ho f hf) hl4);by_cases hlt:k<l.length
   ·
    have hx:l[k]? =some l[k]:=tA7 hlt;obtain⟨f,hfe⟩:=xeq (l[k]);rw[hfe]at hx;clear hfe;have q:=qic w.heap.size l k f hx;have hF:=A1.o l ho f (tB2 hx);obtain⟨b,o,rfl,hab,hcell⟩:=hrr.mid zo zo;obtain⟨Hx,Ho⟩:=zh2 hx ho;clear hx ho hrr;rcases hF with⟨f1,f2,f3⟩|⟨f1,f2,f3,f4⟩|⟨f1,f2,f3,f4⟩|rfl
    ·
     have m0:=hcell (k*4+0) _ ((q 0 zo).trans (by unfold fldv;rw[if_pos f1];rfl));have m1:=hcell (k*4+1) _ ((q 1 zo).trans (by unfold fldv;rw[if_pos f1];rfl));have m2:=hcell (k*4+2) _ ((q 2 zo).trans (by unfold fldv;rw[if_pos f1];rfl));have m3:=hcell (k*4+3) _ ((q 3 zo).trans (by unfold fldv;rw[if_pos f1];rfl));clear q hcell;rw[f2]at m0;simp only[←Nat.add_assoc,Nat.add_zero]at m0 m1 m2 m3;obtain⟨g,q,x⟩:=f;simp only at f1 f2 f3 m0 m1 m2 m3;subst f1 f2;have cx:=tr.cell x;rw[f3]at cx;have hgl:=tr.lt;go_wp2_with fail
     refine(qi6 _ _).mono ?_;rintro e w4 ⟨rfl,rfl⟩;by_cases hb:0≤R.num x∧R.num x≤255
     ·
      obtain⟨m,hm⟩:∃m:Nat,R.num x=(m:Int):=⟨(R.num x).toNat,by omega⟩;have Hst:Hid ((∀f∈l.take (k+1),qi7 R f=0)∧be n 1++(l.take (k+1)).flatMap (fldB R)=be n 1++(l.take k).flatMap (fldB R)++be m 1):=by
       refine qig R l k _ Hx.o Hall.o ?_ ?_ _
       · simp[qi7,hb]
       simp[fldB,hm]
      rw[hm]at hb cx;rw[hm,decide_eq_true hb];go_wp2_with fail
      have hwa:=(hwr.kept_call ((tA5 _ _).alloc (tA4 _) (.cells #[.int .i64 1,.pointer (some ⟨w.heap.size,x,none⟩),.pointer none,.pointer none] 252))).drew;have hsz:W≤wr.heap.size:=by have:=hbr.size;have:=hwr.lt;omega
      obtain⟨S,HS⟩:=zS fun w'=>w'.cell? ⟨wr.heap.size,0,none⟩=some (.int .i64 1)∧w'.cell? ⟨wr.heap.size,1,none⟩=some (.pointer (some ⟨w.heap.size,x,none⟩))∧w'.cell? ⟨w.heap.size,x,none⟩=some (.int .i64 (m:Int))
      refine zrs S 8 (zq 0 8 [(8,true)]) ((HS.o _).mpr ⟨qak wr _ _ 0,qak wr _ _ 1,qaj cx _⟩) ?_;repeat(refine zrt0 ?_)
      refine zw ?_;go_simp;refine(qd2 W W m 1 _ _ hwa zo (A0.o k)).mono ?_;rintro e w5 ⟨rfl,hw5,hb5,-⟩;rw[e1,←Hst.o.2]at hw5;obtain⟨HW,HB⟩:=zh2 hw5 ((hbr.alloc hsz (.cells #[.int .i64 1,.pointer (some ⟨w.heap.size,x,none⟩),.pointer none,.pointer none] 252)).drew.trans hb5);clear hw5 hb5 hwr hbr tr hwa HS m0 m1 m2 m3 cx;go_simp;refine qbg ?_;go_wp2
      go_roundw
      case rel=>exact⟨k+1,by omega,by go_num,Hst.o.1,HW.o,HB.o⟩
      case measure=>simp[intOf];omega
     have Hst:Hid (qi9 R=(1,[])):=by
      unfold Hid;rw[H.o,qib R l k _ _ Hall.o Hx.o]
      · simp[qi7,hb]
      simp[qi7,hb]
     rw[decide_eq_false hb];have HB:=zh1 ((B3.trans (hbr.mono zo)).alloc (by have:=hbr.size;omega) (.cells #[.int .i64 1,.pointer (some ⟨w.heap.size,x,none⟩),.pointer none,.pointer none] 252));go_wp2
     go_ret2
     exact⟨_,by rw[Hst.o];rfl,by rw[Hst.o];exact World.ownsRow_nil ..,HB.o⟩
    ·
     obtain⟨g,q0,x⟩:=f;simp only at f1 f2 f3 f4;subst f1 f2;have m0:=hcell (k*4+0) _ ((q 0 zo).trans rfl);have m1:=hcell (k*4+1) _ ((q 1 zo).trans rfl);have m2:=hcell (k*4+2) _ ((q 2 zo).trans rfl);have m3:=hcell (k*4+3) _ ((q 3 zo).trans rfl);clear q hcell;simp only[←Nat.add_assoc,Nat.add_zero]at m0 m1 m2 m3;have cx:=tr.cell x;rw[f4]at cx;have hgl:=tr.lt;obtain⟨m,hm⟩:∃m:Nat,R.num x=(m:Int):=⟨(R.num x).toNat,by omega⟩;have hm64:=hR.num x;have Hst:Hid ((∀f∈l.take (k+1),qi7 R f=0)∧be n 1++(l.take (k+1)).flatMap (fldB R)=be n 1++(l.take k).flatMap (fldB R)++be m 4):=by
      refine qig R l k _ Hx.o Hall.o ?_ ?_ _
      · simp[qi7]
      simp[fldB,hm]
     rw[hm]at cx hm64;go_wp2_with fail
     have hwa:=(hwr.kept_call ((tA5 _ _).alloc (tA4 _) (.cells #[.int .i64 4,.pointer none,.pointer (some ⟨w.heap.size,x,none⟩),.pointer none] 252))).drew;have hsz:W≤wr.heap.size:=by have:=hbr.size;have:=hwr.lt;omega
     obtain⟨S,HS⟩:=zS fun w'=>w'.cell? ⟨wr.heap.size,0,none⟩=some (.int .i64 4)∧w'.cell? ⟨wr.heap.size,2,none⟩=some (.pointer (some ⟨w.heap.size,x,none⟩))∧w'.cell? ⟨w.heap.size,x,none⟩=some (.int .u32 (m:Int))
     refine zrs S 8 (zq 0 8 [(8,true)]) ((HS.o _).mpr ⟨qak wr _ _ 0,qak wr _ _ 2,qaj cx _⟩) ?_;repeat(refine zrt0 ?_)
     refine zw ?_;go_simp;refine(qd2 W W m 4 _ _ hwa zo (A0.o k)).mono ?_;rintro e w5 ⟨rfl,hw5,hb5,-⟩;rw[e4,←Hst.o.2]at hw5;obtain⟨HW,HB⟩:=zh2 hw5 ((hbr.alloc hsz (.cells #[.int .i64 4,.pointer none,.pointer (some ⟨w.heap.size,x,none⟩),.pointer none] 252)).drew.trans hb5);clear hw5 hb5 hwr hbr tr hwa HS m0 m1 m2 m3 cx;go_simp;refine qbg ?_;go_wp2
     go_roundw
     case rel=>exact⟨k+1,by omega,by go_num,Hst.o.1,HW.o,HB.o⟩
     case measure=>simp[intOf];omega
    ·
     obtain⟨g,q0,x⟩:=f;simp only at f1 f2 f3 f4;subst f1 f2;have m0:=hcell (k*4+0) _ ((q 0 zo).trans rfl);have m1:=hcell (k*4+1) _ ((q 1 zo).trans rfl);have m2:=hcell (k*4+2) _ ((q 2 zo).trans rfl);have m3:=hcell (k*4+3) _ ((q 3 zo).trans rfl);clear q hcell;simp only[←Nat.add_assoc,Nat.add_zero]at m0 m1 m2 m3;have cx:=tr.cell x;rw[f4]at cx;have hgl:=tr.lt;obtain⟨m,hm⟩:∃m:Nat,R.num x=(m:Int):=⟨(R.num x).toNat,by omega⟩;have hm64:=hR.num x;have Hst:Hid ((∀f∈l.take (k+1),qi7 R f=0)∧be n 1++(l.take (k+1)).flatMap (fldB R)=be n 1++(l.take k).flatMap (fldB R)++be m 8):=by
      refine qig R l k _ Hx.o Hall.o ?_ ?_ _
      · simp[qi7]
      simp[fldB,hm]
     rw[hm]at cx hm64;go_wp2_with fail
     have hwa:=(hwr.kept_call ((tA5 _ _).alloc (tA4 _) (.cells #[.int .i64 8,.pointer none,.pointer none,.pointer (some ⟨w.heap.size,x,none⟩)] 252))).drew;have hsz:W≤wr.heap.size:=by have:=hbr.size;have:=hwr.lt;omega
     obtain⟨S,HS⟩:=zS fun w'=>w'.cell? ⟨wr.heap.size,0,none⟩=some (.int .i64 8)∧w'.cell? ⟨wr.heap.size,3,none⟩=some (.pointer (some ⟨w.heap.size,x,none⟩))∧w'.cell? ⟨w.heap.size,x,none⟩=some (.int .u64 (m:Int))
     refine zrs S 7 (zq 0 7 [(7,true)]) ((HS.o _).mpr ⟨qak wr _ _ 0,qak wr _ _ 3,qaj cx _⟩) ?_;repeat(refine zrt0 ?_)
     refine zw ?_;go_simp;refine(qd2 W W m 8 _ _ hwa zo (A0.o k)).mono ?_;rintro e w5 ⟨rfl,hw5,hb5,-⟩;rw[e8,←Hst.o.2]at hw5;obtain⟨HW,HB⟩:=zh2 hw5 ((hbr.alloc hsz (.cells #[.int .i64 8,.pointer none,.pointer none,.pointer (some ⟨w.heap.size,x,none⟩)] 252)).drew.trans hb5);clear hw5 hb5 hwr hbr tr hwa HS m0 m1 m2 m3 cx;go_simp;refine qbg ?_;go_wp2
     go_roundw
     case rel=>exact⟨k+1,by omega,by go_num,Hst.o.1,HW.o,HB.o⟩
     case measure=>simp[intOf];omega
    have m0:=hcell (k*4+0) _ ((q 0 zo).trans rfl);have m1:=hcell (k*4+1) _ ((q 1 zo).trans rfl);have m2:=hcell (k*4+2) _ ((q 2 zo).trans rfl);have m3:=hcell (k*4+3) _ ((q 3 zo).trans rfl);clear q hcell;simp only[←Nat.add_assoc,Nat.add_zero]at m0 m1 m2 m3;have cx:=tr.cell 47;rw[show D[47]? =some (.slice Al R.leaf.length cl) from hd47]at cx;have hgl:=tr.lt;have hsz:W≤wr.heap.size:=by have:=hbr.size;have:=hwr.lt;omega
    by_cases hb:256<R.leaf.length
    ·
     have Hst:Hid (qi9 R=(3,[])):=by
      unfold Hid;rw[H.o,qib R l k _ _ Hall.o Hx.o]
      · simp[qi7,hb]
      simp[qi7,hb]
     have HB:=zh1 ((B3.trans (hbr.mono zo)).alloc zo (.cells #[.int .i64 0,.pointer none,.pointer none,.pointer none] 252));go_wp2
     go_ret2
     exact⟨_,by rw[Hst.o];rfl,by rw[Hst.o];exact World.ownsRow_nil ..,HB.o⟩
    have Hst:Hid ((∀f∈l.take (k+1),qi7 R f=0)∧be n 1++(l.take (k+1)).flatMap (fldB R)=be n 1++(l.take k).flatMap (fldB R)++txt R.leaf):=by
     refine qig R l k _ Hx.o Hall.o ?_ ?_ _
     · simp[qi7,hb]
     simp[fldB]
    go_wp2_with fail
    have hwa:=hwr.kept_call ((tA5 _ _).alloc (tA4 _) (.cells #[.int .i64 0,.pointer none,.pointer none,.pointer none] 252));have hla:=(hlr.alloc zo (.cells #[.int .i64 0,.pointer none,.pointer none,.pointer none] 252)).more (show w.heap.size≤W by omega);refine(qd7 W W _ R.leaf Al R.leaf.length cl _ hwa (A0.o k) hla hlc hc).mono ?_;rintro e w5 ⟨rfl,hw5,hb5,-⟩;rw[←Hst.o.2]at hw5;obtain⟨HW,HB⟩:=zh2 hw5 ((hbr.alloc hsz (.cells #[.int .i64 0,.pointer none,.pointer none,.pointer none] 252)).trans hb5);clear hw5 hb5 hwr hbr tr hwa m0 m1 m2 m3 cx hla;go_wp2
    go_roundw
    case rel=>exact⟨k+1,by omega,by go_num,Hst.o.1,HW.o,HB.o⟩
    case measure=>simp[intOf];omega
   obtain rfl:k=l.length:=zo;have Hst:Hid (qi9 R=(0,be n 1++(l.take l.length).flatMap (fldB R))):=by
    unfold Hid;rw[H.o,qia R l l.length _ Hall.o,List.drop_length];rfl
   go_wp2_with fail
   refine(qd5 W W _ _ hwr (by have:=A0.o l.length;omega)).mono ?_;rintro e w6 ⟨v,rfl,hown6,hb6⟩;have hsz:W≤wr.heap.size:=by have:=hbr.size;have:=hwr.lt;omega
   obtain⟨HO,HB⟩:=zh2 (qdf hown6 (show w.heap.size≤wr.heap.size by omega)) ((B3.trans (hbr.mono zo)).trans (hb6.mono zo));clear hown6 hb6 hwr hbr tr;go_wp2
   go_ret2
   exact⟨v,by rw[Hst.o];rfl,by rw[Hst.o];exact HO.o,HB.o⟩
def req0 (T:Tok)(op:Int):Req:=⟨op,T.1,T.2.1,T.2.2,0,0,0,0,0,0,0,0,0,0,0,0,[]⟩
def Req.put (R:Req)(o n:Nat):Req:=
 match o with
 |35=>{R with tree:=n}|36=>{R with tenant:=n}|37=>{R with role:=n}|38=>{R with state:=n}|39=>{R with weight:=n}|40=>{R with id:=n}
 |41=>{R with lo:=n}|42=>{R with hi:=n}|43=>{R with rate:=n}|44=>{R with burst:=n}|45=>{R with store:=n}|46=>{R with expires:=n}|_=>R
def qik (bs:List Nat):List Fld→RSt→Req→RSt × Req
 |[],s,R=>(s,R)
 |f::l,s,R=>
  if f.2.1=0 then qik bs l (qho bs s 256).1 {R with leaf:=(qho bs s 256).2}
  else qik bs l (rNum bs s f.1).1 (R.put f.2.2 (rNum bs s f.1).2)
def qil (bs:List Nat):RSt:=
 if (qh5 (qho bs (0,none) 77).2).1=none then(qho bs (0,none) 77).1 else qg6 (qho bs (0,none) 77).1 (qho bs (0,none) 77).1.1 12
def reqT (bs:List Nat):Tok:=(qh5 (qho bs (0,none) 77).2).2
def qim (bs:List Nat):RSt × Req:=
 match fieldsOf ((rNum bs (qil bs) 1).2:Int) with
 |none=>(qg6 (rNum bs (qil bs) 1).1 (rNum bs (qil bs) 1).1.1 12,req0 (reqT bs) ((rNum bs (qil bs) 1).2:Int))
 |some l=>qik bs l (rNum bs (qil bs) 1).1 (req0 (reqT bs) ((rNum bs (qil bs) 1).2:Int))
def qin:Req:=req0 qgu 0
def qio (bs:List Nat):Option (Nat × Nat) × Req:=match rEnd bs (qim bs).1 with
 |none=>(none,(qim bs).2)
 |some x=>(some x,qin)
theorem qip(bs:List Nat)(s:RSt)(m:Nat)(h:∀x∈bs,x<256):(qho bs s m).2.length≤65535:=by
 have h1:=qgf bs (if (rNum bs s 2).1.2=none∧m<(rNum bs s 2).2 then(s.1,some (s.1,3)) else(rNum bs s 2).1) (rNum bs s 2).2;have h2:=qgh bs s 2 h;have e:(256:Nat)^2=65536:=by decide
 rw[e]at h2;unfold qho;omega
theorem qiq(bs:List Nat)(s7:RSt)(k:Nat)(h:rNum bs (qil bs) 1=(s7,k)):
 qim bs=qik bs ((fieldsOf (k:Int)).getD []) (if (fieldsOf (k:Int)).isSome then s7 else qg6 s7 s7.1 12) (req0 (reqT bs) (k:Int)):=by
 unfold qim;rw[h];cases hf:fieldsOf (k:Int) with
 |none=>simp only[hf];rfl
 |some l=>simp only[hf];rfl
theorem qir(T:Tok)(cav lv:Value)(k:Nat):(reqv (req0 T 0) cav lv).toArray.setIfInBounds 0 (.int .i64 (k:Int))=(reqv (req0 T (k:Int)) cav lv).toArray:=by
 simp[reqv,req0,Req.rest]
structure Req.Fine (R:Req):Prop where
 tag:R.tag.length=32
 tagb:∀b∈R.tag,b<256
 tid:R.tid<4294967296
 cavn:∀x∈R.cavs,x.2<4294967296
 cavl:R.cavs.length≤4
 leafb:∀b∈R.leaf,b<256
 leafl:R.leaf.length≤65535
def fldN (f:Fld)(n:Nat):Value:=if f.2.1=1 then .int .i64 (n:Int) else if f.2.1=2 then .int .u32 (n:Int) else .int .u64 (n:Int)
theorem qis(R:Req)(cav leafv:Value)(ht:R.tag.length=32)(k:Nat)(v:Value):(reqv R cav leafv).toArray.setIfInBounds (35+k) v=((Value.int .i64 R.op::tokv R.tid cav R.tag)++(R.rest leafv).set k v).toArray:=by
 have h:(Value.int .i64 R.op::tokv R.tid cav R.tag).length=35:=by rw[tBi,qdg _ _ _ ht]
 unfold reqv;rw[List.setIfInBounds_toArray,List.set_append_right _ _ zo,h];rw[show 35+k - 35=k by omega]
theorem qit(R:Req)(cav leafv:Value)(ht:R.tag.length=32)(f:Fld)(hf:IsFld f)(h0:f.2.1≠0)(n:Nat):
 (reqv R cav leafv).toArray.setIfInBounds f.2.2 (fldN f n)=(reqv (R.put f.2.2 n) cav leafv).toArray:=by
 have q:=qis R cav leafv ht;unfold IsFld at hf;rcases hf with rfl|rfl|rfl|rfl|rfl|rfl|rfl|rfl|rfl|rfl|rfl|rfl|rfl
 · exact(q 0 _).trans rfl
 · exact(q 1 _).trans rfl
 · exact(q 2 _).trans rfl
 · exact(q 3 _).trans rfl
 · exact(q 4 _).trans rfl
 · exact(q 5 _).trans rfl
 · exact(q 6 _).trans rfl
 · exact(q 7 _).trans rfl
 · exact(q 8 _).trans rfl
 · exact(q 9 _).trans rfl
 · exact(q 10 _).trans rfl
 · exact(q 11 _).trans rfl
 exact absurd rfl h0
theorem qiu{f:Fld}(hf:IsFld f):(f.2.1=1∧f.1=1)∨(f.2.1=2∧f.1=4)∨(f.2.1=3∧f.1=8)∨f=(0,0,0):=by
 unfold IsFld at hf;rcases hf with rfl|rfl|rfl|rfl|rfl|rfl|rfl|rfl|rfl|rfl|rfl|rfl|rfl<;>simp
theorem qiv(R:Req)(cav leafv:Value)(ht:R.tag.length=32)(f:Fld)(hf:IsFld f)(h0:f.2.1≠0):∃v,(reqv R cav leafv)[f.2.2]? =some v:=by
 have q:=qdl R cav leafv ht;unfold IsFld at hf;rcases hf with rfl|rfl|rfl|rfl|rfl|rfl|rfl|rfl|rfl|rfl|rfl|rfl|rfl
 · exact⟨_,(q 0).trans rfl⟩
 · exact⟨_,(q 1).trans rfl⟩
 · exact⟨_,(q 2).trans rfl⟩
 · exact⟨_,(q 3).trans rfl⟩
 · exact⟨_,(q 4).trans rfl⟩
 · exact⟨_,(q 5).trans rfl⟩
 · exact⟨_,(q 6).trans rfl⟩
 · exact⟨_,(q 7).trans rfl⟩
 · exact⟨_,(q 8).trans rfl⟩
 · exact⟨_,(q 9).trans rfl⟩
 · exact⟨_,(q 10).trans rfl⟩
 · exact⟨_,(q 11).trans rfl⟩
 exact absurd rfl h0
theorem qiw(bs:List Nat)(l:List Fld)(j:Nat)(f:Fld)(s:RSt)(R:Req)(X:RSt × Req)(h:qik bs (l.drop j) s R=X)(hj:l[j]? =some f)(h0:f.2.1≠0):
 qik bs (l.drop (j+1)) (rNum bs s f.1).1 (R.put f.2.2 (rNum bs s f.1).2)=X:=by
 obtain⟨hlt,e⟩:=tA8 hj;rw[List.drop_eq_getElem_cons hlt,e]at h;rw[←h];show _=qik bs (f::l.drop (j+1)) s R;rw[qik,if_neg h0]
theorem qix(bs:List Nat)(l:List Fld)(j:Nat)(f:Fld)(s:RSt)(R:Req)(X:RSt × Req)(h:qik bs (l.drop j) s R=X)(hj:l[j]? =some f)(h0:f.2.1=0):
 qik bs (l.drop (j+1)) (qho bs s 256).1 {R with leaf:=(qho bs s 256).2}=X:=by
 obtain⟨hlt,e⟩:=tA8 hj;rw[List.drop_eq_getElem_cons hlt,e]at h;rw[←h];show _=qik bs (f::l.drop (j+1)) s R;rw[qik,if_pos h0]
theorem qiy(R:Req)(cav leafv v:Value)(l:List Nat)(ht:R.tag.length=32):(reqv R cav leafv).toArray.setIfInBounds 47 v=(reqv {R with leaf:=l} cav v).toArray:=
 (qis R cav leafv ht 12 v).trans rfl
theorem qiz(R:Req)(o n:Nat):(R.put o n).tid=R.tid∧(R.put o n).cavs=R.cavs∧(R.put o n).tag=R.tag∧(R.put o n).leaf=R.leaf∧(R.put o n).op=R.op:=by
 unfold Req.put;split<;>exact⟨rfl,rfl,rfl,rfl,rfl⟩
theorem Req.Fine.put(h:R.Fine)(o n:Nat):(R.put o n).Fine:=by
 obtain⟨h1,h2,h3,h4,-⟩:=qiz R o n;exact⟨by rw[h3];exact h.tag,by rw[h3];exact h.tagb,by rw[h1];exact h.tid,by rw[h2];exact h.cavn,by rw[h2];exact h.cavl,by rw[h4];exact h.leafb,by rw[h4];exact h.leafl⟩
structure Hd where
 tree:Int
 epoch:Int
 size:Nat
 clock:Nat
 root:List Nat
 tag:List Nat
 deriving DecidableEq
def Hd.zero:Hd:=⟨0,0,0,0,List.replicate 32 0,List.replicate 32 0⟩
def hdv (h:Hd):List Value:=.int .i64 h.tree::.int .i64 h.epoch::.int .u64 (h.size:Int)::.int .u64 (h.clock:Int)::(byv h.root++byv h.tag)
def hdB (h:Hd):List Nat:=be h.tree.toNat 1++(be h.epoch.toNat 4++(be h.size 8++(be h.clock 8++(h.root++h.tag))))
structure Hd.Ok (h:Hd):Prop where
 size:h.size<18446744073709551616
 clock:h.clock<18446744073709551616
 rootl:h.root.length=32
 rootb:∀x∈h.root,x<256
 tagl:h.tag.length=32
 tagb:∀x∈h.tag,x<256
structure Rsp where
 why:Int
 n:Nat
 bytes:List Nat
 hashes:List (List Nat)
 hd:Hd
 tok:Tok
def rspv (R:Rsp)(bv hv cav:Value):List Value:=.int .i64 R.why::.int .u64 (R.n:Int)::bv::hv::(hdv R.hd++tokv R.tok.1 cav R.tok.2.2)
structure Rsp.Ok (R:Rsp):Prop where
 n:R.n<18446744073709551616
 bytes:∀x∈R.bytes,x<256
 hashes:∀d∈R.hashes,d.length=32∧∀x∈d,x<256
 hd:R.hd.Ok
 tok:R.tok.Ok
theorem qj1:qgu.Ok:=⟨by decide,fun c hc=>(nomatch hc),by simp[qgu],by intro x hx;simp[qgu]at hx;omega⟩
theorem Hd.zero_Ok:Hd.zero.Ok:=⟨by decide,by decide,by simp[Hd.zero],by intro x hx;simp[Hd.zero]at hx;omega,by simp[Hd.zero],by intro x hx;simp[Hd.zero]at hx;omega⟩
def qj2:Rsp:=⟨0,0,[],[],Hd.zero,qgu⟩
def tokR (t:Tok):Nat × List Nat:=qdb t.1 t.2.1 t.2.2
def flagsOf (R:Rsp):Nat:=(if R.hd=Hd.zero then 0 else 1)+(if R.tok=qgu then 0 else 2)
def ansB (R:Rsp):List Nat:=
 be R.why.toNat 1++(be R.n 8++(txt R.bytes++(be R.hashes.length 1++(R.hashes.flatten++(be (flagsOf R) 1++((if R.hd=Hd.zero then [] else hdB R.hd)++(if R.tok=qgu then [] else txt (tokR R.tok).2)))))))
def Rsp.fits (R:Rsp):Bool:=decide (0≤R.why∧R.why≤255)&&decide (0≤R.hd.tree∧R.hd.tree≤255)&&decide (0≤R.hd.epoch∧R.hd.epoch≤2147483647)
def qj3 (R:Rsp):Nat × List Nat:=
 if 255<R.hashes.length∨(tokR R.tok).1=4 then(4,[])
 else if 65536≤R.bytes.length then(3,[])
 else if R.fits=true∧(tokR R.tok).1=0 then(0,ansB R) else(1,[])
def qj4 (bs:List Nat):Nat→RSt→List (List Nat)→RSt × List (List Nat)
 |0,s,l=>(s,l)
 |k+1,s,l=>qj4 bs k (rDig bs s).1 (l++[(rDig bs s).2])
def rh1 (bs:List Nat)(s:RSt):=rNum bs s 1
def rh2 (bs:List Nat)(s:RSt):=rNum bs (rh1 bs s).1 4
def rh3 (bs:List Nat)(s:RSt):RSt:=if 2147483647<(rh2 bs s).2 then qg6 (rh2 bs s).1 (rh2 bs s).1.1 12 else(rh2 bs s).1
def rh4 (bs:List Nat)(s:RSt):=rNum bs (rh3 bs s) 8
def rh5 (bs:List Nat)(s:RSt):=rNum bs (rh4 bs s).1 8
def rh6 (bs:List Nat)(s:RSt):=rDig bs (rh5 bs s).1
def rh7 (bs:List Nat)(s:RSt):=rDig bs (rh6 bs s).1
def rhH (bs:List Nat)(s:RSt):Hd:=⟨((rh1 bs s).2:Int),((rh2 bs s).2:Int),(rh4 bs s).2,(rh5 bs s).2,(rh6 bs s).2,(rh7 bs s).2⟩
def qj5 (bs:List Nat)(s:RSt):RSt × Hd:=(if rhH bs s=Hd.zero then qg6 (rh7 bs s).1 (rh7 bs s).1.1 12 else(rh7 bs s).1,rhH bs s)
def qj6 (bs:List Nat)(s:RSt):RSt × Tok:=
 (if (qh5 (qho bs s 65536).2).1=none∧(qh5 (qho bs s 65536).2).2≠qgu then(qho bs s 65536).1 else qg6 (qho bs s 65536).1 (qho bs s 65536).1.1 12,(qh5 (qho bs s 65536).2).2)
def rp1 (bs:List Nat):=rNum bs (0,none) 1
def rp2 (bs:List Nat):=rNum bs (rp1 bs).1 8
def rp3 (bs:List Nat):=qho bs (rp2 bs).1 65536
def rp4 (bs:List Nat):=rNum bs (rp3 bs).1 1
def rp5 (bs:List Nat):=qj4 bs (rp4 bs).2 (rp4 bs).1 []
def rp6 (bs:List Nat):=rNum bs (rp5 bs).1 1
def rp7 (bs:List Nat):RSt:=if 3<(rp6 bs).2 then qg6 (rp6 bs).1 (rp6 bs).1.1 12 else(rp6 bs).1
def rp8 (bs:List Nat):RSt × Hd:=if (rp6 bs).2 % 2=1 then qj5 bs (rp7 bs) else(rp7 bs,Hd.zero)
def rp9 (bs:List Nat):RSt × Tok:=if (rp6 bs).2 / 2 % 2=1 then qj6 bs (rp8 bs).1 else((rp8 bs).1,qgu)
def rpR (bs:List Nat):Rsp:=⟨((rp1 bs).2:Int),(rp2 bs).2,(rp3 bs).2,(rp5 bs).2,(rp8 bs).2,(rp9 bs).2⟩
def qj7 (bs:List Nat):Option (Nat × Nat) × Rsp:=match rEnd bs (rp9 bs).1 with
 |none=>(none,rpR bs)
 |some x=>(some x,qj2)
theorem qj8 (bs:List Nat)(hb:∀x∈bs,x<256):∀(k:Nat) (s:RSt) (l:List (List Nat)),(∀d∈l,d.length=32∧∀x∈d,x<256)→(∀d∈(qj4 bs k s l).2,d.length=32∧∀x∈d,x<256)∧(qj4 bs k s l).2.length=l.length+k
 |0,s,l,h=>⟨h,rfl⟩
 |k+1,s,l,h=>by
  unfold qj4;have ih:=qj8 bs hb k (rDig bs s).1 (l++[(rDig bs s).2]) (by
   intro d hd;rcases List.mem_append.1 hd with hd|hd
   · exact h d hd
   obtain rfl:=List.mem_singleton.1 hd;exact⟨qgj bs s,qgk bs s hb⟩)
  refine⟨ih.1,ih.2.trans ?_⟩;simp;omega
theorem qj9(bs:List Nat)(hb:∀x∈bs,x<256)(s:RSt):(rhH bs s).Ok:=
 ⟨Nat.lt_of_lt_of_eq (qgh bs _ 8 hb) zdc,Nat.lt_of_lt_of_eq (qgh bs _ 8 hb) zdc,qgj _ _,qgk _ _ hb,qgj _ _,qgk _ _ hb⟩
theorem qja(bs:List Nat)(hb:∀x∈bs,x<256):(rpR bs).Ok:=by
 refine⟨Nat.lt_of_lt_of_eq (qgh bs _ 8 hb) zdc,qhp bs _ _ hb,(qj8 bs hb _ _ [] (fun d hd=>by cases hd)).1,?_,?_⟩
 · show (rp8 bs).2.Ok
   unfold rp8;split
   · exact qj9 bs hb _
   exact Hd.zero_Ok
 show (rp9 bs).2.Ok;unfold rp9;split
 · exact(qi5 _ (qhp bs _ _ hb)).1
 exact qj1
theorem qjb:qj2.Ok:=⟨by decide,fun x hx=>(nomatch hx),fun x hx=>(nomatch hx),Hd.zero_Ok,qj1⟩
def qjc (R:Req):Nat × List Nat:=
 if (qi9 R).1=0 then(if (qdb R.tid R.cavs R.tag).1=0 then(0,txt (qdb R.tid R.cavs R.tag).2++(qi9 R).2) else((qdb R.tid R.cavs R.tag).1,[]))
 else((qi9 R).1,[])
theorem Tryz.req_info:(Tryz.prog.info? 34).map (·.size)=some 48:=by kernel_rfl
theorem qjd(R:Req)(cav leafv:Value)(ht:R.tag.length=32):(reqv R cav leafv).length=48:=by
 unfold reqv;rw[tA6,tBi,qdg _ _ _ ht];rfl
theorem qje(R:Req)(cav leafv:Value):∀j u,(tokv R.tid cav R.tag)[j]? =some u→(reqv R cav leafv)[1+j]? =some u:=by
 intro j u h;have hl:j<(tokv R.tid cav R.tag).length:=by
  rcases Nat.lt_or_ge j (tokv R.tid cav R.tag).length with h1|h1
  · exact h1
  rw[List.getElem?_eq_none h1]at h;cases h
 unfold reqv;rw[tBm (by simp;omega),show 1+j=j+1 from by omega,tBc];exact h
theorem qjf(R:Req):(qi9 R).2.length≤4294967296:=by
 have hg:∀l acc,(qi8 R l acc).2=[]∨((qi8 R l acc).2=acc++l.flatMap (fldB R)∧(qi8 R l acc).1=0):=by
  intro l;induction l with
  |nil=>intro acc;right;simp[qi8]
  |cons f l ih=>
   intro acc;rw[qi8];split
   · rcases ih (acc++fldB R f) with h|⟨h,h0⟩
     · exact .inl h
     exact .inr ⟨by rw[h];simp,h0⟩
   exact .inl rfl
 unfold qi9;cases ho:fieldsOf R.op with
 |none=>simp
 |some l=>
  simp only;rcases hg l (be R.op.toNat 1) with h|⟨h,-⟩
  · rw[h];simp
  have:=qii R R.op.toNat l (fun f hf=>qid R.op l ho f hf) (qif R.op l ho).2.2 l.length;rw[List.take_length]at this;rw[h];exact this
theorem qjg(l:List Nat):(txt l).length≤2+l.length:=by
 unfold txt;rw[tA6,qaw,tBd];omega
theorem qjh(R:Req)(Ac:Option Addr)(cc:Nat)(Al:Option Addr)(cl:Nat)(w:World)(hR:R.Fit)(hleaf:Reads w w.heap.size 1 Al R.leaf.length (byv R.leaf))(hlc:R.leaf.length≤cl)(hc:cl≤maxLen)
 (hcav:Reads w w.heap.size 2 Ac R.cavs.length (cavv R.cavs))(hcc:R.cavs.length≤cc)(hcm:cc≤maxLen)(hid:R.tid<4294967296)(hln:∀x∈R.cavs,x.2<4294967296):
 Zc 124 #[.agg (reqv R (.slice Ac R.cavs.length cc) (.slice Al R.leaf.length cl)).toArray] w fun e w'=>∃v,e=.returned (.tuple #[v,.int .i64 ((qjc R).1:Int)])∧OwnB w' w.heap.size v (qjc R).2∧Zb w w':=by
 have hbody:=fun w' h=>qij R (.slice Ac R.cavs.length cc) Al cl w' hR h hlc hc
 have htok:=fun w' h=>qdk R.tid R.cavs Ac cc R.tag w' h hcc hcm hid hln hR.tag
 have hrt:=qje R (.slice Ac R.cavs.length cc) (.slice Al R.leaf.length cl);have hlen:=qjd R (.slice Ac R.cavs.length cc) (.slice Al R.leaf.length cl) hR.tag;have hlen2:=qdg R.tid (.slice Ac R.cavs.length cc) R.tag hR.tag;obtain⟨L,hL⟩:=xeq (reqv R (.slice Ac R.cavs.length cc) (.slice Al R.leaf.length cl));obtain⟨T,hT⟩:=xeq (tokv R.tid (.slice Ac R.cavs.length cc) R.tag);rw[hL]at hrt hlen ⊢;rw[hT]at hrt hlen2;simp only[hL]at hbody;simp only[hT]at htok;have hi1:(Tryz.prog.info? 34).map (·.size)=some L.length:=by rw[hlen];exact Tryz.req_info
 have hi2:(Tryz.prog.info? 31).map (·.size)=some T.length:=by rw[hlen2];exact Tryz.tok_info
 obtain⟨A3,A4,HB,HT,A5⟩:=zh5 hi1 hi2 hbody htok hrt;clear hi1 hi2 hL hT hlen hlen2 hbody htok hrt;have t0:Blk (w.alloc (.cells L.toArray 34)) w.heap.size 34 L.toArray:=Blk.new w _ _;have hrg:=qap t0 0 L zjq;have A0:=zh1 hrg;clear hrg;go_enter Tryz.func124,Tryz.ntmps124
 go_wp2_with (refine wpList_load_mid rfl 34 (.tmp 1) rfl w.heap.size 0 rfl L _ A0.o Tryz.underlying34 rfl A3.o ?_)
 refine(HB.o _ (hleaf.laid _)).mono ?_;rintro e w1 ⟨v1,rfl,hown1,hb1⟩;simp only[qar,Zb]at hown1 hb1;have hown1:OwnB w1 (w.heap.size+1) v1 (qi9 R).2:=hown1;have B1:Zb w w1:=((tA5 _ _).alloc (tA4 _) _).trans (hb1.mono zo);have t1:=t0.below hb1 zo;have hcav1:=hcav.call B1;clear hb1 A0 hcav hleaf t0;obtain⟨bw,hbw⟩:=xeq ((qi9 R).1);obtain⟨bb,hbb⟩:=xeq ((qi9 R).2);rw[hbw];rw[hbb]at hown1;have hbl:=qjf R;rw[hbb]at hbl;obtain⟨A1,A6⟩:=zh2 hbw hbb;clear hbw hbb;by_cases h0:bw=0
 ·
  subst h0;have hrg:=qap t1 1 T A5.o;have A0:=zh1 hrg;clear hrg;go_wp2_with (refine wpList_load_mid rfl 31 (.tmp 17) rfl w.heap.size 1 rfl T _ A0.o Tryz.underlying31 rfl A4.o ?_)
  refine(HT.o _ hcav1).mono ?_;rintro e w2 ⟨v2,rfl,hown2,hb2⟩;have hown2:OwnB w2 w1.heap.size v2 (qdb R.tid R.cavs R.tag).2:=hown2;have B2:=B1.trans (hb2.mono B1.size);have hownb:=hown1.kept hb2;have htl:=qeb R.tid R.cavs R.tag hR.tag;obtain⟨tw,htw⟩:=xeq ((qdb R.tid R.cavs R.tag).1);obtain⟨tb,htb⟩:=xeq ((qdb R.tid R.cavs R.tag).2);rw[htw];rw[htb]at hown2 htl;obtain⟨A2,A7⟩:=zh2 htw htb;clear htw htb A0 hown1 hcav1 hb2;by_cases h1:tw=0
  ·
   subst h1;obtain⟨At,nt,ct,rfl,ht1,ht2,hrt⟩:=hown2.sl;obtain⟨Ab,nb,cb,rfl,hb1,hb2,hrb⟩:=hownb.sl;have H:Hid (qjc R=(0,txt tb++bb)):=by
    unfold Hid qjc;rw[if_pos A1.o,if_pos A2.o,A7.o,A6.o]
   go_wp2_with fail
   refine(qd3 _).mono ?_;rintro e w3 ⟨rfl,hw3,hb3⟩;have B3:=B2.trans (hb3.mono B2.size);have hrt3:=hrt.call hb3;have hrb3:=hrb.call hb3;go_wp2_with fail
   refine(qd7 _ _ [] tb At nt ct _ hw3 zm (hrt.below hb3) ht1 ht2).mono ?_;rintro e w4 ⟨rfl,hw4,hb4,-⟩;have hrb4:=(hrb.below (hb3.trans hb4));have B4:=B3.trans (hb4.mono B2.size);rw[List.nil_append]at hw4;go_wp2_with fail
   have htx:=qjg tb;refine(qd5 _ _ _ _ hw4 zo).mono ?_;rintro e w5 ⟨v5,rfl,hown5,hb5⟩;have hown5:OwnB w5 w4.heap.size v5 (txt tb):=hown5;have hrb5:=(hrb4.more (show w2.heap.size≤w4.heap.size from by have:=hb4.size;have:=hb3.size;omega)).call hb5;have B5:=B4.trans (hb5.mono B4.size);have hbl5:=qb5 hrb5;clear hw4 hw3 hrb4 hrb3 hrt3 hrb hrt hown2 hownb;go_wp2_with (at_builtin;refine qe3 rfl (.tmp 30) (.tmp 31) rfl w4.heap.size _ _ rfl hown5 Ab nb cb bb rfl hrb5 zo hb5.size ?_)
   intro v6 w6 hown6 hb6 hg6;obtain⟨HO,A8⟩:=zh2 (hown6.mono B4.size) (B5.trans (hb6.mono B4.size));clear hown6 hb6 hg6 hown5 hrb5 hb5 hb4 hb3;go_wp2
   go_ret2
   exact⟨_,by rw[H.o];rfl,by rw[H.o];exact HO.o,A8.o⟩
  have H:Hid (qjc R=(tw,[])):=by
   unfold Hid qjc;rw[if_pos A1.o,A2.o,if_neg h1]
  have hn:((tw:Int)==0)=false:=by simpa using h1
  have hn2:((tw:Int) != 0)=true:=by simpa using h1
  go_wp2
  go_ret2
  exact⟨_,by rw[H.o];rfl,by rw[H.o];exact OwnB.nil _ _,B2⟩
 have H:Hid (qjc R=(bw,[])):=by
  unfold Hid qjc;rw[A1.o,if_neg h0]
 have hn:((bw:Int)==0)=false:=by simpa using h0
 have hn2:((bw:Int) != 0)=true:=by simpa using h0
 go_wp2
 go_ret2
 exact⟨_,by rw[H.o];rfl,by rw[H.o];exact OwnB.nil _ _,B1⟩
def qji (a b:List Nat)(k:Nat):List Nat:=if k=0 then [] else if k=1 then a else a++b
def qjj (key:List Nat)(c:Nat):List Nat:=(key++List.replicate (64 - key.length) 0).map fun x=>x^^^c
def mac (key b:List Nat):List Nat:=sha (qjj key 92++sha (qjj key 54++b))
def mapK (f:Nat→Nat)(L:List Nat)(k:Nat):List Nat:=(L.take k).map f++L.drop k
theorem qjk(f:Nat→Nat)(L:List Nat):mapK f L 0=L:=by simp[mapK]
theorem qjl(f:Nat→Nat)(L:List Nat):mapK f L L.length=L.map f:=by simp[mapK]
theorem qjm{L:List Nat}{x:Nat}(f:Nat→Nat)(h:L[k]? =some x):mapK f L k=(L.take k).map f++x::L.drop (k+1):=by
 obtain⟨hk,rfl⟩:=tA8 h;unfold mapK;rw[List.drop_eq_getElem_cons hk]
theorem qjn{L:List Nat}{x:Nat}(f:Nat→Nat)(h:L[k]? =some x):(byv (mapK f L k)).toArray[k]? =some (.int .u8 (x:Int)):=by
 obtain⟨hk,_⟩:=tA8 h;rw[qjm f h];exact qf4 (by rw[tBl,tBd];omega)
theorem qjo{L:List Nat}{x:Nat}(f:Nat→Nat)(h:L[k]? =some x):(byv (mapK f L k)).toArray.setIfInBounds k (.int .u8 (f x:Nat))=(byv (mapK f L (k+1))).toArray:=by
 obtain⟨hk,_⟩:=tA8 h;rw[qjm f h];have e:=qf3 ((L.take k).map f) (L.drop (k+1)) x (f x);rw[show ((L.take k).map f).length=k by rw[tBl,tBd];omega]at e;rw[e];unfold mapK;rw[List.take_add_one,h];simp
theorem qjp(bs:List Nat):(sha bs).length=32:=by simp[sha,qfa]
theorem qjq(bs:List Nat):∀b∈sha bs,b<256:=by
 intro b hb;simp only[sha,qfa,List.mem_map]at hb;obtain⟨_,_,rfl⟩:=hb;exact Nat.mod_lt _ zdc
theorem qjr(key:List Nat)(h:∀b∈key,b<256)(c:Nat)(hc:c<256):∀b∈qjj key c,b<256:=by
 intro b hb;simp only[qjj,List.mem_map,tBg,List.mem_replicate]at hb;obtain⟨x,hx,rfl⟩:=hb;rcases hx with hx|⟨_,rfl⟩
 · exact Nat.xor_lt_two_pow (n:=8) (h x hx) hc
 exact Nat.xor_lt_two_pow (n:=8) zdc hc
theorem qjs(key:List Nat)(h:key.length≤64)(c:Nat):(qjj key c).length=64:=by simp[qjj];omega
theorem qjt(g n1 c1 n2 c2:Nat)(A1 A2:Option Addr)(b1 b2:List Nat)(w:World)(h0:w.cell? ⟨g,0,none⟩=some (.slice A1 n1 c1))(h1:w.cell? ⟨g,1,none⟩=some (.slice A2 n2 c2))
 (hr1:Reads w w.heap.size 1 A1 n1 (byv b1))(hr2:Reads w w.heap.size 1 A2 n2 (byv b2))(hn:n1+n2≤8589934592):
 Zc 142 #[.slice (some ⟨g,0,none⟩) 2 2] w fun e w'=>∃v,e=.returned v∧OwnB w' w.heap.size v (b1++b2)∧Zb w w':=by
 have l1:=qb5 hr1;have l2:=qb5 hr2;obtain⟨L1,L2,R1,R2,H0,H1⟩:=zh6 l1 l2 hr1 hr2 h0 h1;clear l1 l2 hr1 hr2 h0 h1;go_enter Tryz.func142,Tryz.ntmps142
 go_wp2_with fail
 go_loopw [3,8] (fun v i wr=>∃k:Nat,k≤2∧i=.int .i64 k∧OwnB wr w.heap.size v (qji b1 b2 k)∧Zb w wr) (fun v i _=>2 - (intOf i).toNat)
 case atStart=>exact⟨0,by omega,rfl,OwnB.nil _ _,tA5 _ _⟩
 case round=>
  obtain⟨k,hk,rfl,hown,hb⟩:=hrel;have hk3:k=0∨k=1∨k=2:=zo;rcases hk3 with rfl|rfl|rfl
  ·
   have hc:=qai H0.o hb;have hr:=R1.call hb;have hl:(qji b1 b2 0).length+n1≤140737488355328:=by simp[qji];omega
   have hsz:=hb.size;go_wp2_with (at_builtin;refine qe3 rfl _ _ rfl w.heap.size _ _ rfl hown A1 n1 c1 b1 rfl hr hl hsz ?_)
   intro v' w' ho' hb' _;go_wp2
   go_roundw
   case rel=>exact⟨1,by omega,rfl,by simpa [qji] using ho',hb.trans hb'⟩
   case measure=>simp[intOf]
  ·
   have hc:=qai H1.o hb;have hr:=R2.call hb;have hl:(qji b1 b2 1).length+n2≤140737488355328:=by simp[qji];have:=L1.o;omega
   have hsz:=hb.size;go_wp2_with (at_builtin;refine qe3 rfl _ _ rfl w.heap.size _ _ rfl hown A2 n2 c2 b2 rfl hr hl hsz ?_)
   intro v' w' ho' hb' _;go_wp2
   go_roundw
   case rel=>exact⟨2,by omega,rfl,by simpa [qji] using ho',hb.trans hb'⟩
   case measure=>simp[intOf]
  go_wp2
  go_ret
  exact⟨_,rfl,by simpa [qji] using hown,hb⟩
theorem qju(nk ck n cc:Nat)(Ak A:Option Addr)(key b:List Nat)(w:World)(hk:Reads w w.heap.size 1 Ak nk (byv key))(hb:Reads w w.heap.size 1 A n (byv b))(hk2:∀x∈key,x<256)(hb2:∀x∈b,x<256)
 (hnk:nk≤64)(hn:n≤4294967296)(ht:Tabs w):
 Zc 216 #[.slice Ak nk ck,.slice A n cc] w fun e w'=>e=.returned (.agg (byv (mac key b)).toArray)∧Zb w w':=by
 have lk:=qb5 hk;have lb:=qb5 hb;have qk:¬(nk:Int)>64:=zo;obtain⟨K0,hK0⟩:=xeq (key++List.replicate (64 - nk) 0);have lK:K0.length=64:=by rw[←hK0];simp;omega
 have HKb:∀x∈K0,x<256:=by
  rw[←hK0];intro x hx;simp only[tBg,List.mem_replicate]at hx;rcases hx with hx|⟨_,rfl⟩
  · exact hk2 x hx
  decide
 obtain⟨Hk,Hb,Hk2,Hb2,Ht,A2,A4,Hlk⟩:=zh8 hk hb hk2 hb2 ht hK0 lK lk;obtain⟨Hlb,AC⟩:=zh2 lb HKb;clear hk hb hk2 hb2 ht hK0 lK lk lb HKb;go_enter Tryz.func216,Tryz.ntmps216
 go_upto_region 5 with(fail)
 obtain⟨W1,hW1⟩:=eqx (((w.alloc (.cells zLD 29)).alloc (.cells zLH 349)).alloc (.cells zLH 349));rw[←hW1];have Z1:=zNd hW1;have I1:Blk W1 (w.heap.size+1) 349 (byv (List.replicate 64 0)).toArray:=by
  have h:=(Blk.new (w.alloc (.cells zLD 29)) 349 zLH).alloc (.cells zLH 349);rw[qar]at h;rw[hW1];exact h
 have O1:Blk W1 (w.heap.size+1+1) 349 (byv (List.replicate 64 0)).toArray:=by
  have h:=Blk.new ((w.alloc (.cells zLD 29)).alloc (.cells zLH 349)) 349 zLH;rw[qar,qar]at h;rw[hW1];exact h
 have B1:=zMc hW1;have L1:w.heap.size+1+1<W1.heap.size:=O1.lt;obtain⟨AW,AD,AE,AF,A5⟩:=zh5 hW1 Z1 I1 O1 B1;clear hW1 Z1 I1 O1 B1;have hpos:∀W2,Zb w W2→0<(byv key).length→∃ad,Ak=some ad∧∀j v,(byv key)[j]? =some v→W2.cell? (ad.add j)=some v:=by
  intro W2 hb h0;rw[qat,Hlk.o]at h0;obtain⟨ad,h1,h2,h3⟩:=(Hk.below hb).2 h0;exact⟨ad,h1,h3⟩
 have Hpos:=zh1 hpos;clear hpos;refine wp_region_lit ?_;iterate 2 (refine qbk rfl ⟨?_,?_,?_⟩;rotate_left;(focus(go_simp;(try go_bits);try rfl));simp only[Act.put,tA0,tA1,tA2])
 refine qf0 rfl (.tmp 16) (.tmp 17) 23 23 rfl 5 zk zk _ _ _ _ _ _ rfl rfl (w.heap.size+1) 0 (byv (List.replicate 64 0)) 349 AE.o (byv key) (by rw[qat,Hlk.o];show nk=min nk 64;omega) (fun h0=>⟨rfl,Hpos.o _ A5.o h0⟩) (by rw[qat,qat,Hlk.o,List.length_replicate];omega) (qau _) ?_;intro w2 HG2 hG2;rw[show (byv key).length=nk by rw[qat,Hlk.o]];refine zP ?_;have i2:Blk w2 (w.heap.size+1) 349 (byv K0).toArray:=by
  have h:=HG2.o;rw[qez,Hlk.o,A2.o]at h;exact h
 have o2:=AF.grown hG2 (by intro e;injection e with e;omega);have z2:=AD.grown hG2 (by intro e;injection e with e;omega);have b2:=A5.grown hG2 zo (by intro g hg;injection hg with hg;omega);have s2:=hG2.size;obtain⟨AG,AH,AI,A0⟩:=zh4 i2 o2 z2 b2;clear i2 o2 z2 b2 hG2 HG2;go_upto_region 6 with(fail)
 refine wp_region_lit ?_;iterate 2 (refine qbk rfl ⟨?_,?_,?_⟩;rotate_left;(focus(go_simp;(try go_bits);try rfl));simp only[Act.put,tA0,tA1,tA2])
 refine qf0 rfl (.tmp 19) (.tmp 20) 23 23 rfl 5 zk zk _ _ _ _ _ _ rfl rfl (w.heap.size+1+1) 0 (byv (List.replicate 64 0)) 349 AH.o (byv key) (by rw[qat,Hlk.o];show nk=min nk 64;omega) (fun h0=>⟨rfl,Hpos.o _ A0.o h0⟩) (by rw[qat,qat,Hlk.o,List.length_replicate];omega) (qau _) ?_;intro w3 HG3 hG3;rw[show (byv key).length=nk by rw[qat,Hlk.o]];refine zP ?_;have o3:Blk w3 (w.heap.size+1+1) 349 (byv K0).toArray:=by
  have h:=HG3.o;rw[qez,Hlk.o,A2.o]at h;exact h
 have i3:=AG.grown hG3 (by intro e;injection e with e;omega);have z3:=AI.grown hG3 (by intro e;injection e with e;omega);have b3:=A0.grown hG3 zo (by intro g hg;injection hg with hg;omega);obtain⟨AJ,AK,AL,AM⟩:=zh4 i3 o3 z3 b3;clear i3 o3 z3 b3 hG3 HG3;go_wp2_with fail
 go_loopw [22] (fun i wr=>∃k:Nat,k≤64∧i=.int .i64 k∧Blk wr (w.heap.size+1) 349 (byv (mapK (· ^^^54) K0 k)).toArray∧Blk wr (w.heap.size+1+1) 349 (byv (mapK (· ^^^92) K0 k)).toArray∧Blk wr w.heap.size 29 zLD∧Zb w wr) (fun i _=>64 - (intOf i).toNat)
 case atStart=>exact⟨0,by omega,rfl,by rw[qjk];exact AJ.o,by rw[qjk];exact AK.o,AL.o,AM.o⟩
 case round=>
  obtain⟨k,hk,rfl,hi,ho,hz,hb⟩:=hrel;by_cases hk64:k<64
  ·
   have qk:(k:Int)<64:=zo;obtain⟨x,hx⟩:∃x,K0[k]? =some x:=⟨_,tA7 (by rw[A4.o];exact hk64)⟩;have lx:x<256:=AC.o x (tB2 hx);have ci:=hi.cell k;have co:=ho.cell k;rw[qjn _ hx]at ci co;have fi:=hi.frozen k;have fo:=ho.frozen k;obtain⟨y1,hy1,oy1⟩:∃y:Nat,x^^^54=y∧bits .xor .u8 (x:Int) 54=y:=⟨_,rfl,u8_xor_nat x 54 lx zdc⟩;obtain⟨y2,hy2,oy2⟩:∃y:Nat,x^^^92=y∧bits .xor .u8 (x:Int) 92=y:=⟨_,rfl,u8_xor_nat x 92 lx zdc⟩;obtain⟨Hi,Ho,Hz,Hbb,Hx,Hy1,Hy2⟩:=zh7 hi ho hz hb hx hy1 hy2;have ne1:w.heap.size+1≠w.heap.size+1+1:=zo;clear hi ho hz hb hx hy1 hy2;go_wp2
   go_roundw
   case rel=>
    refine⟨k+1,by omega,by go_num,?_,?_,?_,?_⟩
    · rw[←qjo (· ^^^54) Hx.o,Hy1.o]
      exact(Hi.set_ k _).far (by show w.heap.size+1≠w.heap.size+1+1;omega) _
    · rw[←qjo (· ^^^92) Hx.o,Hy2.o]
      exact(Ho.far (by show w.heap.size+1+1≠w.heap.size+1;omega) _).set_ k _
    · exact(Hz.far (by show w.heap.size≠w.heap.size+1;omega) _).far (by show w.heap.size≠w.heap.size+1+1;omega) _
    exact(Hbb.setCell (by show w.heap.size≤w.heap.size+1;omega) _).setCell (by show w.heap.size≤w.heap.size+1+1;omega) _
   case measure=>simp[intOf];omega
  have qk:¬(k:Int)<64:=zo;have hk':k=K0.length:=by rw[A4.o];omega
  have hP:∀c,K0.map (fun x=>x^^^c)=qjj key c:=by
   intro c;unfold qjj;rw[Hlk.o,A2.o]
  rw[hk',qjl,hP]at hi ho;obtain⟨P1,hP1⟩:=xeq (qjj key 54);obtain⟨P2,hP2⟩:=xeq (qjj key 92);rw[hP1]at hi;rw[hP2]at ho;have lP1:P1.length=64:=by rw[←hP1];exact qjs key (by rw[Hlk.o];exact hnk) _
  have lP2:P2.length=64:=by rw[←hP2];exact qjs key (by rw[Hlk.o];exact hnk) _
  have bP1:∀x∈P1,x<256:=by rw[←hP1];exact qjr key Hk2.o _ zdc
  have bP2:∀x∈P2,x<256:=by rw[←hP2];exact qjr key Hk2.o _ zdc
  obtain⟨W4,rfl⟩:=eqx wr;obtain⟨W5,hW5⟩:=eqx (W4.alloc (.cells #[.slice (some ⟨w.heap.size+1,0,none⟩) 64 64,.slice A n cc] 23));have l5:W4.heap.size+1=W5.heap.size:=by rw[hW5];simp
  have x0:W5.cell? ⟨W4.heap.size,0,none⟩=some (.slice (some ⟨w.heap.size+1,0,none⟩) 64 64):=by rw[hW5,qak];rfl
  have x1:W5.cell? ⟨W4.heap.size,1,none⟩=some (.slice A n cc):=by rw[hW5,qak];rfl
  have b5:Zb w W5:=by rw[hW5];exact qah hb _
  have i5:Blk W5 (w.heap.size+1) 349 (byv P1).toArray:=by rw[hW5];exact hi.alloc _
  have o5:Blk W5 (w.heap.size+1+1) 349 (byv P2).toArray:=by rw[hW5];exact ho.alloc _
  have z5:Blk W5 w.heap.size 29 zLD:=by rw[hW5];exact hz.alloc _
  have r5:=qfc i5 (p:=0) zo;rw[lP1,List.drop_zero]at r5;have J1:=qjt W4.heap.size 64 64 n cc _ _ P1 b W5 x0 x1 r5 (Hb.call b5) zo;obtain⟨AN,A7,A8,A9,AO,AP,HlP1,HlP2⟩:=zh8 J1 b5 o5 z5 hP1 hP2 lP1 lP2;obtain⟨HbP1,HbP2,A1⟩:=zh3 bP1 bP2 (Ht.below b5 Ht.size);have l45:=hb.size;have AQ:=zh1 hW5;clear hi ho hz hb hP hk' hk64 J1 r5 i5 o5 z5 b5 x0 x1 hP1 hP2 lP1 lP2 bP1 bP2 hW5;go_wp2_with fail
  rw[←AQ.o];refine AN.o.mono ?_;rintro e w6 ⟨v6,rfl,own6,b6⟩;obtain⟨A6,n6,c6,rfl,nc6,-,r6⟩:=own6.sl;have ln6:=qb5 r6;rw[tA6,HlP1.o,Hlb.o]at ln6;have S1:=qfo n6 c6 A6 (P1++b) w6 (by intro x hx;rcases List.mem_append.1 hx with h|h;exact HbP1.o x h;exact Hb2.o x h) r6 nc6 zo (A1.below b6 A1.size);obtain⟨AR,A3⟩:=zh2 S1 b6;clear S1 b6 own6 r6;go_wp2_with fail
  refine zcb AR.o fun w7 b7=>?_
  obtain⟨D,hD⟩:=xeq (sha (P1++b));have lD:(byv D).length=32:=by rw[←hD,qat,qjp]
  have bD:∀x∈D,x<256:=by rw[←hD];exact qjq _
  have oD:=qau D;obtain⟨V,hV⟩:=xeq (byv D);rw[hD];rw[hV]at lD oD ⊢;obtain⟨HD,HlD,HbD,HoD,HV⟩:=zh5 hD lD bD oD hV;clear hD lD bD oD hV;have HI:=zh1 (zI 29 HlD.o);have z8:=Blk.new w7 29 zLD;obtain⟨Hz8,Hb7⟩:=zh2 z8 b7;clear z8 b7;go_upto_region 14 with(refine zst Hz8.o HI.o (by simp[HlD.o]) HoD.o ?_)
  obtain⟨w8,hw8⟩:=eqx ((w7.alloc (.cells zLD 29)).setRow w7.heap.size V.toArray);rw[←hw8];have d8:Blk w8 w7.heap.size 29 V.toArray:=by rw[hw8];exact Hz8.setRow _
  have b78:Zb w7 w8:=by rw[hw8];exact below_setRow ((tA5 _ _).alloc (tA4 _) _) (tA4 _) _
  have b58:Zb W5 w8:=(A3.trans (Hb7.mono A3.size)).trans (b78.mono (tB1 A3.size Hb7.size));have o8:=A8.below b58 A8.lt;have z8:=A9.below b58 A9.lt;have b8:Zb w w8:=A7.trans (b58.mono A7.size);obtain⟨w9,hw9⟩:=eqx ((w8.alloc (.cells #[.slice (some ⟨w.heap.size+1+1,0,none⟩) 64 64,.slice (some ⟨w7.heap.size,0,none⟩) 32 32] 23)).drew);have s89:w8.heap.size+1=w9.heap.size:=by rw[hw9,qe5,qar]
  have x0:w9.cell? ⟨w8.heap.size,0,none⟩=some (.slice (some ⟨w.heap.size+1+1,0,none⟩) 64 64):=by rw[hw9];exact(qak w8 _ _ 0).trans rfl
  have x1:w9.cell? ⟨w8.heap.size,1,none⟩=some (.slice (some ⟨w7.heap.size,0,none⟩) 32 32):=by rw[hw9];exact(qak w8 _ _ 1).trans rfl
  have b89:Zb w8 w9:=by rw[hw9];exact((tA5 _ w8).alloc (tA4 _) _).drew
  have o9:=o8.below b89 o8.lt;have z9:=z8.below b89 z8.lt;have d9:=d8.below b89 d8.lt;have ro:=qfc o9 (p:=0) zo;rw[HlP2.o,List.drop_zero]at ro;rw[←HV.o]at d9;have rd:=qfc d9 (p:=0) zo;have lD32:D.length=32:=by rw[←qat,HV.o,HlD.o]
  rw[lD32,List.drop_zero]at rd;have J2:=qjt w8.heap.size 64 64 32 32 _ _ P2 D w9 x0 x1 ro rd zo;have T9:=(A1.below b58 A1.size).below b89 (tB1 A1.size b58.size);obtain⟨AS,AA,Hb8,Hb89,Hz9,Hw9,Hl32⟩:=zh7 J2 T9 b8 b89 z9 hw9 lD32;clear J2 T9 b8 b89 z9 hw9 o9 d9 ro rd x0 x1 o8 z8 d8 b58 b78 hw8 lD32;obtain⟨S,HS⟩:∃S:World→Prop,Hid (∀w',S w'):=⟨fun _=>True,fun _=>trivial⟩;refine zrs S 2 [(0,false),(1,false),(2,true),(3,true),(4,true),(5,true)] (HS.o _) ?_;iterate 2 (refine zrb ?_)
  refine zw ?_;go_simp;rw[←Hw9.o];refine zw ?_;go_simp;refine AS.o.mono ?_;rintro e w10 ⟨v10,rfl,own10,b10⟩;obtain⟨AT,n10,c10,rfl,nc10,-,r10⟩:=own10.sl;have ln10:=qb5 r10;rw[tA6,HlP2.o,Hl32.o]at ln10;have S2:=qfo n10 c10 AT (P2++D) w10 (by intro x hx;rcases List.mem_append.1 hx with h|h;exact HbP2.o x h;exact HbD.o x h) r10 nc10 zo (AA.below b10 AA.size);obtain⟨AU,Hb10⟩:=zh2 S2 b10;clear S2 b10 own10 r10;refine zP ?_;refine zw ?_;go_simp;refine zcb AU.o fun w11 b11=>?_
  have hm:sha (P2++D)=mac key b:=by unfold mac;rw[←HD.o,←AO.o,←AP.o]
  rw[hm];have lM:(byv (mac key b)).length=32:=by rw[qat];exact qjp _
  have oM:=qau (mac key b);obtain⟨M,hM⟩:=xeq (byv (mac key b));rw[hM]at lM oM ⊢;refine zP ?_;have z11:=(Hz9.below Hb10.o Hz9.lt).below b11 (tB0 Hz9.lt Hb10.size);have AB:=zh1 (zI 29 lM);have b12:Zb w w11:=((Hb8.trans (Hb89.mono Hb8.size)).trans (Hb10.mono (tB1 Hb8.size Hb89.size))).trans (b11.mono (tB1 (tB1 Hb8.size Hb89.size) Hb10.size));refine zw ?_;refine wp_store_row 29 (.tmp 4) (.tmp 45) rfl w.heap.size M.toArray rfl rfl 29 _ z11 (by simpa using AB.o) (by simp[lM]) (by simpa using oM) ?_;refine⟨fun h=>absurd h zo,?_⟩;refine qbg ?_;go_wp2_with fail
  have z12:=z11.setRow M.toArray;have AV:=qap z12 0 M zjq;refine zrt AV zu29 AB.o ⟨by rw[hM],below_setRow b12 (tA4 _) _⟩
section
open Go
section
variable {P : Program} {ops : Array Oper} {Q : Exit → Act → World → Prop} {md : Region.Mode} {S : World → Prop} {n : Nat}
def qjv (md:Region.Mode)(ops:Array Oper)(n:Nat):List (Nat × Bool)→Array Bool→Option (Array Bool)
 |[],listed=>some listed
 |(i,false)::r,listed=>if decide (i<n)&&(Region.ready md ops listed).contains i&&Region.free md ops listed i then qjv md ops n r (listed.setIfInBounds i true) else none
 |(i,true)::r,listed=>if decide (i<n)&&(Region.ready md ops listed==[i]) then qjv md ops n r (listed.setIfInBounds i true) else none
def qjw (P:Program)(ops:Array Oper)(Q:Exit→Act→World→Prop)(S:World→Prop)(K:Act→World→Prop):List (Nat × Bool)→Act→World→Prop
 |[],a,w=>K a w
 |(i,false)::r,a,w=>∃o v,ops[i]? =some o∧YieldsIf P ops S o v a∧qjw P ops Q S K r (a.put o.dst v) w
 |(i,true)::r,a,w=>wpOp P ops Q i (fun a' w'=>S w'∧qjw P ops Q S K r a' w') a w
theorem qjx{L':Array Bool}(hsel:Region.noSelect ops=true)(hQ:∀c a d v w,Q (.panic c) (a.put d v) w→Q (.panic c) a w)(ht:Tails md ops n)
 (hK:∀a w,S w→HeadInv md ops n L'→K a w→wpAnyS P md ops Q S n fuel L' a w):
 ∀(r:List (Nat × Bool)) (listed:Array Bool) (a:Act) (w:World),HeadInv md ops n listed→S w→qjv md ops n r listed=some L'→qjw P ops Q S K r a w→wpAnyS P md ops Q S n (r.length+fuel) listed a w:=by
 intro r;induction r with
 |nil=>
  intro listed a w inv hS ho h;simp only[qjv,Option.some.injEq]at ho;subst ho;simpa using hK a w hS inv h
 |cons x r ih=>
  obtain⟨i,b⟩:=x;intro listed a w inv hS ho h;rw[tBi,Nat.add_right_comm];cases b with
  |false=>
   simp only[qjv,Option.ite_none_right_eq_some,Bool.and_eq_true,decide_eq_true_eq]at ho;obtain⟨⟨⟨hin,hr⟩,hf⟩,ho⟩:=ho;obtain⟨o,v,hi,hy,h⟩:=h;have hr':i∈Region.ready md ops listed:=by simpa using hr
   exact qb7 hi (Region.noSelect_spec hsel) (fun c a w=>hQ c a o.dst v w) ht hin (r.length+fuel) listed a w inv (Region.free_spec hi hf) hr' hy hS (ih _ _ _ (inv.set hr' hin) hS ho h)
  |true=>
   simp only[qjv,Option.ite_none_right_eq_some,Bool.and_eq_true,decide_eq_true_eq,beq_iff_eq]at ho;obtain⟨⟨hin,hr⟩,ho⟩:=ho;have hr':i∈Region.ready md ops listed:=by rw[hr];simp
   refine⟨fun h0=>(by rw[hr]at h0;cases h0),fun j hj=>?_⟩;obtain rfl:j=i:=by rw[hr]at hj;simpa using hj
   exact wpOp_mono (fun a' w' h'=>⟨fun _=>h'.1,ih _ _ _ (inv.set hr' hin) h'.1 ho h'.2⟩) h
def puts:Act→List Nat→List Value→Act
 |a,d::ds,v::vs=>puts (a.put (some d) v) ds vs
 |a,_,_=>a
inductive OTree where
 |done
 |read (i:Nat) (t:OTree)
 |one (i:Nat) (t:OTree)
 |two (i:Nat) (t:OTree) (j:Nat) (u:OTree)
def qjy (md:Region.Mode)(ops:Array Oper)(n:Nat)(L1:Array Bool):Nat→OTree→Array Bool→Bool
 |0,.done,listed=>listed==L1
 |m+1,.read i t,listed=>decide (i<n)&&(Region.ready md ops listed).contains i&&Region.free md ops listed i&&qjy md ops n L1 m t (listed.setIfInBounds i true)
 |m+1,.one i t,listed=>decide (i<n)&&(Region.ready md ops listed==[i])&&qjy md ops n L1 m t (listed.setIfInBounds i true)
 |m+1,.two i t j u,listed=>decide (i<n)&&decide (j<n)&&(Region.ready md ops listed==[i,j])&&qjy md ops n L1 m t (listed.setIfInBounds i true)&&qjy md ops n L1 m u (listed.setIfInBounds j true)
 |_,_,_=>false
def qjz (P:Program)(ops:Array Oper)(Q:Exit→Act→World→Prop)(S:World→Prop)(K:Act→World→Prop):OTree→Act→World→Prop
 |.done,a,w=>K a w
 |.read i t,a,w=>∃o v,ops[i]? =some o∧YieldsIf P ops S o v a∧qjz P ops Q S K t (a.put o.dst v) w
 |.one i t,a,w=>wpOp P ops Q i (fun a' w'=>S w'∧qjz P ops Q S K t a' w') a w
 |.two i t j u,a,w=>wpOp P ops Q i (fun a' w'=>S w'∧qjz P ops Q S K t a' w') a w∧wpOp P ops Q j (fun a' w'=>S w'∧qjz P ops Q S K u a' w') a w
theorem qk1{L1:Array Bool}(hsel:Region.noSelect ops=true)(hQ:∀c a d v w,Q (.panic c) (a.put d v) w→Q (.panic c) a w)(ht:Tails md ops n)
 (hK:∀a w,S w→HeadInv md ops n L1→K a w→wpAnyS P md ops Q S n fuel L1 a w):
 ∀(m:Nat) (t:OTree) (listed:Array Bool) (a:Act) (w:World),HeadInv md ops n listed→S w→qjy md ops n L1 m t listed=true→qjz P ops Q S K t a w→wpAnyS P md ops Q S n (m+fuel) listed a w:=by
 intro m;induction m with
 |zero=>
  intro t listed a w inv hS ho h;cases t with
  |done=>
   simp only[qjy,beq_iff_eq]at ho;subst ho;simpa using hK a w hS inv h
  |_=>simp[qjy]at ho
 |succ m ih=>
  intro t listed a w inv hS ho h;rw[Nat.add_right_comm];cases t with
  |done=>simp[qjy]at ho
  |read i t=>
   simp only[qjy,Bool.and_eq_true,decide_eq_true_eq]at ho;obtain⟨⟨⟨hin,hr⟩,hf⟩,ho⟩:=ho;obtain⟨o,v,hi,hy,h⟩:=h;have hr':i∈Region.ready md ops listed:=by simpa using hr
   exact qb7 hi (Region.noSelect_spec hsel) (fun c a w=>hQ c a o.dst v w) ht hin (m+fuel) listed a w inv (Region.free_spec hi hf) hr' hy hS (ih _ _ _ _ (inv.set hr' hin) hS ho h)
  |one i t=>
   simp only[qjy,Bool.and_eq_true,decide_eq_true_eq,beq_iff_eq]at ho;obtain⟨⟨hin,hr⟩,ho⟩:=ho;have hr':i∈Region.ready md ops listed:=by rw[hr];simp
   refine⟨fun h0=>(by rw[hr]at h0;cases h0),fun j hj=>?_⟩;obtain rfl:j=i:=by rw[hr]at hj;simpa using hj
   exact wpOp_mono (fun a' w' h'=>⟨fun _=>h'.1,ih _ _ _ _ (inv.set hr' hin) h'.1 ho h'.2⟩) h
  |two i t j u=>
   simp only[qjy,Bool.and_eq_true,decide_eq_true_eq,beq_iff_eq]at ho;obtain⟨⟨⟨⟨hin,hjn⟩,hr⟩,ho1⟩,ho2⟩:=ho;refine⟨fun h0=>(by rw[hr]at h0;cases h0),fun q hq=>?_⟩;have hq':=hq;rw[hr]at hq';simp only[List.mem_cons,List.not_mem_nil,or_false]at hq';rcases hq' with rfl|rfl
   · exact wpOp_mono (fun a' w' h'=>⟨fun _=>h'.1,ih _ _ _ _ (inv.set hq hin) h'.1 ho1 h'.2⟩) h.1
   exact wpOp_mono (fun a' w' h'=>⟨fun _=>h'.1,ih _ _ _ _ (inv.set hq hjn) h'.1 ho2 h'.2⟩) h.2
def qk2 (P:Program)(ops:Array Oper)(Q:Exit→Act→World→Prop)(S:World→Prop)(n:Nat)(ds:List Nat)(t:OTree)(post:List (Nat × Bool))(a:Act)(w:World):Prop:=
 ∃R:List Value→World→Prop,qjz P ops Q S (fun a' w'=>∃vs,a'=puts a ds vs∧R vs w') t a w∧∀vs w',S w'→R vs w'→qba P ops Q S n post (puts a ds vs) w'
theorem qk3(S:World→Prop)(n:Nat)(ds:List Nat)(pre:List (Nat × Bool))(m:Nat)(t:OTree)(post:List (Nat × Bool))(L0 L1:Array Bool)
 (hm:P.follows .mixedOrders=true)(hlen:(pre.length+(m+post.length)==ops.size)=true)(hsel:Region.noSelect ops=true)(ht:qbe .any ops n=true)
 (ho:qjv .any ops n pre (Array.replicate ops.size false)=some L0)(h1:qjy .any ops n L1 m t L0=true)
 (hp:qb8 .any ops n post L1=true)(hQ:∀c a d v w,Q (.panic c) (a.put d v) w→Q (.panic c) a w)(hS:S w.drew)
 (h:qjw P ops Q S (qk2 P ops Q S n ds t post) pre a w.drew):(Code.region id ops true).wp P Q a w:=by
 have ht':Tails .any ops n:=by
  unfold qbe at ht;simp only[Bool.or_eq_true,beq_iff_eq,Bool.and_eq_true,decide_eq_true_eq]at ht;exact ht.imp (fun h=>h) fun ⟨⟨a,b⟩,c⟩=>⟨a,b,c⟩
 have hl:pre.length+(m+post.length)=ops.size:=by simpa using hlen
 refine wp_region_any hm (qb6 (n:=n) (S:=S) _ _ _ _ ?_);rw[←hl];rw[hl];have key:=qjx (P:=P) (Q:=Q) (S:=S) (K:=qk2 P ops Q S n ds t post) (L':=L0) (fuel:=m+post.length) hsel hQ ht' (fun a w hS inv hk=>by
  obtain⟨R,k1,k3⟩:=hk;refine qk1 hsel hQ ht' ?_ m t L0 a w inv hS h1 k1;rintro a' w' hS' inv' ⟨vs,rfl,hR⟩;exact qbb qbc hsel hQ ht' post L1 _ _ inv' hS' hp (k3 vs w' hS' hR))
  pre (Array.replicate ops.size false) a w.drew qbd hS ho h
 rw[hl]at key;exact key
theorem qk4(h:K a w):qjz P ops Q S K .done a w:=h
theorem qk5{t:OTree}(hi:nth l i=some o)(hw:Region.wanted o (yielded l.toArray a.tmps)=true)
 (h:∃v,(∀w,S w→(execOp a.eval o).run P w=.ok (.value v) w)∧qjz P l.toArray Q S K t (a.put o.dst v) w):qjz P l.toArray Q S K (.read i t) a w:=
 h.elim fun v hv=>⟨o,v,(qb9 l i).symm.trans hi,.inl ⟨hw,hv.1⟩,hv.2⟩
theorem qk6(hi:nth l i=some o)(hw:Region.wanted o (yielded l.toArray a.tmps)=true)
 (h:o.wp P a w K Q):wpOp P l.toArray Q i K a w:=by
 unfold wpOp;simp only[(qb9 l i).symm.trans hi,hw,if_true];exact .inl h
theorem qk7{t:OTree}(hi:nth l i=some o)(hw:Region.wanted o (yielded l.toArray a.tmps)=true)
 (h:o.wp P a w (fun a' w'=>S w'∧qjz P l.toArray Q S K t a' w') Q):qjz P l.toArray Q S K (.one i t) a w:=qk6 hi hw h
theorem qk9{t u:OTree}(hi:nth l i=some o)(hw:Region.wanted o (yielded l.toArray a.tmps)=true)
 (hj:nth l j=some o')(hw':Region.wanted o' (yielded l.toArray a.tmps)=true)
 (h:o.wp P a w (fun a' w'=>S w'∧qjz P l.toArray Q S K t a' w') Q)(h':o'.wp P a w (fun a' w'=>S w'∧qjz P l.toArray Q S K u a' w') Q):qjz P l.toArray Q S K (.two i t j u) a w:=⟨qk6 hi hw h,qk6 hj hw' h'⟩
theorem qka(h:K a w):qjw P ops Q S K [] a w:=h
theorem qkb{r:List (Nat × Bool)}(hi:nth l i=some o)(hw:Region.wanted o (yielded l.toArray a.tmps)=true)
 (h:∃v,(∀w,S w→(execOp a.eval o).run P w=.ok (.value v) w)∧qjw P l.toArray Q S K r (a.put o.dst v) w):qjw P l.toArray Q S K ((i,false)::r) a w:=
 h.elim fun v hv=>⟨o,v,(qb9 l i).symm.trans hi,.inl ⟨hw,hv.1⟩,hv.2⟩
end
section
variable {P : Program} {Q : Exit → Act → World → Prop} {S : World → Prop} {K : Act → World → Prop} {l : List Oper} {i : Nat} {r : List (Nat × Bool)} {a a' : Act} {w : World} {o : Oper} {v : Value} {t : OTree}
theorem zjs(h2:qjw P l.toArray Q S K r a' w) (hi:nth l i=some o:=by rfl) (hw:Region.wanted o (yielded l.toArray a.tmps)=true:=by rfl) (h1:∀w,S w→(execOp a.eval o).run P w=.ok (.value v) w:=by(intro w1 hS;go_simp;(try go_bits);try rfl)) (he:a.put o.dst v=a':=by(simp only[Act.put,tA0,tA1,tA2];exact rfl)):qjw P l.toArray Q S K ((i,false)::r) a w:=qkb hi hw ⟨v,h1,he.symm▸h2⟩
theorem ztr(h2:qjz P l.toArray Q S K t a' w) (hi:nth l i=some o:=by rfl) (hw:Region.wanted o (yielded l.toArray a.tmps)=true:=by rfl) (h1:∀w,S w→(execOp a.eval o).run P w=.ok (.value v) w:=by(intro w1 hS;go_simp;(try go_bits);try rfl)) (he:a.put o.dst v=a':=by(simp only[Act.put,tA0,tA1,tA2];exact rfl)):qjz P l.toArray Q S K (.read i t) a w:=qk5 hi hw ⟨v,h1,he.symm▸h2⟩
end
end
def qkc:List Nat:=[116,111,107,101,110]
theorem qkd:∀x∈qkc,x<256:=by decide
def qke (root:List Nat)(id:Nat):List Nat:=mac root (qkc++be id 4)
theorem qkf(k b:List Nat):(mac k b).length=32:=qjp _
theorem qkg(k b:List Nat):∀x∈mac k b,x<256:=qjq _
def Lies (w:World)(g:Nat)(C:Array Value):Prop:=∃fr,w.heap[g]? =some (.cells C 5 fr)
theorem Lies.lt{C:Array Value}(h:Lies w g C):g<w.heap.size:=by
 obtain⟨fr,h⟩:=h;rcases Nat.lt_or_ge g w.heap.size with hlt|hge
 · exact hlt
 rw[Array.getElem?_eq_none hge]at h;cases h
theorem Lies.below{C:Array Value}(h:Lies w g C)(hb:Below B w w')(hg:g<B):Lies w' g C:=by
 obtain⟨fr,h⟩:=h;exact⟨fr,(hb.block g hg).trans h⟩
theorem Lies.reads{l:List Nat}(h:Lies w g (byv l).toArray):Reads w w.heap.size 1 (some ⟨g,0,none⟩) l.length (byv l):=by
 refine⟨by simp[byv],fun _=>⟨_,rfl,h.lt,fun j u hu=>?_⟩⟩;obtain⟨fr,h⟩:=h;rw[Addr.add_mid,cell_of_row w g _ _ _ _ h];simpa using hu
theorem qkh(w:World)(g:Nat)(C:Array Value)(n c:Nat)(h:w.heap[g]? =some (.cells C 5 (0,0))):
 ∃w',(convert 23 23 (.slice (some ⟨g,0,none⟩) n c)).run Tryz.prog w=.ok (.slice (some ⟨g,0,none⟩) n c) w'∧w.grownBy w' (some g)∧Lies w' g C:=by
 have hsh:w.shape? g=some (5,C.size):=by
  unfold World.shape?;rw[h]
 refine⟨w.freeze ⟨g,C.size,none⟩ 1,?_,⟨rfl,rfl,rfl,?_,?_⟩,?_⟩
 · simp[convert,run_underlying Tryz.underlying23,run_underlying Tryz.underlying5,markStringish,hsh]
 · simp[World.freeze]
 · intro i hi hne
   unfold World.freeze;rw[if_neg zdc];simp only[Array.getElem?_modify];rw[if_neg (fun e=>hne (by rw[e]))]
 unfold Lies World.freeze;rw[if_neg zdc];simp only[Array.getElem?_modify,if_true,h,Option.map_some];exact⟨_,rfl⟩
theorem qki(x:Operand)(ho:o.op=.convert 23 23 x)(g n c:Nat)(hx:a.eval x=.slice (some ⟨g,0,none⟩) n c)
 (C:Array Value)(h:w.heap[g]? =some (.cells C 5 (0,0)))
 (k:∀w',w.grownBy w' (some g)→Lies w' g C→K (a.put o.dst (.slice (some ⟨g,0,none⟩) n c)) w'):o.wp Tryz.prog a w K Q:=by
 obtain⟨w',h1,h2,h3⟩:=qkh w g C n c h;unfold Oper.wp execOp;simp only[ho,hx,Sem.run_bind,Sem.run_pure,Result.andThen_ok,h1];exact k w' h2 h3
theorem OwnB.grown(h:OwnB w base v bs)(hg:w.grownBy w' (some g))(hlt:g<base):OwnB w' base v bs:=
 tB3 h hg (.inr fun e=>by have:=(World.ownsRow.lt h g e).1;omega)
theorem qkj(root:List Nat)(id:Nat)(w:World)(hl:root.length=32)(hr:∀x∈root,x<256)(hid:id<4294967296)(ht:Tabs w):
 Zc 192 #[.agg (byv root).toArray,.int .u32 id] w fun e w'=>e=.returned (.agg (tokv id (.slice none 0 0) (qke root id)).toArray)∧Zb w w':=by
 have lR:(byv root).length=32:=by rw[qat];exact hl
 obtain⟨V,hV⟩:=xeq (byv root);rw[hV]at lR ⊢;obtain⟨W0,hW0⟩:=eqx ((w.alloc (.cells V.toArray 29)).alloc (.cells zLT 31));have k0:=zNb hW0;have z0:=zNc hW0;have b0:=zMb hW0;have u0:IntKind.u64.wrap (id:Int)=id:=by rw[IntKind.wrap_u64];omega
 have e4:qb0 4=4:=rfl;obtain⟨A7,HV,A1,Ht,Hr,Hl⟩:=zh6 lR hV hW0 ht hr hl;clear lR hV hW0 ht hr hl;go_enter Tryz.func192,Tryz.ntmps192
 go_wp2_with fail
 rw[←A1.o];refine(qd3 W0).mono ?_;rintro e w1 ⟨rfl,hw1,hb1⟩;have lW:w.heap.size+1<W0.heap.size:=z0.lt;have k1:=k0.below hb1 k0.lt;have z1:=z0.below hb1 z0.lt;have b1:=b0.trans (hb1.mono b0.size);clear k0 z0 b0 hb1;go_wp2_with fail
 refine(qd2 _ _ id 4 [] w1 hw1 zo zm).mono ?_;rintro e w2 ⟨rfl,hw2,hb2,-⟩;rw[e4,List.nil_append]at hw2;have k2:=k1.below hb2 zo;have z2:=z1.below hb2 lW;have b2:=b1.trans (hb2.mono zo);clear k1 z1 b1 hb2 hw1;go_wp2_with fail
 obtain⟨S,HS⟩:∃S:World→Prop,Hid (∀w',S w'):=⟨fun _=>True,fun _=>trivial⟩;refine qk3 S 10 [13,14,16] [(0,false),(1,false),(4,false)] 3 (.two 2 (.two 3 (.one 5 .done) 5 (.one 3 .done)) 5 (.one 2 (.one 3 .done))) [(6,true),(7,true),(8,true),(9,false),(10,true)] #[true,true,false,false,true,false,false,false,false,false,false] #[true,true,true,true,true,true,false,false,false,false,false] zk rfl zk zk zk zk zk (fun _ _ d _ _ h=>by cases d<;>exact h) (HS.o _) ?_;iterate 3 (refine zjs ?_)
 refine qka ?_;have hwd:Wri w2.drew W0.heap.size W0.heap.size (be id 4):=hw2.kept_call (tA5 _ _).drew;have bd:Zb w2 w2.drew:=(tA5 _ _).drew;have hl4:(be id 4).length≤140737488355328:=by rw[qaw];omega
 clear hw2;refine⟨fun vs w'=>∃g v,vs=[.slice (some ⟨g,0,none⟩) 5 5,.slice (some ⟨g,0,none⟩) 5 5,v]∧Reads w' w'.heap.size 1 (some ⟨g,0,none⟩) 5 (byv qkc)∧OwnB w' w2.heap.size v (be id 4)∧Zb w2 w',?_,?_⟩
 ·
  refine qk9 rfl rfl rfl rfl ?_ ?_
  ·
   go_simp;refine⟨HS.o _,?_⟩;obtain⟨w3,hw3⟩:=eqx ((w2.alloc (.cells (byv qkc).toArray 5)).drew);have e3:w3.heap[w2.heap.size]? =some (.cells (byv qkc).toArray 5 (0,0)):=by rw[hw3];exact heap_alloc_new w2 _
   have b3:Zb w2 w3:=by rw[hw3];exact((tA5 _ _).alloc (tA4 _) _).drew
   have s3:w3.heap.size=w2.heap.size+1:=by rw[hw3,qe5,qar]
   have h3:=hwd.kept_call (w1:=w3) ⟨b3.os,b3.tape,b3.output,b3.size,b3.block⟩;have E3:=zh1 hw3;change qjz _ _ _ _ _ _ _ ((w2.alloc (.cells (byv qkc).toArray 5)).drew);rw[←E3.o];clear hw3;refine qk9 rfl rfl rfl rfl ?_ ?_
   ·
    refine qki (.tmp 13) rfl w2.heap.size 5 5 rfl _ e3 ?_;intro w4 g4 l4;refine⟨HS.o _,?_⟩;refine zP ?_;refine qk7 rfl rfl ?_;go_simp;have b4:Zb w2 w4:=b3.grown g4 zo (by intro g hg;injection hg with hg;omega);have h4:Wri w4 W0.heap.size W0.heap.size (be id 4):=hwd.kept_call (w1:=w4) ⟨b4.os,b4.tape,b4.output,b4.size,b4.block⟩;refine(qd5 _ _ _ _ h4 hl4).mono ?_;rintro e w5 ⟨v,rfl,ho,hb⟩;refine⟨HS.o _,qk4 ⟨[.slice (some ⟨w2.heap.size,0,none⟩) 5 5,.slice (some ⟨w2.heap.size,0,none⟩) 5 5,v],rfl,w2.heap.size,v,rfl,(l4.below hb l4.lt).reads,?_,?_⟩⟩
    · have:=(show OwnB w5 w4.heap.size v (be id 4) from ho).mono (base':=w2.heap.size) (by have:=g4.size;omega)
      exact this
    exact((b3.grown g4 zo (by intro g hg;injection hg with hg;omega))).trans (hb.mono (by have:=g4.size;omega))
   go_simp;refine(qd5 _ _ _ _ h3 hl4).mono ?_;rintro e w4 ⟨v,rfl,ho,hb⟩;refine⟨HS.o _,?_⟩;refine zP ?_;refine qk7 rfl rfl ?_;refine qki (.tmp 13) rfl w2.heap.size 5 5 rfl _ ((hb.block _ zo).trans e3) ?_;intro w5 g5 l5;refine⟨HS.o _,qk4 ⟨[.slice (some ⟨w2.heap.size,0,none⟩) 5 5,.slice (some ⟨w2.heap.size,0,none⟩) 5 5,v],rfl,w2.heap.size,v,rfl,l5.reads,?_,?_⟩⟩
   · exact((show OwnB w4 w3.heap.size v (be id 4) from ho).grown g5 zo).mono zo
   exact(b3.trans (hb.mono zo)).grown g5 (by have:=hb.size;omega) (by intro g hg;injection hg with hg;omega)
  go_simp;refine(qd5 _ _ _ _ hwd hl4).mono ?_;rintro e w3 ⟨v,rfl,ho,hb⟩;have hb':Zb w2 w3:=⟨hb.os,hb.tape,hb.output,hb.size,hb.block⟩;have ho':OwnB w3 w2.heap.size v (be id 4):=ho;refine⟨HS.o _,?_⟩;refine zP ?_;refine qk7 rfl rfl ?_;go_simp;refine⟨HS.o _,?_⟩;have e4:(w3.alloc (.cells (byv qkc).toArray 5)).heap[w3.heap.size]? =some (.cells (byv qkc).toArray 5 (0,0)):=heap_alloc_new w3 _;refine qk7 rfl rfl ?_;refine qki (.tmp 13) rfl w3.heap.size 5 5 rfl _ e4 ?_;intro w5 g5 l5;refine⟨HS.o _,qk4 ⟨[.slice (some ⟨w3.heap.size,0,none⟩) 5 5,.slice (some ⟨w3.heap.size,0,none⟩) 5 5,v],rfl,w3.heap.size,v,rfl,l5.reads,?_,?_⟩⟩
  · have h4:OwnB (w3.alloc (.cells (byv qkc).toArray 5)) w2.heap.size v (be id 4):=ho'.alloc _
    refine tB3 h4 g5 (.inr fun e=>?_);have:=(World.ownsRow.lt ho' _ e).2;omega
  exact(hb'.alloc hb'.size _).grown g5 (by have:=hb'.size;simp only[qar];omega) (by intro g hg;injection hg with hg;have:=hb'.size;omega)
 rintro vs w4 - ⟨g,v,rfl,r4,o4,b4⟩;simp only[puts,Act.put,tA0,tA1,tA2];obtain⟨A4,n4,c4,rfl,nc4,-,rv⟩:=o4.sl;have ln4:=qb5 rv;rw[qaw]at ln4;obtain⟨w5,hw5⟩:=eqx (w4.alloc (.cells #[.slice (some ⟨g,0,none⟩) 5 5,.slice A4 n4 c4] 23));have x0:w5.cell? ⟨w4.heap.size,0,none⟩=some (.slice (some ⟨g,0,none⟩) 5 5):=by rw[hw5];exact(qak w4 _ _ 0).trans rfl
 have x1:w5.cell? ⟨w4.heap.size,1,none⟩=some (.slice A4 n4 c4):=by rw[hw5];exact(qak w4 _ _ 1).trans rfl
 have b5:=zMa hw5;have J:=qjt w4.heap.size 5 5 n4 c4 _ _ qkc (be id 4) w5 x0 x1 (r4.call b5) (rv.call b5) zo;have A8:=zh1 ln4;clear ln4;have k5:=(k2.below b4 k2.lt).below b5 (tB0 k2.lt b4.size);have z5:=(z2.below b4 z2.lt).below b5 (tB0 z2.lt b4.size);have b25:=(b2.trans (b4.mono b2.size)).trans (b5.mono (tB1 b2.size b4.size));have t5:Tabs w5:=Ht.below b25 Ht.size;obtain⟨HJ,K5,Z5,A0,T5,Hw5⟩:=zh6 J k5 z5 b25 t5 hw5;clear J k5 z5 b25 t5 hw5 x0 x1 r4 o4 b4 rv b5 k2 z2 b2 hwd bd;refine qbj rfl rfl ?_;go_simp;refine⟨HS.o _,?_⟩;rw[←Hw5.o];refine qbj rfl rfl ?_;go_simp;refine HJ.o.mono ?_;rintro e w6 ⟨v6,rfl,own6,b6⟩;obtain⟨A6,n6,c6,rfl,nc6,-,r6⟩:=own6.sl;have ln6:=qb5 r6;rw[tA6,qaw,show qkc.length=5 from rfl]at ln6;have k6:=K5.below b6 K5.lt;rw[←HV.o]at k6;have rk:=qfc k6 (p:=0) zo;rw[Hl.o,List.drop_zero]at rk;have M6:=qju 32 32 n6 c6 _ A6 root (qkc++be id 4) w6 rk r6 Hr.o (by intro x hx;rcases List.mem_append.1 hx with h|h;exact qkd x h;exact qaz _ _ x h) zo zo (T5.below b6 T5.size);have A2:=zh1 M6;clear ln6;have B6:=zh1 b6;clear M6 b6 own6 r6 rk k6;refine⟨HS.o _,?_⟩;refine zP ?_;refine qbj rfl rfl ?_;go_simp;refine zcb A2.o fun w7 b7=>?_
 rw[show mac root (qkc++be id 4)=qke root id from rfl];have lM:(byv (qke root id)).length=32:=by rw[qat];exact qkf _ _
 have oT:=qeh id (.slice none 0 0) rfl (qke root id);have bT:=qgs id (byv (qke root id)) lM (qau _);have hT:(Value.int .u32 (id:Int)::Value.slice none 0 0::byv (qke root id))=tokv id (.slice none 0 0) (qke root id):=rfl;have lT:=qdg id (.slice none 0 0) (qke root id) (qkf _ _);rw[hT]at bT;obtain⟨T,hTT⟩:=xeq (tokv id (.slice none 0 0) (qke root id));rw[hTT]at bT oT lT;obtain⟨D,hD⟩:=xeq (byv (qke root id));rw[hD]at bT ⊢;obtain⟨BT,A3,HI⟩:=zh3 bT hTT (zI 31 lT);have z7:=(Z5.below B6.o Z5.lt).below b7 (tB0 Z5.lt B6.size);have b77:=(A0.trans (B6.mono A0.size)).trans (b7.mono (tB1 A0.size B6.size));clear bT hTT hD hT lM;refine⟨HS.o _,?_⟩;refine zP ?_;refine qbh rfl rfl ⟨.agg T.toArray,fun w1 hS=>?_,?_⟩
 · exact qgr 31 _ rfl _ _ BT.o (by simp[Act.eval])
 refine zP ?_;refine qbj rfl rfl ?_;refine wp_store_row 31 (.tmp 4) (.tmp 20) rfl (w.heap.size+1) T.toArray rfl rfl 31 _ z7 (by simpa using HI.o) (by simp[lT]) (by simpa using oT) ?_;refine⟨fun h=>absurd h zo,?_⟩;refine qbg ?_;go_wp2_with fail
 have z8:=z7.setRow T.toArray;have A5:=qap z8 0 T zjq;exact zrt A5 zu31 HI.o ⟨by rw[A3.o],below_setRow b77 zo _⟩
def qkk (c:Int × Nat):List Nat:=be c.1.toNat 1++be c.2 4
def qkl (t:Tok)(c:Int × Nat):Tok × Nat:=
 if qd9 c.1 then(if t.2.1.length<4 then((t.1,t.2.1++[c],mac t.2.2 (qkk c)),0) else(qgu,4)) else(qgu,1)
theorem qkm(A:Option Addr)(n c:Nat)(l:List (Int × Nat))(w:World)(hr:Reads w w.heap.size 2 A n (cavv l))(hn:n≤8796093022208):
 Zc 248 #[.slice A n c] w fun e w'=>∃v,e=.returned v∧OwnC w' w.heap.size v l∧Zb w w':=by
 have qn:∀(w:World) (a:Option Addr) (n c n' c':Nat),(binOp .eql 27 (.slice a n c) (.slice none n' c')).run Tryz.prog w=.ok (.bool a.isNone) w:=fun w a n c n' c'=>Lib.run_eql_slice_nil w _ _ a n c n' c' Tryz.underlying27
 have hl:l.length=n:=by have:=hr.1;rw[qee]at this;omega
 cases A with
 |none=>
  obtain rfl:n=0:=by
   rcases Nat.eq_zero_or_pos n with h|h
   · exact h
   obtain⟨ad,e,_⟩:=hr.2 h;cases e
  obtain rfl:l=[]:=tB8 hl;go_enter Tryz.func248,Tryz.ntmps248
  go_wp2
  go_ret
  exact⟨_,rfl,OwnC.nil ..,tA5 _ _⟩
 |some ad=>
  have h0:OwnC (w.alloc (.cells #[] 132)) w.heap.size (.slice (some ⟨w.heap.size,0,none⟩) 0 0) []:=OwnC.made w [] (by simp[maxLen]);have hr1:=hr.laid (.cells #[] 132);clear hl;go_enter Tryz.func248,Tryz.ntmps248
  go_wp2_with (at_builtin;refine qef rfl (.tmp 5) (.tmp 6) rfl w.heap.size _ [] rfl h0 (some ad) n c l rfl hr1 (by simp;omega) zm ?_)
  intro v1 w1 hown1 hb1 hg1;go_wp2
  go_ret
  exact⟨_,rfl,by simpa using hown1,((tA5 _ _).alloc (tA4 _) _).trans hb1⟩
theorem qkn(t:Tok)(A:Option Addr)(n c:Nat)(k:Int)(N:Nat)(w:World)(hr:Reads w w.heap.size 2 A n (cavv t.2.1))(hnc:n≤c)(hn:n≤8796093022000)(ht:t.2.2.length=32)(hb:∀x∈t.2.2,x<256)(hN:N<4294967296)(hT:Tabs w):
 Zc 220 #[.agg (tokv t.1 (.slice A n c) t.2.2).toArray,.agg #[.int .i64 k,.int .u32 N]] w fun e w'=>∃v,e=.returned (.tuple #[.agg (tokv (qkl t (k,N)).1.1 v (qkl t (k,N)).1.2.2).toArray,.int .i64 ((qkl t (k,N)).2:Nat)])∧OwnC w' w.heap.size v (qkl t (k,N)).1.2.1∧Zb w w':=by
 have hl:t.2.1.length=n:=by have:=hr.1;rw[qee]at this;omega
 have hlen:=qdg t.1 (.slice A n c) t.2.2 ht;have d0:(tokv t.1 (.slice A n c) t.2.2)[0]? =some (.int .u32 (t.1:Int)):=rfl;have d1:(tokv t.1 (.slice A n c) t.2.2)[1]? =some (.slice A n c):=rfl;have d2:∀j u,(byv t.2.2)[j]? =some u→(tokv t.1 (.slice A n c) t.2.2)[2+j]? =some u:=fun j u h=>by
  unfold tokv;rw[show 2+j=j+1+1 by omega,tBc,tBc];exact h
 obtain⟨D,hD⟩:=xeq (tokv t.1 (.slice A n c) t.2.2);rw[hD]at hlen d0 d1 d2 ⊢;obtain⟨W0,hW0⟩:=eqx (((w.alloc (.cells D.toArray 31)).alloc (.cells #[.int .i64 k,.int .u32 N] 132)).alloc (.cells zLT 31));have t0:=zNd hW0;have v0:=zNe hW0;have z0:=zNf hW0;have b0:=zMc hW0;have lW:w.heap.size+1+1<W0.heap.size:=z0.lt;have ck:=v0.cell 0;have cs:=t0.cell 1;rw[show (#[Value.int .i64 k,.int .u32 N]:Array Value)[0]? =some (.int .i64 k) from rfl]at ck;rw[tA3,d1]at cs;obtain⟨A4,HD,A7,D0,D1,D2,T0,V0⟩:=zh8 hW0 hD hlen d0 d1 d2 t0 v0;obtain⟨Z0,B0,HR,HT,Hl⟩:=zh5 z0 b0 hr hT hl;clear hW0 hD hlen d0 d1 d2 t0 v0 z0 b0 hr hT hl;go_enter Tryz.func220,Tryz.ntmps220
 go_upto_region 1 with(fail)
 rw[←A4.o];by_cases hk:qd9 k=true
 ·
  go_upto_region 3 with((with_reducible refine(qdd k _).mono ?_);(rintro _ _ ⟨rfl,rfl⟩))
  by_cases h4:n<4
  ·
   have hres:qkl t (k,N)=((t.1,t.2.1++[(k,N)],mac t.2.2 (qkk (k,N))),0):=by unfold qkl;rw[if_pos hk,if_pos (by rw[Hl.o];exact h4)]
   have k13:=qda hk;have q4:¬(n:Int) ≥ 4:=zo;have Hres:=zh1 hres;clear hres hk ck;go_wp2_with fail
   refine(qd3 W0).mono ?_;rintro e w1 ⟨rfl,hw1,hb1⟩;have v1:=V0.below hb1 V0.lt;have cv0:=v1.cell 0;have cv1:=v1.cell 1;rw[show (#[Value.int .i64 k,Value.int .u32 N]:Array Value)[0]? =some (.int .i64 k) from rfl]at cv0;rw[show (#[Value.int .i64 k,Value.int .u32 N]:Array Value)[1]? =some (.int .u32 N) from rfl]at cv1;have B1:=zh1 hb1;clear v1 hb1 cs;go_wp2_with fail
   refine(qde W0.heap.size W0.heap.size [] k N w1 hw1 zm k13.1 k13.2 hN).mono ?_;rintro e w2 ⟨rfl,hw2,hb2,-⟩;rw[List.nil_append,show be k.toNat 1++be N 4=qkk (k,N) from rfl]at hw2;have b2:=B0.trans ((B1.mono B0.size).trans (hb2.mono B0.size));have t2:=(T0.below B1.o T0.lt).below hb2 T0.lt;have v2:=(V0.below B1.o V0.lt).below hb2 V0.lt;have z2:=(Z0.below B1.o Z0.lt).below hb2 Z0.lt;have l02:W0.heap.size≤w2.heap.size:=tB1 B1.size hb2.size;have b02:Zb W0 w2:=B1.trans hb2;obtain⟨A0,T2,V2,Z2,W2⟩:=zh5 b2 t2 v2 z2 hw2;clear b2 t2 v2 z2 hw2 hb2 cv0 cv1 hw1 b02;go_upto_region 7 with(fail)
   obtain⟨S,HS⟩:=zS fun w'=>Below (w.heap.size+1+1) w2 w'
   have hle:w.heap.size+1+1≤w2.heap.size:=zo;have f0:∀w',S w'→w'.cell? ⟨w.heap.size,0,none⟩=some (.int .u32 (t.1:Int)):=fun w' h=>by
    rw[HS.o]at h;rw[(T2.below h zo).cell,tA3,D0.o]
   have f1:∀w',S w'→w'.cell? ⟨w.heap.size,1,none⟩=some (.slice A n c):=fun w' h=>by
    rw[HS.o]at h;rw[(T2.below h zo).cell,tA3,D1.o]
   have f2:∀w',S w'→w'.cell? ⟨w.heap.size+1,0,none⟩=some (.int .i64 k):=fun w' h=>by
    rw[HS.o]at h;rw[(V2.below h zo).cell];rfl
   have f3:∀w',S w'→w'.cell? ⟨w.heap.size+1,1,none⟩=some (.int .u32 N):=fun w' h=>by
    rw[HS.o]at h;rw[(V2.below h zo).cell];rfl
   obtain⟨F0,F1,F2,F3⟩:=zh4 f0 f1 f2 f3;clear f0 f1 f2 f3;refine qk3 S 16 [27,29] [(0,false),(1,false),(2,false),(3,false),(5,false),(8,false),(9,false),(10,false)] 2 (.two 4 (.one 6 .done) 6 (.one 4 .done)) [(7,true),(11,true),(12,true),(13,false),(14,true),(15,false)] #[true,true,true,true,false,true,false,false,true,true,true,false,false,false,false,false] #[true,true,true,true,true,true,true,false,true,true,true,false,false,false,false,false] zk rfl zk zk zk zk zk (fun _ _ d _ _ h=>by cases d<;>exact h) ((HS.o _).mpr (tA5 _ w2).drew) ?_;iterate 8 (refine qkb rfl rfl ⟨?_,fun w1 hS=>?_,?_⟩;rotate_left;(focus(have g0:=F0.o w1 hS;have g1:=F1.o w1 hS;have g2:=F2.o w1 hS;have g3:=F3.o w1 hS;go_simp;try rfl));simp only[Act.put,tA0,tA1,tA2])
   refine qka ?_;have hrd:Reads w2.drew w2.drew.heap.size 2 A n (cavv t.2.1):=(HR.call A0.o).drewS;have hwd:Wri w2.drew W0.heap.size W0.heap.size (qkk (k,N)):=W2.kept_call (tA5 _ _).drew;refine⟨fun vs w'=>∃v g,vs=[v,.slice (some ⟨g,0,none⟩) 1 1]∧OwnC w' w2.heap.size v t.2.1∧Reads w' w'.heap.size 2 (some ⟨g,0,none⟩) 1 (cavv [(k,N)])∧Zb w2 w',?_,?_⟩
   ·
    refine qk9 rfl rfl rfl rfl ?_ ?_
    ·
     go_simp;refine(qkm A n c t.2.1 w2.drew hrd zo).mono ?_;rintro e w3 ⟨v,rfl,ho,hb⟩;have hb':Zb w2 w3:=⟨hb.os,hb.tape,hb.output,hb.size,hb.block⟩;have ho':OwnC w3 w2.heap.size v t.2.1:=ho;refine⟨(HS.o _).mpr (hb'.mono hle),?_⟩;refine zP ?_;refine qk7 rfl rfl ?_;go_simp;refine⟨(HS.o _).mpr ((hb'.alloc hb'.size _).mono hle),?_⟩;refine qk4 ⟨[v,.slice (some ⟨w3.heap.size,0,none⟩) 1 1],rfl,v,w3.heap.size,rfl,ho'.alloc _,?_,hb'.alloc hb'.size _⟩;have:=Reads.new w3 132 [.int .i64 k,.int .u32 N] 2 1 rfl;rw[qar];exact this
    go_simp;obtain⟨w3,hw3⟩:=eqx ((w2.alloc (.cells #[.int .i64 k,.int .u32 N] 132)).drew);have b3:Zb w2 w3:=by rw[hw3];exact((tA5 _ _).alloc (tA4 _) _).drew
    have s3:w3.heap.size=w2.heap.size+1:=by rw[hw3,qe5,qar]
    have r3:Reads w3 w3.heap.size 2 (some ⟨w2.heap.size,0,none⟩) 1 (cavv [(k,N)]):=by
     have:=Reads.new w2 132 [.int .i64 k,.int .u32 N] 2 1 rfl;rw[s3,hw3];exact this
    have E3:=zh1 hw3;rw[←E3.o];clear hw3;refine⟨(HS.o _).mpr (b3.mono hle),?_⟩;refine qk7 rfl rfl ?_;go_simp;refine(qkm A n c t.2.1 w3 ((HR.call A0.o).call b3) zo).mono ?_;rintro e w4 ⟨v,rfl,ho,hb⟩;refine⟨(HS.o _).mpr ((b3.trans (hb.mono zo)).mono hle),?_⟩;refine qk4 ⟨[v,.slice (some ⟨w2.heap.size,0,none⟩) 1 1],rfl,v,w2.heap.size,rfl,ho.mono zo,r3.call hb,b3.trans (hb.mono zo)⟩
   rintro vs w4 - ⟨v,g,rfl,o4,r4,b4⟩;simp only[puts,Act.put,tA0,tA1,tA2];refine qbj rfl rfl ?_;refine qgw (.tmp 27) (.tmp 29) rfl w2.heap.size v t.2.1 rfl o4 _ 1 1 [(k,N)] rfl r4 (by have:=Hl.o;omega) b4.size ?_;intro v5 w5 o5 b5 _;have b25:=b4.trans b5;refine⟨fun _=>(HS.o _).mpr (b25.mono hle),?_⟩;refine zP ?_;obtain⟨A5,n5,c5,rfl,-,-,-,-⟩:=o5.sl;have hw5:Wri w5 W0.heap.size W0.heap.size (qkk (k,N)):=W2.kept_call b25;obtain⟨O5,A3⟩:=zh2 o5 b25;have lc:(qkk (k,N)).length=5:=by simp[qkk,qaw]
   clear o5 b25 o4 r4 b4 b5;refine qbj rfl rfl ?_;go_simp;refine(qd5 _ _ _ w5 hw5 (by rw[lc];omega)).mono ?_;rintro e w6 ⟨v6,rfl,own6,b6⟩;obtain⟨A6,n6,c6,rfl,nc6,-,r6⟩:=(show OwnB w6 w5.heap.size v6 (qkk (k,N)) from own6).sl;have ln6:=qb5 r6;rw[lc]at ln6;have b26:=A3.trans (b6.mono A3.size);have t6:=T2.below b26 T2.lt;have rk:=qgx (n:=32) t6 (by rw[qat];exact ht) D2.o;have M:=qju 32 32 n6 c6 _ A6 t.2.2 (qkk (k,N)) w6 rk r6 hb (by intro x hx;rcases List.mem_append.1 hx with h|h<;>exact qaz _ _ x h) zo zo ((HT.below A0.o HT.size).below b26 (tB1 HT.size A0.size));obtain⟨HM,A1,O6⟩:=zh3 M b26 (O5.kept b6);clear M b26 t6 rk ln6 own6 r6 b6 hw5;refine⟨(HS.o _).mpr (A1.mono hle),?_⟩;refine zP ?_;refine qbj rfl rfl ?_;go_simp;refine zcb HM.o fun w7 b7=>?_
   obtain⟨T,hT⟩:=xeq (tokv t.1 (.slice A5 n5 c5) (mac t.2.2 (qkk (k,N))));have lT:=qdg t.1 (.slice A5 n5 c5) (mac t.2.2 (qkk (k,N))) (qkf _ _);have oT:=qeh t.1 (.slice A5 n5 c5) rfl (mac t.2.2 (qkk (k,N)));have bT:=qgt t.1 A5 n5 c5 (byv (mac t.2.2 (qkk (k,N)))) (by rw[qat];exact qkf _ _);rw[show (Value.int .u32 (t.1:Int)::Value.slice A5 n5 c5::byv (mac t.2.2 (qkk (k,N))))=tokv t.1 (.slice A5 n5 c5) (mac t.2.2 (qkk (k,N))) from rfl]at bT;rw[hT]at lT oT bT;obtain⟨E,hE⟩:=xeq (byv (mac t.2.2 (qkk (k,N))));rw[hE]at bT ⊢;obtain⟨BT,A8⟩:=zh2 bT hT;have b27:=A1.trans (b7.mono A1.size);have z7:=Z2.below b27 Z2.lt;obtain⟨O7,HI,A2⟩:=zh3 (O6.kept b7) (zI 31 lT) b27;clear bT hT hE b7 b27;refine⟨(HS.o _).mpr (A2.mono hle),?_⟩;refine zP ?_;refine qbh rfl rfl ⟨.agg T.toArray,fun w1 hS=>?_,?_⟩
   · exact qgr 31 _ rfl _ _ BT.o (by simp[Act.eval])
   refine zP ?_;refine qbj rfl rfl ?_;refine wp_store_row 31 (.tmp 4) (.tmp 36) rfl (w.heap.size+1+1) T.toArray rfl rfl 31 _ z7 (by simpa using HI.o) (by simp[lT]) (by simpa using oT) ?_;have b8:Zb w (w7.setRow (w.heap.size+1+1) T.toArray):=below_setRow (A0.trans (A2.mono A0.size)) zo _;have O8:OwnC (w7.setRow (w.heap.size+1+1) T.toArray) w2.heap.size (.slice A5 n5 c5) (t.2.1++[(k,N)]):=
    tB3 O7.o (qam _ _ _) (.inr (qa3 O7.o z7 zdc))
   have z8:=z7.setRow T.toArray;refine⟨fun _=>(HS.o _).mpr (below_setRow (A2.mono hle) (tA4 _) _),?_⟩;refine zP ?_;iterate 1 (refine zrb ?_)
   refine qbg ?_;go_wp2_with fail
   refine bodyPost_ret (qgv rfl rfl (qgy z8 lT)) rfl ⟨.slice A5 n5 c5,by rw[Hres.o,←A8.o];rfl,by rw[Hres.o];exact O8.mono (by have:=A0.size;omega),b8⟩
  have hres:qkl t (k,N)=(qgu,4):=by unfold qkl;rw[if_pos hk,if_neg (by rw[Hl.o];exact h4)]
  have q4:(n:Int) ≥ 4:=zo;have Hres:=zh1 hres;clear hres hk ck;go_wp2_with (refine wpList_store_row rfl 31 (.tmp 4) (.tmp 18) rfl (w.heap.size+1+1) qgz.toArray rfl rfl 31 _ Z0.o qh1 qh2 qh0 ?_)
  have z8:Blk _ _ 31 qgz.toArray:=Z0.setRow qgz.toArray;refine bodyPost_ret (qgv rfl rfl (qgy z8 rfl)) rfl ⟨.slice none 0 0,by rw[Hres.o];rfl,by rw[Hres.o];exact OwnC.nil _ _,?_⟩;exact below_setRow B0.o zo _
 have hk':qd9 k=false:=by simpa using hk
 have hres:qkl t (k,N)=(qgu,1):=by unfold qkl;rw[if_neg hk]
 have Hres:=zh1 hres;clear hres hk;go_wp2_with (first
  |((with_reducible refine(qdd k _).mono ?_);(rintro _ _ ⟨rfl,rfl⟩))
  |(refine wpList_store_row rfl 31 (.tmp 4) (.tmp 12) rfl (w.heap.size+1+1) qgz.toArray rfl rfl 31 _ Z0.o qh1 qh2 qh0 ?_))
 have z8:Blk _ _ 31 qgz.toArray:=Z0.setRow qgz.toArray;refine bodyPost_ret (qgv rfl rfl (qgy z8 rfl)) rfl ⟨.slice none 0 0,by rw[Hres.o];rfl,by rw[Hres.o];exact OwnC.nil _ _,?_⟩;exact below_setRow B0.o zo _
end Go.Proofs.YthomgopipiomhaaGreatDoor

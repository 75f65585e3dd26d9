/-
  Lemmas for ModelNumbers, shortened by program.
-/
import Derived.Test.YthomgopipiomhaaGreatDoorBMN14
namespace Go.Proofs.YthomgopipiomhaaGreatDoor
set_option linter.unusedVariables false
set_option linter.unusedSimpArgs false
set_option maxRecDepth 100000
set_option maxHeartbeats 32000000
section
open Go.RowKit
theorem qpq (t:Tre)(vd vl vq:Value)(h1:vd.oneCell'=true)(h2:vl.oneCell'=true)(h3:vq.oneCell'=true):∀u∈trev t vd vl vq,u.oneCell'=true:=by
 intro u hu;unfold trev at hu;simp only[List.mem_cons]at hu;rcases hu with rfl|rfl|rfl|rfl|rfl|rfl|rfl|hu
 · rfl
 · rfl
 · rfl
 · rfl
 · exact h1
 · exact h2
 · exact h3
 exact qlm _ u hu
theorem StAt.treeD {tt rt gt:TypeId}{w:World}{col:Col}{k:Nat}{L:Loc}{css:List (List Value)}{s:Sta}(h:StAt tt rt gt w col k L css s)(hs:s.Ok){n:Nat}{t:Tre}(ht:s.tres[n]? =some t):
 ∃D Ad cd Al cl Aq cq,D=trev t (.slice Ad t.draws.length cd) (.slice Al t.leaves.length cl) (.slice Aq t.queue.length cq)∧D.length=75∧(∀u∈D,u.oneCell'=true)∧(∀w',Below w.heap.size w w'→w'.rangeAt L.rg (n*75) D)∧
  t.leaves.length≤cl∧cl≤maxLen∧TextsR w Al t.leaves.length t.leaves∧t.queue.length≤cq∧cq≤maxLen∧TextsR w Aq t.queue.length t.queue:=by
 obtain⟨hn,Ad,cd,Al,cl,Aq,cq,h1,h2,h3,h4,h5⟩:=h.tree hs ht;obtain⟨A1,c1,e1,a1,a2,a3⟩:=h4.reads;obtain⟨A2,c2,e2,b1,b2,b3⟩:=h5.reads;injection e1 with e11 e12 e13;injection e2 with e21 e22 e23;subst e11 e13 e21 e23;exact⟨_,Ad,cd,Al,cl,Aq,cq,rfl,qmx _ _ _ (hs.tre ht).hd,qpq _ _ _ _ rfl rfl rfl,fun w' hb j u hu=>qai (h2 j u hu) hb,a1,a2,a3,b1,b2,b3⟩
theorem qpr:∀(l:List (List Nat)),(∀b∈l,LeafOk b)→qlt l≤l.length*416
 |[],_=>by simp[qlt]
 |b::l,h=>by
  have h1:=qpr l (fun x hx=>h x (List.mem_cons_of_mem _ hx));have h2:=(h b (by simp)).1;unfold qlt at h1 ⊢;simp only[List.map_cons,List.sum_cons,List.length_cons];omega
theorem qps {l:List (List Nat)}{k:Nat}{b:List Nat}(h:l[k]? =some b):qlt (l.take (k+1))=qlt (l.take k)+(b.length+16):=by
 unfold qlt;rw[List.take_add_one,h];simp
def qpt (l:List Tre)(k:Nat):Nat:=((l.take k).map fun t=>qlt t.leaves+qlt t.queue).sum
theorem qpu {l:List Tre}{k:Nat}{t:Tre}(h:l[k]? =some t):qpt l (k+1)=qpt l k+(qlt t.leaves+qlt t.queue):=by
 unfold qpt;rw[List.take_add_one,h];simp
theorem qpv {t:Tre}(h:t.Ok):qlt t.leaves≤1024*416∧qlt t.queue≤1024*416:=by
 have h1:=qpr t.leaves h.leafb;have h2:=qpr t.queue h.queueb;have h3:=h.leaves;constructor
 · exact Nat.le_trans h1 (Nat.mul_le_mul_right _ (by omega))
 exact Nat.le_trans h2 (Nat.mul_le_mul_right _ (by omega))
theorem qpw {l:List Tre}(h:∀t∈l,t.Ok):∀k,qpt l k≤k*851968
 |0=>by simp[qpt]
 |k+1=>by
  rcases e:l[k]? with _|t
  · have h1:=qpw h k
    have h2:qpt l (k+1)=qpt l k:=by
     unfold qpt;rw[List.take_add_one,e];simp
    omega
  rw[qpu e];have h1:=qpw h k;have h2:=qpv (h t (List.mem_of_getElem? e));omega
theorem qpx (s:Sta)(hs:s.Ok):qpt s.tres 16=stored s:=by
 unfold qpt stored;rw[List.take_of_length_le (by rw[hs.tresn];exact tA4 _)]
theorem qpy (s:Sta)(L:Loc)(col:Col)(k:Nat)(css:List (List Value))(w:World)(hs:s.Ok)(hst:StAt 92 74 66 w col k L css s):
 Calls Tryz.prog 33 #[.agg (stav s L).toArray] w fun e w'=>e=.returned (.int .u64 (stored s:Nat))∧Below w.heap.size w w':=by
 show Calls Tryz.prog 33 #[.agg #[.int .u64 (s.clock:Int),.int .u32 (s.draw:Int),.int .i64 s.lane,.slice (some ⟨L.tg,0,none⟩) 16 L.tc,.slice (some ⟨L.rg,0,none⟩) 16 L.rc,.slice (some ⟨L.gg,0,none⟩) s.gras.length L.gc]] w _;obtain⟨AA,HS⟩:=zh2 hst hs;clear hst hs;go_enter Tryz.func33,Tryz.ntmps33
 go_wp2_with fail
 obtain⟨W0,hW0⟩:=eqx (w.alloc (.cells #[.int .u64 (s.clock:Int),.int .u32 (s.draw:Int),.int .i64 s.lane,.slice (some ⟨L.tg,0,none⟩) 16 L.tc,.slice (some ⟨L.rg,0,none⟩) 16 L.rc,.slice (some ⟨L.gg,0,none⟩) s.gras.length L.gc] 49));rw[←hW0];have B0:=zh1 (show Below w.heap.size w W0 by rw[hW0];exact qah (tA5 _ _) _);clear hW0;go_loopw [3,13] (fun v i wr=>∃n:Nat,n≤16∧i=.int .i64 n∧v=.int .u64 (qpt s.tres n:Nat)∧Hid (Below w.heap.size w wr)) (fun v i _=>16 - (intOf i).toNat)
 case atStart=>exact⟨0,by omega,rfl,by simp[qpt],B0.out⟩
 case round=>
  obtain⟨n,hn,rfl,rfl,hb⟩:=hrel;by_cases hn16:n<16
  ·
   have qn:(n:Int)<16:=by omega
   have qn0:(0:Int)≤n:=by omega
   obtain⟨t,ht⟩:∃t,s.tres[n]? =some t:=⟨_,tA7 (by rw[HS.out.tresn];exact hn16)⟩;obtain⟨D,Ad,cd,Al,cl,Aq,cq,hD,lD,oD,hrg,l1,l2,l3,q1,q2,q3⟩:=AA.out.treeD HS.out ht;have d5:D[5]? =some (.slice Al t.leaves.length cl):=by rw[hD];rfl
   have d6:D[6]? =some (.slice Aq t.queue.length cq):=by rw[hD];rfl
   have hrg':=hrg wr hb.out;have AB:=zh1 hrg';have y0:=Blk.new wr 74 Tryz.zeroCells74;obtain⟨Y0,HI,OD,LD,HZ,HT,D5,D6⟩:=zh8 y0 (zI 74 lD) oD lD (show Tryz.zeroCells74.size=75 by kernel_rfl) ht d5 d6;obtain⟨A3,A4⟩:=zh2 l3 q3;clear hD lD oD hrg l1 l2 l3 q1 q2 q3 d5 d6 hrg' y0 ht;go_upto_region 5 with(first
    |(refine qaq rfl 74 (.tmp 15) rfl L.rg (n*75) rfl D _ AB.out Tryz.underlying74 rfl HI.out ?_)
    |(refine zst 74 (.tmp 5) (.tmp 16) wr.heap.size D Y0.out HI.out (by simp[LD.out,HZ.out]) OD.out ?_))
   obtain⟨W1,hW1⟩:=eqx ((wr.alloc (.cells Tryz.zeroCells74 74)).setRow wr.heap.size D.toArray);rw[←hW1];have y1:Blk W1 wr.heap.size 74 D.toArray:=by rw[hW1];exact Y0.out.setRow _
   have b1:Below wr.heap.size wr W1:=by rw[hW1];exact below_setRow ((tA5 _ _).alloc (tA4 _) _) (tA4 _) _
   have e5:=(y1.cell 5).trans (show D.toArray[5]? =some (.slice Al t.leaves.length cl) by rw[tA3];exact D5.out);have e6:=(y1.cell 6).trans (show D.toArray[6]? =some (.slice Aq t.queue.length cq) by rw[tA3];exact D6.out);have B1:=zh1 (hb.out.trans (b1.mono hb.out.size));have hto:=HS.out.tre HT.out;have hsn:=qpu HT.out;have hle:=qpw HS.out.tres n;have hta:=qpv hto;have hll:=hto.leaves;have hlq:=hto.queue;obtain⟨nl,hnl⟩:=xeq t.leaves.length;obtain⟨nq,hnq⟩:=xeq t.queue.length;obtain⟨N,hN⟩:=xeq (qpt s.tres n);rw[hnl]at e5 A3;rw[hnq]at e6 A4;rw[hN]at hsn hle ⊢;obtain⟨AC,A6,A7,A8,A9,A1⟩:=zh6 hsn hle hta (show nl≤1024 by omega) (show nq≤64 by omega) hto;clear hW1 y1 b1 hto hsn hle hta hll hlq hnl hnq hN hb;go_wp2_with fail
   obtain⟨W2,hW2⟩:=eqx (W1.alloc (.cells #[.slice Al nl cl,.slice Aq nq cq] 72));rw[←hW2];have x0:W2.cell? ⟨W1.heap.size,0,none⟩=some (.slice Al nl cl):=by rw[hW2];exact(qak W1 _ _ 0).trans rfl
   have x1:W2.cell? ⟨W1.heap.size,1,none⟩=some (.slice Aq nq cq):=by rw[hW2];exact(qak W1 _ _ 1).trans rfl
   have b2:Below W1.heap.size W1 W2:=by rw[hW2];exact qah (tA5 _ _) _
   obtain⟨X0,X1,B2⟩:=zh3 x0 x1 (B1.out.trans (b2.mono B1.out.size));clear hW2 x0 x1 b2 e5 e6;go_loopw [3,23] (fun v i wr2=>∃j:Nat,j≤2∧i=.int .i64 j∧v=.int .u64 ((N+(if j=0 then 0 else qlt t.leaves)+(if j≤1 then 0 else qlt t.queue):Nat):Int)∧wr2=W2) (fun v i _=>2 - (intOf i).toNat)
   case atStart=>exact⟨0,by omega,rfl,by simp,rfl⟩
   case round=>
    obtain⟨j,hj,rfl,rfl,rfl⟩:=hrel;have hj3:j=0∨j=1∨j=2:=by omega
    rcases hj3 with rfl|rfl|rfl
    ·
     have x0:=X0.out;go_wp2_with fail
     go_loopw [3,29] (fun v i wr3=>∃m:Nat,m≤nl∧i=.int .i64 m∧v=.int .u64 ((N+qlt ((t.leaves).take m):Nat):Int)∧wr3=wr) (fun v i _=>nl - (intOf i).toNat)
     case atStart=>exact⟨0,by omega,rfl,by simp[qlt],rfl⟩
     case round=>
      obtain⟨m,hm,rfl,rfl,rfl⟩:=hrel;by_cases hmn:m<nl
      ·
       have qm:(m:Int)<nl:=by omega
       have qm0:(0:Int)≤m:=by omega
       obtain⟨g,o,bs,A',n',c',rfl,-,hi,hc,-,-,h5⟩:=(A3.out.call B2.out).at_ hmn;have hst:=qps hi;have hbl:=((fun b hb=>A1.out.leafb b hb) bs (List.mem_of_getElem? hi)).1;rw[qb5 h5]at hst hbl;obtain⟨x,hx⟩:=xeq (N+qlt ((t.leaves).take m));have hxb:x≤100000000:=by
        have h1:=qpr ((t.leaves).take m) (fun b hb=>(fun b hb=>A1.out.leafb b hb) b (List.mem_of_mem_take hb));have h2:((t.leaves).take m).length≤1024:=by rw[List.length_take];have:=A8.out;omega
        have h3:=Nat.mul_le_mul_right 416 h2;have h4:=A6.out;have h5:=A7.out;try(have h6:=A2.out)
        omega
       have hx1:N+qlt ((t.leaves).take (m+1))=x+(n'+16):=by rw[hst];omega
       rw[hx];have p1:IntKind.u64.wrap (n':Int)=(n':Int):=IntWalk.u64_in _ (by omega);have p2:IntKind.u64.wrap ((n':Int)+16)=(n':Int)+16:=IntWalk.u64_in _ (by omega);have p3:IntKind.u64.wrap ((x:Int)+((n':Int)+16))=(x:Int)+((n':Int)+16):=IntWalk.u64_in _ (by omega);have A5:=zh1 hx1;have hnb:=A8.out;clear hst hbl hx hxb hx1 h5 hi;go_wp2_with fail
       go_roundw
       case rel=>exact⟨m+1,by omega,by go_num,by rw[A5.out];simp,by first|rfl|trivial⟩
       case measure=>simp[intOf];omega
      have qm:¬(m:Int)<nl:=by omega
      have hall:(t.leaves).take m=t.leaves:=List.take_of_length_le (by have:=A3.out.1;omega);have A0:=zh1 hall;clear hall;go_wp2_with fail
      go_roundw
      case rel=>exact⟨1,by omega,by go_num,by rw[A0.out];(try rw[←A2.out]);first|rfl|simp,by first|rfl|trivial⟩
      case measure=>simp[intOf]
    ·
     have x0:=X1.out;go_wp2_with fail
     obtain⟨M,hM⟩:=xeq (N+qlt t.leaves);have A2:=zh1 hM;rw[show ((N:Int)+(qlt t.leaves:Nat))=(M:Int) from by rw[←hM,Int.natCast_add]];clear hM;go_loopw [3,29] (fun v i wr3=>∃m:Nat,m≤nq∧i=.int .i64 m∧v=.int .u64 ((M+qlt ((t.queue).take m):Nat):Int)∧wr3=wr) (fun v i _=>nq - (intOf i).toNat)
     case atStart=>exact⟨0,by omega,rfl,by simp[qlt],rfl⟩
     case round=>
      obtain⟨m,hm,rfl,rfl,rfl⟩:=hrel;by_cases hmn:m<nq
      ·
       have qm:(m:Int)<nq:=by omega
       have qm0:(0:Int)≤m:=by omega
       obtain⟨g,o,bs,A',n',c',rfl,-,hi,hc,-,-,h5⟩:=(A4.out.call B2.out).at_ hmn;have hst:=qps hi;have hbl:=((fun b hb=>A1.out.queueb b hb) bs (List.mem_of_getElem? hi)).1;rw[qb5 h5]at hst hbl;obtain⟨x,hx⟩:=xeq (M+qlt ((t.queue).take m));have hxb:x≤100000000:=by
        have h1:=qpr ((t.queue).take m) (fun b hb=>(fun b hb=>A1.out.queueb b hb) b (List.mem_of_mem_take hb));have h2:((t.queue).take m).length≤1024:=by rw[List.length_take];have:=A9.out;omega
        have h3:=Nat.mul_le_mul_right 416 h2;have h4:=A6.out;have h5:=A7.out;try(have h6:=A2.out)
        omega
       have hx1:M+qlt ((t.queue).take (m+1))=x+(n'+16):=by rw[hst];omega
       rw[hx];have p1:IntKind.u64.wrap (n':Int)=(n':Int):=IntWalk.u64_in _ (by omega);have p2:IntKind.u64.wrap ((n':Int)+16)=(n':Int)+16:=IntWalk.u64_in _ (by omega);have p3:IntKind.u64.wrap ((x:Int)+((n':Int)+16))=(x:Int)+((n':Int)+16):=IntWalk.u64_in _ (by omega);have A5:=zh1 hx1;have hnb:=A9.out;clear hst hbl hx hxb hx1 h5 hi;go_wp2_with fail
       go_roundw
       case rel=>exact⟨m+1,by omega,by go_num,by rw[A5.out];simp,by first|rfl|trivial⟩
       case measure=>simp[intOf];omega
      have qm:¬(m:Int)<nq:=by omega
      have hall:(t.queue).take m=t.queue:=List.take_of_length_le (by have:=A4.out.1;omega);have A0:=zh1 hall;clear hall;go_wp2_with fail
      go_roundw
      case rel=>exact⟨2,by omega,by go_num,by rw[A0.out];(try rw[←A2.out]);first|rfl|simp,by first|rfl|trivial⟩
      case measure=>simp[intOf]
    go_wp2_with fail
    go_roundw
    case rel=>exact⟨n+1,by omega,by go_num,by rw[AC.out];simp[Nat.add_assoc],B2.out⟩
    case measure=>simp[intOf];omega
  have qn:¬(n:Int)<16:=by omega
  obtain rfl:n=16:=by omega
  have he:=qpx s HS.out;have HE:=zh1 he;clear he;go_wp2_with fail
  go_ret
  exact⟨by rw[←HE.out];rfl,hb.out⟩
end
section
open Go.RowKit
theorem qpz {a b:List Nat}(ha:∀x∈a,x<256)(hb:∀x∈b,x<256):(Lib.bytesOf (a.map fun b:Nat=>(b:Int))==Lib.bytesOf (b.map fun b:Nat=>(b:Int)))=(a==b):=by
 rw[Bool.eq_iff_iff];simp only[beq_iff_eq];constructor
 · intro h
   refine(qd1 ha hb).1 ?_;unfold bstr strOfNums;unfold Lib.bytesOf at h;rw[h]
 rintro rfl;rfl
theorem qq0 (a b:List Nat)(A B:Option Addr)(n c m d:Nat)(w:World)(ha:∀x∈a,x<256)(hb:∀x∈b,x<256)(h1:Reads w w.heap.size 1 A n (byv a))(h2:Reads w w.heap.size 1 B m (byv b)):
 Calls Tryz.prog 81 #[.slice A n c,.slice B m d] w fun e w'=>e=.returned (.bool (a==b))∧w=w':=by
 have h:=Tryz.bytes_Equal (.slice A n c) (.slice B m d) (a.map fun b:Nat=>(b:Int)) (b.map fun b:Nat=>(b:Int)) w (qd2 h1) (qd2 h2);rw[qpz ha hb]at h;refine h.mono ?_;rintro e w' ⟨rfl,rfl⟩;exact⟨rfl,rfl⟩
theorem qq1 (b bs:List Nat)(A B:Option Addr)(n c m d p:Nat)(w:World)(ha:∀x∈bs,x<256)(hb:∀x∈b,x<256)(h1:Reads w w.heap.size 1 A n (byv bs))(h2:Reads w w.heap.size 1 B m (byv b))(hp:w.cell? ⟨p,0,none⟩=some (.slice B m d)):
 Calls Tryz.prog 225 #[.slice A n c,.pointer (some ⟨p,0,none⟩)] w fun e w'=>e=.returned (.bool (bs==b))∧w=w':=by
 have H:=zh1 (qq0 bs b A B n c m d w ha hb h1 h2);clear h1 h2 ha hb;go_enter Tryz.func225,Tryz.ntmps225
 go_wp2_with fail
 refine H.out.mono ?_;rintro e w' ⟨rfl,rfl⟩;go_wp2_with fail
 go_ret
 exact⟨rfl,rfl⟩
theorem qq2 {l:List (List Nat)}{b:List Nat}{k:Nat}{x:List Nat}(hx:l[k]? =some x)(h:∀j y,j<k→l[j]? =some y→y≠b):(x=b→qm3 l b=some k)∧(x≠b→∀j y,j<k+1→l[j]? =some y→y≠b):=by
 constructor
 ·
  rintro rfl;unfold qm3;obtain⟨hk,e⟩:=List.getElem?_eq_some_iff.1 hx;rw[List.findIdx?_eq_some_iff_getElem];refine⟨hk,by simp[e],fun j hj=>?_⟩;have:=h j l[j] hj (tA7 (by omega));simpa using this
 intro hne j y hj hy;by_cases e:j=k
 · subst e
   rw[hx]at hy;injection hy with hy;rw[←hy];exact hne
 exact h j y (by omega) hy
theorem qq3 {l:List (List Nat)}{b:List Nat}(h:∀j y,j<l.length→l[j]? =some y→y≠b):qm3 l b=none:=by
 unfold qm3;rw[List.findIdx?_eq_none_iff];intro x hx;obtain⟨j,hj,rfl⟩:=List.getElem_of_mem hx;have:=h j _ hj (tA7 hj);simpa using this
def idxI (o:Option Nat):Int:=match o with|some k=>(k:Int)|none=>-1
theorem qq4 (b:List Nat)(ls:List (List Nat))(A B:Option Addr)(n c m d p:Nat)(w:World)(hn:n≤1048576)(hl:TextsR w A n ls)(hok:∀x∈ls,BsOk x)(hb:∀x∈b,x<256)(h2:Reads w w.heap.size 1 B m (byv b))(hp:w.cell? ⟨p,0,none⟩=some (.slice B m d)):
 Calls Tryz.prog 224 #[.slice A n c,.func (.func 225) #[] #[.pointer (some ⟨p,0,none⟩)]] w fun e w'=>e=.returned (.int .i64 (idxI (qm3 ls b)))∧w=w':=by
 obtain⟨HL,A0,HB,H2,HP,LN⟩:=zh6 hl hok hb h2 hp hl.1;clear hl hok hb h2 hp;go_enter Tryz.func224,Tryz.ntmps224
 go_wp2_with fail
 go_loopw [8] (fun i wr=>∃k:Nat,k≤n∧i=.int .i64 k∧Hid (∀j y,j<k→ls[j]? =some y→y≠b)∧wr=w) (fun i _=>n - (intOf i).toNat)
 case atStart=>exact⟨0,by omega,rfl,fun j y h=>absurd h (by omega),rfl⟩
 case round=>
  obtain⟨k,hk,rfl,hne,rfl⟩:=hrel;by_cases hkn:k<n
  ·
   have qk:(k:Int)<n:=by omega
   obtain⟨g,o,bs,A',n',c',rfl,hg,hi,hc,h3,h4,h5⟩:=HL.out.at_ hkn;have qk0:(0:Int)≤k:=by omega
   have hbs:=A0.out bs (List.mem_of_getElem? hi);have HI:=zh1 (qq1 b bs A' B n' c' m d p wr hbs.2 HB.out h5 H2.out HP.out);obtain⟨h6,h7⟩:=qq2 hi hne.out;obtain⟨H6,H7⟩:=zh2 h6 h7;clear h3 h4 h5 hbs hi hg h6 h7 hne;go_wp2_with fail
   refine HI.out.mono ?_;rintro e w' ⟨rfl,rfl⟩;by_cases e:bs=b
   · have qe:(bs==b)=true:=by simpa using e
     have hf:=H6.out e;clear e;go_wp2_with fail
     go_ret
     exact⟨by rw[hf];rfl,rfl⟩
   have qe:(bs==b)=false:=by simpa using e
   have hf:=H7.out e;have HF:=zh1 hf;clear e hf;go_wp2_with fail
   go_roundw
   case rel=>exact⟨k+1,by omega,by go_num,HF.out,by first|rfl|trivial⟩
   case measure=>simp[intOf];omega
  have qk:¬(k:Int)<n:=by omega
  have hf:qm3 ls b=none:=qq3 fun j y hj hy=>hne.out j y (by have:=LN.out;omega) hy
  have HF:=zh1 hf;clear hf;go_wp2_with fail
  go_ret
  exact⟨by rw[HF.out];rfl,rfl⟩
theorem qq5 (b:List Nat)(ls:List (List Nat))(A B:Option Addr)(n c m d:Nat)(w:World)(hn:n≤1048576)(hl:TextsR w A n ls)(hok:∀x∈ls,BsOk x)(hb:∀x∈b,x<256)(h2:Reads w w.heap.size 1 B m (byv b)):
 Calls Tryz.prog 188 #[.slice A n c,.slice B m d] w fun e w'=>e=.returned (.int .i64 (idxI (qm3 ls b)))∧Below w.heap.size w w':=by
 have b0:Below w.heap.size w (w.alloc (.cells #[.slice B m d] 23)):=qah (tA5 _ _) _;obtain⟨H,B0⟩:=zh2 (qq4 b ls A B n c m d w.heap.size _ hn (hl.call b0) hok hb (h2.call b0) ((qak w #[.slice B m d] 23 0).trans rfl)) b0;have hmf:∀(fn:Fn) (first cap:Array Value) (w:World),(Instr.makeFunc fn first cap).run Tryz.prog w=.ok (.func fn first cap) w:=fun _ _ _ _=>rfl
 clear hl hok hb h2 b0;go_enter Tryz.func188,Tryz.ntmps188
 go_wp2_with fail
 refine H.out.mono ?_;rintro e w' ⟨rfl,rfl⟩;go_wp2_with fail
 go_ret
 exact⟨rfl,B0.out⟩
end
section
open Go.RowKit
def inP (k:Nat):Nat→Bool:=fun i=>i==1||(decide (k≤i)&&decide (i≤k+2))||decide (10≤i)
theorem qq7 {k:Nat}(hk:Kind k):inP k 0=false:=by rcases hk with rfl|rfl<;>rfl
theorem Turns.row0 {p:Nat→Bool}{w w':World}{col col':Col}(h:Turns p w col w' col'){G:Nat}(hG:w.heap.size≤G)(cs:Array Value):Turns p w col (w'.setRow G cs) col':=
 ⟨h.os,h.tape,h.output,by simpa using h.size,fun b hb hp=>((qam w' G cs).block b (Nat.lt_of_lt_of_le hb h.size) (by intro e;injection e with e;omega)).trans (h.block b hb hp),h.same⟩
theorem Turns.onlyRow {w:World}{col:Col}{G:Nat}(cs:Array Value)(h0:col G=0):Turns (· ==0) w col (w.setRow G cs) col:=
 Turns.of_grown (qam w G cs) (fun g e=>by injection e with e;subst e;simp[h0]) (fun _ _=>rfl)
theorem Mdl.row0 {w:World}{col:Col}{k g:Nat}{c:Cfg}{s:Sta}{L:Loc}{css:List (List Value)}(h:Mdl w col k g c s L css)(hk:Kind k){G:Nat}(cs:Array Value)(h0:col G=0):Mdl (w.setRow G cs) col k g c s L css:=
 h.keep (Turns.onlyRow cs h0) rfl rfl (by rcases hk with rfl|rfl<;>rfl) (by rcases hk with rfl|rfl<;>rfl) (by rcases hk with rfl|rfl<;>rfl) (fun i hi=>by simp;omega) (h.fin.mono (by simp))
theorem TrsAt.row0 {w:World}{col:Col}{css:List (List Value)}{l:List Tre}(h:TrsAt w col css l){G:Nat}(cs:Array Value)(h0:col G=0):TrsAt (w.setRow G cs) col css l:=
 h.keep fun i hi=>(Turns.onlyRow cs h0).keeps (by rcases hi with rfl|hi;rfl;simp;omega)
structure Did (w:World)(col:Col)(w':World)(col':Col)(k g:Nat)(c:Cfg)(css:List (List Value))(s s':Sta):Prop where
 mdl:∃L' css',Mdl w' col' k g c s' L' css'
 old:TrsAt w' col' css s.tres
 turns:Turns (inP k) w col w' col'
theorem Did.row0 {w w':World}{col col':Col}{k g:Nat}{c:Cfg}{css:List (List Value)}{s s':Sta}(h:Did w col w' col' k g c css s s')(hk:Kind k){G:Nat}(cs:Array Value)(h0:col' G=0)(hG:w.heap.size≤G):Did w col (w'.setRow G cs) col' k g c css s s':=by
 obtain⟨L',css',hm⟩:=h.mdl;exact⟨⟨L',css',hm.row0 hk cs h0⟩,h.old.row0 cs h0,h.turns.row0 hG cs⟩
theorem Did.same {w w':World}{col:Col}{k g:Nat}{c:Cfg}{L:Loc}{css:List (List Value)}{s:Sta}(h:Mdl w col k g c s L css)(hb:Below w.heap.size w w'):Did w col w' col k g c css s s:=
 ⟨⟨L,css,h.call hb⟩,(h.call hb).st.trs,Turns.of_below _ hb⟩
theorem Did.call {w w' w'':World}{col col':Col}{k g:Nat}{c:Cfg}{css:List (List Value)}{s s':Sta}(h:Did w col w' col' k g c css s s')(hb:Below w'.heap.size w' w''):Did w col w'' col' k g c css s s':=by
 obtain⟨L',css',hm⟩:=h.mdl;exact⟨⟨L',css',hm.call hb⟩,h.old.keep fun i _=>(Turns.of_below (fun _=>false) hb).keeps rfl,h.turns.trans (Turns.of_below _ hb)⟩
def RspV (w:World)(col:Col)(base:Nat)(v:Value)(R:Rsp):Prop:=
 ∃bv hv cav,v=.agg (rspv R bv hv cav).toArray∧OwnB w base bv R.bytes∧OwnD w base hv R.hashes∧OwnC w base cav R.tok.2.1∧
  (∀g,bv.ownBlock=some g→col g=0)∧(∀g,hv.ownBlock=some g→col g=0)∧(∀g,cav.ownBlock=some g→col g=0)
theorem RspV.plain (w:World)(col:Col)(base:Nat)(R:Rsp)(h1:R.bytes=[])(h2:R.hashes=[])(h3:R.tok.2.1=[]):RspV w col base (.agg (qpe R).toArray) R:=
 ⟨_,_,_,rfl,by rw[h1];exact OwnB.nil _ _,by rw[h2];exact OwnD.nil _ _,by rw[h3];exact OwnC.nil _ _,(fun g e=>by cases e),(fun g e=>by cases e),(fun g e=>by cases e)⟩
structure Asked (w:World)(col:Col)(R:Req)(Ac:Option Addr)(cc:Nat)(Al:Option Addr)(cl:Nat):Prop where
 good:R.Good
 leaf:Reads w w.heap.size 1 Al R.leaf.length (byv R.leaf)
 leafc:R.leaf.length≤cl
 leafm:cl≤maxLen
 cavs:Reads w w.heap.size 2 Ac R.cavs.length (cavv R.cavs)
 cavc:R.cavs.length≤cc
 cavm:cc≤maxLen
 leaf0:0<R.leaf.length→∀ad,Al=some ad→col ad.block=0
 cavs0:0<R.cavs.length→∀ad,Ac=some ad→col ad.block=0
theorem qq8 {w w':World}{col col':Col}{p:Nat→Bool}{size n:Nat}{A:Option Addr}{xs:List Value}(h:Reads w w.heap.size size A n xs)(h0:0<n→∀ad,A=some ad→col ad.block=0)(ht:Turns p w col w' col')(hp:p 0=false):Reads w' w'.heap.size size A n xs:=by
 refine⟨h.1,fun hn=>?_⟩;obtain⟨ad,e,hb,hc⟩:=h.2 hn;refine⟨ad,e,Nat.lt_of_lt_of_le hb ht.size,fun j u hu=>?_⟩;refine(World.cell?_of_block ?_).trans (hc j u hu);rw[qa1];exact ht.block _ hb (by rw[h0 hn ad e];exact hp)
theorem qq9 {w w':World}{base:Nat}{e:TypeId}{size n:Nat}{v:Value}{xs:List Value}(h:w.ownsRow base e size v n xs)(hb:Below w.heap.size w w'):w'.ownsRow base e size v n xs:=by
 refine⟨h.1,?_⟩;rcases h.2 with h0|⟨g,cap,cur,rfl,hg,hh,rest⟩
 · exact .inl h0
 have hl:Blk w g e cur:=hh;exact .inr ⟨g,cap,cur,rfl,hg,(hb.block g hl.lt).trans hh,rest⟩
end
section
open Go.RowKit
section
variable {w w' : World} {col col' : Col} {k g : Nat} {c : Cfg} {s : Sta} {L : Loc} {css : List (List Value)}
theorem qqa {α:Type}{f g:α→α}:∀{l:List α} {n:Nat},(∀x,l[n]? =some x→f x=g x)→l.modify n f=l.modify n g
 |[],n,_=>by simp
 |x::l,0,h=>by simp[h x rfl]
 |x::l,n+1,h=>by simp[qqa (l:=l) (n:=n) (fun y hy=>h y (by simpa using hy))]
theorem Mdl.treRow (h:Mdl w col k g c s L css)(hk:Kind k)(hs:s.Ok){n j kk:Nat}{t:Tre}(ht:s.tres[n]? =some t){cs:List Value}(hcs:css[n]? =some cs)(hkk:kk=10+3*n∨kk=11+3*n∨kk=12+3*n)
 (hT:Turns (· ==kk) w col w' col')(hf:Fin_ col' w')(f:Tre→Tre)(v':Value)(hj:j<75)(hold:TreAt w' col' n cs t)(hnew:TreAt w' col' n (cs.set j v') (f t)):
 Mdl (w'.setCell ⟨L.rg,n*75+j,none⟩ v') col' k g c (s.setT n f) L (css.modify n fun x=>x.set j v')∧TrsAt (w'.setCell ⟨L.rg,n*75+j,none⟩ v') col' css s.tres∧Turns (inP k) w col (w'.setCell ⟨L.rg,n*75+j,none⟩ v') col':=by
 have hn:n<s.tres.length:=by obtain⟨h,_⟩:=List.getElem?_eq_some_iff.1 ht;exact h
 have hn16:n<16:=by rw[←hs.tresn];exact hn
 have hlen:=h.st.trs.lens (fun t ht=>(hs.tres t ht).hd);have hcl:css.length=16:=by rw[h.st.trs.1,hs.tresn]
 have hfl:css.flatten.length=1200:=by rw[qmr hlen,hcl]
 have keepA:∀i,i≠kk→KeepsCol i w col w' col':=fun i hi=>hT.keeps (by simpa using hi)
 have mA:Mdl w' col' k g c s L css:=by
  refine⟨(hT.block g h.blk.lt (by rw[h.own];simp;omega)).trans h.blk,(hT.same g h.blk.lt).trans h.own,⟨Nat.le_trans h.base.1 hT.size,fun b hb=>(hT.same b (Nat.lt_of_lt_of_le hb h.base.1)).trans (h.base.2 b hb)⟩,hf,h.seed.keep (keepA 5 (by omega)),?_⟩;refine⟨h.st.tens.keep (keepA k (by rcases hk with rfl|rfl<;>omega)),h.st.tres.keep (keepA (k+1) (by rcases hk with rfl|rfl<;>omega)),h.st.gras.keep (keepA (k+2) (by rcases hk with rfl|rfl<;>omega)),h.st.trs.1,fun i t' ht'=>?_⟩;by_cases e:n=i
  · subst e
    rw[ht]at ht';injection ht' with ht';subst ht';exact⟨cs,hcs,hold⟩
  obtain⟨c0,h1,vd,vl,vq,e1,r1,r2,r3⟩:=h.st.trs.2 i t' ht';exact⟨c0,h1,vd,vl,vq,e1,r1.keep (keepA _ (by omega)),r2.keep (keepA _ (by omega)) (keepA 5 (by omega)),r3.keep (keepA _ (by omega)) (keepA 5 (by omega))⟩
 have hT2:Turns (· ==k+1) w' col' (w'.setCell ⟨L.rg,n*75+j,none⟩ v') col':=Turns.setCell v' (by simp[mA.st.tres.1]);have keepB:∀i,i≠k+1→KeepsCol i w' col' (w'.setCell ⟨L.rg,n*75+j,none⟩ v') col':=fun i hi=>hT2.keeps (by simpa using hi)
 have hbig:∀i,i=5∨10≤i→i≠k+1:=fun i hi=>by rcases hk with rfl|rfl<;>omega
 have hne:g≠L.rg:=by
  intro e;have a:=mA.own;rw[e,mA.st.tres.1]at a;rcases hk with rfl|rfl<;>cases a
 refine⟨⟨?_,mA.own,⟨Nat.le_trans mA.base.1 hT2.size,mA.base.2⟩,mA.fin.mono hT2.size,mA.seed.keep (keepB 5 (hbig 5 (.inl rfl))),?_⟩,mA.st.trs.keep fun i hi=>keepB i (hbig i hi),?_⟩
 · exact(mA.blk.far (p:=⟨L.rg,n*75+j,none⟩) hne v')
 ·
  refine⟨mA.st.tens.keep (keepB k (by omega)),?_,mA.st.gras.keep (keepB (k+2) (by omega)),?_⟩
  · have h1:=mA.st.tres.set1 (o:=n*75+j) v' (by rw[hfl];omega)
    rw[←qmt _ _ _ (by rw[hfl];omega),qms [v'] hlen (by rw[hcl];exact hn16) (by simp;omega)]at h1;have e:(css.modify n fun x=>over x j [v'])=css.modify n fun x=>x.set j v':=qqa fun x hx=>qmt x j v' (by rw[hlen x (List.mem_of_getElem? hx)];exact hj)
    rwa[e]at h1
  refine⟨by rw[List.length_modify,h.st.trs.1];simp[Sta.setT],fun i t' ht'=>?_⟩;by_cases e:n=i
  · subst e
    rw[show (s.setT n f).tres=s.tres.modify n f from rfl,qnc f ht]at ht';injection ht' with ht';subst ht';exact⟨cs.set j v',qnc _ hcs,hnew.keep fun i hi=>keepB i (hbig i hi)⟩
  rw[show (s.setT n f).tres=s.tres.modify n f from rfl,qnd _ f e]at ht';obtain⟨c0,h1,h2⟩:=mA.st.trs.2 i t' ht';exact⟨c0,by rw[qnd _ _ e];exact h1,h2.keep fun i hi=>keepB i (hbig i hi)⟩
 refine(hT.mono (q:=inP k) fun i hi=>?_).trans (hT2.mono (q:=inP k) fun i hi=>?_)
 · obtain rfl:i=kk:=by simpa using hi
   unfold inP;simp;omega
 obtain rfl:i=k+1:=by simpa using hi
 unfold inP;simp
theorem qqb {t:Tre}{a b d a' b' d':Value}(h:trev t a b d=trev t a' b' d'):a=a'∧b=b'∧d=d':=by
 unfold trev at h;simp only[List.cons.injEq,true_and]at h;exact⟨h.1,h.2.1,h.2.2.1⟩
theorem Mdl.rows (h:Mdl w col k g c s L css){n:Nat}{t:Tre}(ht:s.tres[n]? =some t){vd vl vq:Value}(hcs:css[n]? =some (trev t vd vl vq)):
 RowC w col (10+3*n) vd 22 1 t.draws.length (drwv t.draws)∧TextsC w col (11+3*n) vl t.leaves∧TextsC w col (12+3*n) vq t.queue:=by
 obtain⟨cs,h1,a,b,d,e,r1,r2,r3⟩:=h.st.trs.2 n t ht;rw[hcs]at h1;injection h1 with h1;rw[←h1]at e;obtain⟨rfl,rfl,rfl⟩:=qqb e;exact⟨r1,r2,r3⟩
theorem qqc {kk:Nat}{v v' u:Value}{vs:List Value}{ls:List (List Nat)}{bs:List Nat}(ha:AppendedC w col w' col' kk v v' 23 1 ls.length 1 vs [u])(hlen:vs.length=ls.length)(htx:∀(i:Nat) (bs:List Nat),ls[i]? =some bs→∃u,vs[i]? =some u∧TextC w col u bs)(hu:TextC w col u bs)(h5:KeepsCol 5 w col w' col'):
 TextsC w' col' kk v ls∧TextsC w' col' kk v' (ls++[bs]):=by
 constructor
 · refine⟨vs,ha.old,fun i x hx=>?_⟩
   obtain⟨y,hy,ht⟩:=htx i x hx;exact⟨y,hy,ht.keep h5⟩
 refine⟨vs++[u],?_,fun i x hx=>?_⟩
 · have:=ha.row
   rwa[show ls.length+1=(ls++[bs]).length by simp]at this
 rw[List.getElem?_append]at hx;split at hx
 · obtain⟨y,hy,ht⟩:=htx i x hx
   exact⟨y,by rw[List.getElem?_append_left (by omega)];exact hy,ht.keep h5⟩
 rename_i hge
 have hi:i=ls.length:=by
  have:(List.length [bs])=1:=rfl;obtain⟨h,_⟩:=List.getElem?_eq_some_iff.1 hx;simp at h;omega
 subst hi;simp at hx;subst hx;exact⟨u,by rw[List.getElem?_append_right (by omega),hlen];simp,hu.keep h5⟩
theorem Mdl.queueAdd (h:Mdl w col k g c s L css)(hk:Kind k)(hs:s.Ok){n:Nat}{t:Tre}(ht:s.tres[n]? =some t){vd vl vq:Value}(hcs:css[n]? =some (trev t vd vl vq)){vs:List Value}(hlen:vs.length=t.queue.length)
 (htx:∀(i:Nat) (bs:List Nat),t.queue[i]? =some bs→∃u,vs[i]? =some u∧TextC w col u bs){u v':Value}{bs:List Nat}(hu:TextC w col u bs)(ha:AppendedC w col w' col' (12+3*n) vq v' 23 1 t.queue.length 1 vs [u]):
 Mdl (w'.setCell ⟨L.rg,n*75+6,none⟩ v') col' k g c (s.setT n fun t=>{t with queue:=t.queue++[bs]}) L (css.modify n fun x=>x.set 6 v')∧TrsAt (w'.setCell ⟨L.rg,n*75+6,none⟩ v') col' css s.tres∧Turns (inP k) w col (w'.setCell ⟨L.rg,n*75+6,none⟩ v') col':=by
 obtain⟨r1,r2,r3⟩:=h.rows ht hcs;have kp:∀i,i≠12+3*n→KeepsCol i w col w' col':=fun i hi=>ha.turns.keeps (by simpa using hi)
 obtain⟨t1,t2⟩:=qqc ha hlen htx hu (kp 5 (by omega));exact h.treRow hk hs ht hcs (.inr (.inr rfl)) ha.turns (ha.fin h.fin) _ v' (by omega)
  ⟨vd,vl,vq,rfl,r1.keep (kp _ (by omega)),r2.keep (kp _ (by omega)) (kp 5 (by omega)),t1⟩
  ⟨vd,vl,v',rfl,r1.keep (kp _ (by omega)),r2.keep (kp _ (by omega)) (kp 5 (by omega)),t2⟩
theorem qqd {base:Nat}{v:Value}{bs:List Nat}(ho:OwnB w' base v bs)(hb:w.heap.size≤base)(hs:w.heap.size≤w'.heap.size)(hf:Fin_ col w):
 ∃col1:Col,(∀b,b<base→col1 b=col b)∧TextC w' col1 v bs∧Fin_ col1 w':=by
 refine⟨fun b=>if v.ownBlock=some b then 5 else col b,fun b hb'=>?_,TextC.own ho fun g hg=>?_,fun b hb'=>?_⟩
 · show (if v.ownBlock=some b then 5 else col b)=col b
   rw[if_neg];intro e;have:=(World.ownsRow.lt ho b e).1;omega
 · simp[hg]
 by_cases e:v.ownBlock=some b
 · exact(World.ownsRow.lt ho b e).2
 change (if v.ownBlock=some b then 5 else col b)≠0 at hb';rw[if_neg e]at hb';exact Nat.lt_of_lt_of_le (hf b hb') hs
end
end
section
open Go.RowKit
def Tryz.clr47:Go.Shelf.Ren:=⟨fun|41=>47|n=>n,fun|22=>23|23=>5|4=>4|n=>n,fun|n=>n⟩
theorem Tryz.cll47:Go.Proofs.SlLaysE0.n41 Tryz.prog Tryz.clr47:={
 mixed:=by kernel_rfl
 f41:=⟨Tryz.f47.name,by decide,Tryz.func47.trans (congrArg some (by kernel_rfl))⟩
 t4:=Tryz.underlying4
 a4:=Tryz.isAgg4
 z4:=Tryz.sizeOf4
 v4:=Tryz.zeroValue4
 t22:=Tryz.underlying23
 a22:=Tryz.isAgg23
 z22:=Tryz.sizeOf23
 v22:=Tryz.zeroValue23}
theorem qqe (A:Option Addr)(n c:Nat)(xs:List Value)(w:World)(hr:Reads w w.heap.size 1 A n xs)(hn:n*1≤140737488355328)(h1:∀u∈xs,u.oneCell'=true):
 Calls Tryz.prog 47 #[.slice A n c] w fun e w'=>∃v',e=.returned v'∧w'.ownsRow w.heap.size 5 1 v' n xs∧Below w.heap.size w w':=by
 have hinfo:((Tryz.prog.info? 5).bind fun i=>i.zero.map fun z=>(z.cells.size,i.size,i.bytes))=some (1,1,1):=by kernel_rfl
 obtain⟨i0,z,hi,hz,hzs,hs,hb⟩:∃i z,Tryz.prog.info? 5=some i∧i.zero=some z∧z.cells.size=1∧i.size=1∧i.bytes=1:=by
  rcases h:Tryz.prog.info? 5 with _|i
  · rw[h]at hinfo;cases hinfo
  rcases h2:i.zero with _|z
  · rw[h]at hinfo;simp[h2]at hinfo
  rw[h]at hinfo;simp[h2]at hinfo;exact⟨i,z,rfl,h2,hinfo.1,hinfo.2.1,hinfo.2.2⟩
 rcases A with _|⟨b,off,s⟩
 ·
  have hn0:n=0:=by
   rcases Nat.eq_zero_or_pos n with h0|h0
   · exact h0
   obtain⟨ad,h,_⟩:=hr.2 h0;cases h
  subst hn0;have hx:xs=[]:=List.eq_nil_of_length_eq_zero (by simpa using hr.1);subst hx;refine(AnyE.slices_Clone_nil Tryz.cll47 0 c w).mono ?_;rintro e w' ⟨rfl,rfl⟩;exact⟨_,rfl,World.ownsRow_nil ..,tA5 _ _⟩
 by_cases h0:n=0
 ·
  subst h0;have hx:xs=[]:=List.eq_nil_of_length_eq_zero (by simpa using hr.1);subst hx;go_enter Tryz.func47,Tryz.ntmps47
  have qT:∀(w:World),(binOp .eql 23 (.slice (some ⟨b,off,s⟩) 0 c) (.slice none 0 0)).run Tryz.prog w=.ok (.bool false) w:=fun w=>Lib.run_eql_slice_nil w _ _ (some ⟨b,off,s⟩) 0 c 0 0 Tryz.underlying23
  have hap:∀(w:World),(Builtin.append_ #[23,23] 23 #[.slice (some ⟨w.heap.size,0,none⟩) 0 0,.slice (some ⟨b,off,s⟩) 0 c]).run Tryz.prog (w.alloc (.cells #[] 5))=.ok (.slice (some ⟨w.heap.size,0,none⟩) 0 0) (w.alloc (.cells #[] 5)):=by
   intro w;simp[Builtin.append_,run_underlying Tryz.underlying23,sizeOf,typeInfo,hi,Builtin.lenOf,Builtin.firstCells,storeCells,loadCells,loadCellsFrom,Result.andThen]
  go_wp2
  go_ret
  exact⟨_,rfl,⟨by simp,.inr ⟨w.heap.size,0,#[],rfl,tA4 _,heap_alloc_new _ _,tA4 _,by simp[maxLen],by simp,by simp⟩⟩,(tA5 _ _).alloc (tA4 _) _⟩
 obtain⟨b',o',e,hb',hc⟩:=hr.mid (by omega) (by omega);injection e with e;injection e with e1 e2 e3;subst e1 e2 e3;refine(AnyE.slices_Clone Tryz.cll47 i0 z 1 1 hi hz hs hb hzs (by omega) (fun _=>by kernel_rfl) b off n c xs w hr.1 (by have:=hn;simp only[maxLen];omega) hn (fun j u hu=>hc j u hu) h1).mono ?_;rintro e w' ⟨v',rfl,h2,_,h4⟩;exact⟨v',rfl,h2,h4⟩
def Tryz.clr88:Go.Shelf.Ren:=⟨fun|41=>88|n=>n,fun|22=>71|23=>22|4=>4|n=>n,fun|n=>n⟩
theorem Tryz.cll88:Go.Proofs.SlLaysE0.n41 Tryz.prog Tryz.clr88:={
 mixed:=by kernel_rfl
 f41:=⟨Tryz.f88.name,by decide,Tryz.func88.trans (congrArg some (by kernel_rfl))⟩
 t4:=Tryz.underlying4
 a4:=Tryz.isAgg4
 z4:=Tryz.sizeOf4
 v4:=Tryz.zeroValue4
 t22:=Tryz.underlying71
 a22:=Tryz.isAgg71
 z22:=Tryz.sizeOf71
 v22:=Tryz.zeroValue71}
theorem qqf (A:Option Addr)(n c:Nat)(xs:List Value)(w:World)(hr:Reads w w.heap.size 1 A n xs)(hn:n*4≤140737488355328)(h1:∀u∈xs,u.oneCell'=true):
 Calls Tryz.prog 88 #[.slice A n c] w fun e w'=>∃v',e=.returned v'∧w'.ownsRow w.heap.size 22 1 v' n xs∧Below w.heap.size w w':=by
 have hinfo:((Tryz.prog.info? 22).bind fun i=>i.zero.map fun z=>(z.cells.size,i.size,i.bytes))=some (1,1,4):=by kernel_rfl
 obtain⟨i0,z,hi,hz,hzs,hs,hb⟩:∃i z,Tryz.prog.info? 22=some i∧i.zero=some z∧z.cells.size=1∧i.size=1∧i.bytes=4:=by
  rcases h:Tryz.prog.info? 22 with _|i
  · rw[h]at hinfo;cases hinfo
  rcases h2:i.zero with _|z
  · rw[h]at hinfo;simp[h2]at hinfo
  rw[h]at hinfo;simp[h2]at hinfo;exact⟨i,z,rfl,h2,hinfo.1,hinfo.2.1,hinfo.2.2⟩
 rcases A with _|⟨b,off,s⟩
 ·
  have hn0:n=0:=by
   rcases Nat.eq_zero_or_pos n with h0|h0
   · exact h0
   obtain⟨ad,h,_⟩:=hr.2 h0;cases h
  subst hn0;have hx:xs=[]:=List.eq_nil_of_length_eq_zero (by simpa using hr.1);subst hx;refine(AnyE.slices_Clone_nil Tryz.cll88 0 c w).mono ?_;rintro e w' ⟨rfl,rfl⟩;exact⟨_,rfl,World.ownsRow_nil ..,tA5 _ _⟩
 by_cases h0:n=0
 ·
  subst h0;have hx:xs=[]:=List.eq_nil_of_length_eq_zero (by simpa using hr.1);subst hx;go_enter Tryz.func88,Tryz.ntmps88
  have qT:∀(w:World),(binOp .eql 71 (.slice (some ⟨b,off,s⟩) 0 c) (.slice none 0 0)).run Tryz.prog w=.ok (.bool false) w:=fun w=>Lib.run_eql_slice_nil w _ _ (some ⟨b,off,s⟩) 0 c 0 0 Tryz.underlying71
  have hap:∀(w:World),(Builtin.append_ #[71,71] 71 #[.slice (some ⟨w.heap.size,0,none⟩) 0 0,.slice (some ⟨b,off,s⟩) 0 c]).run Tryz.prog (w.alloc (.cells #[] 22))=.ok (.slice (some ⟨w.heap.size,0,none⟩) 0 0) (w.alloc (.cells #[] 22)):=by
   intro w;simp[Builtin.append_,run_underlying Tryz.underlying71,sizeOf,typeInfo,hi,Builtin.lenOf,Builtin.firstCells,storeCells,loadCells,loadCellsFrom,Result.andThen]
  go_wp2
  go_ret
  exact⟨_,rfl,⟨by simp,.inr ⟨w.heap.size,0,#[],rfl,tA4 _,heap_alloc_new _ _,tA4 _,by simp[maxLen],by simp,by simp⟩⟩,(tA5 _ _).alloc (tA4 _) _⟩
 obtain⟨b',o',e,hb',hc⟩:=hr.mid (by omega) (by omega);injection e with e;injection e with e1 e2 e3;subst e1 e2 e3;refine(AnyE.slices_Clone Tryz.cll88 i0 z 1 4 hi hz hs hb hzs (by omega) (fun _=>by kernel_rfl) b off n c xs w hr.1 (by have:=hn;simp only[maxLen];omega) hn (fun j u hu=>hc j u hu) h1).mono ?_;rintro e w' ⟨v',rfl,h2,_,h4⟩;exact⟨v',rfl,h2,h4⟩
def Tryz.clr65:Go.Shelf.Ren:=⟨fun|41=>65|n=>n,fun|22=>72|23=>23|4=>4|n=>n,fun|n=>n⟩
theorem Tryz.cll65:Go.Proofs.SlLaysE0.n41 Tryz.prog Tryz.clr65:={
 mixed:=by kernel_rfl
 f41:=⟨Tryz.f65.name,by decide,Tryz.func65.trans (congrArg some (by kernel_rfl))⟩
 t4:=Tryz.underlying4
 a4:=Tryz.isAgg4
 z4:=Tryz.sizeOf4
 v4:=Tryz.zeroValue4
 t22:=Tryz.underlying72
 a22:=Tryz.isAgg72
 z22:=Tryz.sizeOf72
 v22:=Tryz.zeroValue72}
theorem qqg (A:Option Addr)(n c:Nat)(xs:List Value)(w:World)(hr:Reads w w.heap.size 1 A n xs)(hn:n*24≤140737488355328)(h1:∀u∈xs,u.oneCell'=true):
 Calls Tryz.prog 65 #[.slice A n c] w fun e w'=>∃v',e=.returned v'∧w'.ownsRow w.heap.size 23 1 v' n xs∧Below w.heap.size w w':=by
 have hinfo:((Tryz.prog.info? 23).bind fun i=>i.zero.map fun z=>(z.cells.size,i.size,i.bytes))=some (1,1,24):=by kernel_rfl
 obtain⟨i0,z,hi,hz,hzs,hs,hb⟩:∃i z,Tryz.prog.info? 23=some i∧i.zero=some z∧z.cells.size=1∧i.size=1∧i.bytes=24:=by
  rcases h:Tryz.prog.info? 23 with _|i
  · rw[h]at hinfo;cases hinfo
  rcases h2:i.zero with _|z
  · rw[h]at hinfo;simp[h2]at hinfo
  rw[h]at hinfo;simp[h2]at hinfo;exact⟨i,z,rfl,h2,hinfo.1,hinfo.2.1,hinfo.2.2⟩
 rcases A with _|⟨b,off,s⟩
 ·
  have hn0:n=0:=by
   rcases Nat.eq_zero_or_pos n with h0|h0
   · exact h0
   obtain⟨ad,h,_⟩:=hr.2 h0;cases h
  subst hn0;have hx:xs=[]:=List.eq_nil_of_length_eq_zero (by simpa using hr.1);subst hx;refine(AnyE.slices_Clone_nil Tryz.cll65 0 c w).mono ?_;rintro e w' ⟨rfl,rfl⟩;exact⟨_,rfl,World.ownsRow_nil ..,tA5 _ _⟩
 by_cases h0:n=0
 ·
  subst h0;have hx:xs=[]:=List.eq_nil_of_length_eq_zero (by simpa using hr.1);subst hx;go_enter Tryz.func65,Tryz.ntmps65
  have qT:∀(w:World),(binOp .eql 72 (.slice (some ⟨b,off,s⟩) 0 c) (.slice none 0 0)).run Tryz.prog w=.ok (.bool false) w:=fun w=>Lib.run_eql_slice_nil w _ _ (some ⟨b,off,s⟩) 0 c 0 0 Tryz.underlying72
  have hap:∀(w:World),(Builtin.append_ #[72,72] 72 #[.slice (some ⟨w.heap.size,0,none⟩) 0 0,.slice (some ⟨b,off,s⟩) 0 c]).run Tryz.prog (w.alloc (.cells #[] 23))=.ok (.slice (some ⟨w.heap.size,0,none⟩) 0 0) (w.alloc (.cells #[] 23)):=by
   intro w;simp[Builtin.append_,run_underlying Tryz.underlying72,sizeOf,typeInfo,hi,Builtin.lenOf,Builtin.firstCells,storeCells,loadCells,loadCellsFrom,Result.andThen]
  go_wp2
  go_ret
  exact⟨_,rfl,⟨by simp,.inr ⟨w.heap.size,0,#[],rfl,tA4 _,heap_alloc_new _ _,tA4 _,by simp[maxLen],by simp,by simp⟩⟩,(tA5 _ _).alloc (tA4 _) _⟩
 obtain⟨b',o',e,hb',hc⟩:=hr.mid (by omega) (by omega);injection e with e;injection e with e1 e2 e3;subst e1 e2 e3;refine(AnyE.slices_Clone Tryz.cll65 i0 z 1 24 hi hz hs hb hzs (by omega) (fun _=>by kernel_rfl) b off n c xs w hr.1 (by have:=hn;simp only[maxLen];omega) hn (fun j u hu=>hc j u hu) h1).mono ?_;rintro e w' ⟨v',rfl,h2,_,h4⟩;exact⟨v',rfl,h2,h4⟩
def Tryz.clr51:Go.Shelf.Ren:=⟨fun|41=>51|n=>n,fun|22=>45|23=>92|4=>4|n=>n,fun|n=>n⟩
theorem Tryz.cll51:Go.Proofs.SlLaysE0.n41 Tryz.prog Tryz.clr51:={
 mixed:=by kernel_rfl
 f41:=⟨Tryz.f51.name,by decide,Tryz.func51.trans (congrArg some (by kernel_rfl))⟩
 t4:=Tryz.underlying4
 a4:=Tryz.isAgg4
 z4:=Tryz.sizeOf4
 v4:=Tryz.zeroValue4
 t22:=Tryz.underlying45
 a22:=Tryz.isAgg45
 z22:=Tryz.sizeOf45
 v22:=Tryz.zeroValue45}
theorem qqh (A:Option Addr)(n c:Nat)(xs:List Value)(w:World)(hr:Reads w w.heap.size 6 A n xs)(hn:n*24≤140737488355328)(h1:∀u∈xs,u.oneCell'=true):
 Calls Tryz.prog 51 #[.slice A n c] w fun e w'=>∃v',e=.returned v'∧w'.ownsRow w.heap.size 92 6 v' n xs∧Below w.heap.size w w':=by
 have hinfo:((Tryz.prog.info? 92).bind fun i=>i.zero.map fun z=>(z.cells.size,i.size,i.bytes))=some (6,6,24):=by kernel_rfl
 obtain⟨i0,z,hi,hz,hzs,hs,hb⟩:∃i z,Tryz.prog.info? 92=some i∧i.zero=some z∧z.cells.size=6∧i.size=6∧i.bytes=24:=by
  rcases h:Tryz.prog.info? 92 with _|i
  · rw[h]at hinfo;cases hinfo
  rcases h2:i.zero with _|z
  · rw[h]at hinfo;simp[h2]at hinfo
  rw[h]at hinfo;simp[h2]at hinfo;exact⟨i,z,rfl,h2,hinfo.1,hinfo.2.1,hinfo.2.2⟩
 rcases A with _|⟨b,off,s⟩
 ·
  have hn0:n=0:=by
   rcases Nat.eq_zero_or_pos n with h0|h0
   · exact h0
   obtain⟨ad,h,_⟩:=hr.2 h0;cases h
  subst hn0;have hx:xs=[]:=List.eq_nil_of_length_eq_zero (by simpa using hr.1);subst hx;refine(AnyE.slices_Clone_nil Tryz.cll51 0 c w).mono ?_;rintro e w' ⟨rfl,rfl⟩;exact⟨_,rfl,World.ownsRow_nil ..,tA5 _ _⟩
 by_cases h0:n=0
 ·
  subst h0;have hx:xs=[]:=List.eq_nil_of_length_eq_zero (by simpa using hr.1);subst hx;go_enter Tryz.func51,Tryz.ntmps51
  have qT:∀(w:World),(binOp .eql 45 (.slice (some ⟨b,off,s⟩) 0 c) (.slice none 0 0)).run Tryz.prog w=.ok (.bool false) w:=fun w=>Lib.run_eql_slice_nil w _ _ (some ⟨b,off,s⟩) 0 c 0 0 Tryz.underlying45
  have hap:∀(w:World),(Builtin.append_ #[45,45] 45 #[.slice (some ⟨w.heap.size,0,none⟩) 0 0,.slice (some ⟨b,off,s⟩) 0 c]).run Tryz.prog (w.alloc (.cells #[] 92))=.ok (.slice (some ⟨w.heap.size,0,none⟩) 0 0) (w.alloc (.cells #[] 92)):=by
   intro w;simp[Builtin.append_,run_underlying Tryz.underlying45,sizeOf,typeInfo,hi,Builtin.lenOf,Builtin.firstCells,storeCells,loadCells,loadCellsFrom,Result.andThen]
  go_wp2
  go_ret
  exact⟨_,rfl,⟨by simp,.inr ⟨w.heap.size,0,#[],rfl,tA4 _,heap_alloc_new _ _,tA4 _,by simp[maxLen],by simp,by simp⟩⟩,(tA5 _ _).alloc (tA4 _) _⟩
 obtain⟨b',o',e,hb',hc⟩:=hr.mid (by omega) (by omega);injection e with e;injection e with e1 e2 e3;subst e1 e2 e3;refine(AnyE.slices_Clone Tryz.cll51 i0 z 6 24 hi hz hs hb hzs (by omega) (fun _=>by kernel_rfl) b off n c xs w hr.1 (by have:=hn;simp only[maxLen];omega) hn (fun j u hu=>hc j u hu) h1).mono ?_;rintro e w' ⟨v',rfl,h2,_,h4⟩;exact⟨v',rfl,h2,h4⟩
def Tryz.clr52:Go.Shelf.Ren:=⟨fun|41=>52|n=>n,fun|22=>46|23=>74|4=>4|n=>n,fun|n=>n⟩
theorem Tryz.cll52:Go.Proofs.SlLaysE0.n41 Tryz.prog Tryz.clr52:={
 mixed:=by kernel_rfl
 f41:=⟨Tryz.f52.name,by decide,Tryz.func52.trans (congrArg some (by kernel_rfl))⟩
 t4:=Tryz.underlying4
 a4:=Tryz.isAgg4
 z4:=Tryz.sizeOf4
 v4:=Tryz.zeroValue4
 t22:=Tryz.underlying46
 a22:=Tryz.isAgg46
 z22:=Tryz.sizeOf46
 v22:=Tryz.zeroValue46}
theorem qqi (A:Option Addr)(n c:Nat)(xs:List Value)(w:World)(hr:Reads w w.heap.size 75 A n xs)(hn:n*200≤140737488355328)(h1:∀u∈xs,u.oneCell'=true):
 Calls Tryz.prog 52 #[.slice A n c] w fun e w'=>∃v',e=.returned v'∧w'.ownsRow w.heap.size 74 75 v' n xs∧Below w.heap.size w w':=by
 have hinfo:((Tryz.prog.info? 74).bind fun i=>i.zero.map fun z=>(z.cells.size,i.size,i.bytes))=some (75,75,200):=by kernel_rfl
 obtain⟨i0,z,hi,hz,hzs,hs,hb⟩:∃i z,Tryz.prog.info? 74=some i∧i.zero=some z∧z.cells.size=75∧i.size=75∧i.bytes=200:=by
  rcases h:Tryz.prog.info? 74 with _|i
  · rw[h]at hinfo;cases hinfo
  rcases h2:i.zero with _|z
  · rw[h]at hinfo;simp[h2]at hinfo
  rw[h]at hinfo;simp[h2]at hinfo;exact⟨i,z,rfl,h2,hinfo.1,hinfo.2.1,hinfo.2.2⟩
 rcases A with _|⟨b,off,s⟩
 ·
  have hn0:n=0:=by
   rcases Nat.eq_zero_or_pos n with h0|h0
   · exact h0
   obtain⟨ad,h,_⟩:=hr.2 h0;cases h
  subst hn0;have hx:xs=[]:=List.eq_nil_of_length_eq_zero (by simpa using hr.1);subst hx;refine(AnyE.slices_Clone_nil Tryz.cll52 0 c w).mono ?_;rintro e w' ⟨rfl,rfl⟩;exact⟨_,rfl,World.ownsRow_nil ..,tA5 _ _⟩
 by_cases h0:n=0
 ·
  subst h0;have hx:xs=[]:=List.eq_nil_of_length_eq_zero (by simpa using hr.1);subst hx;go_enter Tryz.func52,Tryz.ntmps52
  have qT:∀(w:World),(binOp .eql 46 (.slice (some ⟨b,off,s⟩) 0 c) (.slice none 0 0)).run Tryz.prog w=.ok (.bool false) w:=fun w=>Lib.run_eql_slice_nil w _ _ (some ⟨b,off,s⟩) 0 c 0 0 Tryz.underlying46
  have hap:∀(w:World),(Builtin.append_ #[46,46] 46 #[.slice (some ⟨w.heap.size,0,none⟩) 0 0,.slice (some ⟨b,off,s⟩) 0 c]).run Tryz.prog (w.alloc (.cells #[] 74))=.ok (.slice (some ⟨w.heap.size,0,none⟩) 0 0) (w.alloc (.cells #[] 74)):=by
   intro w;simp[Builtin.append_,run_underlying Tryz.underlying46,sizeOf,typeInfo,hi,Builtin.lenOf,Builtin.firstCells,storeCells,loadCells,loadCellsFrom,Result.andThen]
  go_wp2
  go_ret
  exact⟨_,rfl,⟨by simp,.inr ⟨w.heap.size,0,#[],rfl,tA4 _,heap_alloc_new _ _,tA4 _,by simp[maxLen],by simp,by simp⟩⟩,(tA5 _ _).alloc (tA4 _) _⟩
 obtain⟨b',o',e,hb',hc⟩:=hr.mid (by omega) (by omega);injection e with e;injection e with e1 e2 e3;subst e1 e2 e3;refine(AnyE.slices_Clone Tryz.cll52 i0 z 75 200 hi hz hs hb hzs (by omega) (fun _=>by kernel_rfl) b off n c xs w hr.1 (by have:=hn;simp only[maxLen];omega) hn (fun j u hu=>hc j u hu) h1).mono ?_;rintro e w' ⟨v',rfl,h2,_,h4⟩;exact⟨v',rfl,h2,h4⟩
def Tryz.clr53:Go.Shelf.Ren:=⟨fun|41=>53|n=>n,fun|22=>47|23=>66|4=>4|n=>n,fun|n=>n⟩
theorem Tryz.cll53:Go.Proofs.SlLaysE0.n41 Tryz.prog Tryz.clr53:={
 mixed:=by kernel_rfl
 f41:=⟨Tryz.f53.name,by decide,Tryz.func53.trans (congrArg some (by kernel_rfl))⟩
 t4:=Tryz.underlying4
 a4:=Tryz.isAgg4
 z4:=Tryz.sizeOf4
 v4:=Tryz.zeroValue4
 t22:=Tryz.underlying47
 a22:=Tryz.isAgg47
 z22:=Tryz.sizeOf47
 v22:=Tryz.zeroValue47}
theorem qqj (A:Option Addr)(n c:Nat)(xs:List Value)(w:World)(hr:Reads w w.heap.size 4 A n xs)(hn:n*32≤140737488355328)(h1:∀u∈xs,u.oneCell'=true):
 Calls Tryz.prog 53 #[.slice A n c] w fun e w'=>∃v',e=.returned v'∧w'.ownsRow w.heap.size 66 4 v' n xs∧Below w.heap.size w w':=by
 have hinfo:((Tryz.prog.info? 66).bind fun i=>i.zero.map fun z=>(z.cells.size,i.size,i.bytes))=some (4,4,32):=by kernel_rfl
 obtain⟨i0,z,hi,hz,hzs,hs,hb⟩:∃i z,Tryz.prog.info? 66=some i∧i.zero=some z∧z.cells.size=4∧i.size=4∧i.bytes=32:=by
  rcases h:Tryz.prog.info? 66 with _|i
  · rw[h]at hinfo;cases hinfo
  rcases h2:i.zero with _|z
  · rw[h]at hinfo;simp[h2]at hinfo
  rw[h]at hinfo;simp[h2]at hinfo;exact⟨i,z,rfl,h2,hinfo.1,hinfo.2.1,hinfo.2.2⟩
 rcases A with _|⟨b,off,s⟩
 ·
  have hn0:n=0:=by
   rcases Nat.eq_zero_or_pos n with h0|h0
   · exact h0
   obtain⟨ad,h,_⟩:=hr.2 h0;cases h
  subst hn0;have hx:xs=[]:=List.eq_nil_of_length_eq_zero (by simpa using hr.1);subst hx;refine(AnyE.slices_Clone_nil Tryz.cll53 0 c w).mono ?_;rintro e w' ⟨rfl,rfl⟩;exact⟨_,rfl,World.ownsRow_nil ..,tA5 _ _⟩
 by_cases h0:n=0
 ·
  subst h0;have hx:xs=[]:=List.eq_nil_of_length_eq_zero (by simpa using hr.1);subst hx;go_enter Tryz.func53,Tryz.ntmps53
  have qT:∀(w:World),(binOp .eql 47 (.slice (some ⟨b,off,s⟩) 0 c) (.slice none 0 0)).run Tryz.prog w=.ok (.bool false) w:=fun w=>Lib.run_eql_slice_nil w _ _ (some ⟨b,off,s⟩) 0 c 0 0 Tryz.underlying47
  have hap:∀(w:World),(Builtin.append_ #[47,47] 47 #[.slice (some ⟨w.heap.size,0,none⟩) 0 0,.slice (some ⟨b,off,s⟩) 0 c]).run Tryz.prog (w.alloc (.cells #[] 66))=.ok (.slice (some ⟨w.heap.size,0,none⟩) 0 0) (w.alloc (.cells #[] 66)):=by
   intro w;simp[Builtin.append_,run_underlying Tryz.underlying47,sizeOf,typeInfo,hi,Builtin.lenOf,Builtin.firstCells,storeCells,loadCells,loadCellsFrom,Result.andThen]
  go_wp2
  go_ret
  exact⟨_,rfl,⟨by simp,.inr ⟨w.heap.size,0,#[],rfl,tA4 _,heap_alloc_new _ _,tA4 _,by simp[maxLen],by simp,by simp⟩⟩,(tA5 _ _).alloc (tA4 _) _⟩
 obtain⟨b',o',e,hb',hc⟩:=hr.mid (by omega) (by omega);injection e with e;injection e with e1 e2 e3;subst e1 e2 e3;refine(AnyE.slices_Clone Tryz.cll53 i0 z 4 32 hi hz hs hb hzs (by omega) (fun _=>by kernel_rfl) b off n c xs w hr.1 (by have:=hn;simp only[maxLen];omega) hn (fun j u hu=>hc j u hu) h1).mono ?_;rintro e w' ⟨v',rfl,h2,_,h4⟩;exact⟨v',rfl,h2,h4⟩
def Tryz.clr146:Go.Shelf.Ren:=⟨fun|41=>146|n=>n,fun|22=>134|23=>136|4=>4|n=>n,fun|n=>n⟩
theorem Tryz.cll146:Go.Proofs.SlLaysE0.n41 Tryz.prog Tryz.clr146:={
 mixed:=by kernel_rfl
 f41:=⟨Tryz.f146.name,by decide,Tryz.func146.trans (congrArg some (by kernel_rfl))⟩
 t4:=Tryz.underlying4
 a4:=Tryz.isAgg4
 z4:=Tryz.sizeOf4
 v4:=Tryz.zeroValue4
 t22:=Tryz.underlying134
 a22:=Tryz.isAgg134
 z22:=Tryz.sizeOf134
 v22:=Tryz.zeroValue134}
theorem qqk (A:Option Addr)(n c:Nat)(xs:List Value)(w:World)(hr:Reads w w.heap.size 3 A n xs)(hn:n*24≤140737488355328)(h1:∀u∈xs,u.oneCell'=true):
 Calls Tryz.prog 146 #[.slice A n c] w fun e w'=>∃v',e=.returned v'∧w'.ownsRow w.heap.size 136 3 v' n xs∧Below w.heap.size w w':=by
 have hinfo:((Tryz.prog.info? 136).bind fun i=>i.zero.map fun z=>(z.cells.size,i.size,i.bytes))=some (3,3,24):=by kernel_rfl
 obtain⟨i0,z,hi,hz,hzs,hs,hb⟩:∃i z,Tryz.prog.info? 136=some i∧i.zero=some z∧z.cells.size=3∧i.size=3∧i.bytes=24:=by
  rcases h:Tryz.prog.info? 136 with _|i
  · rw[h]at hinfo;cases hinfo
  rcases h2:i.zero with _|z
  · rw[h]at hinfo;simp[h2]at hinfo
  rw[h]at hinfo;simp[h2]at hinfo;exact⟨i,z,rfl,h2,hinfo.1,hinfo.2.1,hinfo.2.2⟩
 rcases A with _|⟨b,off,s⟩
 ·
  have hn0:n=0:=by
   rcases Nat.eq_zero_or_pos n with h0|h0
   · exact h0
   obtain⟨ad,h,_⟩:=hr.2 h0;cases h
  subst hn0;have hx:xs=[]:=List.eq_nil_of_length_eq_zero (by simpa using hr.1);subst hx;refine(AnyE.slices_Clone_nil Tryz.cll146 0 c w).mono ?_;rintro e w' ⟨rfl,rfl⟩;exact⟨_,rfl,World.ownsRow_nil ..,tA5 _ _⟩
 by_cases h0:n=0
 ·
  subst h0;have hx:xs=[]:=List.eq_nil_of_length_eq_zero (by simpa using hr.1);subst hx;go_enter Tryz.func146,Tryz.ntmps146
  have qT:∀(w:World),(binOp .eql 134 (.slice (some ⟨b,off,s⟩) 0 c) (.slice none 0 0)).run Tryz.prog w=.ok (.bool false) w:=fun w=>Lib.run_eql_slice_nil w _ _ (some ⟨b,off,s⟩) 0 c 0 0 Tryz.underlying134
  have hap:∀(w:World),(Builtin.append_ #[134,134] 134 #[.slice (some ⟨w.heap.size,0,none⟩) 0 0,.slice (some ⟨b,off,s⟩) 0 c]).run Tryz.prog (w.alloc (.cells #[] 136))=.ok (.slice (some ⟨w.heap.size,0,none⟩) 0 0) (w.alloc (.cells #[] 136)):=by
   intro w;simp[Builtin.append_,run_underlying Tryz.underlying134,sizeOf,typeInfo,hi,Builtin.lenOf,Builtin.firstCells,storeCells,loadCells,loadCellsFrom,Result.andThen]
  go_wp2
  go_ret
  exact⟨_,rfl,⟨by simp,.inr ⟨w.heap.size,0,#[],rfl,tA4 _,heap_alloc_new _ _,tA4 _,by simp[maxLen],by simp,by simp⟩⟩,(tA5 _ _).alloc (tA4 _) _⟩
 obtain⟨b',o',e,hb',hc⟩:=hr.mid (by omega) (by omega);injection e with e;injection e with e1 e2 e3;subst e1 e2 e3;refine(AnyE.slices_Clone Tryz.cll146 i0 z 3 24 hi hz hs hb hzs (by omega) (fun _=>by kernel_rfl) b off n c xs w hr.1 (by have:=hn;simp only[maxLen];omega) hn (fun j u hu=>hc j u hu) h1).mono ?_;rintro e w' ⟨v',rfl,h2,_,h4⟩;exact⟨v',rfl,h2,h4⟩
end
end Go.Proofs.YthomgopipiomhaaGreatDoor

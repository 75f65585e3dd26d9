/-
  Lemmas for ModelNumbers, shortened by program.
-/
import Derived.Test.YthomgopipiomhaaGreatDoorBMN02
import Derived.Deep.DeepCutAuto
namespace Go.Proofs.YthomgopipiomhaaGreatDoor
set_option linter.unusedVariables false
set_option linter.unusedSimpArgs false
set_option maxRecDepth 100000
set_option maxHeartbeats 32000000
section
open Go.RowKit
def pval:List Nat→Nat
 |[]=>0
 |a::l=>a+65536*pval l
def Parts (l:List Nat):Prop:=∀x∈l,x<65536
theorem Parts.get {l:List Nat}(h:Parts l){i x:Nat}(hx:l[i]? =some x):x<65536:=h x (List.mem_of_getElem? hx)
theorem Parts.set {l:List Nat}(h:Parts l)(i x:Nat)(hx:x<65536):Parts (l.set i x):=by
 intro y hy;rcases List.mem_or_eq_of_mem_set hy with hy|rfl
 · exact h y hy
 exact hx
theorem qvk:∀(l:List Nat) (i x o:Nat),l[i]? =some o→pval (l.set i x)+o*65536^i=pval l+x*65536^i
 |[],i,x,o,h=>by simp at h
 |a::l,0,x,o,h=>by
  simp at h;subst h;simp[pval];omega
 |a::l,i+1,x,o,h=>by
  have ih:=qvk l i x o (by simpa using h);simp only[List.set_cons_succ,pval];rw[Nat.pow_succ];have e1:o*(65536^i*65536)=65536*(o*65536^i):=by rw[←Nat.mul_assoc,Nat.mul_comm]
  have e2:x*(65536^i*65536)=65536*(x*65536^i):=by rw[←Nat.mul_assoc,Nat.mul_comm]
  rw[e1,e2];omega
theorem qvl:∀(l:List Nat),Parts l→pval l<65536^l.length
 |[],_=>by simp[pval]
 |a::l,h=>by
  have ih:=qvl l (fun x hx=>h x (List.mem_cons_of_mem _ hx));have ha:=h a (by simp);simp only[pval,List.length_cons];rw[Nat.pow_succ];have:65536*pval l+65536≤65536*65536^l.length:=by
   have:=Nat.mul_le_mul_left 65536 (Nat.succ_le_of_lt ih);omega
  rw[Nat.mul_comm (65536^l.length)];omega
theorem qvm (l:List Nat):∀(k x:Nat),l[k]? =some x→pval (l.take (k+1))=pval (l.take k)+x*65536^k:=by
 induction l with
 |nil=>intro k x h;simp at h
 |cons a l ih=>
  intro k x h;cases k with
  |zero=>
   simp at h;subst h;simp[pval]
  |succ k=>
   have:=ih k x (by simpa using h);simp only[List.take_succ_cons,pval];rw[this,Nat.pow_succ];have e1:x*(65536^k*65536)=65536*(x*65536^k):=by rw[←Nat.mul_assoc,Nat.mul_comm]
   rw[e1];omega
theorem qvn:∀(l:List Nat) (k:Nat),k≤l.length→pval l=pval (l.take k)+65536^k*pval (l.drop k)
 |l,0,_=>by simp[pval]
 |[],k+1,h=>by simp at h
 |a::l,k+1,h=>by
  have ih:=qvn l k (by simpa using h);simp only[List.take_succ_cons,List.drop_succ_cons,pval];rw[ih,Nat.pow_succ,Nat.mul_add];have e:65536^k*65536*pval (l.drop k)=65536*(65536^k*pval (l.drop k)):=by
   rw[Nat.mul_comm (65536^k) 65536,Nat.mul_assoc]
  rw[e];omega
theorem qvo {a b:List Nat}(ha:Parts a)(hb:Parts b)(hl:a.length=b.length)(i x y:Nat)(hx:a[i]? =some x)(hy:b[i]? =some y)(hd:a.drop (i+1)=b.drop (i+1))(h:x<y):pval a<pval b:=by
 have hi:i+1≤a.length:=(List.getElem?_eq_some_iff.1 hx).1;rw[qvn a (i+1) hi,qvn b (i+1) (by omega),hd,qvm a i x hx,qvm b i y hy];have h1:=qvl (a.take i) (fun z hz=>ha z (List.mem_of_mem_take hz));rw[List.length_take,Nat.min_eq_left (by omega)]at h1;have h2:(x+1)*65536^i≤y*65536^i:=Nat.mul_le_mul_right _ h;rw[Nat.add_mul]at h2;omega
def qvp (x:Nat):List Nat:=[x % 65536,x / 65536 % 65536,x / 4294967296 % 65536,x / 281474976710656]
theorem qvq (x:Nat)(h:x<18446744073709551616):pval (qvp x)=x:=by
 simp only[qvp,pval];omega
theorem qvr (x:Nat)(h:x<18446744073709551616):Parts (qvp x):=by
 intro y hy;simp only[qvp,List.mem_cons,List.not_mem_nil,or_false]at hy;rcases hy with rfl|rfl|rfl|rfl
 · exact Nat.mod_lt _ (by decide)
 · exact Nat.mod_lt _ (by decide)
 · exact Nat.mod_lt _ (by decide)
 omega
structure RowAt (A B:List Nat)(i k:Nat)(ai:Nat)(o:List Nat)(c:Nat)(v0:Nat):Prop where
 parts:Parts o
 len:o.length=A.length+B.length
 top:∀j,i+B.length≤j→j<o.length→o[j]? =some 0
 carry:c<65536
 val:pval o+c*65536^(i+k)=v0+ai*pval (B.take k)*65536^i
theorem qvs {A B:List Nat}{i k ai bk oj c v0:Nat}{o:List Nat}(hB:Parts B)(hai:ai<65536)(h:RowAt A B i k ai o c v0)(hk:B[k]? =some bk)(hj:o[i+k]? =some oj):
 RowAt A B i (k+1) ai (o.set (i+k) ((oj+ai*bk+c) % 65536)) ((oj+ai*bk+c) / 65536) v0:=by
 have hbk:=hB.get hk;have hoj:=h.parts.get hj;have hkl:k<B.length:=(List.getElem?_eq_some_iff.1 hk).1;have hm:ai*bk≤65535*65535:=Nat.mul_le_mul (by omega) (by omega);have hc:=h.carry;obtain⟨n,hn⟩:=xeq (oj+ai*bk+c);refine⟨h.parts.set _ _ (Nat.mod_lt _ (by decide)),by rw[List.length_set];exact h.len,?_,by omega,?_⟩
 · intro j h1 h2
   rw[List.length_set]at h2;rw[List.getElem?_set_ne (by omega)];exact h.top j h1 h2
 have hs:=qvk o (i+k) ((oj+ai*bk+c) % 65536) oj hj;have hv:=h.val;have ht:=qvm B k bk hk;rw[hn]at hs ⊢;obtain⟨E,hE⟩:=xeq (65536^(i+k));have hE1:65536^(i+(k+1))=65536*E:=by rw[←hE,←Nat.add_assoc,Nat.pow_succ,Nat.mul_comm]
 have hEi:65536^k*65536^i=E:=by rw[←hE,←Nat.pow_add,Nat.add_comm]
 rw[hE]at hs hv;rw[hE1,ht];have e1:n=65536*(n / 65536)+n % 65536:=(Nat.div_add_mod n 65536).symm;obtain⟨q,hq⟩:=xeq (n / 65536);obtain⟨r,hr⟩:=xeq (n % 65536);rw[hq,hr]at e1;rw[hr]at hs;rw[hr,hq];have e2:q*(65536*E)=65536*q*E:=by rw[←Nat.mul_assoc,Nat.mul_comm q]
 have e3:n*E=65536*q*E+r*E:=by rw[e1,Nat.add_mul]
 have e4:n*E=oj*E+ai*bk*E+c*E:=by rw[←hn,Nat.add_mul,Nat.add_mul]
 have e5:ai*(pval (B.take k)+bk*65536^k)*65536^i=ai*pval (B.take k)*65536^i+ai*bk*E:=by
  rw[Nat.mul_add,Nat.add_mul,←Nat.mul_assoc,Nat.mul_assoc (ai*bk),hEi]
 rw[e2,e5];omega
structure RowsAt (A B:List Nat)(i:Nat)(o:List Nat):Prop where
 parts:Parts o
 len:o.length=A.length+B.length
 top:∀j,i+B.length≤j→j<o.length→o[j]? =some 0
 val:pval o=pval (A.take i)*pval B
theorem qvt:∀n,pval (List.replicate n 0)=0
 |0=>rfl
 |n+1=>by simp[List.replicate_succ,pval,qvt n]
theorem qvu (A B:List Nat):RowsAt A B 0 (List.replicate (A.length+B.length) 0):=
 ⟨fun x hx=>by obtain rfl:=List.eq_of_mem_replicate hx;decide,by simp,fun j _ h=>by simp at h;simp[h],by simp[qvt,pval]⟩
theorem qvv {A B:List Nat}{i ai:Nat}{o:List Nat}(h:RowsAt A B i o):RowAt A B i 0 ai o 0 (pval o):=
 ⟨h.parts,h.len,h.top,by decide,by simp[pval]⟩
theorem qvw {A B:List Nat}{i ai c:Nat}{o o0:List Nat}(h0:RowsAt A B i o0)(hi:A[i]? =some ai)(h:RowAt A B i B.length ai o c (pval o0)):
 o[i+B.length]? =some 0∧RowsAt A B (i+1) (o.set (i+B.length) c):=by
 have hil:i<A.length:=(List.getElem?_eq_some_iff.1 hi).1;have h1:o[i+B.length]? =some 0:=h.top _ (tA4 _) (by rw[h.len];omega);refine⟨h1,h.parts.set _ _ h.carry,by rw[List.length_set];exact h.len,?_,?_⟩
 · intro j g1 g2
   rw[List.length_set]at g2;rw[List.getElem?_set_ne (by omega)];exact h.top j (by omega) g2
 have hs:=qvk o (i+B.length) c 0 h1;have hv:=h.val;rw[List.take_length,h0.val]at hv;rw[qvm A i ai hi,Nat.add_mul,Nat.mul_right_comm ai];omega
theorem qvx {A B:List Nat}{o:List Nat}(h:RowsAt A B A.length o):pval o=pval A*pval B:=by
 have:=h.val;rwa[List.take_length]at this
def qvy (x p:Nat)(cube:Bool):Bool:=if cube then decide (x^3≤p*2^96) else decide (x^2≤p*2^64)
theorem qvz {x y p:Nat}{cube:Bool}(h:x≤y)(hb:qvy y p cube=true):qvy x p cube=true:=by
 unfold qvy at hb ⊢;cases cube with
 |true=>
  simp only[if_true,decide_eq_true_eq]at hb ⊢;exact Nat.le_trans (Nat.pow_le_pow_left h 3) hb
 |false=>
  simp only[Bool.false_eq_true,if_false,decide_eq_true_eq]at hb ⊢;exact Nat.le_trans (Nat.pow_le_pow_left h 2) hb
def IsRoot (r p:Nat)(cube:Bool):Prop:=qvy r p cube=true∧qvy (r+1) p cube=false
theorem IsRoot.eq {r s p:Nat}{cube:Bool}(h:IsRoot r p cube)(k:IsRoot s p cube):r=s:=by
 rcases Nat.lt_trichotomy r s with hlt|rfl|hlt
 · have:=qvz (show r+1≤s from hlt) k.1
   rw[h.2]at this;cases this
 · rfl
 have:=qvz (show s+1≤r from hlt) h.1;rw[k.2]at this;cases this
def qw0 (out:List Nat)(p:Nat):Bool:=out.all fun q=>decide (p % q≠0)
def qwb (n:Nat):Nat→Nat→List Nat→List Nat
 |0,_,out=>out
 |f+1,p,out=>if out.length<n then(if qw0 out p then qwb n f (p+1) (out++[p]) else qwb n f (p+1) out) else out
def qwc:List Nat:=[2,3,5,7,11,13,17,19,23,29,31,37,41,43,47,53,59,61,67,71,73,79,83,89,97,101,103,107,109,113,127,131,137,139,149,151,157,163,167,173,179,181,191,193,197,199,211,223,227,229,233,239,241,251,257,263,269,271,277,281,283,293,307,311]
theorem qwe:qwb 64 400 2 []=qwc:=by decide+kernel
theorem qwf (n:Nat):∀(f p:Nat) (out:List Nat),n≤out.length→qwb n f p out=out
 |0,_,_,_=>rfl
 |f+1,p,out,h=>by
  unfold qwb;rw[if_neg (by omega)]
theorem qwg (out:List Nat)(p k q:Nat)(h:out[k]? =some q):qw0 (out.take (k+1)) p=(qw0 (out.take k) p&&decide (p % q≠0)):=by
 unfold qw0;rw[List.take_add_one,h,List.all_append];simp
def qwh (p k:Nat):Nat→Nat
 |0=>0
 |n+1=>if (n+1)^k≤p then n+1 else qwh p k n
def qwi (p r:Nat)(cube:Bool):Bool:=qvy r p cube&&!qvy (r+1) p cube
theorem qwj {p r:Nat}{cube:Bool}(h:qwi p r cube=true):IsRoot r p cube:=by
 unfold qwi at h;simp only[Bool.and_eq_true,Bool.not_eq_true']at h;exact h
end
section
open Go.RowKit
def u64v (l:List Nat):List Value:=l.map fun n:Nat=>Value.int .u64 (n:Int)
theorem qwk (l:List Nat):(u64v l).length=l.length:=by simp[u64v]
theorem qwl {l:List Nat}{i x:Nat}(h:l[i]? =some x):(u64v l)[i]? =some (.int .u64 (x:Int)):=by simp[u64v,h]
theorem qwm (l:List Nat)(i x:Nat):(u64v l).toArray.setIfInBounds i (.int .u64 (x:Int))=(u64v (l.set i x)).toArray:=by simp[u64v,List.map_set]
theorem Tryz.u64_info:(Tryz.prog.info? 32).map (fun i=>(i.zero,i.size,i.bytes))=some (some (.int .u64 0),1,8):=by kernel_rfl
theorem qwn (n:Nat)(hn:n≤1000000)(w:World):(Instr.makeSlice 212 (.int .i64 (n:Int)) (.int .i64 (n:Int))).run Tryz.prog w=.ok (.slice (some ⟨w.heap.size,0,none⟩) n n) (w.alloc (.cells (u64v (List.replicate n 0)).toArray 32)):=by
 obtain⟨i0,hi0,hz0,hz1,hz2⟩:=info_parts Tryz.u64_info;have h:=run_make (P:=Tryz.prog) w 212 32 i0 _ Tryz.underlying212 hi0 hz0 .i64 .i64 n n (by omega) (Int.le_refl _) (by rw[hz2];omega) (by omega);rw[h,hz1];have e:madeCells (Value.int .u64 0).cells ((n:Int).toNat*1)=(u64v (List.replicate n 0)).toArray:=by
  apply Array.ext';rw[show (Value.int .u64 0).cells=#[Value.int .u64 0] from rfl,toList_madeCells_one];simp[u64v]
 rw[e];simp
theorem qwo {w:World}{B:Nat}{A:Option Addr}{n:Nat}{l:List Nat}(h:Reads w B 1 A n (u64v l)):l.length=n:=by
 have:=h.1;simpa [u64v] using this
theorem qwp {w:World}{g:Nat}{l:List Nat}(h:Blk w g 32 (u64v l).toArray):Reads w w.heap.size 1 (some ⟨g,0,none⟩) l.length (u64v l):=by
 refine⟨by rw[qwk,Nat.mul_one],fun _=>⟨_,rfl,h.lt,fun j u hu=>?_⟩⟩;rw[Addr.add_mid,h.cell (0+j),Nat.zero_add];simpa using hu
theorem qwq (n:Nat)(hn:n<18446744073709551616):bits .and .u64 (n:Int) 65535=((n % 65536:Nat):Int):=by
 have h:=bits_and_u64_nat n 65535 hn (by decide);rw[show ((65535:Nat):Int)=65535 from rfl]at h;rw[h,show (65535:Nat)=2^16 - 1 from rfl,Nat.and_two_pow_sub_one_eq_mod]
theorem qwr (x:Nat)(w:World)(hx:x<18446744073709551616):
 Calls Tryz.prog 218 #[.int .u64 x] w fun e w'=>e=.returned (.slice (some ⟨w.heap.size,0,none⟩) 4 4)∧Blk w' w.heap.size 32 (u64v (qvp x)).toArray∧Below w.heap.size w w':=by
 obtain⟨x1,h1⟩:=xeq (x / 65536);obtain⟨x2,h2⟩:=xeq (x / 4294967296);obtain⟨x3,h3⟩:=xeq (x / 281474976710656);have a0:=qwq x hx;have a1:=qwq x1 (by omega);have a2:=qwq x2 (by omega);have q1:(x:Int) / 65536=x1:=by omega
 have q2:(x:Int) / 4294967296=x2:=by omega
 have q3:(x:Int) / 281474976710656=x3:=by omega
 have e:qvp x=[x % 65536,x1 % 65536,x2 % 65536,x3]:=by rw[←h1,←h2,←h3];rfl
 rw[e];clear h1 h2 h3 e;go_enter Tryz.func218,Tryz.ntmps218
 go_wp2
 go_ret
 exact⟨rfl,Blk.new _ _ _,(tA5 _ _).alloc (tA4 _) _⟩
theorem qws (A B:List Nat)(pa pb:Option Addr)(na ca nb cb:Nat)(w:World)(ha:Reads w w.heap.size 1 pa na (u64v A))(hb:Reads w w.heap.size 1 pb nb (u64v B))(h1:0<na)(h2:0<nb)(h3:na≤1000)(h4:nb≤1000)(hA:Parts A)(hB:Parts B):
 Calls Tryz.prog 219 #[.slice pa na ca,.slice pb nb cb] w fun e w'=>∃o:List Nat,e=.returned (.slice (some ⟨w.heap.size,0,none⟩) (na+nb) (na+nb))∧Blk w' w.heap.size 32 (u64v o).toArray∧o.length=na+nb∧Parts o∧pval o=pval A*pval B∧Below w.heap.size w w':=by
 have lA:=qwo ha;have lB:=qwo hb;obtain⟨m,hm⟩:=xeq (na+nb);have hmi:(na:Int)+nb=m:=by omega
 have mk:=fun w=>qwn m (by omega) w
 obtain⟨Z,hZ⟩:=xeq ((u64v (List.replicate m 0)).toArray);simp only[hZ]at mk;have z0:=Blk.new w 32 Z;have b0:Below w.heap.size w (w.alloc (.cells Z 32)):=(tA5 _ _).alloc (tA4 _) _;obtain⟨W0,hW0⟩:=eqx (w.alloc (.cells Z 32));rw[←hW0]at z0 b0;rw[←hZ]at z0;obtain⟨ba,oa,rfl,hba,hca⟩:=ha.mid (by omega) (by omega);obtain⟨bb,ob,rfl,hbb,hcb⟩:=hb.mid (by omega) (by omega);obtain⟨g,hg⟩:=xeq w.heap.size;have r0:=qvu A B;rw[lA,lB,hm]at r0;obtain⟨A4,A5,HA,HBp,LA,LB,HM,Z0⟩:=zh8 hca hcb hA hB lA lB hm (show Blk W0 g 32 (u64v (List.replicate m 0)).toArray by rw[←hg];exact z0);obtain⟨B0,R0,A6⟩:=zh3 (show Below g w W0 by rw[←hg];exact b0) r0 hW0;rw[hg]at hba hbb ⊢;have HG:=zh1 hg;clear ha hb lA lB hA hB hca hcb z0 b0 r0 hZ hW0 hm hg;go_enter Tryz.func219,Tryz.ntmps219
 go_upto_region 2 with(fail)
 rw[←A6.out,HG.out];clear mk hmi;go_wp2_with fail
 go_loopw [6] (fun i wr=>∃(k:Nat) (o:List Nat),k≤na∧i=.int .i64 k∧Hid (RowsAt A B k o)∧Hid (Blk wr g 32 (u64v o).toArray)∧Hid (Below g w wr)) (fun i _=>na - (intOf i).toNat)
 case atStart=>exact⟨0,_,by omega,rfl,R0.out,Z0.out,B0.out⟩
 case round=>
  clear R0 Z0 B0;obtain⟨k,o,hk,rfl,hrows,hblk,hbel⟩:=hrel;by_cases hlt:k<na
  ·
   obtain⟨ai,hai⟩:∃x,A[k]? =some x:=⟨_,tA7 (by rw[LA.out];exact hlt)⟩;have hai1:=HA.out.get hai;obtain⟨A3,RS⟩:=zh2 hai (qvv (ai:=ai) hrows.out);clear hai;have qk:(k:Int)<na:=by omega
   go_wp2_with fail
   go_loopw [7,8] (fun c j wr=>∃(jk:Nat) (o':List Nat) (cv:Nat),jk≤nb∧cv<65536∧c=.int .u64 cv∧j=.int .i64 jk∧Hid (RowAt A B k jk ai o' cv (pval o))∧Hid (Blk wr g 32 (u64v o').toArray)∧Hid (Below g w wr)) (fun _ j _=>nb - (intOf j).toNat)
   case atStart=>exact⟨0,o,0,by omega,by omega,rfl,rfl,RS.out,hblk.out,hbel.out⟩
   case round=>
    clear RS hblk hbel;obtain⟨jk,o',cv,hj,hcv,rfl,rfl,hrow,hblk,hbel⟩:=hrel;have lo:o'.length=m:=by rw[hrow.out.len,LA.out,LB.out];exact HM.out
    by_cases hlj:jk<nb
    ·
     obtain⟨bk,hbk⟩:∃x,B[jk]? =some x:=⟨_,tA7 (by rw[LB.out];exact hlj)⟩;obtain⟨oj,hoj⟩:∃x,o'[k+jk]? =some x:=⟨_,tA7 (by rw[lo];have:=HM.out;omega)⟩;have hbk1:=HBp.out.get hbk;have hoj1:=hrow.out.parts.get hoj;have ca:=(hbel.out.cell (p:=⟨ba,oa+k,none⟩) hba).trans (A4.out k _ (qwl A3.out));have cb:=(hbel.out.cell (p:=⟨bb,ob+jk,none⟩) hbb).trans (A5.out jk _ (qwl hbk));have A0:=qvs HBp.out hai1 hrow.out hbk hoj;have hpm:ai*bk≤65535*65535:=Nat.mul_le_mul (by omega) (by omega);obtain⟨s,hs⟩:=xeq (k+jk);rw[hs]at hoj A0;have co:=(hblk.out.cell s).trans (show _=some (.int .u64 (oj:Int)) by simpa using qwl hoj);have cf:=hblk.out.frozen s;have hsm:s<m:=by have:=HM.out;omega
     obtain⟨pm,hpm'⟩:=xeq (ai*bk);rw[hpm']at A0 hpm;obtain⟨n,hn⟩:=xeq (oj+pm+cv);rw[hn]at A0;obtain⟨nd,hnd⟩:=xeq (n / 65536);obtain⟨nm,hnm⟩:=xeq (n % 65536);rw[hnd,hnm]at A0;have ST:=zh1 A0;have f1:IntKind.i64.wrap ((k:Int)+jk)=s:=by rw[show (k:Int)+jk=s by omega];exact IntWalk.i64_in _ (by omega)
     have f2:IntKind.u64.wrap ((ai:Int)*bk)=pm:=by
      rw[show (ai:Int)*bk=pm by rw[←hpm'];simp];exact IntWalk.u64_in _ (by omega)
     have f3:IntKind.u64.wrap ((oj:Int)+pm)=((oj+pm:Nat):Int):=by rw[show (oj:Int)+pm=((oj+pm:Nat):Int) by omega];exact IntWalk.u64_in _ (by omega)
     have f4:IntKind.u64.wrap (((oj+pm:Nat):Int)+cv)=n:=by rw[show ((oj+pm:Nat):Int)+cv=n by omega];exact IntWalk.u64_in _ (by omega)
     obtain⟨op,hop⟩:=xeq (oj+pm);rw[hop]at f3 f4;have f5:bits .and .u64 (n:Int) 65535=nm:=by rw[qwq n (by omega),hnm]
     have f6:(n:Int) / 65536=nd:=by omega
     have qs:(s:Int)<m:=by omega
     have G1:=zh1 (show (k:Int)+jk=s by omega);have qj:(jk:Int)<nb:=by omega
     have hnd1:nd<65536:=by omega
     have A1:=zh1 (show Blk (wr.drew.setCell ⟨g,s,none⟩ (.int .u64 (nm:Int))) g 32 (u64v (o'.set s nm)).toArray by
      have:=(hblk.out.drew).set_ s (.int .u64 (nm:Int));rw[qwm]at this;exact this)
     have A2:=zh1 (show Below g w (wr.drew.setCell ⟨g,s,none⟩ (.int .u64 (nm:Int))) from hbel.out.drew.setCell (p:=⟨g,s,none⟩) (tA4 _) _);clear hbk hoj A0 hs hpm' hn hnd hnm hop hpm hrow hblk hbel;go_upto_region 9 with(fail)
     obtain⟨S,HS⟩:∃S:World→Prop,Hid (∀w',S w'=(w'.cell? ⟨g,s,none⟩=some (.int .u64 (oj:Int))∧w'.cell? ⟨ba,oa+k,none⟩=some (.int .u64 (ai:Int))∧w'.cell? ⟨bb,ob+jk,none⟩=some (.int .u64 (bk:Int)))):=⟨_,fun _=>rfl⟩;refine zrs S 19 [(0,false),(1,false),(2,false),(3,false),(4,false),(5,false),(6,false),(7,false),(8,false),(9,false),(10,false),(11,false),(12,false),(13,false),(14,false),(15,false),(16,false),(17,false),(18,false)] ((HS.out _).mpr ⟨co,ca,cb⟩) ?_;repeat(refine zrd rfl rfl (fun w1 hS=>by rw[HS.out]at hS;go_split_ands;go_simp;(try go_bits);try rfl) ?_;simp only[Act.put,tA0,tA1,tA2])
     refine qbg ?_;clear f1 f2 f3 f4;have f1:=G1.out;go_wp2
     go_roundw
     case rel=>exact⟨jk+1,_,nd,by omega,hnd1,rfl,by go_num,ST,A1,A2⟩
     case measure=>simp[intOf];omega
    obtain rfl:nb=jk:=by omega
    have hrow':=hrow.out;rw[←LB.out]at hrow';obtain⟨e1,e2⟩:=qvw hrows.out A3.out hrow';rw[LB.out]at e1 e2;obtain⟨s,hs⟩:=xeq (k+nb);rw[hs]at e1 e2;have co:=(hblk.out.cell s).trans (show _=some (.int .u64 ((0:Nat):Int)) by simpa using qwl e1);rw[show ((0:Nat):Int)=0 from rfl]at co;have cf:=hblk.out.frozen s;have hsm:s<m:=by have:=HM.out;omega
    have f1:(k:Int)+nb=s:=by omega
    have qs:(s:Int)<m:=by omega
    have q0:¬(nb:Int)<nb:=by omega
    have ER:=zh1 e2;have A1:=zh1 (show Blk (wr.setCell ⟨g,s,none⟩ (.int .u64 (cv:Int))) g 32 (u64v (o'.set s cv)).toArray by
     have:=hblk.out.set_ s (.int .u64 (cv:Int));rw[qwm]at this;exact this)
    have A2:=zh1 (show Below g w (wr.setCell ⟨g,s,none⟩ (.int .u64 (cv:Int))) from hbel.out.setCell (p:=⟨g,s,none⟩) (tA4 _) _);clear hrow hrow' hrows e1 e2 hs hblk hbel lo;go_wp2
    go_roundw
    case rel=>exact⟨k+1,_,by omega,by go_num,ER,A1,A2⟩
    case measure=>simp[intOf];omega
  obtain rfl:na=k:=by omega
  have hr:=hrows.out;rw[←LA.out]at hr;have hv:=qvx hr;have HR:=zh1 (show o.length=na+nb∧Parts o∧pval o=pval A*pval B from⟨by rw[hr.len,LA.out,LB.out],hr.parts,hv⟩);clear hr hv;go_wp2
  go_ret
  exact⟨o,by rw[HM.out];rfl,hblk.out,HR.out.1,HR.out.2.1,HR.out.2.2,hbel.out⟩
end
section
open Go.RowKit
def qwt (len n p:Nat):List Nat:=((List.replicate len 0).set n (p % 65536)).set (n+1) (p / 65536)
theorem qwu (len n p:Nat):(qwt len n p).length=len:=by simp[qwt]
theorem qwv (len n p:Nat)(hp:p<4294967296):Parts (qwt len n p):=by
 have h0:Parts (List.replicate len 0):=fun x hx=>by obtain rfl:=List.eq_of_mem_replicate hx;decide
 exact(h0.set _ _ (Nat.mod_lt _ (by decide))).set _ _ (by omega)
theorem qww (len n p:Nat)(hn:n+1<len):pval (qwt len n p)=p*65536^n:=by
 have h1:=qvk (List.replicate len 0) n (p % 65536) 0 (by rw[List.getElem?_replicate,if_pos (by omega)]);rw[qvt]at h1;have h2:=qvk ((List.replicate len 0).set n (p % 65536)) (n+1) (p / 65536) 0 (by rw[List.getElem?_set_ne (by omega),List.getElem?_replicate,if_pos (by omega)]);unfold qwt;rw[Nat.pow_succ]at h2;obtain⟨E,hE⟩:=xeq (65536^n);rw[hE]at h1 h2 ⊢;have e1:p / 65536*(E*65536)=65536*(p / 65536)*E:=by rw[Nat.mul_comm E,←Nat.mul_assoc,Nat.mul_comm (p / 65536)]
 have e2:p*E=65536*(p / 65536)*E+p % 65536*E:=by rw[←Nat.add_mul,Nat.div_add_mod]
 rw[e1]at h2;omega
theorem qwx {a b:List Nat}(ha:Parts a)(hb:Parts b)(hl:a.length=b.length)(i x y:Nat)(hx:a[i]? =some x)(hy:b[i]? =some y)(hd:a.drop (i+1)=b.drop (i+1))(h:x≠y):decide (x<y)=decide (pval a≤pval b):=by
 rcases Nat.lt_or_ge x y with hlt|hge
 · have:=qvo ha hb hl i x y hx hy hd hlt
   simp[hlt];omega
 have:=qvo hb ha hl.symm i y x hy hx hd.symm (by omega);have h1:¬x<y:=by omega
 simp[h1];omega
theorem qwy {a b:List Nat}{i x:Nat}(hx:a[i]? =some x)(hy:b[i]? =some x)(hd:a.drop (i+1)=b.drop (i+1)):a.drop i=b.drop i:=by
 have h1:a.drop i=x::a.drop (i+1):=by
  obtain⟨h,e⟩:=List.getElem?_eq_some_iff.1 hx;rw[←e];exact List.drop_eq_getElem_cons h
 have h2:b.drop i=x::b.drop (i+1):=by
  obtain⟨h,e⟩:=List.getElem?_eq_some_iff.1 hy;rw[←e];exact List.drop_eq_getElem_cons h
 rw[h1,h2,hd]
theorem qwz (x p:Nat)(cube:Bool)(w:World)(hx:x<18446744073709551616)(hp:p<4294967296):
 Calls Tryz.prog 177 #[.int .u64 x,.int .u64 p,.bool cube] w fun e w'=>e=.returned (.bool (qvy x p cube))∧Below w.heap.size w w':=by
 go_enter Tryz.func177,Tryz.ntmps177
 go_wp2_with fail
 refine(qwr x w hx).mono ?_;rintro e w1 ⟨rfl,k1,b1⟩;have r1:=qwp k1;rw[show (qvp x).length=4 from rfl]at r1;have PL:=qvr x hx;have VL:=qvq x hx;obtain⟨HP,HV,R1,B1⟩:=zh4 PL VL r1 b1;clear k1 b1 r1 PL VL;go_wp2_with fail
 refine(qws (qvp x) (qvp x) _ _ 4 4 4 4 w1 R1.out R1.out (by decide) (by decide) (by decide) (by decide) HP.out HP.out).mono ?_;rintro e w2 ⟨o,rfl,k2,l2,p2,v2,b2⟩;obtain⟨B2,R1',K2⟩:=zh3 (B1.out.trans (b2.mono B1.out.size)) (R1.out.call b2) k2;have r2:=qwp k2;rw[l2]at r2;obtain⟨R2,L2,P2⟩:=zh3 r2 l2 p2;rw[HV.out]at v2;have V2:=zh1 v2;clear k2 l2 p2 v2 b2 r2 R1 B1;rw[show 4+4=8 from rfl]at R2 L2 ⊢;go_upto_if 17 with(fail)
 go_cut [8,9] (fun s8 s9 wx=>∃(o':List Nat) (g L n:Nat),s8=.slice (some ⟨g,0,none⟩) L L∧s9=.int .i64 n∧n+1<L∧L≤12∧Hid (Blk wx g 32 (u64v o').toArray)∧Hid (o'.length=L∧Parts o')∧Hid (decide (pval o'≤p*65536^n)=qvy x p cube)∧Hid (Below w.heap.size w wx))
 case first=>
  cases cube with
  |false=>
   have hv:decide (pval o≤p*65536^4)=qvy x p false:=by
    rw[V2.out];unfold qvy;simp only[Bool.false_eq_true,if_false];rw[show (65536:Nat)^4=2^64 from by decide,Nat.pow_two]
   have A0:=zh1 hv;clear hv;go_wp2
   go_meet
   case rel=>exact⟨o,w1.heap.size,8,4,rfl,rfl,by omega,by omega,K2,⟨L2.out,P2.out⟩,A0,B2⟩
  |true=>
   go_wp2_with fail
   refine(qws o (qvp x) _ _ 8 8 4 4 w2 R2.out R1'.out (by decide) (by decide) (by decide) (by decide) P2.out HP.out).mono ?_;rintro e w3 ⟨o3,rfl,k3,l3,p3,v3,b3⟩;rw[V2.out,HV.out]at v3;have hv:decide (pval o3≤p*65536^6)=qvy x p true:=by
    rw[v3];unfold qvy;simp only[if_true];rw[show (65536:Nat)^6=2^96 from by decide,show x^3=x*x*x from by rw[Nat.pow_succ,Nat.pow_two]]
   obtain⟨A0,K3,HL,B3⟩:=zh4 hv k3 (show o3.length=12∧Parts o3 from⟨l3,p3⟩) (B2.out.trans (b3.mono B2.out.size));clear k3 l3 p3 v3 b3 hv;rw[show 8+4=12 from rfl];go_wp2
   go_meet
   case rel=>exact⟨o3,w2.heap.size,12,6,rfl,rfl,by omega,by omega,K3,HL,A0,B3⟩
 case rest=>
  obtain⟨o',g,L,n,rfl,rfl,hnL,hL12,K3,HL,A0,B3⟩:=hcut;obtain⟨w3,rfl⟩:=eqx wc;clear B2 R1' K2 R2 L2 P2 V2 HP HV;have mk:=fun w=>qwn L (by omega) w
  obtain⟨Z,hZ⟩:=xeq ((u64v (List.replicate L 0)).toArray);simp only[hZ]at mk;obtain⟨pm,hpm⟩:=xeq (p % 65536);obtain⟨pd,hpd⟩:=xeq (p / 65536);have f1:bits .and .u64 (p:Int) 65535=pm:=by rw[qwq p (by omega),hpm]
  have f2:(p:Int) / 65536=pd:=by omega
  have z0:=Blk.new w3 32 Z;obtain⟨w4,hw4⟩:=eqx (w3.alloc (.cells Z 32));rw[←hw4]at z0;rw[←hZ]at z0;have k4:Blk w4 g 32 (u64v o').toArray:=by rw[hw4];exact K3.out.alloc _
  have b4:Below w.heap.size w w4:=by rw[hw4];exact B3.out.alloc B3.out.size _
  have hgl:g<w3.heap.size:=K3.out.lt;have hws:w.heap.size≤w3.heap.size:=B3.out.size;obtain⟨G,hG⟩:=xeq w3.heap.size;rw[hG]at z0 hgl hws;obtain⟨HG,A1⟩:=zh2 hG hw4;have zc:=(z0.cell n).trans (show _=some (.int .u64 0) by simpa using qwl (show (List.replicate L 0)[n]? =some 0 by rw[List.getElem?_replicate,if_pos (by omega)]));have zf:=z0.frozen n;have z1:=z0.set_ n (.int .u64 (pm:Int));rw[qwm]at z1;have k5:=k4.far (p:=⟨G,n,none⟩) (by show g≠G;omega) (.int .u64 (pm:Int));have b5:=b4.setCell (p:=⟨G,n,none⟩) (by show w.heap.size≤G;omega) (.int .u64 (pm:Int));obtain⟨w5,hw5⟩:=eqx (w4.setCell ⟨G,n,none⟩ (.int .u64 (pm:Int)));rw[←hw5]at z1 k5 b5;have zc1:=(z1.cell (n+1)).trans (show _=some (.int .u64 0) by simpa using qwl (show ((List.replicate L 0).set n pm)[n+1]? =some 0 by rw[List.getElem?_set_ne (by omega),List.getElem?_replicate,if_pos (by omega)]));have zf1:=z1.frozen (n+1);have z2:=z1.set_ (n+1) (.int .u64 (pd:Int));rw[qwm]at z2;have k6:=k5.far (p:=⟨G,n+1,none⟩) (by show g≠G;omega) (.int .u64 (pd:Int));have b6:=b5.setCell (p:=⟨G,n+1,none⟩) (by show w.heap.size≤G;omega) (.int .u64 (pd:Int));obtain⟨n1,hn1⟩:=xeq (n+1);rw[hn1]at zc1 zf1 z2 k6 b6 hnL;have hn1i:(n:Int)+1=n1:=by omega
  obtain⟨w6,hw6⟩:=eqx (w5.setCell ⟨G,n1,none⟩ (.int .u64 (pd:Int)));rw[←hw6]at z2 k6 b6;have Z2:Hid (Blk w6 G 32 (u64v (qwt L n p)).toArray):=by
   unfold qwt;rw[hn1,hpm,hpd];exact z2
  obtain⟨K6,B6,A2,A3,A5⟩:=zh5 k6 b6 hw5 hw6 hn1;have qL:(n1:Int)<L:=by omega
  have qn:(n:Int)<L:=by omega
  have WV:Hid (pval (qwt L n p)=p*65536^n):=qww L n p (by omega);have WL:Hid ((qwt L n p).length=L):=qwu L n p;have WP:Hid (Parts (qwt L n p)):=qwv L n p hp;obtain⟨W,hWW⟩:=xeq (qwt L n p);rw[hWW]at Z2 WV WL WP;clear z0 z1 z2 k4 k5 k6 b4 b5 b6 hw4 hw5 hw6 hn1 hpm hpd hG hZ hWW K3 B3;go_upto_region 8 with(fail)
  rw[←A1.out,HG.out];go_upto_region 10 with(fail)
  rw[←A2.out];clear zc zf f1 mk;go_upto_region 11 with(fail)
  rw[←A3.out];clear zc1 zf1 f2 hn1i;go_wp2_with fail
  go_loopw [11] (fun i wr=>∃m:Nat,m≤L∧i=.int .i64 ((m:Int) - 1)∧Hid (o'.drop m=W.drop m)∧Hid (Blk wr g 32 (u64v o').toArray)∧Hid (Blk wr G 32 (u64v W).toArray)∧Hid (Below w.heap.size w wr)) (fun i _=>(intOf i+1).toNat)
  case atStart=>exact⟨L,by omega,rfl,by show o'.drop L=W.drop L;rw[List.drop_eq_nil_of_le (by rw[HL.out.1];omega),List.drop_eq_nil_of_le (by rw[WL.out];omega)],K6.out,Z2.out,B6.out⟩
  case round=>
   clear K6 Z2 B6;obtain⟨m,hm,rfl,hdr,hko,hkw,hbe⟩:=hrel;cases m with
   |zero=>
    have hb:qvy x p cube=true:=by
     rw[←A0.out,show o'=W by simpa using hdr.out,WV.out];simp
    have A4:=zh1 hb;clear hb;go_wp2
    go_ret
    exact⟨by rw[A4.out];rfl,hbe.out⟩
   |succ m=>
    have em:((m+1:Nat):Int) - 1=m:=by omega
    rw[em];clear em;obtain⟨x1,hx1⟩:∃y,o'[m]? =some y:=⟨_,tA7 (by rw[HL.out.1];omega)⟩;obtain⟨y1,hy1⟩:∃y,W[m]? =some y:=⟨_,tA7 (by rw[WL.out];omega)⟩;have c1:=(hko.out.cell m).trans (show _=some (.int .u64 (x1:Int)) by simpa using qwl hx1);have c2:=(hkw.out.cell m).trans (show _=some (.int .u64 (y1:Int)) by simpa using qwl hy1);have qm:(m:Int)<L:=by omega
    obtain⟨S,HS⟩:∃S:World→Prop,Hid (∀w',S w'=(w'.cell? ⟨g,m,none⟩=some (.int .u64 (x1:Int))∧w'.cell? ⟨G,m,none⟩=some (.int .u64 (y1:Int)))):=⟨_,fun _=>rfl⟩;by_cases he:x1=y1
    ·
     subst he;have HD:=zh1 (qwy hx1 hy1 hdr.out);clear hx1 hy1 hdr;go_upto_region 14 with(fail)
     refine zrs S 9 [(0,false),(1,false),(2,false),(3,false),(4,false),(5,false),(6,false),(7,false),(8,false)] ((HS.out _).mpr ⟨c1,c2⟩) ?_;repeat(refine zrd rfl rfl (fun w1 hS=>by rw[HS.out]at hS;go_split_ands;go_simp;(try go_bits);try rfl) ?_;simp only[Act.put,tA0,tA1,tA2])
     refine qbg ?_;obtain⟨K7,Z7,B7⟩:=zh3 hko.out.drew hkw.out.drew hbe.out.drew;clear c1 c2 hko hkw hbe;go_wp2
     go_roundw
     case rel=>exact⟨m,by omega,rfl,HD,K7,Z7,B7⟩
     case measure=>simp[intOf]
    have q:¬(x1:Int)=y1:=by omega
    have ht:=qwx HL.out.2 WP.out (by rw[HL.out.1,WL.out]) m x1 y1 hx1 hy1 hdr.out he;rw[WV.out,A0.out]at ht;have HT:=zh1 ht;have qt:decide ((x1:Int)<y1)=decide (x1<y1):=by rw[Bool.eq_iff_iff];simp
    have QT:=zh1 qt;clear hx1 hy1 hdr ht qt;go_upto_region 14 with(fail)
    refine zrs S 9 [(0,false),(1,false),(2,false),(3,false),(4,false),(5,false),(6,false),(7,false),(8,false)] ((HS.out _).mpr ⟨c1,c2⟩) ?_;repeat(refine zrd rfl rfl (fun w1 hS=>by rw[HS.out]at hS;go_split_ands;go_simp;(try go_bits);try rfl) ?_;simp only[Act.put,tA0,tA1,tA2])
    refine qbg ?_;have k1:wr.drew.cell? ⟨g,m,none⟩=some (.int .u64 (x1:Int)):=c1;have k2:wr.drew.cell? ⟨G,m,none⟩=some (.int .u64 (y1:Int)):=c2;go_upto_region 15 with(fail)
    refine zrs S 10 [(0,false),(1,false),(2,false),(3,false),(4,false),(5,false),(6,false),(7,false),(8,false),(9,false)] ((HS.out _).mpr ⟨c1,c2⟩) ?_;repeat(refine zrd rfl rfl (fun w1 hS=>by rw[HS.out]at hS;go_split_ands;go_simp;(try go_bits);try rfl) ?_;simp only[Act.put,tA0,tA1,tA2])
    refine qbg ?_;have B7:=zh1 hbe.out.drew.drew;clear c1 c2 k1 k2 hko hkw hbe;go_wp2
    go_ret
    exact⟨by rw[←HT.out,←QT.out];rfl,B7.out⟩
end
section
open Go.RowKit
theorem qx0 (p:Nat)(cube:Bool):qvy 0 p cube=true:=by unfold qvy;cases cube<;>simp
theorem qx1 (p:Nat)(cube:Bool)(hp:p<1000):qvy 171798691840 p cube=false:=by
 unfold qvy;cases cube with
 |true=>
  have e:(171798691840:Nat)^3=64000*2^96:=by decide
  simp only[if_true,decide_eq_false_iff_not];rw[e];intro h;have:=Nat.le_of_mul_le_mul_right h (by decide);omega
 |false=>
  have e:(171798691840:Nat)^2=1600*2^64:=by decide
  simp only[Bool.false_eq_true,if_false,decide_eq_false_iff_not];rw[e];intro h;have:=Nat.le_of_mul_le_mul_right h (by decide);omega
theorem qx2 (p:Nat)(cube:Bool)(w:World)(hp:p<1000):
 Calls Tryz.prog 123 #[.int .u64 p,.bool cube] w fun e w'=>(∃r:Nat,IsRoot r p cube∧e=.returned (.int .u32 ((r % 4294967296:Nat):Int)))∧Below w.heap.size w w':=by
 obtain⟨H0,HT⟩:=zh2 (qx0 p cube) (qx1 p cube hp);go_enter Tryz.func123,Tryz.ntmps123
 go_wp2_with fail
 go_loopw [5,6] (fun a b wr=>∃lo hi:Nat,lo<hi∧hi≤171798691840∧a=.int .u64 lo∧b=.int .u64 hi∧Hid (qvy lo p cube=true)∧Hid (qvy hi p cube=false)∧Hid (Below w.heap.size w wr)) (fun a b _=>(intOf b - intOf a).toNat)
 case atStart=>exact⟨0,171798691840,by omega,by omega,rfl,rfl,H0.out,HT.out,tA5 _ _⟩
 case round=>
  obtain⟨lo,hi,hlt,htop,rfl,rfl,hlo,hhi,hbe⟩:=hrel;by_cases h1:1<hi - lo
  ·
   obtain⟨m,hm⟩:=xeq ((lo+hi) / 2);have m1:lo<m:=by omega
   have m2:m<hi:=by omega
   have q1:(1:Int)<hi - lo:=by omega
   have q2:((lo:Int)+hi) / 2=m:=by omega
   have q3:(0:Int)≤hi - lo:=by omega
   clear hm h1;go_wp2_with fail
   refine(qwz m p cube _ (by omega) (by omega)).mono ?_;rintro e w2 ⟨rfl,b2⟩;have B2:=zh1 (hbe.out.trans (b2.mono hbe.out.size));obtain⟨b,hb⟩:=xeq (qvy m p cube);have HBm:=zh1 hb;rw[hb];clear hb b2 hbe;cases b with
   |true=>
    go_wp2
    go_roundw
    case rel=>exact⟨m,hi,by omega,by omega,rfl,rfl,HBm,hhi,B2⟩
    case measure=>simp[intOf];omega
   |false=>
    go_wp2
    go_roundw
    case rel=>exact⟨lo,m,by omega,by omega,rfl,rfl,hlo,HBm,B2⟩
    case measure=>simp[intOf];omega
  obtain rfl:hi=lo+1:=by omega
  have q1:¬(1:Int)<((lo+1:Nat):Int) - lo:=by omega
  have q3:(0:Int)≤((lo+1:Nat):Int) - lo:=by omega
  have hw:IntKind.u32.wrap (lo:Int)=((lo % 4294967296:Nat):Int):=by rw[IntKind.wrap_u32];omega
  clear h1;go_wp2
  go_ret
  exact⟨⟨lo,⟨hlo.out,hhi.out⟩,rfl⟩,hbe.out⟩
end
section
open Go.RowKit
def OwnU (w:World)(base:Nat)(v:Value)(l:List Nat):Prop:=w.ownsRow base 32 1 v l.length (u64v l)
theorem qx3 (l:List Nat):∀u∈u64v l,u.oneCell'=true:=by
 intro u hu;obtain⟨x,_,rfl⟩:=List.mem_map.1 hu;rfl
section
variable {w w' : World} {base : Nat} {v : Value} {l : List Nat}
theorem OwnU.nil (w:World)(base:Nat):OwnU w base (.slice none 0 0) []:=World.ownsRow_nil ..
theorem OwnU.sl (h:OwnU w base v l):∃A n c,v=.slice A n c∧n=l.length∧n≤c∧c≤maxLen∧Reads w w.heap.size 1 A n (u64v l):=by
 obtain⟨A,c,h1,h2,h3,h4⟩:=qaf h;exact⟨A,_,c,h1,rfl,h2,h3,h4⟩
theorem OwnU.kept (h:OwnU w base v l)(hb:Below w.heap.size w w'):OwnU w' base v l:=
 World.ownsRow.kept h ⟨hb.os,hb.tape,hb.output,hb.size,fun k hk _=>hb.block k hk⟩ (row:=none) (by cases v.ownBlock<;>simp)
theorem OwnU.alloc (h:OwnU w base v l)(o:Obj):OwnU (w.alloc o) base v l:=h.kept ((tA5 _ _).alloc (tA4 _) o)
end
theorem qx4 {w:World}{ops:Array Oper}{rest:List Oper}{o:Oper}{a:Act}{Q:Exit→Act→World→Prop}(hgd:o.guard=none)(s x:Operand)
 (ho:o.op=.call {callee:=.builtin .append,args:=#[s,x],argTypes:=#[212,212]})
 (base:Nat)(v:Value)(bs:List Nat)(hs:a.eval s=v)(hown:OwnU w base v bs)(A:Option Addr)(m c:Nat)(news:List Nat)(hx:a.eval x=.slice A m c)(hr:Reads w w.heap.size 1 A m (u64v news))
 (hlen:bs.length+m≤65536)(hbase:base≤w.heap.size)
 (h:∀v' w',OwnU w' base v' (bs++news)→Below base w w'→w.grownBy w' v.ownBlock→wpList Tryz.prog ops Q rest (a.put o.dst v') w'):wpList Tryz.prog ops Q (o::rest) a w:=by
 obtain⟨i0,hi0,hz0,hz1,hz2⟩:=info_parts Tryz.u64_info;have hm:news.length=m:=qwo hr;refine qa7 (P:=Tryz.prog) w hgd s x _ ho base 32 i0 _ 1 8 Tryz.underlying212 hi0 hz0 hz1 hz2 rfl (by omega) v bs.length (u64v bs) hs hown w.heap.size A m c (u64v news) hx hr (qx3 _) (by simp only[maxLen];omega) (by omega) hbase ?_;intro v' w' h1 h2 h3;refine h v' w' ?_ ?_ h2
 · unfold OwnU
   rw[tA6,hm];simpa [u64v] using h1
 exact qae (tA5 _ _) hown h2 (tA4 _) hbase
theorem qx5 (w:World)(p:Nat):Reads (w.alloc (.cells #[.int .u64 (p:Int)] 32)) (w.alloc (.cells #[.int .u64 (p:Int)] 32)).heap.size 1 (some ⟨w.heap.size,0,none⟩) 1 (u64v [p]):=by
 have:=Reads.new1 w 32 (.int .u64 (p:Int));simpa [u64v] using this
theorem qx6 {f p:Nat}{out:List Nat}(h:out.length<64)(hp:qwb 64 f p out=qwc):∃g,f=g+1∧qwb 64 g (p+1) (if qw0 out p then out++[p] else out)=qwc:=by
 cases f with
 |zero=>
  have e:out=qwc:=hp;rw[e]at h;exact absurd h (by decide)
 |succ g=>
  refine⟨g,rfl,?_⟩;unfold qwb at hp;rw[if_pos h]at hp;split at hp
  · rename_i hn
    rw[if_pos hn];exact hp
  rename_i hn
  rw[if_neg hn];exact hp
theorem qx7 (w:World):
 Calls Tryz.prog 122 #[.int .i64 64] w fun e w'=>∃v,e=.returned v∧OwnU w' w.heap.size v qwc∧Below w.heap.size w w':=by
 have H0:=zh1 qwe;go_enter Tryz.func122,Tryz.ntmps122
 go_wp2_with fail
 go_loopw [3,4] (fun a b wr=>∃(out:List Nat) (p f:Nat),p+f=402∧2≤p∧b=.int .u64 p∧out.length≤64∧Hid (qwb 64 f p out=qwc)∧Hid (∀q∈out,2≤q∧q≤402)∧Hid (OwnU wr w.heap.size a out)∧Hid (Below w.heap.size w wr)) (fun _ b _=>402 - (intOf b).toNat)
 case atStart=>exact⟨[],2,400,by omega,by omega,rfl,by simp,H0.out,fun q hq=>(nomatch hq),OwnU.nil _ _,tA5 _ _⟩
 case round=>
  clear H0;obtain⟨out,p,f,hf,hp2,rfl,hlo,hgo,hq2,hown,hbe⟩:=hrel;obtain⟨A,n,c,rfl,hn,hnc,hcm,hrd⟩:=hown.out.sl;obtain⟨HN,HR⟩:=zh2 hn hrd;by_cases hlt:n<64
  ·
   obtain⟨f',rfl,hgo'⟩:=qx6 (by rw[←HN.out];exact hlt) hgo.out;have HG:=zh1 hgo';have q1:(n:Int)<64:=by omega
   clear hgo' hgo hn hrd;go_wp2_with fail
   go_loop [5,6] (fun a b=>∃k:Nat,k≤n∧b=.int .i64 k∧a=.bool (qw0 (out.take k) p)) (fun _ b=>n - (intOf b).toNat)
   case atStart=>exact⟨0,by omega,rfl,rfl⟩
   case round=>
    obtain⟨k,hk,rfl,rfl⟩:=hrel;by_cases hkl:k<n
    ·
     have q2:(k:Int)<n:=by omega
     obtain⟨q,hq⟩:∃q,out[k]? =some q:=⟨_,tA7 (by rw[←HN.out];exact hkl)⟩;have hqb:=hq2.out q (List.mem_of_getElem? hq);obtain⟨b,o,rfl,hab,hcell⟩:=HR.out.mid (by omega) (by omega);have ck:=hcell k _ (qwl hq);have hst:=qwg out p k q hq;have A0:=zh1 hst;obtain⟨bb,hbb⟩:=xeq (qw0 (out.take k) p);have A1:=zh1 hbb;rw[hbb];have q3:(0:Int)<q:=by omega
     have q4:¬(q:Int)=0:=by omega
     obtain⟨r,hr⟩:=xeq (p % q);have q5:(p:Int) % q=r:=by rw[←hr];simp
     have A3:=zh1 hr;clear hq hcell hst hbb hr;cases bb with
     |false=>
      go_wp2
      go_round
      case rel=>exact⟨k+1,by omega,by go_num,by rw[A0.out,A1.out];rfl⟩
      case measure=>simp[intOf];omega
     |true=>
      by_cases hr0:r=0
      · subst hr0
        go_wp2
        go_round
        case rel=>exact⟨k+1,by omega,by go_num,by rw[A0.out,A1.out,A3.out];rfl⟩
        case measure=>simp[intOf];omega
      have q6:¬(r:Int)=0:=by omega
      go_wp2
      go_round
      case rel=>exact⟨k+1,by omega,by go_num,by rw[A0.out,A1.out,A3.out];simp[hr0]⟩
      case measure=>simp[intOf];omega
    obtain rfl:n=k:=by omega
    have et:out.take n=out:=List.take_of_length_le (by rw[←HN.out];exact tA4 _);rw[et];have q2:¬(n:Int)<n:=by omega
    obtain⟨bb,hbb⟩:=xeq (qw0 out p);have hg:=HG.out;rw[hbb]at hg ⊢;have A4:=zh1 hg;clear et hbb hg HG;cases bb with
    |false=>
     have A2:=zh1 (show qwb 64 f' (p+1) out=qwc from A4.out);go_wp2
     go_roundw
     case rel=>exact⟨out,p+1,f',by omega,by omega,by go_num,hlo,A2,hq2,hown,hbe⟩
     case measure=>simp[intOf];omega
    |true=>
     have A2:=zh1 (show qwb 64 f' (p+1) (out++[p])=qwc from A4.out);have hszb:=hbe.out.size;go_wp2_with (at_builtin;refine qx4 rfl (.tmp 30) (.tmp 32) rfl w.heap.size _ out rfl (hown.out.alloc _) _ 1 1 [p] rfl (qx5 wr p) (by have:=HN.out;omega) (by rw[qar];omega) ?_)
     intro v2 w2 own2 b2 g2;obtain⟨OW,BW⟩:=zh2 own2 ((hbe.out.alloc hbe.out.size (.cells #[.int .u64 (p:Int)] 32)).trans b2);have A5:Hid (∀q∈out++[p],2≤q∧q≤402):=by
      intro q hq;rcases List.mem_append.1 hq with hq|hq
      · exact hq2.out q hq
      obtain rfl:=List.mem_singleton.1 hq;omega
     have hl2:(out++[p]).length≤64:=by rw[tA6,←HN.out];simp;omega
     clear own2 b2 g2 hbe hown;go_wp2
     go_roundw
     case rel=>exact⟨out++[p],p+1,f',by omega,by omega,by go_num,hl2,A2,A5,OW,BW⟩
     case measure=>simp[intOf];omega
  have hle:64≤out.length:=by rw[←HN.out];omega
  have he:=hgo.out;rw[qwf 64 f p out hle]at he;have HE:=zh1 he;have q1:¬(n:Int)<64:=by omega
  clear he hn hrd hgo;go_wp2
  go_ret
  exact⟨_,rfl,by rw[←HE.out];exact hown.out,hbe.out⟩
end
section
open Go.RowKit
def qx8:List Nat:=Kt++qc2.list
def qx9 (j:Nat):List Nat:=qx8.take j++List.replicate (72 - j) 0
theorem qxa:qx8.length=72:=by decide
theorem qxb:u32s qx8:=by
 intro x hx;have h:(qx8.all fun x=>decide (x<4294967296))=true:=by decide+kernel
 simpa using List.all_eq_true.1 h x hx
theorem qxc:qx9 72=qx8:=by
 unfold qx9;rw[List.take_of_length_le (by rw[qxa];exact tA4 _)];simp
theorem qxd (j x:Nat)(h:qx8[j]? =some x):(qx9 j).set j x=qx9 (j+1):=by
 have hj:j<72:=by have:=(List.getElem?_eq_some_iff.1 h).1;rwa[qxa]at this
 have lt:(qx8.take j).length=j:=by rw[List.length_take,qxa];omega
 unfold qx9;rw[List.set_append_right _ _ (by rw[lt];exact tA4 _),lt,Nat.sub_self,show 72 - j=(72 - (j+1))+1 by omega,List.replicate_succ,List.set_cons_zero,List.take_add_one,h];simp
theorem qxe (j:Nat)(h:j<72):(qx9 j)[j]? =some 0:=by
 have lt:(qx8.take j).length=j:=by rw[List.length_take,qxa];omega
 unfold qx9;rw[List.getElem?_append_right (by rw[lt];exact tA4 _),lt,Nat.sub_self,List.getElem?_replicate,if_pos (by omega)]
theorem qxf {l:List Nat}{i x:Nat}(h:l[i]? =some x):(qbq l)[i]? =some (.int .u32 (x:Int)):=by simp[qbq,h]
theorem qxg (l:List Nat)(i x:Nat):(qbq l).toArray.setIfInBounds i (.int .u32 (x:Int))=(qbq (l.set i x)).toArray:=by simp[qbq,List.map_set]
theorem qxh:((List.range 64).all fun k=>qwi (qwc.getD k 0) (qwh (qwc.getD k 0) 3 7*4294967296+qx8.getD k 0) true)=true:=by decide+kernel
theorem qxi:((List.range 8).all fun k=>qwi (qwc.getD k 0) (qwh (qwc.getD k 0) 2 7*4294967296+qx8.getD (64+k) 0) false)=true:=by decide+kernel
theorem qxj (k r:Nat)(hk:k<64)(h:IsRoot r (qwc.getD k 0) true):qx8[k]? =some (r % 4294967296):=by
 have h1:=qwj (List.all_eq_true.1 qxh k (List.mem_range.2 hk));rw[h.eq h1];have hl:k<qx8.length:=by rw[qxa];omega
 have hb:=qxb.getD k;rw[Nat.mul_add_mod',Nat.mod_eq_of_lt hb,List.getD_eq_getElem?_getD,tA7 hl];rfl
theorem qxk (k r:Nat)(hk:k<8)(h:IsRoot r (qwc.getD k 0) false):qx8[64+k]? =some (r % 4294967296):=by
 have h1:=qwj (List.all_eq_true.1 qxi k (List.mem_range.2 hk));rw[h.eq h1];have hl:64+k<qx8.length:=by rw[qxa];omega
 have hb:=qxb.getD (64+k);rw[Nat.mul_add_mod',Nat.mod_eq_of_lt hb,List.getD_eq_getElem?_getD,tA7 hl];rfl
theorem qxl (k:Nat):qwc.getD k 0<1000:=by
 rw[List.getD_eq_getElem?_getD];rcases hx:qwc[k]? with _|x
 · simp
 have h:(qwc.all fun x=>decide (x<1000))=true:=by decide
 simpa using List.all_eq_true.1 h x (List.mem_of_getElem? hx)
def RTab (w:World)(g:Nat):Prop:=Blk w g 211 (qbq qx8).toArray
theorem qxm {w w':World}{g B:Nat}(h:w.grownBy w' (some g))(hB:B≤g)(hg:g<w.heap.size):Below B w w':=
 ⟨h.os,h.tape,h.output,h.size,fun k hk=>h.block k (by omega) (fun e=>by injection e;omega)⟩
theorem qxn (w:World):
 Calls Tryz.prog 48 #[] w fun e w'=>e=.returned (.pointer (some ⟨w.heap.size,0,none⟩))∧RTab w' w.heap.size∧Below w.heap.size w w':=by
 have z0:Blk (w.alloc (.cells Tryz.zeroCells211 211)) w.heap.size 211 (qbq (qx9 0)).toArray:=by
  have h:=Blk.new w 211 Tryz.zeroCells211;rw[show Tryz.zeroCells211=(qbq (qx9 0)).toArray by kernel_rfl]at h ⊢;exact h
 have b0:Below w.heap.size w (w.alloc (.cells Tryz.zeroCells211 211)):=(tA5 _ _).alloc (tA4 _) _;obtain⟨W0,hW0⟩:=eqx (w.alloc (.cells Tryz.zeroCells211 211));rw[←hW0]at z0 b0;obtain⟨A1,Z0,B0⟩:=zh3 hW0 z0 b0;obtain⟨g,hg⟩:=xeq w.heap.size;have HG:=zh1 hg;clear hW0 z0 b0 hg;go_enter Tryz.func48,Tryz.ntmps48
 go_wp2_with fail
 rw[←A1.out];refine(qx7 W0).mono ?_;rintro e w1 ⟨v,rfl,own1,b1⟩;obtain⟨A,n,c,rfl,hn,hnc,hcm,hrd⟩:=own1.sl;obtain rfl:n=64:=hn.trans (by decide);have z1:=Z0.out.below b1 Z0.out.lt;have b1':=B0.out.trans (b1.mono B0.out.size);have hne:=qa3 own1 z1 (by decide);obtain⟨b,o,rfl,hab,hcell⟩:=hrd.mid (by omega) (by omega);have hbg:b≠w.heap.size:=fun e=>hne (by simp[Value.ownBlock,e])
 have hgw:w.heap.size<w1.heap.size:=z1.lt;rw[HG.out]at z1 b1' hbg hgw ⊢;obtain⟨HC,Z1,B1⟩:=zh3 hcell z1 b1';clear own1 b1 hrd hcell hn A1 Z0 B0 z1 b1' hne;go_wp2_with fail
 go_loopw [3] (fun i wr=>∃k:Nat,k≤64∧i=.int .i64 k∧Hid (Blk wr g 211 (qbq (qx9 k)).toArray)∧Hid (w1.grownBy wr (some g))) (fun i _=>64 - (intOf i).toNat)
 case atStart=>exact⟨0,by omega,rfl,Z1.out,World.grownBy.refl _ _⟩
 case round=>
  obtain⟨k,hk,rfl,hz,hgr⟩:=hrel;by_cases hlt:k<64
  ·
   obtain⟨p,hp⟩:∃p,qwc[k]? =some p:=⟨_,tA7 (by rw[show qwc.length=64 from by decide];exact hlt)⟩;have hpd:qwc.getD k 0=p:=by rw[List.getD_eq_getElem?_getD,hp];rfl
   have ck:wr.cell? ⟨b,o+k,none⟩=some (.int .u64 (p:Int)):=hgr.out.cell (HC.out k _ (qwl hp)) (by simp;omega);have hp1:p<1000:=by rw[←hpd];exact qxl k
   have hroot:=qxj k;rw[hpd]at hroot;have A0:=zh1 hroot;have q1:(k:Int)<64:=by omega
   have hbw:b<wr.heap.size:=World.block_lt_of_cell? _ _ ck;clear hp hpd hroot;go_upto_region 6 with(fail)
   obtain⟨S,HS⟩:∃S:World→Prop,Hid (∀w',S w'=(w'.cell? ⟨b,o+k,none⟩=some (.int .u64 (p:Int)))):=⟨_,fun _=>rfl⟩;refine zrs S 10 [(0,false),(1,false),(2,false),(3,false),(4,false),(5,false),(7,false),(8,false),(6,true),(9,false),(10,true)] ((HS.out _).mpr ck) ?_;repeat(refine zrd rfl rfl (fun w1 hS=>by rw[HS.out]at hS;go_split_ands;go_simp;(try go_bits);try rfl) ?_;simp only[Act.put,tA0,tA1,tA2])
   refine qbj rfl rfl ?_;go_simp;refine(qx2 p true wr.drew hp1).mono ?_;rintro e w2 ⟨⟨r,hr,rfl⟩,b2⟩;have hrk:=A0.out r hlt hr;have z2:=(show Blk wr.drew g 211 (qbq (qx9 k)).toArray from hz.out).below b2 hz.out.lt;obtain⟨rr,hrr⟩:=xeq (r % 4294967296);rw[hrr]at hrk ⊢;have gr2:w1.grownBy w2 (some g):=qac (qa9 hgr.out) (qad b2 (some g)) (by rintro d ⟨rfl⟩;exact .inl rfl);refine⟨(HS.out _).mpr ((b2.cell (p:=⟨b,o+k,none⟩) hbw).trans ck),?_⟩;try simp only[Act.put,tA0,tA1,tA2]
   repeat(refine zrd rfl rfl (fun w1 hS=>by rw[HS.out]at hS;go_split_ands;go_simp;(try go_bits);try rfl) ?_;simp only[Act.put,tA0,tA1,tA2])
   have zs:=z2.set_ k (.int .u32 (rr:Int));rw[qxg,qxd k rr hrk]at zs;obtain⟨ZS,GS⟩:=zh2 zs (qab (p:=⟨g,k,none⟩) gr2 (.inl rfl) (.int .u32 (rr:Int)));have zc:=(z2.cell k).trans (show _=some (.int .u32 0) by simpa using qxf (qxe k (by omega)));have zf:=z2.frozen k;refine qbj rfl rfl ?_;go_simp;refine qbg ?_;clear zc zf zs gr2 z2 b2 hgr hz hrk hrr hr hbw ck;go_wp2
   go_roundw
   case rel=>exact⟨k+1,by omega,by go_num,ZS,GS⟩
   case measure=>simp[intOf];omega
  obtain rfl:64=k:=by omega
  clear Z1;rw[show ((64:Nat):Int)=64 from rfl];go_wp2_with fail
  go_loopw [4] (fun i wr=>∃k:Nat,k≤8∧i=.int .i64 k∧Hid (Blk wr g 211 (qbq (qx9 (64+k))).toArray)∧Hid (w1.grownBy wr (some g))) (fun i _=>8 - (intOf i).toNat)
  case atStart=>exact⟨0,by omega,rfl,hz.out,hgr.out⟩
  case round=>
   clear hz hgr;obtain⟨k,hk,rfl,hz,hgr⟩:=hrel;by_cases hlt:k<8
   ·
    obtain⟨p,hp⟩:∃p,qwc[k]? =some p:=⟨_,tA7 (by rw[show qwc.length=64 from by decide];omega)⟩;have hpd:qwc.getD k 0=p:=by rw[List.getD_eq_getElem?_getD,hp];rfl
    have ck:wr.cell? ⟨b,o+k,none⟩=some (.int .u64 (p:Int)):=hgr.out.cell (HC.out k _ (qwl hp)) (by simp;omega);have hp1:p<1000:=by rw[←hpd];exact qxl k
    have hroot:=qxk k;rw[hpd]at hroot;have A0:=zh1 hroot;have q1:(k:Int)<8:=by omega
    have q2:(k:Int)<64:=by omega
    have hbw:b<wr.heap.size:=World.block_lt_of_cell? _ _ ck;clear hp hpd hroot;go_upto_region 10 with(fail)
    obtain⟨S,HS⟩:∃S:World→Prop,Hid (∀w',S w'=(w'.cell? ⟨b,o+k,none⟩=some (.int .u64 (p:Int)))):=⟨_,fun _=>rfl⟩;refine zrs S 10 [(0,false),(1,false),(2,false),(3,false),(4,false),(5,false),(7,false),(8,false),(6,true),(9,false),(10,true)] ((HS.out _).mpr ck) ?_;repeat(refine zrd rfl rfl (fun w1 hS=>by rw[HS.out]at hS;go_split_ands;go_simp;(try go_bits);try rfl) ?_;simp only[Act.put,tA0,tA1,tA2])
    refine qbj rfl rfl ?_;go_simp;refine(qx2 p false wr.drew hp1).mono ?_;rintro e w2 ⟨⟨r,hr,rfl⟩,b2⟩;have hrk:=A0.out r hlt hr;have z2:=(show Blk wr.drew g 211 (qbq (qx9 (64+k))).toArray from hz.out).below b2 hz.out.lt;obtain⟨rr,hrr⟩:=xeq (r % 4294967296);rw[hrr]at hrk ⊢;have gr2:w1.grownBy w2 (some g):=qac (qa9 hgr.out) (qad b2 (some g)) (by rintro d ⟨rfl⟩;exact .inl rfl);refine⟨(HS.out _).mpr ((b2.cell (p:=⟨b,o+k,none⟩) hbw).trans ck),?_⟩;try simp only[Act.put,tA0,tA1,tA2]
    repeat(refine zrd rfl rfl (fun w1 hS=>by rw[HS.out]at hS;go_split_ands;go_simp;(try go_bits);try rfl) ?_;simp only[Act.put,tA0,tA1,tA2])
    have zs:=z2.set_ (64+k) (.int .u32 (rr:Int));rw[qxg,qxd (64+k) rr hrk]at zs;obtain⟨ZS,GS⟩:=zh2 zs (qab (p:=⟨g,64+k,none⟩) gr2 (.inl rfl) (.int .u32 (rr:Int)));have zc:=(z2.cell (64+k)).trans (show _=some (.int .u32 0) by simpa using qxf (qxe (64+k) (by omega)));have zf:=z2.frozen (64+k);refine qbj rfl rfl ?_;go_simp;refine qbg ?_;clear zc zf zs gr2 z2 b2 hgr hz hrk hrr hr hbw ck;go_wp2
    go_roundw
    case rel=>exact⟨k+1,by omega,by go_num,ZS,GS⟩
    case measure=>simp[intOf];omega
   obtain rfl:8=k:=by omega
   have hz':=hz.out;rw[show 64+8=72 from rfl,qxc]at hz';obtain⟨HZ,HB⟩:=zh2 hz' (B1.out.trans (qxm hgr.out (tA4 _) hgw));clear hz' hz hgr;go_wp2
   go_ret
   exact⟨by rw[HG.out];rfl,by rw[HG.out];exact HZ.out,by rw[HG.out];exact HB.out⟩
end
section
open Go.RowKit
theorem qxo (x a:Nat)(w:World)(h:x<4294967296)(a1:1≤a)(a2:a≤31):
 Calls Tryz.prog 228 #[.int .u32 x,.int .u64 a] w fun e w'=>e=.returned (.int .u32 (rotr x a))∧w=w':=by
 obtain⟨s,hs⟩:=xeq (32 - a);have hb:IntKind.u64.wrap (32 - (a:Int))=(s:Int):=by rw[show (32 - (a:Int))=(s:Int) by omega];exact IntWalk.u64_in _ (by omega)
 have hs2:s≤31:=by omega
 have hs3:1≤s:=by omega
 have hm:min s 32=s:=Nat.min_eq_left (by omega);have ha:min a 32=a:=Nat.min_eq_left (by omega);have HS:=zh1 hs;clear hs;go_enter Tryz.func228,Tryz.ntmps228
 go_wp2
 go_ret
 refine⟨?_,rfl⟩;have HS':32 - a=s:=HS;have e1:((x:Int)*2^s % 4294967296)=((x*2^s % 4294967296:Nat):Int):=by
  rw[Int.natCast_emod,Int.natCast_mul,Int.natCast_pow];rfl
 have e3:((x:Int) / 2^a)=((x / 2^a:Nat):Int):=by push_cast;rfl
 first
  |rw[e1,e3,u32_or_nat]
  |rw[hm,ha,e1,e3,u32_or_nat]
 · unfold rotr;rw[HS'];rfl
 · exact Nat.lt_of_le_of_lt (Nat.div_le_self _ _) h
 exact Nat.mod_lt _ (by decide)
theorem qxp {w:World}{g k:Nat}(h:RTab w g)(hk:k<64):w.cell? ⟨g,k,none⟩=some (.int .u32 (Kt.getD k 0:Nat)):=by
 rw[Blk.cell h,qc3 (by rw[qxa];omega)];unfold qx8;rw[List.getD_eq_getElem?_getD,List.getElem?_append_left (by rw[show Kt.length=64 from by decide];omega),←List.getD_eq_getElem?_getD]
theorem qxq {w:World}{g i:Nat}(h:RTab w g)(hi:i<8):w.cell? ⟨g,64+i,none⟩=qc2.vals[i]? :=by
 rw[Blk.cell h,qc3 (by rw[qxa];omega),St.vals_list,qc3 (by simpa [St.list] using hi)];unfold qx8;have l:Kt.length=64:=by decide
 rw[List.getD_eq_getElem?_getD,List.getElem?_append_right (by rw[l];omega),l,show 64+i - 64=i by omega,←List.getD_eq_getElem?_getD]
end
end Go.Proofs.YthomgopipiomhaaGreatDoor

/-
  Lemmas for ModelNumbers, shortened by program.
-/
import Derived.Test.YthomgopipiomhaaGreatDoorBMN02
import Derived.Stop.BytesEq
import Derived.Stop.Asserts
namespace Go.Proofs.YthomgopipiomhaaGreatDoor
set_option linter.unusedVariables false
set_option linter.unusedSimpArgs false
set_option maxRecDepth 100000
set_option maxHeartbeats 32000000
section
open Go.RowKit
open Go.Extern.Stop (cell)
theorem Tryz.tok_info:(Tryz.prog.info? 31).map (·.size)=some 34:=by kernel_rfl
theorem qew (id:Nat)(l:List (Int × Nat))(tag:List Nat)(ht:tag.length=32):(qem id l tag).2.length≤60:=by
 unfold qem;split
 · simp
 split
 · have:=qet l
   simp only[tA6,qaw];omega
 simp
theorem Tryz.cav_info:(Tryz.prog.info? 132).map (fun i=>(i.zero,i.size,i.bytes))=some (some (.agg #[.int .i64 0,.int .u32 0]),2,16):=by kernel_rfl
def OwnC (w:World)(base:Nat)(v:Value)(l:List (Int × Nat)):Prop:=w.ownsRow base 132 2 v l.length (cavv l)
theorem qex (l:List (Int × Nat)):∀u∈cavv l,u.oneCell'=true:=by
 intro u hu;unfold cavv at hu;obtain⟨x,_,hx⟩:=List.mem_flatMap.1 hu;simp at hx;rcases hx with rfl|rfl<;>rfl
theorem qey (a b:List (Int × Nat)):cavv (a++b)=cavv a++cavv b:=by simp[cavv]
theorem qez (l:List (Int × Nat)):(cavv l).length=l.length*2:=by
 unfold cavv;induction l with
 |nil=>rfl
 |cons y l ih=>simp only[List.flatMap_cons,tA6,ih,List.length_cons];simp;omega
section
variable {w w' : World} {base : Nat} {v : Value} {l : List (Int × Nat)}
theorem OwnC.nil (w:World)(base:Nat):OwnC w base (.slice none 0 0) []:=World.ownsRow_nil ..
theorem OwnC.sl (h:OwnC w base v l):∃A n c,v=.slice A n c∧n=l.length∧n≤c∧c≤maxLen∧Reads w w.heap.size 2 A n (cavv l):=by
 obtain⟨A,c,h1,h2,h3,h4⟩:=qaf h;exact⟨A,_,c,h1,rfl,h2,h3,h4⟩
theorem OwnC.kept (h:OwnC w base v l)(hb:Below w.heap.size w w'):OwnC w' base v l:=
 World.ownsRow.kept h ⟨hb.os,hb.tape,hb.output,hb.size,fun k hk _=>hb.block k hk⟩ (row:=none) (by cases v.ownBlock<;>simp)
theorem OwnC.alloc (h:OwnC w base v l)(o:Obj):OwnC (w.alloc o) base v l:=h.kept ((tA5 _ _).alloc (tA4 _) o)
theorem OwnC.mono {base':Nat}(h:OwnC w base v l)(hb:base'≤base):OwnC w base' v l:=qeq h hb
theorem OwnC.made (w:World)(l:List (Int × Nat))(hc:l.length≤maxLen):OwnC (w.alloc (.cells (cavv l).toArray 132)) w.heap.size (.slice (some ⟨w.heap.size,0,none⟩) l.length l.length) l:=by
 exact World.ownsRow_lit (size:=2) (e:=132) w (cavv l).toArray l.length (tA4 _) hc (by simp[qez])
end
theorem qf0 {w:World}{ops:Array Oper}{rest:List Oper}{o:Oper}{a:Act}{Q:Exit→Act→World→Prop}(hgd:o.guard=none)(s x:Operand)
 (ho:o.op=.call {callee:=.builtin .append,args:=#[s,x],argTypes:=#[27,27]})
 (base:Nat)(v:Value)(l:List (Int × Nat))(hs:a.eval s=v)(hown:OwnC w base v l)(A:Option Addr)(m c:Nat)(news:List (Int × Nat))(hx:a.eval x=.slice A m c)(hr:Reads w w.heap.size 2 A m (cavv news))
 (hlen:l.length+m≤8796093022208)(hbase:base≤w.heap.size)
 (h:∀v' w',OwnC w' base v' (l++news)→Below base w w'→w.grownBy w' v.ownBlock→wpList Tryz.prog ops Q rest (a.put o.dst v') w'):wpList Tryz.prog ops Q (o::rest) a w:=by
 obtain⟨i0,hi0,hz0,hz1,hz2⟩:=info_parts Tryz.cav_info;have hm:news.length=m:=by have:=hr.1;rw[qez]at this;omega
 refine qa7 (P:=Tryz.prog) w hgd s x _ ho base 132 i0 _ 2 16 Tryz.underlying27 hi0 hz0 hz1 hz2 rfl (by omega) v l.length (cavv l) hs hown w.heap.size A m c (cavv news) hx hr (qex _) (by simp only[maxLen];omega) (by omega) hbase ?_;intro v' w' h1 h2 h3;refine h v' w' ?_ ?_ h2
 · unfold OwnC
   rw[qey,tA6,hm];exact h1
 exact qae (tA5 _ _) hown h2 (tA4 _) hbase
theorem qf1 (w:World)(a b:List Nat)(ha:a.length=32)(hb:b.length=32)(ha':∀x∈a,x<256)(hb':∀x∈b,x<256):
 (binOp .eql 29 (.agg (byv a).toArray) (.agg (byv b).toArray)).run Tryz.prog w=.ok (.bool (a==b)) w:=by
 have e:∀l:List Nat,(∀x∈l,x<256)→byv l=(l.map UInt8.ofNat).map cell:=by
  intro l hl;unfold byv;rw[List.map_map];refine List.map_congr_left fun x hx=>?_
  have:=hl x hx;simp[cell,Function.comp,UInt8.toNat_ofNat,Nat.mod_eq_of_lt this]
 rw[e a ha',e b hb',run_eql_bytes w 29 5 32 Tryz.underlying29 Tryz.underlying5 (fun _=>by kernel_rfl) _ _ (by simpa using ha) (by simpa using hb)];congr 2
 rw[Bool.eq_iff_iff];simp only[beq_iff_eq];constructor
 ·
  intro h;have key:∀(a b:List Nat),(∀x∈a,x<256)→(∀x∈b,x<256)→a.map UInt8.ofNat=b.map UInt8.ofNat→a=b:=by
   intro a;induction a with
   |nil=>intro b _ _ h;simpa using h.symm
   |cons x a ih=>
    intro b ha hb h;cases b with
    |nil=>simp at h
    |cons y b=>
     simp only[List.map_cons,List.cons.injEq]at h;have h1:=congrArg UInt8.toNat h.1;have hx:=ha x (by simp);have hy:=hb y (by simp);simp[UInt8.toNat_ofNat,Nat.mod_eq_of_lt hx,Nat.mod_eq_of_lt hy]at h1;rw[h1,ih b (fun z hz=>ha z (by simp[hz])) (fun z hz=>hb z (by simp[hz])) h.2]
  exact key a b ha' hb' h
 rintro rfl;rfl
theorem qf3 (id:Nat)(s:Value)(hs:s.oneCell'=true)(tag:List Nat):∀u∈tokv id s tag,u.oneCell'=true:=by
 intro u hu;unfold tokv at hu;simp only[List.mem_cons]at hu;rcases hu with rfl|rfl|hu
 · rfl
 · exact hs
 exact qau _ u hu
theorem Blk.setCells {g:Nat}{t:TypeId}:∀(cs:List Value) (o:Nat) (w:World) (l:List Value),Blk w g t l.toArray→o+cs.length≤l.length→Blk (w.setCells g o cs) g t (l.take o++(cs++l.drop (o+cs.length))).toArray
 |[],o,w,l,h,_=>by simpa [World.setCells] using h
 |v::r,o,w,l,h,hl=>by
  have h1:=h.set_ o v;rw[List.setIfInBounds_toArray]at h1;have h2:=Blk.setCells r (o+1) _ _ h1 (by simp at hl ⊢;omega);rw[World.setCells];have ho:o<l.length:=by simp at hl;omega
  have e:(l.set o v).take (o+1)++(r++(l.set o v).drop (o+1+r.length))=l.take o++(v::r++l.drop (o+(v::r).length)):=by
   rw[List.take_succ_eq_append_getElem (by simpa using ho),List.take_set_of_le (tA4 o),List.getElem_set_self,List.drop_set_of_lt (by omega)];simp[Nat.add_assoc,Nat.add_comm 1]
  rw[e]at h2;exact h2
theorem qf4 (g:Nat):∀(cs:List Value) (o:Nat) (w:World),w.grownBy (w.setCells g o cs) (some g)
 |[],_,w=>World.grownBy.refl w _
 |v::r,o,w=>by
  have h1:=qab (World.grownBy.refl w (some g)) (p:=⟨g,o,none⟩) (.inl rfl) v;have h2:=qf4 g r (o+1) (w.setCell ⟨g,o,none⟩ v);rw[World.setCells];exact⟨h2.os.trans h1.os,h2.tape.trans h1.tape,h2.output.trans h1.output,Nat.le_trans h1.size h2.size,fun i hi hne=>(h2.block i (Nat.lt_of_lt_of_le hi h1.size) hne).trans (h1.block i hi hne)⟩
theorem qf5 {w:World}{g:Nat}{t:TypeId}{l:List Value}(h:Blk w g t l.toArray)(o n:Nat)(hn:o+n≤l.length):w.there g o n:=fun j hj=>by
 refine⟨?_,h.frozen _⟩;rw[h.cell];simp;omega
end
section
open Go.RowKit
abbrev RSt:=Nat × Option (Nat × Nat)
def qf6 (s:RSt)(a y:Nat):RSt:=match s.2 with
 |none=>(s.1,some (a,y))
 |some _=>s
def qf7 (bs:List Nat)(s:RSt)(n:Nat):RSt × List Nat:=match s.2 with
 |some _=>(s,[])
 |none=>if n≤bs.length - s.1 then((s.1+n,none),(bs.drop s.1).take n) else((s.1,some (bs.length,10)),[])
def num (l:List Nat):Nat:=l.foldl (fun n c=>n*256+c) 0
def rNum (bs:List Nat)(s:RSt)(k:Nat):RSt × Nat:=((qf7 bs s k).1,num (qf7 bs s k).2)
def rEnd (bs:List Nat)(s:RSt):Option (Nat × Nat):=match s.2 with
 |some x=>some x
 |none=>if s.1<bs.length then some (s.1,11) else none
def RNo (w:World)(B:Nat)(p:Option Addr):Option (Nat × Nat)→Prop
 |none=>p=none
 |some x=>∃h,p=some ⟨h,0,none⟩∧B≤h∧Blk w h 302 #[.int .i64 (x.1:Int),.int .i64 (x.2:Int)]
def Rd (w:World)(B g:Nat)(bs:List Nat)(s:RSt):Prop:=
 ∃A n c p,Blk w g 239 #[.slice A n c,.int .i64 (s.1:Int),.pointer p]∧B≤g∧OwnB w B (.slice A n c) bs∧n=bs.length∧n≤c∧s.1≤n∧n≤140737488355328∧RNo w B p s.2
theorem RNo.kept {w w':World}{B:Nat}{p:Option Addr}{x:Option (Nat × Nat)}{row:Option Nat}(h:RNo w B p x)(hg:w.grownBy w' row)(hr:∀k cs,row=some k→¬Blk w k 302 cs):RNo w' B p x:=by
 cases x with
 |none=>exact h
 |some x=>
  obtain⟨k,e,hB,hk⟩:=h;exact⟨k,e,hB,hk.grown hg fun e=>hr k _ e.symm hk⟩
theorem Rd.kept {w w':World}{B g:Nat}{bs:List Nat}{s:RSt}{k:Nat}{t:TypeId}{cs:Array Value}(h:Rd w B g bs s)(hg:w.grownBy w' (some k))(hk:Blk w k t cs)(h1:t≠302)(h2:5≠t)(h3:g≠k):Rd w' B g bs s:=by
 obtain⟨A,n,c,p,hb,hB,ho,hn,hc,hs,hm,hp⟩:=h;refine⟨A,n,c,p,hb.grown hg (fun e=>h3 (by injection e)),hB,World.ownsRow.kept ho hg (.inr (qa3 ho hk h2)),hn,hc,hs,hm,hp.kept hg ?_⟩;rintro k' cs' e hk';injection e with e;subst e;exact hk.ne_ hk' h1 rfl
theorem Rd.below {w w':World}{B g:Nat}{bs:List Nat}{s:RSt}(h:Rd w B g bs s)(hb:Below w.heap.size w w'):Rd w' B g bs s:=by
 obtain⟨A,n,c,p,hg,hB,ho,hn,hc,hs,hm,hp⟩:=h;exact⟨A,n,c,p,hg.below hb hg.lt,hB,ho.kept hb,hn,hc,hs,hm,hp.kept (qad hb none) (fun _ _ e=>by cases e)⟩
theorem Rd.grown {w w':World}{B g base:Nat}{bs:List Nat}{s:RSt}{v:Value}{l:List (Int × Nat)}(h:Rd w B g bs s)(ho:OwnC w base v l)(hg:w.grownBy w' v.ownBlock):Rd w' B g bs s:=by
 rcases ho.2 with⟨rfl,_⟩|⟨q,cap,cur,rfl,_,hh,_⟩
 · exact h.below ⟨hg.os,hg.tape,hg.output,hg.size,fun k hk=>hg.block k hk (by simp[Value.ownBlock])⟩
 obtain⟨A,n,c,p,hgb,-⟩:=id h;exact h.kept (k:=q) (by simpa [Value.ownBlock] using hg) (show Blk w q 132 cur from hh) (by decide) (by decide) (hgb.ne_ (show Blk w q 132 cur from hh) (by decide))
theorem Rd.lt {w:World}{B g:Nat}{bs:List Nat}{s:RSt}(h:Rd w B g bs s):g<w.heap.size:=by
 obtain⟨A,n,c,p,hg,-⟩:=h;exact hg.lt
theorem Rd.le {w:World}{B g:Nat}{bs:List Nat}{s:RSt}(h:Rd w B g bs s):B≤g:=by
 obtain⟨A,n,c,p,hg,hB,-⟩:=h;exact hB
theorem qf8 {w w':World}{g B:Nat}(h:w.grownBy w' (some g))(hB:B≤g)(hg:g<w.heap.size):Below B w w':=
 ⟨h.os,h.tape,h.output,h.size,fun k hk=>h.block k (by omega) (fun e=>by injection e;omega)⟩
theorem qf9 (bs:List Nat)(A:Option Addr)(n c:Nat)(w:World)(hr:Reads w w.heap.size 1 A n (byv bs))(hn:n≤140737488355328):
 Calls Tryz.prog 68 #[.slice A n c] w fun e w'=>∃g,e=.returned (.pointer (some ⟨g,0,none⟩))∧Rd w' w.heap.size g bs (0,none)∧Below w.heap.size w w':=by
 have hl:=qb5 hr;go_enter Tryz.func68,Tryz.ntmps68
 go_wp2_with fail
 refine(qef A n c w.heap.size (byv bs) w hr (qau _) hn).mono ?_;rintro e w1 ⟨v,rfl,own1,b1⟩;obtain⟨A1,c1,rfl,hc1,-,-⟩:=qaf own1;go_wp2
 go_ret
 subst hl;exact⟨_,rfl,⟨A1,_,c1,none,Blk.new _ _ _,b1.size,OwnB.alloc own1 _,rfl,hc1,Nat.zero_le _,hn,rfl⟩,qah b1 _⟩
theorem qfa (B g:Nat)(bs:List Nat)(s:RSt)(a y:Nat)(w:World)(h:Rd w B g bs s)(hy:y≠0):
 Calls Tryz.prog 149 #[.pointer (some ⟨g,0,none⟩),.int .i64 a,.int .i64 y] w fun e w'=>e=.returned (.tuple #[])∧Rd w' B g bs (qf6 s a y)∧w.grownBy w' (some g):=by
 obtain⟨s1,s2⟩:=s;obtain⟨A,n,c,p,hg,hB,ho,hn,hc,hs,hm,hp⟩:=h;have c2:=hg.cell 2;rw[show (#[Value.slice A n c,.int .i64 (s1:Int),.pointer p]:Array Value)[2]? =some (.pointer p) from rfl]at c2;have f2:=hg.frozen 2;have hy':¬(y:Int)=0:=by omega
 have hlt:=hg.lt;obtain⟨HG,HO⟩:=zh2 hg ho;clear hg ho;cases s2 with
 |none=>
  obtain rfl:p=none:=hp;go_enter Tryz.func149,Tryz.ntmps149
  go_wp2
  go_end0
  refine⟨rfl,⟨A,n,c,some ⟨w.heap.size,0,none⟩,?_,hB,?_,hn,hc,hs,hm,?_⟩,?_⟩
  · exact(HG.out.set_ 2 _).alloc _
  · exact(OwnB.far HO.out (p:=⟨g,2,none⟩) (OwnB.blk_ne HO.out HG.out (by decide)) _).alloc _
  · exact⟨_,rfl,by omega,by simpa using Blk.new (w.setCell ⟨g,2,none⟩ (.pointer (some ⟨w.heap.size,0,none⟩))) 302 #[.int .i64 (a:Int),.int .i64 (y:Int)]⟩
  exact qaa (qab (World.grownBy.refl _ _) (.inl rfl) _) _
 |some x=>
  obtain⟨k,rfl,hk,hkb⟩:=hp;have HK:=zh1 hkb;clear hkb;go_enter Tryz.func149,Tryz.ntmps149
  go_wp2
  go_end0
  exact⟨rfl,⟨A,n,c,_,HG.out,hB,HO.out,hn,hc,hs,hm,⟨k,rfl,hk,HK.out⟩⟩,World.grownBy.refl _ _⟩
theorem qfb (B g:Nat)(bs:List Nat)(s:RSt)(y:Nat)(w:World)(h:Rd w B g bs s)(hy:y≠0):
 Calls Tryz.prog 72 #[.pointer (some ⟨g,0,none⟩),.int .i64 y] w fun e w'=>e=.returned (.tuple #[])∧Rd w' B g bs (qf6 s s.1 y)∧w.grownBy w' (some g):=by
 have h':=h;obtain⟨A,n,c,p,hg,-⟩:=h';have c1:=hg.cell 1;rw[show (#[Value.slice A n c,.int .i64 (s.1:Int),.pointer p]:Array Value)[1]? =some (.int .i64 (s.1:Int)) from rfl]at c1;have H:=zh1 h;clear h hg;go_enter Tryz.func72,Tryz.ntmps72
 go_wp2_with fail
 refine(qfa B g bs s s.1 y w H.out hy).mono ?_;rintro e w1 ⟨rfl,h1,g1⟩;go_wp2
 go_end0
 exact⟨rfl,h1,g1⟩
theorem qfc (B g:Nat)(bs:List Nat)(s:RSt)(m:Nat)(w:World)(h:Rd w B g bs s)(hm1:m≤140737488355328):
 Calls Tryz.prog 147 #[.pointer (some ⟨g,0,none⟩),.int .i64 m] w fun e w'=>∃A n c,e=.returned (.slice A n c)∧n≤c∧Reads w' w'.heap.size 1 A n (byv (qf7 bs s m).2)∧Rd w' B g bs (qf7 bs s m).1∧w.grownBy w' (some g):=by
 have h':=h;obtain⟨s1,s2⟩:=s;obtain⟨A,n,c,p,hg,hB,ho,hn,hc,hs,hm,hp⟩:=h';have c0:=hg.cell 0;have c1:=hg.cell 1;have c2:=hg.cell 2;have f1:=hg.frozen 1;rw[show (#[Value.slice A n c,.int .i64 (s1:Int),.pointer p]:Array Value)[0]? =some (.slice A n c) from rfl]at c0;rw[show (#[Value.slice A n c,.int .i64 (s1:Int),.pointer p]:Array Value)[1]? =some (.int .i64 (s1:Int)) from rfl]at c1;rw[show (#[Value.slice A n c,.int .i64 (s1:Int),.pointer p]:Array Value)[2]? =some (.pointer p) from rfl]at c2;obtain⟨H,HG,HO,HN,HP⟩:=zh5 h hg ho hn hp;clear hg ho h hn hp;dsimp only at hs;cases s2 with
 |some x=>
  obtain⟨k,rfl,hk,hkb⟩:=HP.out;clear hkb;go_enter Tryz.func147,Tryz.ntmps147
  go_wp2
  go_ret
  exact⟨none,0,0,rfl,tA4 _,Reads.none_,H.out,World.grownBy.refl _ _⟩
 |none=>
  obtain rfl:p=none:=HP.out;by_cases hmn:m≤n - s1
  ·
   have q1:¬(m:Int)>n - s1:=by omega
   have hr:qf7 bs (s1,none) m=((s1+m,none),(bs.drop s1).take m):=by
    show (if m≤bs.length - s1 then _ else _)=_;rw[←HN.out,if_pos hmn]
   have HR:=zh1 hr;have q2:(s1:Int)+m≤n:=by omega
   clear hr;go_enter Tryz.func147,Tryz.ntmps147
   go_wp2
   obtain⟨S,HS⟩:∃S:World→Prop,Hid (∀w',S w'=(w'.cell? ⟨g,0,none⟩=some (.slice A n c)∧w'.cell? ⟨g,1,none⟩=some (.int .i64 (s1:Int)))):=⟨_,fun _=>rfl⟩;refine zrs S 12 [(0,false),(1,false),(2,false),(3,false),(4,false),(5,false),(6,false),(7,false),(8,false),(9,false),(10,false),(11,false)] ((HS.out _).mpr ⟨c0,c1⟩) ?_;repeat(refine zrd rfl rfl (fun w1 hS=>by rw[HS.out]at hS;go_split_ands;go_simp;(try go_bits);try rfl) ?_;simp only[Act.put,tA0,tA1,tA2])
   refine qbg ?_;go_upto_region 7 with(fail)
   obtain⟨W1,hW1⟩:=eqx (w.setCell ⟨g,1,none⟩ (.int .i64 ((s1:Int)+m)));have hd:(w.setCell ⟨g,1,none⟩ (.int .i64 ((s1:Int)+m))).drew=W1.drew:=by rw[hW1]
   rw[hd];have hg1:=HG.out.set_ 1 (.int .i64 ((s1:Int)+m));rw[←hW1]at hg1;have k0:W1.cell? ⟨g,0,none⟩=some (.slice A n c):=hg1.cell 0;have k1:W1.cell? ⟨g,1,none⟩=some (.int .i64 ((s1:Int)+m)):=hg1.cell 1;have e1:(s1:Int)+m - m=s1:=by omega
   clear c0 c1 c2 f1 HS;obtain⟨S',HS⟩:∃S:World→Prop,Hid (∀w',S w'=(w'.cell? ⟨g,0,none⟩=some (.slice A n c)∧w'.cell? ⟨g,1,none⟩=some (.int .i64 ((s1:Int)+m)))):=⟨_,fun _=>rfl⟩;refine zrs S' 16 [(0,false),(1,false),(2,false),(3,false),(4,false),(5,false),(6,false),(7,false),(8,false),(9,false),(10,false),(11,false),(12,false),(13,false),(14,false),(15,false)] ((HS.out _).mpr ⟨k0,k1⟩) ?_;repeat(refine zrd rfl rfl (fun w1 hS=>by rw[HS.out]at hS;go_split_ands;go_simp;(try go_bits);try rfl) ?_;simp only[Act.put,tA0,tA1,tA2])
   obtain⟨A2,hA2⟩:∃A2,(if c=s1 then A else Option.map (fun x=>x.add s1) A)=A2:=⟨_,rfl⟩;obtain⟨C2,hC2⟩:=xeq (c - s1);refine qbh rfl rfl ⟨.slice A2 m C2,fun w1 hS=>?_,?_⟩
   · rw[HS.out]at hS
     go_split_ands
     go_simp;rw[if_pos ⟨by omega,by omega⟩,if_pos (by omega),show ((s1:Int)+m).toNat - s1=m by omega]
   obtain⟨A0,A1⟩:=zh2 hA2 hC2;clear hA2 hC2;simp only[Act.put,tA0,tA1,tA2];repeat(refine zrd rfl rfl (fun w1 hS=>by rw[HS.out]at hS;go_split_ands;go_simp;(try go_bits);try rfl) ?_;simp only[Act.put,tA0,tA1,tA2])
   refine qbg ?_;go_wp2
   go_ret
   have own1:OwnB W1 B (.slice A n c) bs:=by
    rw[hW1];exact OwnB.far HO.out (p:=⟨g,1,none⟩) (OwnB.blk_ne HO.out HG.out (by decide)) _
   obtain⟨A',c',e,-,-,rd⟩:=OwnB.slice own1;rw[←HN.out]at e rd;injection e with e _ _;subst e;have rd2:=(rd.cut (k:=s1) (cap:=c) hs hc).pre (k:=m) (by omega);rw[Nat.mul_one]at rd2;rw[A0.out]at rd2;refine⟨A2,m,C2,rfl,by have:=A1.out;omega,?_,?_,?_⟩
   · rw[HR.out,show byv ((bs.drop s1).take m)=((byv bs).drop s1).take m by simp[byv]]
     exact rd2
   · rw[HR.out]
     exact⟨A,n,c,none,hg1,hB,own1,HN.out,hc,by dsimp only;omega,hm,rfl⟩
   rw[hW1];exact qa9 (qa9 (qab (g:=g) (p:=⟨g,1,none⟩) (World.grownBy.refl w _) (.inl rfl) _))
  have q1:(m:Int)>n - s1:=by omega
  have hr:qf7 bs (s1,none) m=((s1,some (n,10)),[]):=by
   show (if m≤bs.length - s1 then _ else _)=_;rw[←HN.out,if_neg hmn]
  have HR:=zh1 hr;clear hr;go_enter Tryz.func147,Tryz.ntmps147
  go_wp2
  obtain⟨S,HS⟩:∃S:World→Prop,Hid (∀w',S w'=(w'.cell? ⟨g,0,none⟩=some (.slice A n c)∧w'.cell? ⟨g,1,none⟩=some (.int .i64 (s1:Int)))):=⟨_,fun _=>rfl⟩;refine zrs S 12 [(0,false),(1,false),(2,false),(3,false),(4,false),(5,false),(6,false),(7,false),(8,false),(9,false),(10,false),(11,false)] ((HS.out _).mpr ⟨c0,c1⟩) ?_;repeat(refine zrd rfl rfl (fun w1 hS=>by rw[HS.out]at hS;go_split_ands;go_simp;(try go_bits);try rfl) ?_;simp only[Act.put,tA0,tA1,tA2])
  refine qbg ?_;go_wp2_with fail
  refine(qfa B g bs (s1,none) n 10 w.drew H.out (by decide)).mono ?_;rintro _ w1 ⟨rfl,h1,g1⟩;go_wp2
  go_ret
  exact⟨none,0,0,rfl,tA4 _,by rw[HR.out];exact Reads.none_,by rw[HR.out];exact h1,⟨g1.os,g1.tape,g1.output,g1.size,g1.block⟩⟩
theorem qfd (l:List Nat)(c:Nat):num (l++[c])=num l*256+c:=by simp[num]
theorem qfe (l:List Nat)(h:∀x∈l,x<256):num l<256^l.length:=by
 have key:∀k,num (l.take k)<256^(l.take k).length:=by
  intro k;induction k with
  |zero=>simp[num]
  |succ k ih=>
   by_cases hk:k<l.length
   · rw[List.take_add_one,tA7 hk,Option.toList_some,qfd,tA6]
     have:=h _ (List.getElem_mem hk);rw[List.length_singleton,Nat.pow_succ];omega
   rw[List.take_of_length_le (by omega)]at ih ⊢;exact ih
 simpa [List.take_length] using key l.length
theorem or64 (n c:Nat)(hn:n<72057594037927936)(hc:c<256):bits .or .u64 ((n:Int)*256) (c:Int)=((n*256+c:Nat):Int):=by
 have e:n*256+c=(n*256)|||c:=by
  have:=Nat.two_pow_add_eq_or_of_lt (i:=8) (b:=c) (by simpa using hc) n;rw[Nat.mul_comm];exact this
 have h1:(n*256:Nat)<2^64:=by omega
 have h2:((n*256)|||c)<2^64:=Nat.or_lt_two_pow h1 (by omega);rw[e,show ((n:Int)*256)=((n*256:Nat):Int) by push_cast;rfl];show IntKind.u64.wrap ((BitVec.ofInt 64 ((n*256:Nat):Int)|||BitVec.ofInt 64 (c:Int)).toNat:Int)=_;rw[BitVec.toNat_or,BitVec.ofInt_natCast,BitVec.ofInt_natCast,BitVec.toNat_ofNat,BitVec.toNat_ofNat,Nat.mod_eq_of_lt h1,Nat.mod_eq_of_lt (show c<2^64 by omega),IntKind.wrap_u64];omega
theorem qff (bs:List Nat)(s:RSt)(m:Nat):(qf7 bs s m).2.length≤m:=by
 unfold qf7;split
 · simp
 split
 · simp;omega
 simp
theorem qfg (bs:List Nat)(s:RSt)(m:Nat)(h:∀x∈bs,x<256):∀x∈(qf7 bs s m).2,x<256:=by
 unfold qf7;split
 · simp
 split
 · intro x hx
   exact h x (List.mem_of_mem_drop (List.mem_of_mem_take hx))
 simp
theorem qfh (bs:List Nat)(s:RSt)(m:Nat)(h:∀x∈bs,x<256):(rNum bs s m).2<256^m:=
 Nat.lt_of_lt_of_le (qfe _ (qfg bs s m h)) (Nat.pow_le_pow_right (by omega) (qff bs s m))
theorem qfi (B g:Nat)(bs:List Nat)(s:RSt)(k:Int)(w:World)(h:Rd w B g bs s)(hb:∀x∈bs,x<256):
 Calls Tryz.prog 69 #[.pointer (some ⟨g,0,none⟩),.int .i64 k] w fun e w'=>e=.returned (.int .u64 (rNum bs s (qb0 k)).2)∧Rd w' B g bs (rNum bs s (qb0 k)).1∧w.grownBy w' (some g):=by
 obtain⟨hs1,hs8⟩:=qb1 k;go_enter Tryz.func69,Tryz.ntmps69
 go_wp2_with fail
 refine(qec _ _).mono ?_;rintro e w' ⟨rfl,rfl⟩;obtain⟨z,hz⟩:=xeq (qb0 k);rw[hz]at hs1 hs8 ⊢;have HZ:=zh1 hz;clear hz;go_wp2_with fail
 refine(qfc B g bs s z w h (by omega)).mono ?_;rintro e w1 ⟨A,n,c,rfl,hnc,rd,h1,g1⟩;have hlt:=qfg bs s z hb;have hle:=qff bs s z;have HX:Hid (rNum bs s z=((qf7 bs s z).1,num (qf7 bs s z).2)):=rfl;obtain⟨T,hT⟩:=xeq ((qf7 bs s z).2);obtain⟨s',hs'⟩:=xeq ((qf7 bs s z).1);rw[hT]at rd hlt hle HX;rw[hs']at h1 HX;have hl:=qb5 rd;have hn8:n≤8:=by omega
 obtain⟨A1,H1,G1,HL⟩:=zh4 rd h1 g1 hl;clear rd h1 g1 hT hs' h hl;go_wp2
 obtain⟨wo,rfl⟩:=eqx w1;go_loopw [5,13] (fun v i wr=>∃j:Nat,j≤n∧i=.int .i64 j∧v=.int .u64 (num (T.take j):Nat)∧wr=wo) (fun _ i _=>n - (intOf i).toNat)
 case atStart=>exact⟨0,by omega,rfl,rfl,rfl⟩
 case round=>
  obtain⟨j,hj,rfl,rfl,rfl⟩:=hrel;by_cases hjn:j<n
  ·
   have qk:(j:Int)<n:=by omega
   obtain⟨x,hx⟩:∃x,T[j]? =some x:=⟨_,tA7 (by rw[HL.out];exact hjn)⟩;obtain⟨gb,go,hA,hgb,hrd⟩:=A1.out.mid (by omega) (by omega);have m0:=hrd j (.int .u8 x) (by simp[byv,hx]);subst hA;have hx256:x<256:=hlt x (List.mem_of_getElem? hx);have hxx:IntKind.u64.wrap (x:Int)=x:=IntWalk.u64_in _ (by omega);have hnl:=qfe (T.take j) (fun y hy=>hlt y (List.mem_of_mem_take hy));have hpow:256^(T.take j).length≤256^7:=Nat.pow_le_pow_right (by omega) (by rw[List.length_take];have:=HL.out;omega);have hnew:num (T.take (j+1))=num (T.take j)*256+x:=by rw[List.take_add_one,hx];exact qfd _ _
   obtain⟨y,hy⟩:=xeq (num (T.take j));rw[hy]at hnl hnew ⊢;have hy56:y<72057594037927936:=by omega
   have hor:=or64 y x hy56 hx256;have A0:=zh1 hnew;clear hnl hpow hnew hy hrd hx;have HJ:=zh1 hjn;go_wp2
   go_roundw
   case rel=>exact⟨j+1,HJ.out,by go_num,by rw[A0.out];push_cast;rfl,by first|rfl|trivial⟩
   case measure=>have:=HJ.out;simp[intOf];omega
  have qk:¬(j:Int)<n:=by omega
  rw[List.take_of_length_le (by rw[HL.out];omega)];go_wp2
  go_ret
  exact⟨by rw[HZ.out,HX.out];rfl,by rw[HZ.out,HX.out];exact H1.out,G1.out⟩
def rDig (bs:List Nat)(s:RSt):RSt × List Nat:=((qf7 bs s 32).1,(qf7 bs s 32).2++List.replicate (32 - (qf7 bs s 32).2.length) 0)
theorem qfj (bs:List Nat)(s:RSt):(rDig bs s).2.length=32:=by
 have:=qff bs s 32;simp[rDig];omega
theorem qfk (bs:List Nat)(s:RSt)(h:∀x∈bs,x<256):∀x∈(rDig bs s).2,x<256:=by
 intro x hx;simp only[rDig,List.mem_append,List.mem_replicate]at hx;rcases hx with hx|⟨-,rfl⟩
 · exact qfg bs s 32 h x hx
 omega
theorem qfl (B g:Nat)(bs:List Nat)(s:RSt)(w:World)(h:Rd w B g bs s):
 Calls Tryz.prog 71 #[.pointer (some ⟨g,0,none⟩)] w fun e w'=>e=.returned (.agg (byv (rDig bs s).2).toArray)∧Rd w' B g bs (rDig bs s).1∧w.grownBy w' (some g):=by
 have hX:rDig bs s=((qf7 bs s 32).1,(qf7 bs s 32).2++List.replicate (32 - (qf7 bs s 32).2.length) 0):=rfl;have hle:=qff bs s 32;have T2:=fun w h=>qfc B g bs s 32 w h (by omega)
 obtain⟨T,hT⟩:=xeq ((qf7 bs s 32).2);obtain⟨s',hs'⟩:=xeq ((qf7 bs s 32).1);rw[hT]at hle;rw[hT,hs']at hX;simp only[hT,hs']at T2;obtain⟨HX,A0,H⟩:=zh3 hX T2 h;have hlt:=h.lt;clear hX T2 hT hs' h;obtain⟨W0,hW0⟩:=eqx ((w.alloc (.cells zLD 29)).alloc (.cells zLD 29));have r0:Blk W0 w.heap.size 29 zLD:=by rw[hW0];exact(Blk.new w _ _).alloc _
 have d0:Blk W0 (w.heap.size+1) 29 zLD:=by
  have h:=Blk.new (w.alloc (.cells zLD 29)) 29 zLD;rw[qar]at h;rw[hW0];exact h
 have b0:Below w.heap.size w W0:=by rw[hW0];exact qah (qah (tA5 _ _) _) _
 obtain⟨R0,D0,B0,A1⟩:=zh4 r0 d0 b0 hW0;clear r0 d0 b0 hW0;go_enter Tryz.func71,Tryz.ntmps71
 go_upto_region 2 with(fail)
 rw[←A1.out];obtain⟨S,HS⟩:∃S:World→Prop,Hid (∀w',S w'):=⟨fun _=>True,fun _=>trivial⟩;refine zrs S 3 [(0,false),(1,false),(2,true),(3,true)] (HS.out _) ?_;iterate 2 (refine zrd rfl rfl (fun w1 hS=>by go_simp;(try go_bits);try rfl) ?_;simp only[Act.put,tA0,tA1,tA2])
 refine qbj rfl rfl ?_;go_simp;refine(A0.out W0.drew (H.out.below B0.out.drew)).mono ?_;rintro e w1 ⟨A,n,c,rfl,hnc,rd,h1,g1⟩;refine⟨HS.out _,?_⟩;try simp only[Act.put,tA0,tA1,tA2]
 have hl:=qb5 rd;have d1:=D0.out.grown (w:=W0.drew) g1 (by simp;omega);have r1:=R0.out.grown (w:=W0.drew) g1 (by simp;omega);refine qbj rfl rfl ?_;refine qd6 (.tmp 4) (.tmp 6) 23 23 rfl 5 (by kernel_rfl) (by kernel_rfl) _ _ _ _ _ _ rfl rfl (w.heap.size+1) 0 (byv (List.replicate 32 0)) 29 d1 (byv T) (by rw[qat,hl];show n=min n 32;omega) (fun h0=>⟨rfl,?_⟩) (by rw[qat,qat,List.length_replicate];omega) (qau _) ?_
 · obtain⟨ad,e,-,hc⟩:=rd.2 (by rw[qat]at h0;omega)
   exact⟨ad,e,hc⟩
 intro w2 HG2 g2;rw[show (byv T).length=n by rw[qat,hl]];refine⟨fun _=>HS.out _,?_⟩;try simp only[Act.put,tA0,tA1,tA2]
 refine qbg ?_;have d2:Blk w2 (w.heap.size+1) 29 (byv (T++List.replicate (32 - T.length) 0)).toArray:=by
  have h:=HG2.out;rw[qd4]at h;exact h
 have r2:=r1.grown g2 (by simp);have h2:Rd w2 B g bs s':=h1.kept g2 d1 (by decide) (by decide) (by omega);obtain⟨D,hD⟩:=xeq (T++List.replicate (32 - T.length) 0);have lD:(byv D).length=32:=by rw[qat,←hD];simp;omega
 have oD:=qau D;rw[hD]at d2 HX;obtain⟨A2,HI,HI',R2,D2,H2,G1,G2⟩:=zh8 (qap d2 0 (byv D) (fun j u h=>by simpa using h)) (show (Tryz.prog.info? 29).map (·.size)=some (byv D).length by rw[lD];exact Tryz.dig_info) (show (Tryz.prog.info? 29).map (·.size)=some (byv D).toArray.size by rw[List.size_toArray,lD];exact Tryz.dig_info) r2 d2 h2 g1 g2;obtain⟨LD,OD⟩:=zh2 lD oD;clear r2 d2 h2 g1 g2 d1 r1 lD oD rd h1 hD HG2;go_wp2_with (first
  |(refine qaq rfl 29 (.tmp 3) rfl (w.heap.size+1) 0 rfl (byv D) _ A2.out Tryz.underlying29 rfl HI.out ?_)
  |(refine wpList_store_row rfl 29 (.tmp 2) (.tmp 8) rfl w.heap.size (byv D).toArray rfl rfl 29 _ R2.out HI'.out (by simp[LD.out]) (by simpa using OD.out) ?_))
 have z8:=R2.out.setRow (byv D).toArray;have A3:=qap z8 0 (byv D) (fun j u h=>by simpa using h);refine bodyPost_ret (v:=.agg (byv D).toArray) (qao rfl rfl (run_loadVar_mid _ _ 0 _ (byv D) _ A3 Tryz.underlying29 rfl (by simpa using HI.out))) rfl ⟨by rw[HX.out],?_,?_⟩
 · rw[HX.out]
   exact H2.out.kept (qam _ _ _) R2.out (by decide) (by decide) (by omega)
 have q1:=qac (qad B0.out.drew (some g)) (row:=some g) G1.out (by simp);have q2:=qac q1 G2.out (by simp);exact qac q2 (qam w2 w.heap.size _) (by simp)
def RErr (w:World)(B:Nat)(v:Value):Option (Nat × Nat)→Prop
 |none=>v=.nilIface
 |some x=>∃h,v=.iface 237 (.pointer (some ⟨h,0,none⟩))∧B≤h∧Blk w h 302 #[.int .i64 (x.1:Int),.int .i64 (x.2:Int)]
theorem qfm (B g:Nat)(bs:List Nat)(s:RSt)(w:World)(h:Rd w B g bs s):
 Calls Tryz.prog 151 #[.pointer (some ⟨g,0,none⟩)] w fun e w'=>∃v,e=.returned v∧RErr w' w.heap.size v (rEnd bs s)∧Below w.heap.size w w':=by
 obtain⟨s1,s2⟩:=s;obtain⟨A,n,c,p,hg,hB,ho,hn,hc,hs,hm,hp⟩:=h;have c0:=hg.cell 0;have c1:=hg.cell 1;have c2:=hg.cell 2;rw[show (#[Value.slice A n c,.int .i64 (s1:Int),.pointer p]:Array Value)[0]? =some (.slice A n c) from rfl]at c0;rw[show (#[Value.slice A n c,.int .i64 (s1:Int),.pointer p]:Array Value)[1]? =some (.int .i64 (s1:Int)) from rfl]at c1;rw[show (#[Value.slice A n c,.int .i64 (s1:Int),.pointer p]:Array Value)[2]? =some (.pointer p) from rfl]at c2;dsimp only at hs;have hlt:=hg.lt;cases s2 with
 |some x=>
  obtain⟨a,y⟩:=x;obtain⟨k,rfl,hk,hkb⟩:=hp;have k0:=hkb.cell 0;have k1:=hkb.cell 1;rw[show (#[Value.int .i64 (a:Int),.int .i64 (y:Int)]:Array Value)[0]? =some (.int .i64 (a:Int)) from rfl]at k0;rw[show (#[Value.int .i64 (a:Int),.int .i64 (y:Int)]:Array Value)[1]? =some (.int .i64 (y:Int)) from rfl]at k1;have hklt:=hkb.lt;clear hkb hg ho;go_enter Tryz.func151,Tryz.ntmps151
  go_wp2
  obtain⟨S,HS⟩:∃S:World→Prop,Hid (∀w',S w'=(w'.cell? ⟨g,2,none⟩=some (.pointer (some ⟨k,0,none⟩))∧w'.cell? ⟨k,0,none⟩=some (.int .i64 (a:Int))∧w'.cell? ⟨k,1,none⟩=some (.int .i64 (y:Int)))):=⟨_,fun _=>rfl⟩;refine zrs S 18 [(0,false),(1,false),(2,false),(3,false),(4,false),(5,false),(6,false),(7,false),(8,false),(9,false),(10,false),(11,false),(12,false),(13,false),(14,false),(15,true),(16,false),(17,false)] ((HS.out _).mpr ⟨c2,k0,k1⟩) ?_;repeat(refine zrd rfl rfl (fun w1 hS=>by rw[HS.out]at hS;go_split_ands;go_simp;(try go_bits);try rfl) ?_;simp only[Act.put,tA0,tA1,tA2])
  refine qbj rfl rfl ?_;go_simp;refine⟨(HS.out _).mpr ⟨qaj c2 _,qaj k0 _,qaj k1 _⟩,?_⟩;try simp only[Act.put,tA0,tA1,tA2]
  repeat(refine zrd rfl rfl (fun w1 hS=>by rw[HS.out]at hS;go_split_ands;go_simp;(try go_bits);try rfl) ?_;simp only[Act.put,tA0,tA1,tA2])
  refine qbg ?_;go_wp2
  go_ret
  exact⟨_,rfl,⟨_,rfl,tA4 _,Blk.new _ _ _⟩,qah (tA5 _ _).drew _⟩
 |none=>
  obtain rfl:p=none:=hp;by_cases hlt2:s1<n
  ·
   have q:(s1:Int)<n:=by omega
   have HE:Hid (rEnd bs (s1,none)=some (s1,11)):=by
    show (if s1<bs.length then _ else _)=_;rw[←hn,if_pos hlt2]
   clear hg ho hn;go_enter Tryz.func151,Tryz.ntmps151
   go_wp2
   obtain⟨S,HS⟩:∃S:World→Prop,Hid (∀w',S w'=(w'.cell? ⟨g,0,none⟩=some (.slice A n c)∧w'.cell? ⟨g,1,none⟩=some (.int .i64 (s1:Int)))):=⟨_,fun _=>rfl⟩;refine zrs S 11 [(0,false),(1,false),(2,false),(3,false),(4,false),(5,false),(6,false),(7,false),(8,false),(9,false),(10,false)] ((HS.out _).mpr ⟨c0,c1⟩) ?_;repeat(refine zrd rfl rfl (fun w1 hS=>by rw[HS.out]at hS;go_split_ands;go_simp;(try go_bits);try rfl) ?_;simp only[Act.put,tA0,tA1,tA2])
   refine qbg ?_;go_wp2
   go_ret
   exact⟨_,rfl,by rw[HE.out];exact⟨_,rfl,tA4 _,Blk.new _ _ _⟩,qah (tA5 _ _).drew _⟩
  have q:¬(s1:Int)<n:=by omega
  have HE:Hid (rEnd bs (s1,none)=none):=by
   show (if s1<bs.length then _ else _)=_;rw[←hn,if_neg hlt2]
  clear hg ho hn;go_enter Tryz.func151,Tryz.ntmps151
  go_wp2
  obtain⟨S,HS⟩:∃S:World→Prop,Hid (∀w',S w'=(w'.cell? ⟨g,0,none⟩=some (.slice A n c)∧w'.cell? ⟨g,1,none⟩=some (.int .i64 (s1:Int)))):=⟨_,fun _=>rfl⟩;refine zrs S 11 [(0,false),(1,false),(2,false),(3,false),(4,false),(5,false),(6,false),(7,false),(8,false),(9,false),(10,false)] ((HS.out _).mpr ⟨c0,c1⟩) ?_;repeat(refine zrd rfl rfl (fun w1 hS=>by rw[HS.out]at hS;go_split_ands;go_simp;(try go_bits);try rfl) ?_;simp only[Act.put,tA0,tA1,tA2])
  refine qbg ?_;go_wp2
  go_ret
  exact⟨_,rfl,by rw[HE.out];rfl,(tA5 _ _).drew⟩
end
section
open Go.RowKit Go.Extern.Stop Go.Stop Go.Extern
theorem qfn (t:Value)(w:World):
 Calls Tryz.prog 126 #[.nilIface,t] w fun e w'=>e=.returned (.bool false)∧w'=w:=by
 go_enter Tryz.func126,Tryz.ntmps126
 go_wp2
 go_ret
 exact⟨rfl,rfl⟩
theorem As.valueOf27 (t:Addr)(w:World):(ReflectliteValue.unpack (.iface 243 (.pointer (some t)))).run Tryz.prog w
 =.ok (.agg #[.pointer (some ⟨3,243,none⟩),.pointer (some ⟨w.heap.size,0,none⟩),.int .u64 150]) (w.alloc (.cells #[.pointer (some t)] 243)):=by kernel_rfl
theorem As.type27 (a:Addr)(w:World):(ReflectliteValue.methodAny (ReflectliteValue.valueError "reflectlite.Value.Type" 0) (fun t _ _ _=>ReflectliteType.toType t) #[.agg #[.pointer (some ⟨3,243,none⟩),.pointer (some a),.int .u64 150]]).run Tryz.prog w
 =.ok (.iface 327 (.agg #[.pointer (some ⟨3,243,none⟩)])) w:=by kernel_rfl
theorem As.methodKind (h:Value)(w:World):(Go.method 495 327 (.agg #[h]) "Kind").run Tryz.prog w=.ok (280,h) w:=by kernel_rfl
theorem As.kind27 (w:World):((ReflectliteType.abiMethod fun t=>(fun a:Nat=>Value.int IntKind.u8 (a:Int))<$>Rtype.kind t) #[.pointer (some ⟨3,243,none⟩)]).run Tryz.prog w=.ok (.int .u8 22) w:=by kernel_rfl
theorem As.kind25 (w:World):((ReflectliteType.abiMethod fun t=>(fun a:Nat=>Value.int IntKind.u8 (a:Int))<$>Rtype.kind t) #[.pointer (some ⟨3,237,none⟩)]).run Tryz.prog w=.ok (.int .u8 22) w:=by kernel_rfl
theorem rlm (z:Sem Value)(f:TypeId→Addr→Nat→Nat→Sem Value)(v:Value):
 ReflectliteValue.method z f #[v]=(do match ←ReflectliteValue.parts v with|none=>z|some (t,a,fl)=>f t a fl (fl % 32)):=rfl
theorem As.parts27 (a:Addr)(w:World):(ReflectliteValue.parts (.agg #[.pointer (some ⟨3,243,none⟩),.pointer (some a),.int .u64 150])).run Tryz.prog w=.ok (some (243,a,150)) w:=by kernel_rfl
theorem As.isNil27 (a p:Addr)(W:World)(ha:W.cell? a=some (.pointer (some p))):
 (ReflectliteValue.method (ReflectliteValue.valueError "reflectlite.Value.IsNil" 0) ReflectliteValue.isNil #[.agg #[.pointer (some ⟨3,243,none⟩),.pointer (some a),.int .u64 150]]).run Tryz.prog W=.ok (.bool false) W:=by
 rw[rlm];simp only[Sem.run_bind,As.parts27,Result.andThen];simp[ReflectliteValue.isNil,loadVar,isAgg,underlying,Tryz.underlying243,ha,Result.andThen]
theorem As.methodElem (h:Value)(w:World):(Go.method 495 327 (.agg #[h]) "Elem").run Tryz.prog w=.ok (294,.agg #[h]) w:=by kernel_rfl
theorem As.methodImplements (h:Value)(w:World):(Go.method 495 327 (.agg #[h]) "Implements").run Tryz.prog w=.ok (295,.agg #[h]) w:=by kernel_rfl
theorem As.methodAssignableTo (h:Value)(w:World):(Go.method 495 327 (.agg #[h]) "AssignableTo").run Tryz.prog w=.ok (292,.agg #[h]) w:=by kernel_rfl
theorem As.elem27 (w:World):(ReflectliteType.method ReflectliteType.elem #[.agg #[.pointer (some ⟨3,243,none⟩)]]).run Tryz.prog w=.ok (.iface 327 (.agg #[.pointer (some ⟨3,237,none⟩)])) w:=by kernel_rfl
theorem As.implements25 (w:World):(ReflectliteType.relation "Implements" ReflectliteType.implements_ #[.agg #[.pointer (some ⟨3,237,none⟩)],.iface 327 (.agg #[.pointer (some ⟨3,81,none⟩)])]).run Tryz.prog w=.ok (.bool true) w:=by kernel_rfl
theorem As.typeOf25 (v:Value)(w:World):(ReflectliteType.typeOf #[.iface 237 v]).run Tryz.prog w=.ok (.iface 327 (.agg #[.pointer (some ⟨3,237,none⟩)])) w:=by kernel_rfl
theorem As.assignable25 (w:World):(ReflectliteType.relation "AssignableTo" ReflectliteType.assignableTo #[.agg #[.pointer (some ⟨3,237,none⟩)],.iface 327 (.agg #[.pointer (some ⟨3,237,none⟩)])]).run Tryz.prog w=.ok (.bool true) w:=by kernel_rfl
theorem As.valueOf25 (e:Addr)(w:World):(ReflectliteValue.unpack (.iface 237 (.pointer (some e)))).run Tryz.prog w
 =.ok (.agg #[.pointer (some ⟨3,237,none⟩),.pointer (some ⟨w.heap.size,0,none⟩),.int .u64 150]) (w.alloc (.cells #[.pointer (some e)] 237)):=by kernel_rfl
theorem As.elemOf27 (w:World):(Rtype.elem? 243).run Tryz.prog w=.ok (some 237) w:=by kernel_rfl
theorem As.mk25 (p:Addr)(w:World):(ReflectliteValue.mk 237 p ReflectliteValue.flagAddr).run Tryz.prog w=.ok (.agg #[.pointer (some ⟨3,237,none⟩),.pointer (some p),.int .u64 406]) w:=by kernel_rfl
theorem As.elemV27 (a p:Addr)(W:World)(ha:W.cell? a=some (.pointer (some p))):
 (ReflectliteValue.method (ReflectliteValue.valueError "reflectlite.Value.Elem" 0) ReflectliteValue.elem #[.agg #[.pointer (some ⟨3,243,none⟩),.pointer (some a),.int .u64 150]]).run Tryz.prog W
  =.ok (.agg #[.pointer (some ⟨3,237,none⟩),.pointer (some p),.int .u64 406]) W:=by
 rw[rlm];simp only[Sem.run_bind,As.parts27,Result.andThen];simp[ReflectliteValue.elem,loadVar,isAgg,underlying,Tryz.underlying243,ha,Result.andThen,As.elemOf27,As.mk25]
theorem rls (v x:Value):ReflectliteValue.set #[v,x]=(do
 let (some (dst,a,fl),some (src,b,_)):=(←ReflectliteValue.parts v,←ReflectliteValue.parts x)
  |unsupported (.noEntry "extern/(internal/reflectlite.Value).Set.zeroValue")
 if fl / ReflectliteValue.flagAddr % 2==0 then unsupported (.noEntry "extern/(internal/reflectlite.Value).Set.unaddressable")
 let val ←loadVar src b
 if ←Rtype.directlyAssignable dst src then storeVar dst a val
 else if ←Rtype.implements dst src then
  if (←Rtype.kind src)==20 then
   match val with
   |.nilIface=>unsupported (.noEntry "extern/reflectlite: a nil value of one interface type handed on as a value of another")
   |_=>storeVar dst a val
  else storeVar dst a (.iface src val)
 else panicString ("reflectlite.Set: value of type "++(←Rtype.spelt src)++ " is not assignable to type "++(←Rtype.spelt dst))
 pure (.tuple #[])):=rfl
theorem As.parts25a (a:Addr)(w:World):(ReflectliteValue.parts (.agg #[.pointer (some ⟨3,237,none⟩),.pointer (some a),.int .u64 406])).run Tryz.prog w=.ok (some (237,a,406)) w:=by kernel_rfl
theorem As.parts25 (a:Addr)(w:World):(ReflectliteValue.parts (.agg #[.pointer (some ⟨3,237,none⟩),.pointer (some a),.int .u64 150])).run Tryz.prog w=.ok (some (237,a,150)) w:=by kernel_rfl
theorem As.direct25 (w:World):(Rtype.directlyAssignable 237 237).run Tryz.prog w=.ok true w:=by kernel_rfl
theorem As.set25 (ta b e:Addr)(old:Value)(W:World)(hb:W.cell? b=some (.pointer (some e)))(ht:W.cell? ta=some old)(hf:W.frozen? ta=false):
 (ReflectliteValue.set #[.agg #[.pointer (some ⟨3,237,none⟩),.pointer (some ta),.int .u64 406],.agg #[.pointer (some ⟨3,237,none⟩),.pointer (some b),.int .u64 150]]).run Tryz.prog W
  =.ok (.tuple #[]) (W.setCell ta (.pointer (some e))):=by
 rw[rls];simp only[Sem.run_bind,As.parts25a,As.parts25,Result.andThen];simp[ReflectliteValue.flagAddr,loadVar,isAgg,underlying,Tryz.underlying237,hb,Result.andThen,As.direct25,storeVar,Value.cells,storeCells,Addr.add];rw[run_store Tryz.prog W ta _ _ (by rfl)];simp[ht,hf]
theorem qfo (e t:Addr)(old:Value)(w:World)(hg:w.cell? ⟨0,0,none⟩=some (.iface 327 (.agg #[.pointer (some ⟨3,81,none⟩)])))(ht0:w.cell? t=some old)(hf0:w.frozen? t=false):
 Calls Tryz.prog 126 #[.iface 237 (.pointer (some e)),.iface 243 (.pointer (some t))] w fun ev w'=>ev=.returned (.bool true)∧w'=((((w.alloc (.cells #[.pointer (some t)] 243)).alloc (.cells #[.pointer (some ⟨3,243,none⟩),.pointer (some ⟨w.heap.size,0,none⟩),.int .u64 150] 284)).alloc (.cells #[.pointer (some ⟨3,243,none⟩),.pointer (some ⟨w.heap.size,0,none⟩),.int .u64 150] 284)).alloc (.cells #[.pointer (some e)] 237)).setCell t (.pointer (some e)):=by
 have h6:=@run_callFunc_extern Tryz.prog 181 _ (fun args=>ReflectliteValue.unpack (args.getD 0 (.tuple #[]))) Tryz.func181 (by kernel_rfl) (by kernel_rfl) (by kernel_rfl) (by kernel_rfl);have h7:=@run_callFunc_extern Tryz.prog 182 _ (ReflectliteValue.methodAny (ReflectliteValue.valueError "reflectlite.Value.Type" 0) (fun t _ _ _=>ReflectliteType.toType t)) Tryz.func182 (by kernel_rfl) (by kernel_rfl) (by kernel_rfl) (by kernel_rfl);have h8:=@run_callFunc_extern Tryz.prog 183 _ (ReflectliteValue.method (ReflectliteValue.valueError "reflectlite.Value.IsNil" 0) ReflectliteValue.isNil) Tryz.func183 (by kernel_rfl) (by kernel_rfl) (by kernel_rfl) (by kernel_rfl);have h27:=@run_callFunc_extern Tryz.prog 280 _ (ReflectliteType.abiMethod fun t=>do pure (.int .u8 (←Rtype.kind t))) Tryz.func280 (by kernel_rfl) (by kernel_rfl) (by kernel_rfl) (by kernel_rfl);have h37:=@run_callFunc_extern Tryz.prog 294 _ (ReflectliteType.method ReflectliteType.elem) Tryz.func294 (by kernel_rfl) (by kernel_rfl) (by kernel_rfl) (by kernel_rfl);have h38:=@run_callFunc_extern Tryz.prog 295 _ (ReflectliteType.relation "Implements" ReflectliteType.implements_) Tryz.func295 (by kernel_rfl) (by kernel_rfl) (by kernel_rfl) (by kernel_rfl);have h10:=@run_callFunc_extern Tryz.prog 221 _ ReflectliteType.typeOf Tryz.func221 (by kernel_rfl) (by kernel_rfl) (by kernel_rfl) (by kernel_rfl);have h35:=@run_callFunc_extern Tryz.prog 292 _ (ReflectliteType.relation "AssignableTo" ReflectliteType.assignableTo) Tryz.func292 (by kernel_rfl) (by kernel_rfl) (by kernel_rfl) (by kernel_rfl);have h11:=@run_callFunc_extern Tryz.prog 222 _ (ReflectliteValue.method (ReflectliteValue.valueError "reflectlite.Value.Elem" 0) ReflectliteValue.elem) Tryz.func222 (by kernel_rfl) (by kernel_rfl) (by kernel_rfl) (by kernel_rfl);have h12:=@run_callFunc_extern Tryz.prog 223 _ ReflectliteValue.set Tryz.func223 (by kernel_rfl) (by kernel_rfl) (by kernel_rfl) (by kernel_rfl);have tO:=As.typeOf25;have mA:=As.methodAssignableTo;have a25:=As.assignable25;have v25:=As.valueOf25;have f6:=As.valueOf27;have f7:=As.type27;have mK:=As.methodKind;have mE:=As.methodElem;have mI:=As.methodImplements;have k27:=As.kind27;have k25:=As.kind25;have e27:=As.elem27;have i25:=As.implements25;have n8:=As.isNil27 ⟨w.heap.size,0,none⟩ t ((w.alloc (.cells #[.pointer (some t)] 243)).alloc (.cells #[.pointer (some ⟨3,243,none⟩),.pointer (some ⟨w.heap.size,0,none⟩),.int .u64 150] 284)) (by simp);have hlt:0<w.heap.size:=by
  rcases Nat.eq_zero_or_pos w.heap.size with h0|h
  · simp[World.cell?,h0]at hg
  exact h
 have hg2:((w.alloc (.cells #[.pointer (some t)] 243)).alloc (.cells #[.pointer (some ⟨3,243,none⟩),.pointer (some ⟨w.heap.size,0,none⟩),.int .u64 150] 284)).cell? ⟨0,0,none⟩=some (.iface 327 (.agg #[.pointer (some ⟨3,81,none⟩)])):=by
  rw[World.cell?_alloc_lt _ _ ⟨0,0,none⟩ (by simp),World.cell?_alloc_lt _ _ ⟨0,0,none⟩ hlt];exact hg
 have htl:t.block<w.heap.size:=by
  rcases Nat.lt_or_ge t.block w.heap.size with h|h
  · exact h
  simp[World.cell?,Array.getElem?_eq_none h]at ht0
 have el:=As.elemV27 ⟨w.heap.size,0,none⟩ t (((w.alloc (.cells #[.pointer (some t)] 243)).alloc (.cells #[.pointer (some ⟨3,243,none⟩),.pointer (some ⟨w.heap.size,0,none⟩),.int .u64 150] 284)).alloc (.cells #[.pointer (some ⟨3,243,none⟩),.pointer (some ⟨w.heap.size,0,none⟩),.int .u64 150] 284)) (by rw[World.cell?_alloc_lt _ _ ⟨w.heap.size,0,none⟩ (by simp;omega)];simp);have st:=As.set25 t ⟨w.heap.size+1+1+1,0,none⟩ e old ((((w.alloc (.cells #[.pointer (some t)] 243)).alloc (.cells #[.pointer (some ⟨3,243,none⟩),.pointer (some ⟨w.heap.size,0,none⟩),.int .u64 150] 284)).alloc (.cells #[.pointer (some ⟨3,243,none⟩),.pointer (some ⟨w.heap.size,0,none⟩),.int .u64 150] 284)).alloc (.cells #[.pointer (some e)] 237))
  (by rw[World.cell?_alloc_at _ _ _ _ (by simp)];rfl)
  (by rw[World.cell?_alloc_lt _ _ t (by simp;omega),World.cell?_alloc_lt _ _ t (by simp;omega),World.cell?_alloc_lt _ _ t (by simp;omega),World.cell?_alloc_lt _ _ t htl];exact ht0)
  (by rw[World.frozen?_alloc_old _ _ t (by simp;omega),World.frozen?_alloc_old _ _ t (by simp;omega),World.frozen?_alloc_old _ _ t (by simp;omega),World.frozen?_alloc_old _ _ t (Nat.ne_of_lt htl)];exact hf0)
 go_enter Tryz.func126,Tryz.ntmps126
 go_wp2
 refine wp_loop_rounds 1 ?_;rw[rounds_succ];go_wp2
 go_ret
 exact⟨rfl,rfl⟩
end
section
open Go.RowKit
theorem qfp {α:Type}:∀(l:List α),l.length=32→∃a0 a1 a2 a3 a4 a5 a6 a7 a8 a9 a10 a11 a12 a13 a14 a15 a16 a17 a18 a19 a20 a21 a22 a23 a24 a25 a26 a27 a28 a29 a30 a31,l=[a0,a1,a2,a3,a4,a5,a6,a7,a8,a9,a10,a11,a12,a13,a14,a15,a16,a17,a18,a19,a20,a21,a22,a23,a24,a25,a26,a27,a28,a29,a30,a31]
 |[a0,a1,a2,a3,a4,a5,a6,a7,a8,a9,a10,a11,a12,a13,a14,a15,a16,a17,a18,a19,a20,a21,a22,a23,a24,a25,a26,a27,a28,a29,a30,a31],_=>⟨a0,a1,a2,a3,a4,a5,a6,a7,a8,a9,a10,a11,a12,a13,a14,a15,a16,a17,a18,a19,a20,a21,a22,a23,a24,a25,a26,a27,a28,a29,a30,a31,rfl⟩
theorem qfq {P:Program}{a:Act}{w:World}{o:Oper}(t:TypeId)(parts:Array (Nat × Operand))(ho:o.op=.build t parts)(cells:Array Value)(l:List (Nat × Value))
 (h:P.built t l=some cells)(hl:(parts.map fun(i,x)=>(i,a.eval x)).toList=l):(execOp a.eval o).run P w=.ok (.value (.agg cells)) w:=by
 subst hl;unfold execOp;simp only[ho,Sem.run_bind,run_build w t _ cells h,Result.andThen_ok,Sem.run_pure]
theorem qfr (id:Nat)(M:List Value)(h:M.length=32)(h1:∀v∈M,v.oneCell'=true):Tryz.prog.built 31 [(0,.int .u32 id),(2,.agg M.toArray)]=some (Value.int .u32 (id:Int)::.slice none 0 0::M).toArray:=by
 obtain⟨a0,a1,a2,a3,a4,a5,a6,a7,a8,a9,a10,a11,a12,a13,a14,a15,a16,a17,a18,a19,a20,a21,a22,a23,a24,a25,a26,a27,a28,a29,a30,a31,rfl⟩:=qfp M h;kernel_rfl
theorem qfs (id:Nat)(A:Option Addr)(n c:Nat)(M:List Value)(h:M.length=32):Tryz.prog.built 31 [(0,.int .u32 id),(1,.slice A n c),(2,.agg M.toArray)]=some (Value.int .u32 (id:Int)::.slice A n c::M).toArray:=by
 obtain⟨a0,a1,a2,a3,a4,a5,a6,a7,a8,a9,a10,a11,a12,a13,a14,a15,a16,a17,a18,a19,a20,a21,a22,a23,a24,a25,a26,a27,a28,a29,a30,a31,rfl⟩:=qfp M h;kernel_rfl
abbrev Tok:=Nat × List (Int × Nat) × List Nat
def qft:Tok:=(0,[],List.replicate 32 0)
theorem qfu {fn:Func}{t s:Tmp}{ty:TypeId}{g:Nat}{P:Program}{w:World}{v:Value}{tmps:Array Value}(h:fn.results=#[.cell t ty,.tmp s])(ht:tmps.getD t undef=.pointer (some ⟨g,0,none⟩))
 (hl:(loadVar ty ⟨g,0,none⟩).run P w=.ok v w):(results fn tmps).run P w=.ok (.tuple #[v,tmps.getD s undef]) w:=by
 unfold results;rw[h];simp only[Array.getD_eq_getD_getElem?]at ht;simp[ht,asAddr,hl,Sem.run_pure]
theorem qfv {w:World}{o:Oper}{a:Act}{K:Act→World→Prop}{Q:Exit→Act→World→Prop}(s x:Operand)
 (ho:o.op=.call {callee:=.builtin .append,args:=#[s,x],argTypes:=#[27,27]})
 (base:Nat)(v:Value)(l:List (Int × Nat))(hs:a.eval s=v)(hown:OwnC w base v l)(A:Option Addr)(m c:Nat)(news:List (Int × Nat))(hx:a.eval x=.slice A m c)(hr:Reads w w.heap.size 2 A m (cavv news))
 (hlen:l.length+m≤8796093022208)(hbase:base≤w.heap.size)
 (h:∀v' w',OwnC w' base v' (l++news)→Below base w w'→w.grownBy w' v.ownBlock→K (a.put o.dst v') w'):o.wp Tryz.prog a w K Q:=by
 obtain⟨i0,hi0,hz0,hz1,hz2⟩:=info_parts Tryz.cav_info;have hm:news.length=m:=by have:=hr.1;rw[qez]at this;omega
 refine qa6 (P:=Tryz.prog) w s x _ ho base 132 i0 _ 2 16 Tryz.underlying27 hi0 hz0 hz1 hz2 rfl (by omega) v l.length (cavv l) hs hown w.heap.size A m c (cavv news) hx hr (qex _) (by simp only[maxLen];omega) (by omega) hbase ?_;intro v' w' h1 h2 h3;refine h v' w' ?_ ?_ h2
 · unfold OwnC
   rw[qey,tA6,hm];exact h1
 exact qae (tA5 _ _) hown h2 (tA4 _) hbase
theorem qfw {w:World}{g o n:Nat}{t:TypeId}{L:List Value}{xs:List Value}(h:Blk w g t L.toArray)(hn:xs.length=n)(hx:∀j u,xs[j]? =some u→L[o+j]? =some u):Reads w w.heap.size 1 (some ⟨g,o,none⟩) n xs:=by
 subst hn;refine⟨by simp,fun _=>⟨_,rfl,h.lt,fun j u hu=>?_⟩⟩;rw[Addr.add_mid,h.cell];simpa using hx j u hu
theorem qfx {w:World}{g:Nat}{L:List Value}(h:Blk w g 31 L.toArray)(hl:L.length=34):(loadVar 31 ⟨g,0,none⟩).run Tryz.prog w=.ok (.agg L.toArray) w:=
 run_loadVar_mid _ _ 0 _ L _ (qap h 0 L (fun j u h=>by simpa using h)) Tryz.underlying31 rfl (by rw[hl];exact Tryz.tok_info)
def qfy:List Value:=tokv 0 (.slice none 0 0) (List.replicate 32 0)
theorem qfz:qfy.toArray.all (·.oneCell')=true:=all_oneCell_toArray (qf3 0 (.slice none 0 0) rfl (List.replicate 32 0))
theorem qg0:(Tryz.prog.info? 31).map (·.size)=some qfy.toArray.size:=by kernel_rfl
theorem qg1:(zLT:Array Value).size=qfy.toArray.size:=rfl
def Tok.Ok (t:Tok):Prop:=t.1<4294967296∧(∀c∈t.2.1,c.2<4294967296)∧t.2.2.length=32∧∀x∈t.2.2,x<256
theorem Blk.setRow_far {w:World}{g k:Nat}{t:TypeId}{cs:Array Value}(h:Blk w k t cs)(hne:k≠g)(c':Array Value):Blk (w.setRow g c') k t cs:=
 h.grown (qam w g c') (fun e=>by injection e with e;exact hne e)
end
end Go.Proofs.YthomgopipiomhaaGreatDoor

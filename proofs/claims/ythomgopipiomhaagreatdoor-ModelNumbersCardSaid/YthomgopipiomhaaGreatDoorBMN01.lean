/-
  Lemmas for ModelNumbers, shortened by program.
-/
import Derived.Test.YthomgopipiomhaaGreatDoorBMN00
import Derived.Deep.AppendLies
import Derived.Deep.OwnRows
import Derived.BigQuiet
import Derived.Deep.RegionHeld3
import Derived.Lib.LaidTab
import Derived.StillTailTactics
import Derived.Deep.Cut
import Derived.Test.YthomgopipiomhaaGreatDoorRows
import Derived.LaidHandle
import Derived.Stop.Joined
import Derived.Stop.LaidErr
namespace Go.Proofs.YthomgopipiomhaaGreatDoor
set_option linter.unusedVariables false
set_option linter.unusedSimpArgs false
set_option maxRecDepth 100000
set_option maxHeartbeats 32000000
section
open Go.RowKit
theorem qa1 (a:Addr)(n:Nat):(a.add n).block=a.block:=by unfold Addr.add;split<;>rfl
theorem qa2 (a:Addr)(i j:Nat):(a.add i).add j=a.add (i+j):=by
 unfold Addr.add;by_cases hi:i=0<;>by_cases hj:j=0<;>simp[hi,hj,Nat.add_assoc]
def Reads (w:World)(B size:Nat)(A:Option Addr)(n:Nat)(xs:List Value):Prop:=
 xs.length=n*size∧(0<n→∃ad,A=some ad∧ad.block<B∧∀j u,xs[j]? =some u→w.cell? (ad.add j)=some u)
section
variable {w w' : World} {B B' size n : Nat} {A : Option Addr} {xs : List Value}
theorem Reads.none_:Reads w B size A 0 []:=⟨by simp,fun h=>absurd h (by omega)⟩
theorem Reads.at_ {k:Nat}(h:Reads w B 1 A n xs)(hk:k<n):∃ad u,A=some ad∧ad.block<B∧xs[k]? =some u∧w.cell? (ad.add k)=some u:=by
 obtain⟨ad,e,hb,hc⟩:=h.2 (by omega);have hl:k<xs.length:=by have:=h.1;omega
 exact⟨ad,xs[k],e,hb,tA7 hl,hc k _ (tA7 hl)⟩
theorem Reads.keep (h:Reads w B size A n xs)(hk:∀p:Addr,p.block<B→w'.cell? p=w.cell? p):Reads w' B size A n xs:=
 ⟨h.1,fun hn=>by
  obtain⟨ad,e,hb,hc⟩:=h.2 hn;exact⟨ad,e,hb,fun j u hu=>(hk _ (by rw[qa1];exact hb)).trans (hc j u hu)⟩⟩
theorem Reads.more (h:Reads w B size A n xs)(hB:B≤B'):Reads w B' size A n xs:=
 ⟨h.1,fun hn=>by
  obtain⟨ad,e,hb,hc⟩:=h.2 hn;exact⟨ad,e,by omega,hc⟩⟩
theorem Reads.below (h:Reads w B size A n xs)(hb:Below B w w'):Reads w' B size A n xs:=h.keep fun _ hp=>hb.cell hp
theorem Reads.alloc (h:Reads w B size A n xs)(hB:B≤w.heap.size)(o:Obj):Reads (w.alloc o) B size A n xs:=h.keep fun p hp=>World.cell?_alloc_lt w o p (by omega)
theorem Reads.grown (h:Reads w B size A n xs){row:Option Nat}(hg:w.grownBy w' row)(hB:B≤w.heap.size)(hr:∀g,row=some g→B≤g):Reads w' B size A n xs:=
 h.keep fun p hp=>World.cell?_of_block (hg.block p.block (by omega) (fun e=>by have:=hr _ e.symm;omega))
theorem Reads.cut (h:Reads w B size A n xs){k cap:Nat}(hk:k≤n)(hc:n≤cap):
 Reads w B size (if cap=k then A else A.map (·.add (k*size))) (n - k) (xs.drop (k*size)):=by
 refine⟨by rw[List.length_drop,h.1,Nat.sub_mul],fun hn=>?_⟩;obtain⟨ad,rfl,hb,hcell⟩:=h.2 (by omega);rw[if_neg (by omega)];refine⟨ad.add (k*size),rfl,by rw[qa1];exact hb,fun j u hu=>?_⟩;rw[qa2];exact hcell _ u (by rw[←hu,List.getElem?_drop])
theorem Reads.of_own {base:Nat}{e:TypeId}{c:Nat}(h:w.ownsRow base e size (.slice A n c) n xs):Reads w w.heap.size size A n xs:=by
 refine⟨h.1,fun hn=>?_⟩;obtain⟨g,cap,hv,_,hlt⟩:=h.form hn;have hA:A=some ⟨g,0,none⟩:=by injection hv
 subst hA;exact⟨_,rfl,hlt,h.cells (g:=g) rfl⟩
end
def Blk (w:World)(g:Nat)(t:TypeId)(cs:Array Value):Prop:=w.heap[g]? =some (.cells cs t (0,0))
section
variable {w w' : World} {g : Nat} {t : TypeId} {cs : Array Value}
theorem Blk.lt (h:Blk w g t cs):g<w.heap.size:=by
 rcases Nat.lt_or_ge g w.heap.size with hlt|hge
 · exact hlt
 unfold Blk at h;rw[Array.getElem?_eq_none hge]at h;cases h
theorem Blk.cell (h:Blk w g t cs)(i:Nat):w.cell? ⟨g,i,none⟩=cs[i]? :=cell_of_row w g i cs t (0,0) h
theorem Blk.frozen (h:Blk w g t cs)(i:Nat):w.frozen? ⟨g,i,none⟩=false:=by
 unfold Blk at h;simp[World.frozen?,h]
theorem Blk.new (w:World)(t:TypeId)(cs:Array Value):Blk (w.alloc (.cells cs t)) w.heap.size t cs:=heap_alloc_new w _
theorem Blk.drew (h:Blk w g t cs):Blk w.drew g t cs:=h
theorem Blk.drewN (h:Blk w g t cs)(n:Nat):Blk (w.drewN n) g t cs:=h
theorem Blk.alloc (h:Blk w g t cs)(o:Obj):Blk (w.alloc o) g t cs:=(Below.heap_alloc w o g h.lt).trans h
theorem Blk.set_ (h:Blk w g t cs)(i:Nat)(u:Value):Blk (w.setCell ⟨g,i,none⟩ u) g t (cs.setIfInBounds i u):=by
 unfold Blk at h ⊢;simp[World.setCell,Array.getElem?_modify,h]
theorem Blk.far (h:Blk w g t cs){p:Addr}(hp:g≠p.block)(u:Value):Blk (w.setCell p u) g t cs:=(Below.heap_setCell w p u g hp).trans h
theorem Blk.below {B:Nat}(h:Blk w g t cs)(hb:Below B w w')(hg:g<B):Blk w' g t cs:=(hb.block g hg).trans h
theorem Blk.grown {row:Option Nat}(h:Blk w g t cs)(hb:w.grownBy w' row)(hg:some g≠row):Blk w' g t cs:=(hb.block g h.lt hg).trans h
theorem Blk.ne_ {g':Nat}{t':TypeId}{cs':Array Value}(h:Blk w g t cs)(h':Blk w g' t' cs')(hne:t≠t'):g≠g':=by
 rintro rfl;unfold Blk at h h';rw[h]at h';injection h' with h';injection h' with _ ht;exact hne ht
theorem qa3 {base:Nat}{e:TypeId}{size n:Nat}{v:Value}{xs:List Value}(h:w.ownsRow base e size v n xs)(hg:Blk w g t cs)(hne:e≠t):v.ownBlock≠some g:=by
 rcases h.2 with⟨rfl,_⟩|⟨g',cap,cur,rfl,_,hh,_⟩
 · simp[Value.ownBlock]
 intro he;have:g'=g:=by simpa [Value.ownBlock] using he
 subst this;exact Blk.ne_ (t:=e) hh hg hne rfl
end
section
variable {P : Program} (w : World)
theorem qa4 (base:Nat)(t ty e:TypeId)(i:TypeInfo)(size:Nat)(ht:P.underlying t=some (.slice e))(hi:P.info? e=some i)
 (v:Value)(n:Nat)(xs:List Value)(hown:w.ownsRow base e size v n xs)(c:Nat):(Builtin.append_ #[t,t] ty #[v,.slice none 0 c]).run P w=.ok v w:=by
 rcases hown.2 with⟨rfl,rfl⟩|⟨g,cap,cur,rfl,_,_,hnc,_⟩
 · simp[Builtin.append_,run_underlying ht,sizeOf,typeInfo,hi,Builtin.lenOf,Builtin.firstCells]
 simp[Builtin.append_,run_underlying ht,sizeOf,typeInfo,hi,Builtin.lenOf,Builtin.firstCells,hnc,storeCells]
theorem qa5 (base:Nat)(t ty e:TypeId)(i:TypeInfo)(z:Value)(size bytes:Nat)(ht:P.underlying t=some (.slice e))(hi:P.info? e=some i)(hz:i.zero=some z)
 (hsize:i.size=size)(hby:i.bytes=bytes)(hzs:z.cells.size=size)(hsz:0<size)
 (v:Value)(n:Nat)(xs:List Value)(hown:w.ownsRow base e size v n xs)
 (B:Nat)(A:Option Addr)(m c:Nat)(news:List Value)(hr:Reads w B size A m news)(h1:∀u∈news,u.oneCell'=true)
 (h63:n+m≤maxLen)(hbytes:(n+m)*bytes≤140737488355328)(hbase:base≤w.heap.size):
 ∃v' w',(Builtin.append_ #[t,t] ty #[v,.slice A m c]).run P w=.ok v' w'∧w'.ownsRow base e size v' (n+m) (xs++news)∧w.grownBy w' v.ownBlock∧
  (v'.ownBlock=v.ownBlock∨v'.ownBlock=some w.heap.size):=by
 rcases A with _|ad
 ·
  have hm:m=0:=by
   rcases Nat.eq_zero_or_pos m with h0|h0
   · exact h0
   obtain⟨ad,h,_⟩:=hr.2 h0;cases h
  subst hm;have hn:news=[]:=List.eq_nil_of_length_eq_zero (by simpa using hr.1);subst hn;exact⟨v,w,qa4 w base t ty e i size ht hi v n xs hown c,by simpa using hown,World.grownBy.refl w _,.inl rfl⟩
 have hcells:∀j u,news[j]? =some u→w.cell? (ad.add j)=some u:=by
  intro j u hu;rcases Nat.eq_zero_or_pos m with h0|h0
  · subst h0
    have hn:news=[]:=List.eq_nil_of_length_eq_zero (by simpa using hr.1);subst hn;simp at hu
  obtain⟨ad',h,_,hc⟩:=hr.2 h0;injection h with h;subst h;exact hc j u hu
 obtain⟨v',w',hrun,h2,h3,_,h5⟩:=run_append_own_at (P:=P) w base t ty e i z size bytes ht hi hz hsize hby hzs hsz v n xs hown ad m c news hr.1 hcells h1 h63 hbytes hbase;exact⟨v',w',hrun,h2,h3,h5⟩
theorem qa6 {o:Oper}{a:Act}{K:Act→World→Prop}{Q:Exit→Act→World→Prop}(s x:Operand)(t:TypeId)
 (ho:o.op=.call {callee:=.builtin .append,args:=#[s,x],argTypes:=#[t,t]})
 (base:Nat)(e:TypeId)(i:TypeInfo)(z:Value)(size bytes:Nat)(ht:P.underlying t=some (.slice e))(hi:P.info? e=some i)(hz:i.zero=some z)
 (hsize:i.size=size)(hby:i.bytes=bytes)(hzs:z.cells.size=size)(hsz:0<size)
 (v:Value)(n:Nat)(xs:List Value)(hs:a.eval s=v)(hown:w.ownsRow base e size v n xs)
 (B:Nat)(A:Option Addr)(m c:Nat)(news:List Value)(hx:a.eval x=.slice A m c)(hr:Reads w B size A m news)(h1:∀u∈news,u.oneCell'=true)
 (h63:n+m≤maxLen)(hbytes:(n+m)*bytes≤140737488355328)(hbase:base≤w.heap.size)
 (h:∀v' w',w'.ownsRow base e size v' (n+m) (xs++news)→w.grownBy w' v.ownBlock→(v'.ownBlock=v.ownBlock∨v'.ownBlock=some w.heap.size)→K (a.put o.dst v') w'):o.wp P a w K Q:=by
 obtain⟨v',w',hrun,h2,h3,h4⟩:=qa5 (P:=P) w base t o.type e i z size bytes ht hi hz hsize hby hzs hsz v n xs hown B A m c news hr h1 h63 hbytes hbase;unfold Oper.wp execOp;simp only[ho,resolve,invoke,builtin,Sem.run_bind,Sem.run_pure,Result.andThen_ok,List.map_toArray,List.map_cons,List.map_nil,hs,hx,hrun];exact h v' w' h2 h3 h4
theorem qa7 {ops:Array Oper}{rest:List Oper}{o:Oper}{a:Act}{Q:Exit→Act→World→Prop}(hgd:o.guard=none)(s x:Operand)(t:TypeId)
 (ho:o.op=.call {callee:=.builtin .append,args:=#[s,x],argTypes:=#[t,t]})
 (base:Nat)(e:TypeId)(i:TypeInfo)(z:Value)(size bytes:Nat)(ht:P.underlying t=some (.slice e))(hi:P.info? e=some i)(hz:i.zero=some z)
 (hsize:i.size=size)(hby:i.bytes=bytes)(hzs:z.cells.size=size)(hsz:0<size)
 (v:Value)(n:Nat)(xs:List Value)(hs:a.eval s=v)(hown:w.ownsRow base e size v n xs)
 (B:Nat)(A:Option Addr)(m c:Nat)(news:List Value)(hx:a.eval x=.slice A m c)(hr:Reads w B size A m news)(h1:∀u∈news,u.oneCell'=true)
 (h63:n+m≤maxLen)(hbytes:(n+m)*bytes≤140737488355328)(hbase:base≤w.heap.size)
 (h:∀v' w',w'.ownsRow base e size v' (n+m) (xs++news)→w.grownBy w' v.ownBlock→(v'.ownBlock=v.ownBlock∨v'.ownBlock=some w.heap.size)→wpList P ops Q rest (a.put o.dst v') w'):wpList P ops Q (o::rest) a w:=
 wpList_plain hgd fun _ hK=>qa6 w s x t ho base e i z size bytes ht hi hz hsize hby hzs hsz v n xs hs hown B A m c news hx hr h1 h63 hbytes hbase fun v' w' h2 h3 h4=>hK _ _ (h v' w' h2 h3 h4)
end
theorem qa8 {B:Nat}{a w:World}(h:Below B a w)(n:Nat):Below B a (w.drewN n):=⟨h.os,h.tape,h.output,h.size,h.block⟩
theorem qa9 {a w:World}{row:Option Nat}(h:a.grownBy w row):a.grownBy w.drew row:=⟨h.os,h.tape,h.output,h.size,h.block⟩
theorem qaa {a w:World}{row:Option Nat}(h:a.grownBy w row)(o:Obj):a.grownBy (w.alloc o) row:=
 ⟨h.os,h.tape,h.output,Nat.le_trans h.size (by simp),fun i hi hne=>(Below.heap_alloc w o i (Nat.lt_of_lt_of_le hi h.size)).trans (h.block i hi hne)⟩
theorem qab {a w:World}{g:Nat}(h:a.grownBy w (some g)){p:Addr}(hp:p.block=g∨a.heap.size≤p.block)(u:Value):a.grownBy (w.setCell p u) (some g):=
 ⟨h.os,h.tape,h.output,by simpa [World.setCell] using h.size,fun i hi hne=>(Below.heap_setCell w p u i (by
  rintro rfl;rcases hp with hp|hp
  · exact hne (by rw[hp])
  omega)).trans (h.block i hi hne)⟩
theorem qac {a b c:World}{g:Nat}{row:Option Nat}(h:a.grownBy b (some g))(k:b.grownBy c row)(hr:∀d,row=some d→d=g∨a.heap.size≤d):a.grownBy c (some g):=
 ⟨k.os.trans h.os,k.tape.trans h.tape,k.output.trans h.output,Nat.le_trans h.size k.size,fun i hi hn=>
  (k.block i (Nat.lt_of_lt_of_le hi h.size) (fun e=>by rcases hr i e.symm with rfl|h';exact hn rfl;omega)).trans (h.block i hi hn)⟩
theorem qad {a w:World}(h:Below a.heap.size a w)(row:Option Nat):a.grownBy w row:=⟨h.os,h.tape,h.output,h.size,fun i hi _=>h.block i hi⟩
section
open Go.WideShapes Go.ChangeShapes
section
variable {H : Type} {enc : TypeId × Value → H} {P : Program}
end
end
theorem Reads.new (w:World)(t:TypeId)(l:List Value)(size n:Nat)(h:l.length=n*size):
 Reads (w.alloc (.cells l.toArray t)) (w.heap.size+1) size (some ⟨w.heap.size,0,none⟩) n l:=by
 refine⟨h,fun _=>⟨_,rfl,by simp,fun j u hu=>?_⟩⟩;have hadd:(⟨w.heap.size,0,none⟩:Addr).add j=⟨w.heap.size,j,none⟩:=by unfold Addr.add;split<;>simp_all
 rw[hadd,(Blk.new w t l.toArray).cell];simpa using hu
theorem Reads.new1 (w:World)(t:TypeId)(u:Value):
 Reads (w.alloc (.cells #[u] t)) (w.heap.size+1) 1 (some ⟨w.heap.size,0,none⟩) 1 [u]:=Reads.new w t [u] 1 1 rfl
theorem qae {B base:Nat}{W w w':World}{e:TypeId}{size n:Nat}{v:Value}{xs:List Value}(h:Below B W w)(hown:w.ownsRow base e size v n xs)(hg:w.grownBy w' v.ownBlock)(hB:B≤base)(hbase:base≤w.heap.size):Below B W w':=
 h.grown hg (Nat.le_trans hB hbase) fun k hk=>Nat.le_trans hB (hown.lt k hk).1
theorem qaf {w:World}{base:Nat}{e:TypeId}{size n:Nat}{v:Value}{xs:List Value}(h:w.ownsRow base e size v n xs):
 ∃A c,v=.slice A n c∧n≤c∧c≤maxLen∧Reads w w.heap.size size A n xs:=by
 rcases h.2 with⟨rfl,rfl⟩|⟨g,cap,cur,rfl,_,_,hn,hc,_⟩
 · exact⟨none,0,rfl,tA4 _,by simp[maxLen],Reads.of_own (c:=0) h⟩
 exact⟨_,cap,rfl,hn,hc,Reads.of_own h⟩
theorem qag {W w w1:World}(h:Below W.heap.size W w)(hb:Below w.heap.size w w1):Below W.heap.size W w1:=h.trans (hb.mono h.size)
theorem qah {W w:World}(h:Below W.heap.size W w)(o:Obj):Below W.heap.size W (w.alloc o):=h.alloc h.size o
theorem qai {w w1:World}{a:Addr}{v:Value}(h:w.cell? a=some v)(hb:Below w.heap.size w w1):w1.cell? a=some v:=(hb.cell (World.block_lt_of_cell? _ _ h)).trans h
theorem qaj {w:World}{a:Addr}{v:Value}(h:w.cell? a=some v)(o:Obj):(w.alloc o).cell? a=some v:=qai h ((tA5 _ _).alloc (tA4 _) o)
theorem qak (w:World)(cs:Array Value)(t:TypeId)(i:Nat):(w.alloc (.cells cs t)).cell? ⟨w.heap.size,i,none⟩=cs[i]? :=(Blk.new w t cs).cell i
theorem qal {w:World}{base:Nat}{e:TypeId}{size n:Nat}{v:Value}{xs:List Value}(h:w.ownsRow base e size v n xs){p:Addr}(hp:v.ownBlock≠some p.block)(u:Value):(w.setCell p u).ownsRow base e size v n xs:=
 h.kept (row:=some p.block) ⟨rfl,rfl,rfl,by simp[World.setCell],fun k _ hne=>Below.heap_setCell w p u k (fun e=>hne (by rw[e]))⟩ (.inr hp)
theorem qam (w:World)(g:Nat)(cs:Array Value):w.grownBy (w.setRow g cs) (some g):=
 ⟨rfl,rfl,rfl,by simp,fun i hi hne=>by
  unfold World.setRow;simp only[Array.getElem?_modify];rw[if_neg (fun e=>hne (by rw[e]))]⟩
theorem Blk.setRow {w:World}{g:Nat}{t:TypeId}{cs:Array Value}(h:Blk w g t cs)(c':Array Value):Blk (w.setRow g c') g t c':=setRow_heap w g cs c' t (0,0) h
theorem qao {fn:Func}{t:Tmp}{ty:TypeId}{g:Nat}{P:Program}{w:World}{v:Value}{tmps:Array Value}(h:fn.results=#[.cell t ty])(ht:tmps.getD t undef=.pointer (some ⟨g,0,none⟩))
 (hl:(loadVar ty ⟨g,0,none⟩).run P w=.ok v w):(results fn tmps).run P w=.ok v w:=by
 unfold results;rw[h];simp only[Array.getD_eq_getD_getElem?]at ht;simp[ht,asAddr,hl,Sem.run_pure]
theorem qap {w:World}{g:Nat}{t:TypeId}{l:List Value}(h:Blk w g t l.toArray)(o:Nat)(cs:List Value)(hc:∀j u,cs[j]? =some u→l[o+j]? =some u):w.rangeAt g o cs:=by
 intro j u hu;rw[h.cell];simpa using hc j u hu
theorem qaq {P:Program}{ops:Array Oper}{rest:List Oper}{op:Oper}{a:Act}{w:World}{Q:Exit→Act→World→Prop}(hw:Region.wanted op (yielded ops a.tmps)=true)(ty:TypeId)(x:Operand)(ho:op.op=.load ty x)
 (b o:Nat)(hx:a.eval x=.pointer (some ⟨b,o,none⟩))(cs:List Value)(d:TypeDesc)(hc:w.rangeAt b o cs)
 (hu:P.underlying ty=some d)(hd:d.isRow=true)(hi:(P.info? ty).map (·.size)=some cs.length)(h:wpList P ops Q rest (a.put op.dst (.agg cs.toArray)) w):wpList P ops Q (op::rest) a w:=by
 unfold wpList;rw[if_pos hw];exact .inl (wp_load_mid ty x ho b o hx cs d hc hu hd hi h)
theorem qar (w:World)(o:Obj):(w.alloc o).heap.size=w.heap.size+1:=by simp
theorem zrt {P:Program} {fn:Func} {R:Ending→World→Prop} {a:Act} {w:World} {g t:Nat} {ty:TypeId} {X:List Value} {d:TypeDesc} (HR:w.rangeAt g 0 X) (hu:P.underlying ty=some d) (hi:(P.info? ty).map (·.size)=some X.length) (hR:R (.returned (.agg X.toArray)) w) (hd:d.isRow=true:=by rfl) (h:fn.results=#[.cell t ty]:=by rfl) (ht:a.tmps.getD t undef=.pointer (some ⟨g,0,none⟩):=by rfl) (hdf:a.defers=[]:=by rfl):bodyPost P fn R .ret a w:=bodyPost_ret (qao h ht (run_loadVar_mid _ _ 0 _ X _ HR hu hd hi)) hdf hR
theorem zst {P:Program} {ops:Array Oper} {rest:List Oper} {o:Oper} {a:Act} {w:World} {Q:Exit→Act→World→Prop} (t:TypeId) (x y:Operand) (g:Nat) (X:List Value) {old:Array Value} (hg:w.heap[g]? =some (.cells old t (0,0))) (hi:(P.info? t).map (·.size)=some X.length) (hold:old.size=X.toArray.size) (h1:∀u∈X,u.oneCell'=true) (h:wpList P ops Q rest (a.put o.dst undef) (w.setRow g X.toArray)) (hgd:o.guard=none:=by rfl) (ho:o.op=.store t x y:=by rfl) (hx:a.eval x=.pointer (some ⟨g,0,none⟩):=by rfl) (hy:a.eval y=.agg X.toArray:=by rfl):wpList P ops Q (o::rest) a w:=wpList_store_row hgd t x y ho g X.toArray hx hy t old hg (by simpa using hi) hold (by simpa using h1) h
theorem zI (t:TypeId) {n:Nat} {X:List Value} (h:X.length=n) (k:(Tryz.prog.info? t).map (·.size)=some n:=by kernel_rfl):(Tryz.prog.info? t).map (·.size)=some X.length:=h▸k

end
section
open Go.RowKit
def byv (l:List Nat):List Value:=l.map fun b:Nat=>Value.int .u8 (b:Int)
theorem qas (a b:List Nat):byv (a++b)=byv a++byv b:=by simp[byv]
theorem qat (a:List Nat):(byv a).length=a.length:=by simp[byv]
theorem qau (l:List Nat):∀u∈byv l,u.oneCell'=true:=by
 intro u hu;obtain⟨x,_,rfl⟩:=List.mem_map.1 hu;rfl
def qav (n k:Nat):Nat:=n / 256^k % 256
def be (n s:Nat):List Nat:=(List.range s).map fun j=>qav n (s - 1 - j)
theorem qaw (n s:Nat):(be n s).length=s:=by simp[be]
theorem qax (n s j:Nat)(h:j<s):(be n s).take (j+1)=(be n s).take j++[qav n (s - 1 - j)]:=by
 rw[List.take_add_one];congr 1
 simp[be,h]
theorem qay (n k:Nat):qav n k<256:=Nat.mod_lt _ (by omega)
theorem qaz (n s:Nat):∀b∈be n s,b<256:=by
 intro b hb;simp only[be,List.mem_map]at hb;obtain⟨j,_,rfl⟩:=hb;exact qay _ _
def qb0 (k:Int):Nat:=(min (max k 1) 8).toNat
theorem qb1 (k:Int):1≤qb0 k∧qb0 k≤8:=by unfold qb0;omega
def txt (b:List Nat):List Nat:=be (b.length % 65536) 2++b.take (b.length % 65536)
theorem qb2 (a:Nat)(ha:a<9223372036854775808):(BitVec.ofInt 64 (a:Int)).toNat=a:=by
 rw[BitVec.ofInt_natCast,BitVec.toNat_ofNat];exact Nat.mod_eq_of_lt (by omega)
theorem qb4 (n:Nat)(hn:n≤9223372036854775807):bits .and .i64 (n:Int) 65535=((n % 65536:Nat):Int):=by
 have h:bits .and .i64 (n:Int) ((65535:Nat):Int)=((n&&& 65535:Nat):Int):=by
  have hx:n&&& 65535<2^63:=Nat.and_lt_two_pow _ (by omega);show IntKind.i64.wrap ((BitVec.ofInt 64 (n:Int)&&& BitVec.ofInt 64 ((65535:Nat):Int)).toNat:Int)=_;rw[BitVec.toNat_and,qb2 n (by omega),qb2 65535 (by omega),IntKind.wrap_i64];omega
 rw[show (65535:Int)=((65535:Nat):Int) from rfl,h];rw[show n&&& 65535=n % 65536 from Nat.and_two_pow_sub_one_eq_mod n 16]
theorem Reads.pre {w:World}{B n k:Nat}{A:Option Addr}{xs:List Value}(h:Reads w B 1 A n xs)(hk:k≤n):Reads w B 1 A k (xs.take k):=by
 refine⟨by rw[List.length_take,h.1];omega,fun hk0=>?_⟩;obtain⟨ad,e,hb,hc⟩:=h.2 (by omega);exact⟨ad,e,hb,fun j u hu=>hc j u (by rw[List.getElem?_take]at hu;split at hu<;>simp_all)⟩
theorem Reads.here {w:World}{B n:Nat}{A:Option Addr}{xs:List Value}(h:Reads w B 1 A n xs):Reads w w.heap.size 1 A n xs:=by
 refine⟨h.1,fun hn=>?_⟩;obtain⟨ad,u,e,hb,hu,hc⟩:=h.at_ hn;obtain⟨ad',e',hb',hc'⟩:=h.2 hn;rw[e]at e';injection e' with e';subst e';refine⟨ad,e,?_,hc'⟩;have:=World.block_lt_of_cell? _ _ hc;rwa[qa1]at this
theorem qb5 {w:World}{B n:Nat}{A:Option Addr}{bs:List Nat}(h:Reads w B 1 A n (byv bs)):bs.length=n:=by
 have:=h.1;simpa [byv] using this
theorem Reads.mid {w:World}{B size n:Nat}{A:Option Addr}{xs:List Value}(h:Reads w B size A n xs)(hn:0<n)(hs:0<size):
 ∃b o,A=some ⟨b,o,none⟩∧b<B∧∀j u,xs[j]? =some u→w.cell? ⟨b,o+j,none⟩=some u:=by
 obtain⟨⟨b,o,sp⟩,rfl,hb,hc⟩:=h.2 hn;have hl:0<xs.length:=by rw[h.1];exact Nat.mul_pos hn hs
 have h0:=hc 0 _ (tA7 hl);have hsp:sp=none:=by
  have:=World.cell?_spot h0;simpa [Addr.add] using this
 subst hsp;refine⟨b,o,rfl,hb,fun j u hu=>?_⟩;have:=hc j u hu;have e:(⟨b,o,none⟩:Addr).add j=⟨b,o+j,none⟩:=by unfold Addr.add;split<;>simp_all
 rwa[e]at this
end
section
open Go
section
variable {P : Program} {ops : Array Oper} {Q : Exit → Act → World → Prop} {md : Region.Mode} {S : World → Prop} {n : Nat}
def wpAnyS (P:Program)(md:Region.Mode)(ops:Array Oper)(Q:Exit→Act→World→Prop)(S:World→Prop)(n:Nat):Nat→Array Bool→Act→World→Prop
 |0,listed,a,w=>Region.ready md ops listed=[]∧Q .normal a w
 |fuel+1,listed,a,w=>
  (Region.ready md ops listed=[]→Q .normal a w)∧
  ∀i∈Region.ready md ops listed,wpOp P ops Q i (fun a' w'=>(i<n→S w')∧wpAnyS P md ops Q S n fuel (listed.setIfInBounds i true) a' w') a w
theorem qb6:∀(fuel:Nat) (listed:Array Bool) (a:Act) (w:World),wpAnyS P md ops Q S n fuel listed a w→wpAny P md ops Q fuel listed a w
 |0,_,_,_,h=>h
 |fuel+1,_,_,_,h=>⟨h.1,fun i hi=>wpOp_mono (fun a' w' h'=>qb6 fuel _ a' w' h'.2) (h.2 i hi)⟩
def Tails (md:Region.Mode)(ops:Array Oper)(n:Nat):Prop:=n=ops.size∨(Region.sinkB md ops n=true∧Region.chainB md ops n=true∧n<ops.size)
theorem Tails.lt {listed:Array Bool}(ht:Tails md ops n)(inv:HeadInv md ops n listed){i j:Nat}(hi:i<n)(hun:listed.getD i true=false)(hj:j∈Region.ready md ops listed):j<n:=by
 rcases ht with rfl|⟨hs,hc,hn⟩
 · obtain⟨_,oj,hoj,_⟩:=mem_ready.1 hj
   exact(Array.getElem?_eq_some_iff.1 hoj).1
 rcases Nat.lt_or_ge j n with h|h
 · exact h
 exact absurd hj (tail_waits hs hc hn inv _ i rfl hi hun j h)
theorem qb7 {i:Nat}{oi:Oper}{v:Value}(hi:ops[i]? =some oi)(hsel:∀(j:Nat) (o:Oper) cs b,ops[j]? =some o→o.op≠.select cs b)
 (hQ:∀c a w,Q (.panic c) (a.put oi.dst v) w→Q (.panic c) a w)(ht:Tails md ops n)(hin:i<n):
 ∀(fuel:Nat) (listed:Array Bool) (a:Act) (w:World),HeadInv md ops n listed→
  (∀j oj,ops[j]? =some oj→j≠i→listed.getD j true=false→(∀e∈oj.after,Region.binds md e=true→e.on≠i)→oi.apart ops oj=true)→
  i∈Region.ready md ops listed→YieldsIf P ops S oi v a→S w→
  wpAnyS P md ops Q S n fuel (listed.setIfInBounds i true) (a.put oi.dst v) w→wpAnyS P md ops Q S n (fuel+1) listed a w:=by
 intro fuel;induction fuel with
 |zero=>
  intro listed a w inv _ hr hy hS H;refine⟨fun h=>(by rw[h]at hr;cases hr),fun j hj=>?_⟩;by_cases hji:j=i
  · subst hji;exact hy.wpOp hi hS ⟨fun _=>hS,H⟩
  have:=ready_mono hj hji;rw[H.1]at this;cases this
 |succ fuel ih=>
  intro listed a w inv hfree hr hy hS H;refine⟨fun h=>(by rw[h]at hr;cases hr),fun j hj=>?_⟩;by_cases hji:j=i
  · subst hji;exact hy.wpOp hi hS ⟨fun _=>hS,H⟩
  have hjn:j<n:=ht.lt inv hin (mem_ready.1 hr).1 hj;have h1:=H.2 j (ready_mono hj hji);obtain⟨hjun,oj,hoj,hall⟩:=mem_ready.1 hj;have hnot:∀e∈oj.after,Region.binds md e=true→e.on≠i:=fun e he hb heq=>by
   have h1:=hall e he hb;have h0:=(mem_ready.1 hr).1;rw[heq]at h1;rcases Nat.lt_or_ge i listed.size with h'|h'
   · simp[h']at h0 h1;rw[h0]at h1;cases h1
   simp[Array.getElem?_eq_none h']at h1
  have h2:=wpOp_putIf hoj (hfree j oj hoj hji hjun hnot) (fun cs b=>hsel i oi cs b hi) (fun cs b=>hsel j oj cs b hoj) hQ hy h1;have hfree':∀k ok,ops[k]? =some ok→k≠i→(listed.setIfInBounds j true).getD k true=false→
   (∀e∈ok.after,Region.binds md e=true→e.on≠i)→oi.apart ops ok=true:=fun k ok hk hki hun hno=>by
   refine hfree k ok hk hki ?_ hno;by_cases hjk:j=k
   · subst hjk;exact hjun
   rw[getD_set_ne true hjk]at hun;exact hun
  refine wpOp_mono (fun a' w' h3=>⟨h3.2.1,ih (listed.setIfInBounds j true) a' w' (inv.set hj hjn) hfree' (ready_mono hr (Ne.symm hji)) h3.1 (h3.2.1 hjn) ?_⟩) h2;rw[Array.setIfInBounds_comm _ _ hji];exact h3.2.2
def qb8 (md:Region.Mode)(ops:Array Oper)(n:Nat):List (Nat × Bool)→Array Bool→Bool
 |[],listed=>(Region.ready md ops listed).isEmpty
 |(i,false)::r,listed=>decide (i<n)&&(Region.ready md ops listed).contains i&&Region.free md ops listed i&&qb8 md ops n r (listed.setIfInBounds i true)
 |(i,true)::r,listed=>(decide (i<n)||r.all fun x=>x.2)&&(Region.ready md ops listed==[i])&&qb8 md ops n r (listed.setIfInBounds i true)
def nth {α:Type}:List α→Nat→Option α
 |[],_=>none
 |x::_,0=>some x
 |_::l,i+1=>nth l i
theorem qb9 {α:Type}:∀(l:List α) (i:Nat),nth l i=l.toArray[i]?
 |[],i=>by simp[nth]
 |x::l,0=>by simp[nth]
 |x::l,i+1=>by simpa [nth] using qb9 l i
def qba (P:Program)(ops:Array Oper)(Q:Exit→Act→World→Prop)(S:World→Prop)(n:Nat):List (Nat × Bool)→Act→World→Prop
 |[],a,w=>Q .normal a w
 |(i,false)::r,a,w=>∃o v,ops[i]? =some o∧YieldsIf P ops S o v a∧qba P ops Q S n r (a.put o.dst v) w
 |(i,true)::r,a,w=>wpOp P ops Q i (fun a' w'=>(i<n→S w')∧qba P ops Q S n r a' w') a w
theorem qbb (hall:∀(r:List (Nat × Bool)) (listed:Array Bool) (a:Act) (w:World),(r.all fun x=>x.2)=true→qb8 md ops n r listed=true→qba P ops Q S n r a w→wpAnyS P md ops Q S n r.length listed a w)
 (hsel:Region.noSelect ops=true)(hQ:∀c a d v w,Q (.panic c) (a.put d v) w→Q (.panic c) a w)(ht:Tails md ops n):
 ∀(r:List (Nat × Bool)) (listed:Array Bool) (a:Act) (w:World),HeadInv md ops n listed→S w→qb8 md ops n r listed=true→qba P ops Q S n r a w→wpAnyS P md ops Q S n r.length listed a w:=by
 intro r;induction r with
 |nil=>
  intro listed a w _ _ ho h;simp only[qb8,List.isEmpty_iff]at ho;exact⟨ho,h⟩
 |cons x r ih=>
  obtain⟨i,b⟩:=x;intro listed a w inv hS ho h;cases b with
  |false=>
   simp only[qb8,Bool.and_eq_true,decide_eq_true_eq]at ho;obtain⟨⟨⟨hin,hr⟩,hf⟩,ho⟩:=ho;obtain⟨o,v,hi,hy,h⟩:=h;have hr':i∈Region.ready md ops listed:=by simpa using hr
   exact qb7 hi (Region.noSelect_spec hsel) (fun c a w=>hQ c a o.dst v w) ht hin r.length listed a w inv (Region.free_spec hi hf) hr' hy hS (ih _ _ _ (inv.set hr' hin) hS ho h)
  |true=>
   by_cases hin:i<n
   · simp only[qb8,Bool.and_eq_true,beq_iff_eq]at ho
     obtain⟨⟨_,hr⟩,ho⟩:=ho;have hr':i∈Region.ready md ops listed:=by rw[hr];simp
     refine⟨fun h0=>(by rw[hr]at h0;cases h0),fun j hj=>?_⟩;obtain rfl:j=i:=by rw[hr]at hj;simpa using hj
     exact wpOp_mono (fun a' w' h'=>⟨h'.1,ih _ _ _ (inv.set hr' hin) (h'.1 hin) ho h'.2⟩) h
   have ho':=ho;simp only[qb8,Bool.and_eq_true,Bool.or_eq_true,decide_eq_true_eq,hin,false_or]at ho;exact hall ((i,true)::r) listed a w (by simpa using ho.1.1) ho' h
theorem qbc:∀(r:List (Nat × Bool)) (listed:Array Bool) (a:Act) (w:World),(r.all fun x=>x.2)=true→qb8 md ops n r listed=true→qba P ops Q S n r a w→wpAnyS P md ops Q S n r.length listed a w
 |[],listed,a,w,_,ho,h=>by
  simp only[qb8,List.isEmpty_iff]at ho;exact⟨ho,h⟩
 |(i,false)::r,_,_,_,ha,_,_=>by simp at ha
 |(i,true)::r,listed,a,w,ha,ho,h=>by
  simp only[qb8,Bool.and_eq_true,beq_iff_eq]at ho;obtain⟨⟨_,hr⟩,ho⟩:=ho;refine⟨fun h0=>(by rw[hr]at h0;cases h0),fun j hj=>?_⟩;obtain rfl:j=i:=by rw[hr]at hj;simpa using hj
  exact wpOp_mono (fun a' w' h'=>⟨h'.1,qbc r _ _ _ (by simpa using ha) ho h'.2⟩) h
theorem qbd:HeadInv md ops n (Array.replicate ops.size false):=
 ⟨by simp,fun j oj hj hl=>(by rw[getD_replicate_false]at hl;cases hl),fun t h1 h2=>by simp[h2]⟩
def qbe (md:Region.Mode)(ops:Array Oper)(n:Nat):Bool:=n==ops.size||(Region.sinkB md ops n&&Region.chainB md ops n&&decide (n<ops.size))
theorem qbf {id:Nat}{a:Act}{w:World}(S:World→Prop)(n:Nat)(r:List (Nat × Bool))(hm:P.follows .mixedOrders=true)(hlen:(r.length==ops.size)=true)(hsel:Region.noSelect ops=true)(ht:qbe .any ops n=true)
 (ho:qb8 .any ops n r (Array.replicate ops.size false)=true)(hQ:∀c a d v w,Q (.panic c) (a.put d v) w→Q (.panic c) a w)(hS:S w.drew)
 (h:qba P ops Q S n r a w.drew):(Code.region id ops true).wp P Q a w:=by
 have ht':Tails .any ops n:=by
  unfold qbe at ht;simp only[Bool.or_eq_true,beq_iff_eq,Bool.and_eq_true,decide_eq_true_eq]at ht;exact ht.imp (fun h=>h) fun ⟨⟨a,b⟩,c⟩=>⟨a,b,c⟩
 have hl:r.length=ops.size:=by simpa using hlen
 refine wp_region_any hm (qb6 (n:=n) (S:=S) _ _ _ _ ?_);rw[←hl];rw[hl];have:=qbb qbc hsel hQ ht' r (Array.replicate ops.size false) a w.drew qbd hS ho h;rw[hl]at this;exact this
theorem qbg {a:Act}{w:World}(h:Q .normal a w):qba P ops Q S n [] a w:=h
theorem qbh {l:List Oper}{i:Nat}{r:List (Nat × Bool)}{a:Act}{w:World}{o:Oper}(hi:nth l i=some o)(hw:Region.wanted o (yielded l.toArray a.tmps)=true)
 (h:∃v,(∀w,S w→(execOp a.eval o).run P w=.ok (.value v) w)∧qba P l.toArray Q S n r (a.put o.dst v) w):qba P l.toArray Q S n ((i,false)::r) a w:=
 h.elim fun v hv=>⟨o,v,(qb9 l i).symm.trans hi,.inl ⟨hw,hv.1⟩,hv.2⟩
theorem qbi {l:List Oper}{i:Nat}{r:List (Nat × Bool)}{a:Act}{w:World}{o:Oper}(hi:nth l i=some o)(hw:Region.wanted o (yielded l.toArray a.tmps)=false)
 (h:qba P l.toArray Q S n r (a.put o.dst undef) w):qba P l.toArray Q S n ((i,false)::r) a w:=⟨o,undef,(qb9 l i).symm.trans hi,.inr ⟨hw,rfl⟩,h⟩
theorem qbj {l:List Oper}{i:Nat}{r:List (Nat × Bool)}{a:Act}{w:World}{o:Oper}(hi:nth l i=some o)(hw:Region.wanted o (yielded l.toArray a.tmps)=true)
 (h:o.wp P a w (fun a' w'=>(i<n→S w')∧qba P l.toArray Q S n r a' w') Q):qba P l.toArray Q S n ((i,true)::r) a w:=by
 show wpOp P l.toArray Q i _ a w;unfold wpOp;simp only[(qb9 l i).symm.trans hi,hw,if_true];exact .inl h
theorem qbk {o:Oper}{rest:List Oper}{a:Act}{w:World}(hw:Region.wanted o (yielded ops a.tmps)=true)
 (h:∃v,(execOp a.eval o).run P w=.ok (.value v) w∧wpList P ops Q rest (a.put o.dst v) w):wpList P ops Q (o::rest) a w:=by
 obtain⟨v,h1,h2⟩:=h;unfold wpList;rw[if_pos hw];refine .inl ?_;unfold Oper.wp;rw[h1];exact h2
end
section
variable {P : Program} {ops : Array Oper} {Q : Exit → Act → World → Prop} {S : World → Prop} {n : Nat}
theorem zrd {l:List Oper} {i:Nat} {r:List (Nat × Bool)} {a:Act} {w:World} {o:Oper} {v:Value} (hi:nth l i=some o) (hw:Region.wanted o (yielded l.toArray a.tmps)=true) (h1:∀w,S w→(execOp a.eval o).run P w=.ok (.value v) w) (h2:qba P l.toArray Q S n r (a.put o.dst v) w):qba P l.toArray Q S n ((i,false)::r) a w:=qbh hi hw ⟨v,h1,h2⟩
end

section
variable {P : Program} {ops : Array Oper} {Q : Exit → Act → World → Prop}
theorem zrs {id:Nat} {a:Act} {w:World} (S:World→Prop) (n:Nat) (r:List (Nat × Bool)) (hS:S w.drew) (h:qba P ops Q S n r a w.drew) (hm:P.follows .mixedOrders=true:=by kernel_rfl) (hlen:(r.length==ops.size)=true:=by rfl) (hsel:Region.noSelect ops=true:=by kernel_rfl) (ht:qbe .any ops n=true:=by kernel_rfl) (ho:qb8 .any ops n r (Array.replicate ops.size false)=true:=by kernel_rfl) (hQ:∀c a d v w,Q (.panic c) (a.put d v) w→Q (.panic c) a w:=by(intro _ _ d _ _ h;cases d<;>exact h)):(Code.region id ops true).wp P Q a w:=qbf S n r hm hlen hsel ht ho hQ hS h
end
end
section
open Go.RowKit
def rotr (x a:Nat):Nat:=(x / 2^a)|||(x*2^(32 - a) % 4294967296)
theorem qbl (x a:Nat)(h:x<4294967296):rotr x a<4294967296:=by
 unfold rotr;have h1:x / 2^a<2^32:=Nat.lt_of_le_of_lt (Nat.div_le_self _ _) (by simpa using h);have h2:x*2^(32 - a) % 4294967296<2^32:=Nat.mod_lt _ (by decide);exact Nat.or_lt_two_pow h1 h2
theorem qbm (a:Nat)(a1:1≤a)(a2:a≤31):bits .and .u64 (IntKind.u64.wrap (-(a:Int))) 31=((32 - a:Nat):Int):=by
 have h:a=1∨a=2∨a=3∨a=4∨a=5∨a=6∨a=7∨a=8∨a=9∨a=10∨a=11∨a=12∨a=13∨a=14∨a=15∨a=16∨a=17∨a=18∨a=19∨a=20∨a=21∨a=22∨a=23∨a=24∨a=25∨a=26∨a=27∨a=28∨a=29∨a=30∨a=31:=by omega
 rcases h with rfl|rfl|rfl|rfl|rfl|rfl|rfl|rfl|rfl|rfl|rfl|rfl|rfl|rfl|rfl|rfl|rfl|rfl|rfl|rfl|rfl|rfl|rfl|rfl|rfl|rfl|rfl|rfl|rfl|rfl|rfl<;>decide
theorem qbn (x a:Nat)(w:World)(h:x<4294967296)(a1:1≤a)(a2:a≤31):
 Calls Tryz.prog 265 #[.int .u32 x,.int .i64 (-(a:Int))] w fun e w'=>e=.returned (.int .u32 (rotr x a))∧w=w':=by
 obtain⟨s,hs⟩:=xeq (32 - a);have hb:bits .and .u64 (IntKind.u64.wrap (-(a:Int))) 31=(s:Int):=by rw[←hs];exact qbm a a1 a2
 have hs2:s≤31:=by omega
 have hs3:1≤s:=by omega
 have HS:=zh1 hs;clear hs;go_enter Tryz.func265,Tryz.ntmps265
 go_wp2
 go_ret
 refine⟨?_,rfl⟩;have HS':32 - a=s:=HS;have e1:((x:Int)*2^s % 4294967296)=((x*2^s % 4294967296:Nat):Int):=by
  rw[Int.natCast_emod,Int.natCast_mul,Int.natCast_pow];rfl
 have e2:32 - s=a:=by omega
 have e3:((x:Int) / 2^(32 - s))=((x / 2^a:Nat):Int):=by rw[e2];push_cast;rfl
 rw[e1,e3,u32_or_nat]
 · unfold rotr;rw[HS',Nat.or_comm];rfl
 · exact Nat.mod_lt _ (by decide)
 exact Nat.lt_of_le_of_lt (Nat.div_le_self _ _) h
theorem qbo (x a b c:Nat)(w:World)(h:x<4294967296)(a1:1≤a)(a2:a≤31)(b1:1≤b)(b2:b≤31)(c1:1≤c)(c2:c≤31):
 Calls Tryz.prog 264 #[.int .u32 x,.int .i64 a,.int .i64 b,.int .i64 c] w fun e w'=>e=.returned (.int .u32 (rotr x a^^^rotr x b^^^rotr x c:Nat))∧w=w':=by
 go_enter Tryz.func264,Tryz.ntmps264
 go_wp2_with ((with_reducible refine(qbn _ _ _ h (by assumption) (by assumption)).mono ?_);(rintro _ _ ⟨rfl,rfl⟩))
 have ha:=qbl x a h;have hb:=qbl x b h;have hc:=qbl x c h;go_ret
 refine⟨?_,rfl⟩;rw[u32_xor_nat _ _ ha hb,u32_xor_nat _ _ (Nat.xor_lt_two_pow (n:=32) ha hb) hc];rfl
theorem qbp (x a b c:Nat)(w:World)(h:x<4294967296)(a1:1≤a)(a2:a≤31)(b1:1≤b)(b2:b≤31)(c1:1≤c)(c2:c≤31):
 Calls Tryz.prog 263 #[.int .u32 x,.int .i64 a,.int .i64 b,.int .i64 c] w fun e w'=>e=.returned (.int .u32 (rotr x a^^^rotr x b^^^x / 2^c:Nat))∧∃m,w'=w.drewN m:=by
 go_enter Tryz.func263,Tryz.ntmps263
 go_wp2_with fail
 go_quiet ((go_at_call 265;exact Calls.quiet_of_same ((qbn _ _ _ h (by assumption) (by assumption)).mono (by rintro _ _ ⟨rfl,rfl⟩;exact⟨rfl,rfl⟩))))
 go_wp2
 have ha:=qbl x a h;have hb:=qbl x b h;have hc:x / 2^c<4294967296:=Nat.lt_of_le_of_lt (Nat.div_le_self _ _) h;have e3:((x:Int) / 2^c)=((x / 2^c:Nat):Int):=by rw[Int.natCast_ediv,Int.natCast_pow];rfl
 go_ret
 refine⟨?_,_,rfl⟩;rw[e3,u32_xor_nat _ _ ha hb,u32_xor_nat _ _ (Nat.xor_lt_two_pow (n:=32) ha hb) hc];rfl
end
section
open Go.RowKit
def qbq (ws:List Nat):List Value:=ws.map fun n:Nat=>Value.int .u32 (n:Int)
def be32 (bs:List Nat)(i:Nat):Nat:=(((bs.getD i 0*16777216)|||(bs.getD (i+1) 0*65536))|||(bs.getD (i+2) 0*256))|||bs.getD (i+3) 0
def sig0 (x:Nat):Nat:=rotr x 7^^^rotr x 18^^^x / 2^3
def sig1 (x:Nat):Nat:=rotr x 17^^^rotr x 19^^^x / 2^10
def qbr (bs W:List Nat)(i:Nat):Nat:=
 if i<16 then be32 bs (4*i) else(sig1 (W.getD (i - 2) 0)+W.getD (i - 7) 0+sig0 (W.getD (i - 15) 0)+W.getD (i - 16) 0) % 4294967296
def qbs (bs:List Nat):Nat→List Nat
 |0=>[]
 |i+1=>qbs bs i++[qbr bs (qbs bs i) i]
theorem qbt (bs:List Nat):∀i,(qbs bs i).length=i
 |0=>rfl
 |i+1=>by simp[qbs,qbt bs i]
def u32s (ws:List Nat):Prop:=∀x∈ws,x<4294967296
theorem u32s.getD {ws:List Nat}(h:u32s ws)(i:Nat):ws.getD i 0<4294967296:=by
 rw[List.getD_eq_getElem?_getD];rcases hx:ws[i]? with _|x
 · simp
 exact h x (List.mem_of_getElem? hx)
theorem qbu (bs:List Nat)(h:∀b∈bs,b<256)(i:Nat):be32 bs i<4294967296:=by
 have hb:∀k,bs.getD k 0<256:=fun k=>by
  rw[List.getD_eq_getElem?_getD];rcases hx:bs[k]? with _|x
  · simp
  exact h x (List.mem_of_getElem? hx)
 have h0:=hb i;have h1:=hb (i+1);have h2:=hb (i+2);have h3:=hb (i+3);unfold be32;exact Nat.or_lt_two_pow (n:=32) (Nat.or_lt_two_pow (Nat.or_lt_two_pow (by omega) (by omega)) (by omega)) (by omega)
theorem qbv (bs:List Nat)(h:∀b∈bs,b<256):∀i,u32s (qbs bs i)
 |0=>by intro x hx;cases hx
 |i+1=>by
  intro x hx;simp only[qbs,List.mem_append,List.mem_singleton]at hx;rcases hx with hx|rfl
  · exact qbv bs h i x hx
  unfold qbr;split
  · exact qbu bs h _
  exact Nat.mod_lt _ (by decide)
def qbw (ws:List Nat):List Nat:=ws++List.replicate (64 - ws.length) 0
theorem qbx {ws:List Nat}{k:Nat}(h:ws.length=k)(hk:k<64):(qbq (qbw ws)).toArray[k]? =some (.int .u32 0):=by
 subst h;simp only[qbq,qbw,tA3,List.getElem?_map,List.getElem?_append_right (tA4 _),List.getElem?_replicate];rw[if_pos (by omega)];rfl
theorem qby {ws:List Nat}{k v:Nat}(h:ws.length=k)(hk:k<64):(qbq (qbw ws)).toArray.setIfInBounds k (.int .u32 v)=(qbq (qbw (ws++[v]))).toArray:=by
 subst h;have e:64 - ws.length=(64 - (ws.length+1))+1:=by omega
 unfold qbq qbw;rw[e,List.replicate_succ];simp
theorem qbz {ws:List Nat}{k i:Nat}(h:ws.length=k)(hi:i<k):(qbq (qbw ws)).toArray[i]? =some (.int .u32 (ws.getD i 0:Nat)):=by
 subst h;simp only[qbq,qbw,tA3,List.getElem?_map,List.getElem?_append_left hi];rw[List.getD_eq_getElem?_getD,tA7 hi];rfl
theorem qc0 {w:World}{g i k:Nat}{u v:Value}(hne:i≠k)(h:w.cell? ⟨g,i,none⟩=some u):(w.setCell ⟨g,k,none⟩ v).cell? ⟨g,i,none⟩=some u:=by
 rw[World.cell?_setCell_other _ _ _ _ (fun e=>hne (by injection e with _ e;exact e.symm))];exact h
theorem add4 (a b c d:Nat):IntKind.u32.wrap (IntKind.u32.wrap (IntKind.u32.wrap ((a:Int)+b)+c)+d)=(((a+b+c+d) % 4294967296:Nat):Int):=by
 unfold IntKind.wrap;simp[IntKind.bits,IntKind.signed]
theorem qc1 {ws:List Nat}(h:ws.length=64):qbw ws=ws:=by
 unfold qbw;rw[h];simp
structure St where
 a:Nat
 b:Nat
 c:Nat
 d:Nat
 e:Nat
 f:Nat
 g:Nat
 h:Nat
def St.ok (s:St):Prop:=s.a<4294967296∧s.b<4294967296∧s.c<4294967296∧s.d<4294967296∧s.e<4294967296∧s.f<4294967296∧s.g<4294967296∧s.h<4294967296
def Kt:List Nat:=[0x428a2f98,0x71374491,0xb5c0fbcf,0xe9b5dba5,0x3956c25b,0x59f111f1,0x923f82a4,0xab1c5ed5,0xd807aa98,0x12835b01,0x243185be,0x550c7dc3,0x72be5d74,0x80deb1fe,0x9bdc06a7,0xc19bf174,0xe49b69c1,0xefbe4786,0x0fc19dc6,0x240ca1cc,0x2de92c6f,0x4a7484aa,0x5cb0a9dc,0x76f988da,0x983e5152,0xa831c66d,0xb00327c8,0xbf597fc7,0xc6e00bf3,0xd5a79147,0x06ca6351,0x14292967,0x27b70a85,0x2e1b2138,0x4d2c6dfc,0x53380d13,0x650a7354,0x766a0abb,0x81c2c92e,0x92722c85,0xa2bfe8a1,0xa81a664b,0xc24b8b70,0xc76c51a3,0xd192e819,0xd6990624,0xf40e3585,0x106aa070,0x19a4c116,0x1e376c08,0x2748774c,0x34b0bcb5,0x391c0cb3,0x4ed8aa4a,0x5b9cca4f,0x682e6ff3,0x748f82ee,0x78a5636f,0x84c87814,0x8cc70208,0x90befffa,0xa4506ceb,0xbef9a3f7,0xc67178f2]
def Sig0 (x:Nat):Nat:=rotr x 2^^^rotr x 13^^^rotr x 22
def Sig1 (x:Nat):Nat:=rotr x 6^^^rotr x 11^^^rotr x 25
def chf (s:St):Nat:=(s.e&&& s.f)^^^((4294967295^^^s.e)&&& s.g)
def maj (s:St):Nat:=((s.a&&& s.b)^^^(s.a&&& s.c))^^^(s.b&&& s.c)
def hh (s:St)(k wd:Nat):Nat:=(s.h+Sig1 s.e+chf s+k+wd) % 4294967296
def round (s:St)(k wd:Nat):St:=
 ⟨(hh s k wd+(Sig0 s.a+maj s) % 4294967296) % 4294967296,s.a,s.b,s.c,(s.d+hh s k wd) % 4294967296,s.e,s.f,s.g⟩
def rounds (W:List Nat)(s:St):Nat→St
 |0=>s
 |i+1=>round (rounds W s i) (Kt.getD i 0) (W.getD i 0)
def qc2:St:=⟨0x6a09e667,0xbb67ae85,0x3c6ef372,0xa54ff53a,0x510e527f,0x9b05688c,0x1f83d9ab,0x5be0cd19⟩
def St.vals (s:St):Array Value:=#[.int .u32 s.a,.int .u32 s.b,.int .u32 s.c,.int .u32 s.d,.int .u32 s.e,.int .u32 s.f,.int .u32 s.g,.int .u32 s.h]
structure Tabs (w:World):Prop where
 size:3≤w.heap.size
 start:∀i,i<8→w.cell? ⟨1,i,none⟩=qc2.vals[i]?
 words:∀i,i<64→w.cell? ⟨2,i,none⟩=some (.int .u32 (Kt.getD i 0:Nat))
theorem Tabs.below {w w':World}{B:Nat}(h:Tabs w)(hb:Below B w w')(hB:3≤B):Tabs w':=
 ⟨Nat.le_trans h.size hb.size,fun i hi=>(hb.cell (p:=⟨1,i,none⟩) (show (1:Nat)<B by omega)).trans (h.start i hi),fun i hi=>(hb.cell (p:=⟨2,i,none⟩) (show (2:Nat)<B by omega)).trans (h.words i hi)⟩
theorem Kt_lt (i:Nat):Kt.getD i 0<4294967296:=by
 have:u32s Kt:=by
  intro x hx;have h:(Kt.all fun x=>decide (x<4294967296))=true:=by decide
  simpa using List.all_eq_true.1 h x hx
 exact this.getD i
def St.list (s:St):List Nat:=[s.a,s.b,s.c,s.d,s.e,s.f,s.g,s.h]
theorem St.ok_list {s:St}(h:s.ok):u32s s.list:=by
 obtain⟨h1,h2,h3,h4,h5,h6,h7,h8⟩:=h;intro x hx;simp only[St.list,List.mem_cons,List.not_mem_nil,or_false]at hx;rcases hx with rfl|rfl|rfl|rfl|rfl|rfl|rfl|rfl<;>assumption
def addl (A B:List Nat)(k:Nat):List Nat:=(List.range A.length).map fun i=>if i<k then(A.getD i 0+B.getD i 0) % 4294967296 else A.getD i 0
theorem qc3 {A:List Nat}{i:Nat}(h:i<A.length):(qbq A).toArray[i]? =some (.int .u32 (A.getD i 0:Nat)):=by
 simp only[qbq,tA3,List.getElem?_map];rw[List.getD_eq_getElem?_getD,tA7 h];rfl
theorem qc4 (A B:List Nat)(k:Nat):(addl A B k).length=A.length:=by simp[addl]
theorem qc5 (A B:List Nat):addl A B 0=A:=by
 apply List.ext_getElem?;intro i;by_cases h:i<A.length
 · simp only[addl,Nat.not_lt_zero,if_false,List.getElem?_map,List.getElem?_range h,Option.map_some]
   rw[List.getD_eq_getElem?_getD,tA7 h];rfl
 rw[List.getElem?_eq_none (by rw[qc4];omega),List.getElem?_eq_none (by omega)]
theorem qc6 {A B:List Nat}{k i:Nat}(h:i<A.length):(qbq (addl A B k)).toArray[i]? =some (.int .u32 ((if i<k then(A.getD i 0+B.getD i 0) % 4294967296 else A.getD i 0:Nat):Int)):=by
 simp only[qbq,addl,tA3,List.getElem?_map,List.getElem?_range h,Option.map_some]
theorem qc7 {A B:List Nat}{k:Nat}(h:k<A.length):(qbq (addl A B k)).toArray.setIfInBounds k (.int .u32 (((A.getD k 0+B.getD k 0) % 4294967296:Nat):Int))=(qbq (addl A B (k+1))).toArray:=by
 apply Array.ext_getElem?;intro i;rw[Array.getElem?_setIfInBounds];by_cases hi:i<A.length
 ·
  rw[qc6 hi,qc6 hi];by_cases hik:k=i
  · subst hik
    rw[if_pos rfl,if_pos (by simp[qbq,qc4];omega),if_pos (by omega)]
  rw[if_neg hik];by_cases h2:i<k
  · rw[if_pos h2,if_pos (by omega)]
  rw[if_neg h2,if_neg (by omega)]
 rw[if_neg (by omega),Array.getElem?_eq_none (by simp[qbq,qc4];omega),Array.getElem?_eq_none (by simp[qbq,qc4];omega)]
theorem qc8 {a b c:World}{row:Option Nat}(h:a.grownBy b row)(k:b.grownBy c row):a.grownBy c row:=
 ⟨k.os.trans h.os,k.tape.trans h.tape,k.output.trans h.output,Nat.le_trans h.size k.size,fun i hi hne=>(k.block i (Nat.lt_of_lt_of_le hi h.size) hne).trans (h.block i hi hne)⟩
def qc9 (s z:St):St:=⟨(s.a+z.a) % 4294967296,(s.b+z.b) % 4294967296,(s.c+z.c) % 4294967296,(s.d+z.d) % 4294967296,(s.e+z.e) % 4294967296,(s.f+z.f) % 4294967296,(s.g+z.g) % 4294967296,(s.h+z.h) % 4294967296⟩
def mixed (bs:List Nat)(s:St):St:=qc9 s (rounds (qbs bs 64) s 64)
theorem qca (s z:St):addl s.list z.list 8=(qc9 s z).list:=rfl
theorem St.vals_list (s:St):s.vals=(qbq s.list).toArray:=rfl
theorem qcb (bs:List Nat)(s:St):(mixed bs s).ok:=
 ⟨Nat.mod_lt _ (by decide),Nat.mod_lt _ (by decide),Nat.mod_lt _ (by decide),Nat.mod_lt _ (by decide),Nat.mod_lt _ (by decide),Nat.mod_lt _ (by decide),Nat.mod_lt _ (by decide),Nat.mod_lt _ (by decide)⟩
theorem qcc (s:St)(k wd:Nat)(h:s.ok):(round s k wd).ok:=by
 obtain⟨h1,h2,h3,h4,h5,h6,h7,h8⟩:=h;exact⟨Nat.mod_lt _ (by decide),h1,h2,h3,Nat.mod_lt _ (by decide),h5,h6,h7⟩
theorem qcd (W:List Nat)(s:St)(h:s.ok):∀i,(rounds W s i).ok
 |0=>h
 |i+1=>qcc _ _ _ (qcd W s h i)
theorem qce (a b c d e f g h k wd t1 t2 p3 q5:Nat)(h1:Sig1 e=t1)(h2:Sig0 a=t2)(h3:chf ⟨a,b,c,d,e,f,g,h⟩=p3)(h4:maj ⟨a,b,c,d,e,f,g,h⟩=q5):
 (round ⟨a,b,c,d,e,f,g,h⟩ k wd).vals=#[.int .u32 (((h+t1+p3+k+wd:Int)+(t2+q5)) % 4294967296),.int .u32 a,.int .u32 b,.int .u32 c,.int .u32 ((d+(h+t1+p3+k+wd:Int)) % 4294967296),.int .u32 e,.int .u32 f,.int .u32 g]:=by
 have e1:hh ⟨a,b,c,d,e,f,g,h⟩ k wd=(h+t1+p3+k+wd) % 4294967296:=by unfold hh;rw[h3];simp only[h1]
 unfold round St.vals;dsimp only;rw[e1,h2,h4];have v1:(((((h+t1+p3+k+wd) % 4294967296+(t2+q5) % 4294967296) % 4294967296:Nat)):Int)=((h+t1+p3+k+wd:Int)+(t2+q5)) % 4294967296:=by clear h1 h2 h3 h4 e1;omega
 have v2:((((d+(h+t1+p3+k+wd) % 4294967296) % 4294967296:Nat)):Int)=(d+(h+t1+p3+k+wd:Int)) % 4294967296:=by clear h1 h2 h3 h4 e1 v1;omega
 rw[v1,v2]
theorem qcf {bs:List Nat}{i b:Nat}(h:bs[i]? =some b):bs.getD i 0=b:=by rw[List.getD_eq_getElem?_getD,h];rfl
theorem qcg {w wr:World}{B n g o:Nat}{bs:List Nat}(hr:∀j u,(byv bs)[j]? =some u→w.cell? ⟨g,o+j,none⟩=some u)(hl:bs.length=n)(hbl:Below w.heap.size w wr)(hB:B≤w.heap.size)(hg:g<B){j:Nat}(hj:j<n):
 ∃b:Nat,bs[j]? =some b∧wr.cell? ⟨g,o+j,none⟩=some (.int .u8 b):=by
 refine⟨bs[j]'(by omega),by simp,?_⟩;rw[hbl.cell (by show g<_;omega)];exact hr j _ (by simp[byv,show j<bs.length by omega])
theorem qch (g B n cc:Nat)(A:Option Addr)(bs:List Nat)(s0:St)(w:World)(hS2:s0.ok)(hb:bs.length=n)(hn:64≤n)(hb2:∀b∈bs,b<256)
 (hg:Blk w g 209 #[.int .u32 s0.a,.int .u32 s0.b,.int .u32 s0.c,.int .u32 s0.d,.int .u32 s0.e,.int .u32 s0.f,.int .u32 s0.g,.int .u32 s0.h])(hr:Reads w B 1 A n (byv bs))(hBw:B≤w.heap.size)(ht:Tabs w):
 Calls Tryz.prog 259 #[.pointer (some ⟨g,0,none⟩),.slice A n cc] w fun e w'=>e=.returned (.tuple #[])∧Blk w' g 209 (mixed bs s0).vals∧w.grownBy w' (some g):=by
 have hb2':∀b,b∈bs→b<256:=hb2;obtain⟨gb,ob,rfl,hadB,hr⟩:=hr.mid (by omega) (by omega);go_enter Tryz.func259,Tryz.ntmps259
 go_wp2_with fail
 go_loopw [13] (fun i wr=>∃k q:Nat,k≤64∧i=.int .i64 k∧Blk wr w.heap.size 208 (qbq (qbw (qbs bs k))).toArray∧Below w.heap.size w wr) (fun i _=>64 - (intOf i).toNat)
 case atStart=>exact⟨0,0,by omega,rfl,Blk.new ..,(tA5 _ w).alloc (tA4 _) _⟩
 case round=>
  obtain⟨k,q,hk,rfl,hw,hbl⟩:=hrel;by_cases h16:k<16
  ·
   have hwc:=hw.cell k;rw[qbx (qbt bs k) (by omega)]at hwc;have hwf:=hw.frozen k;have hk64:k<64:=by omega
   have h16':k<16:=h16;obtain⟨j,hj⟩:=xeq (4*k);obtain⟨b0,q0,e0⟩:=qcg hr hb hbl hBw hadB (j:=j) (by omega);obtain⟨b1,q1,e1⟩:=qcg hr hb hbl hBw hadB (j:=j+1) (by omega);obtain⟨b2,q2,e2⟩:=qcg hr hb hbl hBw hadB (j:=j+2) (by omega);obtain⟨b3,q3,e3⟩:=qcg hr hb hbl hBw hadB (j:=j+3) (by omega);have Q0:=zh1 q0;have Q1:=zh1 q1;have Q2:=zh1 q2;have Q3:=zh1 q3;clear q0 q1 q2 q3;have j60:j≤60:=by omega
   have hm:IntKind.i64.wrap (4*(k:Int))=(j:Int):=by rw[show (4*(k:Int))=(j:Int) by omega];exact IntWalk.i64_in _ (by omega)
   have w1:IntKind.i64.wrap ((j:Int)+1)=(j:Int)+1:=IntWalk.i64_in _ (by omega);have w2:IntKind.i64.wrap ((j:Int)+2)=(j:Int)+2:=IntWalk.i64_in _ (by omega);have w3:IntKind.i64.wrap ((j:Int)+3)=(j:Int)+3:=IntWalk.i64_in _ (by omega);have p0:(j:Int)<n:=by omega
   have p1:(j:Int)+1<n:=by omega
   have p2:(j:Int)+2<n:=by omega
   have p3:(j:Int)+3<n:=by omega
   have t1:(0:Int)≤(j:Int)+1:=by omega
   have t2:(0:Int)≤(j:Int)+2:=by omega
   have t3:(0:Int)≤(j:Int)+3:=by omega
   have v0:=hb2' b0 (List.mem_of_getElem? Q0.out);have v1:=hb2' b1 (List.mem_of_getElem? Q1.out);have v2:=hb2' b2 (List.mem_of_getElem? Q2.out);have v3:=hb2' b3 (List.mem_of_getElem? Q3.out);have x0:IntKind.u32.wrap (b0:Int)=b0:=IntWalk.u32_in _ (by omega);have x1:IntKind.u32.wrap (b1:Int)=b1:=IntWalk.u32_in _ (by omega);have x2:IntKind.u32.wrap (b2:Int)=b2:=IntWalk.u32_in _ (by omega);have x3:IntKind.u32.wrap (b3:Int)=b3:=IntWalk.u32_in _ (by omega);have y0:IntKind.u32.wrap ((b0:Int)*16777216)=b0*16777216:=IntWalk.u32_in _ (by omega);have y1:IntKind.u32.wrap ((b1:Int)*65536)=b1*65536:=IntWalk.u32_in _ (by omega);have y2:IntKind.u32.wrap ((b2:Int)*256)=b2*256:=IntWalk.u32_in _ (by omega);have n2:((j:Int)+2).toNat=j+2:=by omega
   have n3:((j:Int)+3).toNat=j+3:=by omega
   obtain⟨a1,ha1,o1⟩:∃a1:Nat,a1=(b0*16777216|||b1*65536)∧bits .or .u32 ((b0:Int)*16777216) ((b1:Int)*65536)=a1:=⟨_,rfl,u32_or_nat (b0*16777216) (b1*65536) (by omega) (by omega)⟩;have l1:a1<4294967296:=by rw[ha1];exact Nat.or_lt_two_pow (n:=32) (by omega) (by omega)
   obtain⟨a2,ha2,o2⟩:∃a2:Nat,a2=(a1|||b2*256)∧bits .or .u32 (a1:Int) ((b2:Int)*256)=a2:=⟨_,rfl,u32_or_nat a1 (b2*256) (by omega) (by omega)⟩;have l2:a2<4294967296:=by rw[ha2];exact Nat.or_lt_two_pow (n:=32) (by omega) (by omega)
   obtain⟨a3,ha3,o3⟩:∃a3:Nat,a3=(a2|||b3)∧bits .or .u32 (a2:Int) (b3:Int)=a3:=⟨_,rfl,u32_or_nat a2 b3 (by omega) (by omega)⟩;have l3:a3=be32 bs (4*k):=by
    have HJ':4*k=j:=hj;unfold be32;rw[HJ',ha3,ha2,ha1,qcf Q0.out,qcf Q1.out,qcf Q2.out,qcf Q3.out]
   clear ha1 ha2 ha3;have L3:=zh1 l3;clear l3;have k64:(k:Int)<64:=by omega
   have HJ:=zh1 hj;clear hj hr;go_wp2_with fail
   go_still_tail 35,(by kernel_rfl)
   change wpList _ _ _ _ _ wr.drew;go_wp2
   go_roundw
   case rel=>
    refine⟨k+1,q,by omega,by go_num,?_,?_⟩
    · rw[qbs,←qby (qbt bs k) hk64,qbr,if_pos h16',←L3.out]
      exact hw.drew.set_ k _
    exact hbl.drew.setCell (tA4 _) _
   case measure=>simp[intOf];omega
  by_cases hk64:k<64
  ·
   have hl:=qbt bs k;have hu:=qbv bs hb2 k;obtain⟨m2,h2⟩:=xeq (k - 2);obtain⟨m7,h7⟩:=xeq (k - 7);obtain⟨m15,h15⟩:=xeq (k - 15);obtain⟨m16,h16'⟩:=xeq (k - 16);have c2:=hw.cell m2;have c7:=hw.cell m7;have c15:=hw.cell m15;have c16:=hw.cell m16;rw[qbz hl (by omega)]at c2 c7 c15 c16;have u2:=hu.getD m2;have u7:=hu.getD m7;have u15:=hu.getD m15;have u16:=hu.getD m16;obtain⟨x2,X2⟩:=xeq ((qbs bs k).getD m2 0);obtain⟨x7,X7⟩:=xeq ((qbs bs k).getD m7 0);obtain⟨x15,A0⟩:=xeq ((qbs bs k).getD m15 0);obtain⟨x16,A1⟩:=xeq ((qbs bs k).getD m16 0);have hwc:=hw.cell k;rw[qbx hl (by omega)]at hwc;have hwf:=hw.frozen k;have i2:IntKind.i64.wrap ((k:Int) - 2)=(m2:Int):=by rw[show ((k:Int) - 2)=(m2:Int) by omega];exact IntWalk.i64_in _ (by omega)
   have i7:IntKind.i64.wrap ((k:Int) - 7)=(m7:Int):=by rw[show ((k:Int) - 7)=(m7:Int) by omega];exact IntWalk.i64_in _ (by omega)
   have i15:IntKind.i64.wrap ((k:Int) - 15)=(m15:Int):=by rw[show ((k:Int) - 15)=(m15:Int) by omega];exact IntWalk.i64_in _ (by omega)
   have i16:IntKind.i64.wrap ((k:Int) - 16)=(m16:Int):=by rw[show ((k:Int) - 16)=(m16:Int) by omega];exact IntWalk.i64_in _ (by omega)
   have q2:(m2:Int)<64:=by omega
   have q7:(m7:Int)<64:=by omega
   have q15:(m15:Int)<64:=by omega
   have q16:(m16:Int)<64:=by omega
   have qk:(k:Int)<64:=by omega
   have z2:m2≠k:=by omega
   have z7:m7≠k:=by omega
   have z15:m15≠k:=by omega
   have z16:m16≠k:=by omega
   have hwx:qbr bs (qbs bs k) k=(sig1 x2+x7+sig0 x15+x16) % 4294967296:=by
    unfold qbr;rw[if_neg h16,h2,h7,h15,h16',X2,X7,A0,A1]
   have A5:=zh1 hwx;rw[X2]at c2 u2;rw[X7]at c7 u7;rw[A0]at c15 u15;rw[A1]at c16 u16;clear hwx X2 X7 A0 A1 h2 h7 h15 h16' hl hu hr;obtain⟨y2,Y2⟩:=xeq (sig1 x2);obtain⟨y15,A2⟩:=xeq (sig0 x15);have K1:∀w,Calls Tryz.prog 263 #[.int .u32 x2,.int .i64 17,.int .i64 19,.int .i64 10] w fun e w'=>e=.returned (.int .u32 (y2:Nat))∧∃m,w'=w.drewN m:=fun w=>Y2▸qbp x2 17 19 10 w u2 (by omega) (by omega) (by omega) (by omega) (by omega) (by omega)
   have K2:∀w,Calls Tryz.prog 263 #[.int .u32 x15,.int .i64 7,.int .i64 18,.int .i64 3] w fun e w'=>e=.returned (.int .u32 (y15:Nat))∧∃m,w'=w.drewN m:=fun w=>A2▸qbp x15 7 18 3 w u15 (by omega) (by omega) (by omega) (by omega) (by omega) (by omega)
   obtain⟨A6,A3⟩:=zh2 Y2 A2;clear Y2 A2;go_wp2_with fail
   go_region_held3 (fun w'=>w'.cell? ⟨w.heap.size,m2,none⟩=some (.int .u32 x2)∧w'.cell? ⟨w.heap.size,m7,none⟩=some (.int .u32 x7)∧w'.cell? ⟨w.heap.size,m15,none⟩=some (.int .u32 x15)∧w'.cell? ⟨w.heap.size,m16,none⟩=some (.int .u32 x16))
    (first|exact⟨c2,c7,c15,c16⟩|exact⟨qc0 z2 c2,qc0 z7 c7,qc0 z15 c15,qc0 z16 c16⟩)
    (first|(go_at_call 263;(with_reducible refine(K1 _).mono ?_);rintro e w2 ⟨rfl,m,rfl⟩;go_split_ands)|(go_at_call 263;(with_reducible refine(K2 _).mono ?_);rintro e w2 ⟨rfl,m,rfl⟩;go_split_ands))
   all_goals
    go_wp2
    go_roundw
    case rel=>
     refine⟨k+1,q,by omega,by go_num,?_,?_⟩
     · rw[qbs,←qby (qbt bs k) hk64,A5.out,A6.out,A3.out,←add4]
       exact(hw.drewN _).set_ k _
     exact(qa8 hbl _).setCell (tA4 _) _
    case measure=>simp[intOf];omega
  have hk':k=64:=by omega
  have hk2:¬(k:Int)<64:=by omega
  obtain⟨wo,rfl⟩:=eqx wr;rw[hk',qc1 (qbt bs 64)]at hw;obtain⟨W,hW⟩:=xeq (qbs bs 64);have hWl:=qbt bs 64;have hWu:=qbv bs hb2 64;rw[hW]at hw hWl hWu;obtain⟨HW,HWl,HWu,A4⟩:=zh4 hW hWl hWu hS2;have hg2:Blk wo g 209 #[.int .u32 s0.a,.int .u32 s0.b,.int .u32 s0.c,.int .u32 s0.d,.int .u32 s0.e,.int .u32 s0.f,.int .u32 s0.g,.int .u32 s0.h]:=hg.below hbl hg.lt;have c0:=hg2.cell 0;have c1:=hg2.cell 1;have c2:=hg2.cell 2;have c3:=hg2.cell 3;have c4:=hg2.cell 4;have c5:=hg2.cell 5;have c6:=hg2.cell 6;have c7:=hg2.cell 7;simp at c0 c1 c2 c3 c4 c5 c6 c7;clear hr hW hWl hWu hS2 hk h16 hk64 hk' hb hb2 hb2' hg;go_wp2_with fail
  go_loopw [80] (fun i wr=>∃(k:Nat) (s:St),k≤64∧i=.int .i64 k∧s=rounds W s0 k∧s.ok∧Blk wr wo.heap.size 209 #[.int .u32 s.a,.int .u32 s.b,.int .u32 s.c,.int .u32 s.d,.int .u32 s.e,.int .u32 s.f,.int .u32 s.g,.int .u32 s.h]∧Below wo.heap.size wo wr) (fun i _=>64 - (intOf i).toNat)
  case atStart=>exact⟨0,s0,by omega,rfl,rfl,A4.out,Blk.new ..,(tA5 _ wo).alloc (tA4 _) _⟩
  case round=>
   clear c0 c1 c2 c3 c4 c5 c6 c7;obtain⟨k,s,hk,rfl,hs,hok,hst,hb3⟩:=hrel;obtain⟨Hs,Hok⟩:=zh2 hs hok;clear hs;obtain⟨a,b,c,d,e,f,g',h⟩:=s;obtain⟨oa,ob',oc,od,oe,of,og,oh⟩:=hok;dsimp only at oa ob' oc od oe of og oh hst;by_cases hk64:k<64
   ·
    have c0:=hst.cell 0;have c1:=hst.cell 1;have c2:=hst.cell 2;have c3:=hst.cell 3;have c4:=hst.cell 4;have c5:=hst.cell 5;have c6:=hst.cell 6;have c7:=hst.cell 7;simp at c0 c1 c2 c3 c4 c5 c6 c7;have qk:(k:Int)<64:=by omega
    have ckk:wr.cell? ⟨2,k,none⟩=some (.int .u32 (Kt.getD k 0:Nat)):=(ht.below (hbl.trans (hb3.mono hbl.size)) ht.size).words k hk64;have cww:wr.cell? ⟨w.heap.size,k,none⟩=some (.int .u32 (W.getD k 0:Nat)):=by
     have hx:=qbz HWl.out hk64;rw[qc1 HWl.out]at hx;rw[(hw.below hb3 hw.lt).cell];exact hx
    obtain⟨kk,hkk⟩:=xeq (Kt.getD k 0);obtain⟨ww,hww⟩:=xeq (W.getD k 0);rw[hkk]at ckk;rw[hww]at cww;have okk:kk<4294967296:=hkk▸Kt_lt k;have oww:ww<4294967296:=hww▸HWu.out.getD k;obtain⟨A7,A8⟩:=zh2 hkk hww;clear hkk hww;have hwl:=hw.lt;obtain⟨AD,Hst,Hb3,Hbl⟩:=zh4 hw hst hb3 hbl;clear hw hst hb3 hbl hg2;obtain⟨n1,hn1,on1⟩:∃p:Nat,(4294967295^^^e)=p∧bits .xor .u32 (if IntKind.u32.signed=true then -1 else IntKind.u32.max) (e:Int)=p:=⟨_,rfl,u32_xor_nat 4294967295 e (by omega) oe⟩;have ln1:n1<4294967296:=by rw[←hn1];exact Nat.xor_lt_two_pow (n:=32) (by omega) (by omega)
    obtain⟨p1,hp1,op1⟩:∃p:Nat,p=(e&&& f)∧bits .and .u32 (e:Int) (f:Int)=p:=⟨_,rfl,u32_and_nat e f oe of⟩;have lp1:p1<4294967296:=by rw[hp1];exact Nat.and_lt_two_pow (n:=32) _ (by omega)
    obtain⟨p2,hp2,op2⟩:∃p:Nat,p=(n1&&& g')∧bits .and .u32 (n1:Int) (g':Int)=p:=⟨_,rfl,u32_and_nat n1 g' ln1 og⟩;have lp2:p2<4294967296:=by rw[hp2];exact Nat.and_lt_two_pow (n:=32) _ (by omega)
    obtain⟨p3,hp3,op3⟩:∃p:Nat,p=(p1^^^p2)∧bits .xor .u32 (p1:Int) (p2:Int)=p:=⟨_,rfl,u32_xor_nat p1 p2 lp1 lp2⟩;obtain⟨q1,hq1,oq1⟩:∃p:Nat,p=(a&&& b)∧bits .and .u32 (a:Int) (b:Int)=p:=⟨_,rfl,u32_and_nat a b oa ob'⟩;have lq1:q1<4294967296:=by rw[hq1];exact Nat.and_lt_two_pow (n:=32) _ (by omega)
    obtain⟨q2,hq2,oq2⟩:∃p:Nat,p=(a&&& c)∧bits .and .u32 (a:Int) (c:Int)=p:=⟨_,rfl,u32_and_nat a c oa oc⟩;have lq2:q2<4294967296:=by rw[hq2];exact Nat.and_lt_two_pow (n:=32) _ (by omega)
    obtain⟨q3,hq3,oq3⟩:∃p:Nat,p=(q1^^^q2)∧bits .xor .u32 (q1:Int) (q2:Int)=p:=⟨_,rfl,u32_xor_nat q1 q2 lq1 lq2⟩;have lq3:q3<4294967296:=by rw[hq3];exact Nat.xor_lt_two_pow (n:=32) (by omega) (by omega)
    obtain⟨q4,hq4,oq4⟩:∃p:Nat,p=(b&&& c)∧bits .and .u32 (b:Int) (c:Int)=p:=⟨_,rfl,u32_and_nat b c ob' oc⟩;have lq4:q4<4294967296:=by rw[hq4];exact Nat.and_lt_two_pow (n:=32) _ (by omega)
    obtain⟨q5,hq5,oq5⟩:∃p:Nat,p=(q3^^^q4)∧bits .xor .u32 (q3:Int) (q4:Int)=p:=⟨_,rfl,u32_xor_nat q3 q4 lq3 lq4⟩;have hch:chf ⟨a,b,c,d,e,f,g',h⟩=p3:=by unfold chf;dsimp only;rw[hp3,hp1,hp2,hn1]
    have hmj:maj ⟨a,b,c,d,e,f,g',h⟩=q5:=by unfold maj;dsimp only;rw[hq5,hq4,hq3,hq2,hq1]
    obtain⟨A9,AA⟩:=zh2 hch hmj;clear hch hmj hp1 hp2 hp3 hq1 hq2 hq3 hq4 hq5 hn1 lp1 lp2 lq1 lq2 lq3 lq4;obtain⟨t1,ht1⟩:=xeq (Sig1 e);obtain⟨t2,ht2⟩:=xeq (Sig0 a);have K1:∀w,Calls Tryz.prog 264 #[.int .u32 e,.int .i64 6,.int .i64 11,.int .i64 25] w fun e w'=>e=.returned (.int .u32 (t1:Nat))∧w=w':=fun w=>ht1▸qbo e 6 11 25 w oe (by omega) (by omega) (by omega) (by omega) (by omega) (by omega)
    have K2:∀w,Calls Tryz.prog 264 #[.int .u32 a,.int .i64 2,.int .i64 13,.int .i64 22] w fun e w'=>e=.returned (.int .u32 (t2:Nat))∧w=w':=fun w=>ht2▸qbo a 2 13 22 w oa (by omega) (by omega) (by omega) (by omega) (by omega) (by omega)
    obtain⟨AB,AC⟩:=zh2 ht1 ht2;clear ht1 ht2;go_upto_region 14 with(fail)
    go_quiet ((go_at_call 264;exact Calls.quiet_of_same ((K1 _).mono (by rintro _ _ ⟨rfl,rfl⟩;exact⟨rfl,rfl⟩))))
    go_upto_region 16 with((with_reducible refine(K2 _).mono ?_);(rintro _ _ ⟨rfl,rfl⟩))
    refine wp_region_lit ?_;iterate 20 (refine qbk rfl ⟨?_,?_,?_⟩;rotate_left;(focus(go_simp;(try go_bits);try rfl));simp only[Act.put,tA0,tA1,tA2])
    refine wpList_store_row rfl 209 _ _ rfl wo.heap.size _ rfl rfl 209 _ (Hst.out.drewN nq) (by kernel_rfl) rfl (by simp[Value.oneCell']) ?_;go_wp2_with fail
    go_roundw
    case rel=>
     refine⟨k+1,round ⟨a,b,c,d,e,f,g',h⟩ kk ww,by omega,by go_num,?_,?_,?_,?_⟩
     · rw[rounds,←Hs.out,A7.out,A8.out]
     · exact qcc _ _ _ Hok.out
     · show Blk _ _ _ (round ⟨a,b,c,d,e,f,g',h⟩ kk ww).vals
       rw[qce a b c d e f g' h kk ww t1 t2 p3 q5 AB.out AC.out A9.out AA.out];exact(Hst.out.drewN nq).setRow _
     exact(qa8 Hb3.out nq).grown (qam _ _ _) (Nat.le_of_lt Hst.out.lt) (fun k hk=>by injection hk with hk;omega)
    case measure=>simp[intOf];omega
   have qk:¬(k:Int)<64:=by omega
   have hk':k=64:=by omega
   have hz:(⟨a,b,c,d,e,f,g',h⟩:St)=rounds W s0 64:=by rw[←hk'];exact Hs.out
   obtain⟨z,hzz⟩:∃z:St,z=⟨a,b,c,d,e,f,g',h⟩:=⟨_,rfl⟩;have hzb:Blk wr wo.heap.size 209 (qbq z.list).toArray:=by rw[hzz];exact hst
   rw[←hzz]at hz;obtain⟨Hz,Hzb⟩:=zh2 hz hzb;have hzu:u32s z.list:=by
    rw[hz];exact St.ok_list (qcd W s0 A4.out 64)
   have Hzu:=zh1 hzu;obtain⟨wq,rfl⟩:=eqx wr;have hgq:Blk wq g 209 (qbq s0.list).toArray:=(hg2.below hb3 hg2.lt);obtain⟨Hgq,Hb3,Hbl⟩:=zh3 hgq hb3 hbl;have hgo:g≠wo.heap.size:=Nat.ne_of_lt hg2.lt;have Hs0:=zh1 (St.ok_list A4.out);clear hzz hz hzb hzu hst hb3 hbl hw hg2 hgq hk' hk64 oa ob' oc od oe of og oh;go_wp2_with fail
   go_loopw [154] (fun i wr=>∃(k:Nat),k≤8∧i=.int .i64 k∧Blk wr g 209 (qbq (addl s0.list z.list k)).toArray∧wq.grownBy wr (some g)) (fun i _=>8 - (intOf i).toNat)
   case atStart=>exact⟨0,by omega,rfl,by rw[qc5];exact Hgq.out,World.grownBy.refl _ _⟩
   case round=>
    obtain⟨k,hk,rfl,hgk,hgr⟩:=hrel;by_cases hk8:k<8
    ·
     have qk8:(k:Int)<8:=by omega
     have cg:=hgk.cell k;rw[qc6 (by simp[St.list];omega),if_neg (Nat.lt_irrefl k)]at cg;have cz:=(Hzb.out.grown hgr (by intro e;injection e with e;exact hgo e.symm)).cell k;rw[qc3 (by simp[St.list];omega)]at cz;have fg:=hgk.frozen k;obtain⟨Hgk,Hgr⟩:=zh2 hgk hgr;obtain⟨x,hx⟩:=xeq (s0.list.getD k 0);obtain⟨y,hy⟩:=xeq (z.list.getD k 0);rw[hx]at cg;rw[hy]at cz;have lx:x<4294967296:=hx▸Hs0.out.getD k;have ly:y<4294967296:=hy▸Hzu.out.getD k;obtain⟨Hx,Hy⟩:=zh2 hx hy;clear hx hy hgk hgr;go_wp2_with fail
     go_still_tail 11,(by kernel_rfl)
     change wpList _ _ _ _ _ wr.drew;go_wp2
     go_roundw
     case rel=>
      refine⟨k+1,by omega,by go_num,?_,?_⟩
      · rw[←qc7 (by simp[St.list];omega),Hx.out,Hy.out]
        have e:(((x+y) % 4294967296:Nat):Int)=((x:Int)+y) % 4294967296:=by omega
        rw[e];exact Hgk.out.drew.set_ k _
      exact qab (qa9 Hgr.out) (.inl rfl) _
     case measure=>simp[intOf];omega
    have qk8:¬(k:Int)<8:=by omega
    have hk8':k=8:=by omega
    rw[hk8',qca]at hgk;obtain⟨Hgk,Hgr⟩:=zh2 hgk hgr;clear hgk hgr hk8' hk8;go_wp2_with fail
    go_end0
    refine⟨rfl,?_,?_⟩
    · have e:=Hgk.out
      rw[Hz.out,←HW.out,←St.vals_list]at e;exact e
    exact qc8 (qad (Hbl.out.trans (Hb3.out.mono Hbl.out.size)) _) Hgr.out
end
section
open Go.RowKit
def qci (cs:Array Value):Obj→Obj
 |.cells _ t frozen=>.cells cs t frozen
 |o=>o
theorem qcj:Tryz.prog.globalNamed "errors.errorType"=some 0:=by kernel_rfl
theorem qck:(Tryz.prog.cutTypes.find? (·.1== "internal/reflectlite.rtype")).map (·.2)=some 327:=by kernel_rfl
theorem qcl:((List.range 395).filter fun t=>Tryz.prog.rowNamed t [101,114,114,111,114])=[81]:=by kernel_rfl
theorem qcm:Tryz.prog.types.size=395:=by kernel_rfl
theorem qcn {r:List (String × DataW Unit)}{W:World}(h:handlesMet Tryz.prog (("errors.errorType",Rows.laid_errors_errorType)::r) W):W.cell? ⟨0,0,none⟩=some (.iface 327 (.agg #[.pointer (some ⟨3,81,none⟩)])):=by
 obtain⟨name,u,ty,e1,e2,e3,e4,e5⟩:=h _ (List.mem_cons_self ..);have en:name=[101,114,114,111,114]:=(Option.some.inj e1).symm;subst en;obtain rfl:=Option.some.inj (qck.symm.trans e2);have hm:ty∈(List.range 395).filter fun t=>Tryz.prog.rowNamed t [101,114,114,111,114]:=List.mem_filter.2 ⟨List.mem_range.2 (by rw[←qcm];exact e3),e4⟩
 rw[qcl]at hm;obtain rfl:=List.mem_singleton.1 hm;have hh:typeHandle Tryz.prog 81=.pointer (some ⟨3,81,none⟩):=by kernel_rfl
 rw[hh]at e5;simpa using World.var?_cell qcj e5 0
end
section
open Go.RowKit
theorem qco:Tryz.prog.globalNamed "deponent/sha.start"=some 1:=by kernel_rfl
theorem qcp:(Tryz.prog.globals[1]?).map (·.type)=some 209:=by kernel_rfl
theorem qcq:Tryz.prog.globalNamed "deponent/sha.words"=some 2:=by kernel_rfl
theorem qcr:(Tryz.prog.globals[2]?).map (·.type)=some 208:=by kernel_rfl
theorem qcs:Tryz.prog.cellsOf 209=8:=by kernel_rfl
theorem qct:Tryz.prog.cellsOf 208=64:=by kernel_rfl
theorem qcu:Tryz.prog.cellsOf 22=1:=by kernel_rfl
theorem qcv {W:World}{r:List (String × DataW Unit)}(h:laidMet Tryz.prog (("deponent/sha.start",Rows.laid_deponent_sha_start)::("deponent/sha.words",Rows.laid_deponent_sha_words)::r) W):Tabs W:=by
 have h1:Lib.TabIs Tryz.prog W "deponent/sha.start" .u32 (qc2.list.map fun n:Nat=>(n:Int)):=Lib.tabIs_of_head qco qcp Tryz.underlying209 Tryz.underlying22 qcu qcs h;have h2:Lib.TabIs Tryz.prog W "deponent/sha.words" .u32 (Kt.map fun n:Nat=>(n:Int)):=Lib.tabIs_of_head qcq qcr Tryz.underlying208 Tryz.underlying22 qcu qct (laidMet.tail h);have c1:∀i,i<8→W.cell? ⟨1,i,none⟩=some (.int .u32 ((qc2.list.getD i 0:Nat):Int)):=fun i hi=>by
  have:=h1.cell qco i (by simpa [St.list] using hi);rw[this];congr 2
  simp only[List.getD_eq_getElem?_getD,List.getElem?_map];cases qc2.list[i]? <;>rfl
 have c2:∀i,i<64→W.cell? ⟨2,i,none⟩=some (.int .u32 ((Kt.getD i 0:Nat):Int)):=fun i hi=>by
  have:=h2.cell qcq i (by simpa [Kt] using hi);rw[this];congr 2
  simp only[List.getD_eq_getElem?_getD,List.getElem?_map];cases Kt[i]? <;>rfl
 refine⟨World.block_lt_of_cell? _ _ (c2 0 (by decide)),fun i hi=>?_,c2⟩;rw[c1 i hi,St.vals_list,qc3 (by simpa [St.list] using hi)]
theorem qcw {W:World}(h:laidMetH Tryz.prog [("deponent/sha.start",Rows.laid_deponent_sha_start),("deponent/sha.words",Rows.laid_deponent_sha_words),("errors.errorType",Rows.laid_errors_errorType)] W):
 Tabs W∧W.cell? ⟨0,0,none⟩=some (.iface 327 (.agg #[.pointer (some ⟨3,81,none⟩)])):=by
 have h':laidMet Tryz.prog [("deponent/sha.start",Rows.laid_deponent_sha_start),("deponent/sha.words",Rows.laid_deponent_sha_words)] W∧handlesMet Tryz.prog [("errors.errorType",Rows.laid_errors_errorType)] W:=h;exact⟨qcv (r:=[]) h'.1,qcn h'.2⟩
end
end Go.Proofs.YthomgopipiomhaaGreatDoor

/- Lemmas. -/
import Derived.Test.YthomgopipiomhaaGreatDoorBMR00
import Derived.Deep.AppendLies
import Derived.Deep.OwnRows
import Derived.BigQuiet
import Derived.Deep.RegionHeld3
import Derived.Lib.LaidTab
import Derived.StillTailTactics
import Derived.Test.YthomgopipiomhaaGreatDoorRows
import Derived.LaidHandle
import Derived.Stop.Joined
import Derived.Stop.LaidErr
import Derived.WalkSpells
import Derived.Deep.DeepCutAuto
import Derived.Deep.CutBlock
import Derived.Stop.BytesEq
import Derived.Laws.CopyOwn
import Derived.ProofKit
import Derived.DataShut
import Derived.OpenShut
import Derived.ShutString
import Derived.Deep.SlicePairs
namespace Go.Proofs.YthomgopipiomhaaGreatDoor
open Go.RowKit
set_option linter.unusedVariables false
set_option linter.unusedSimpArgs false
set_option maxRecDepth 100000
set_option maxHeartbeats 32000000
variable {k cap base B g' size n g b i j id b0 b1 b2 b3 d f h base' fuel p m:Nat}{e t' ty:TypeId}{xs X cs:List Value}{v u v0:Value}{Q:Exit→Act→World→Prop}{K:Act→World→Prop}{a:Act}{o op oi:Oper}{w W w' w1 wr w0:World}{P:Program}{A:Option Addr}{bs ws ys:List Nat}{l:List Oper}{x:Int}
section
theorem qa1(a:Addr)(n:Nat):(a.add n).block=a.block:=by unfold Addr.add;split<;>rfl
theorem qa2(a:Addr)(i j:Nat):(a.add i).add j=a.add (i+j):=by
 unfold Addr.add;by_cases hi:i=0<;>by_cases hj:j=0<;>simp[hi,hj,Nat.add_assoc]
def Reads (w:World)(B size:Nat)(A:Option Addr)(n:Nat)(xs:List Value):Prop:=
 xs.length=n*size∧(0<n→∃ad,A=some ad∧ad.block<B∧∀j u,xs[j]? =some u→w.cell? (ad.add j)=some u)
section
variable {w w' : World} {B B' size n : Nat} {A : Option Addr} {xs : List Value}
theorem Reads.none_:Reads w B size A 0 []:=⟨by simp,fun h=>absurd h zo⟩
theorem Reads.at_(h:Reads w B 1 A n xs)(hk:k<n):∃ad u,A=some ad∧ad.block<B∧xs[k]? =some u∧w.cell? (ad.add k)=some u:=by
 obtain⟨ad,e,hb,hc⟩:=h.2 zo;have hl:k<xs.length:=by have:=h.1;omega
 exact⟨ad,xs[k],e,hb,tA7 hl,hc k _ (tA7 hl)⟩
theorem Reads.keep(h:Reads w B size A n xs)(hk:∀p:Addr,p.block<B→w'.cell? p=w.cell? p):Reads w' B size A n xs:=
 ⟨h.1,fun hn=>by
  obtain⟨ad,e,hb,hc⟩:=h.2 hn;exact⟨ad,e,hb,fun j u hu=>(hk _ (by rw[qa1];exact hb)).trans (hc j u hu)⟩⟩
theorem Reads.more(h:Reads w B size A n xs)(hB:B≤B'):Reads w B' size A n xs:=
 ⟨h.1,fun hn=>by
  obtain⟨ad,e,hb,hc⟩:=h.2 hn;exact⟨ad,e,by omega,hc⟩⟩
theorem Reads.below(h:Reads w B size A n xs)(hb:Below B w w'):Reads w' B size A n xs:=h.keep fun _ hp=>hb.cell hp
theorem Reads.drew(h:Reads w B size A n xs):Reads w.drew B size A n xs:=h
theorem Reads.alloc(h:Reads w B size A n xs)(hB:B≤w.heap.size)(o:Obj):Reads (w.alloc o) B size A n xs:=h.keep fun p hp=>World.cell?_alloc_lt w o p zo
theorem Reads.grown(h:Reads w B size A n xs){row:Option Nat}(hg:w.grownBy w' row)(hB:B≤w.heap.size)(hr:∀g,row=some g→B≤g):Reads w' B size A n xs:=
 h.keep fun p hp=>World.cell?_of_block (hg.block p.block zo (fun e=>by have:=hr _ e.symm;omega))
theorem Reads.cut(h:Reads w B size A n xs)(hk:k≤n)(hc:n≤cap):
 Reads w B size (if cap=k then A else A.map (·.add (k*size))) (n - k) (xs.drop (k*size)):=by
 refine⟨by rw[tBk,h.1,Nat.sub_mul],fun hn=>?_⟩;obtain⟨ad,rfl,hb,hcell⟩:=h.2 zo;rw[if_neg zo];refine⟨ad.add (k*size),rfl,by rw[qa1];exact hb,fun j u hu=>?_⟩;rw[qa2];exact hcell _ u (by rw[←hu,List.getElem?_drop])
theorem Reads.of_own{c:Nat}(h:w.ownsRow base e size (.slice A n c) n xs):Reads w w.heap.size size A n xs:=by
 refine⟨h.1,fun hn=>?_⟩;obtain⟨g,cap,hv,_,hlt⟩:=h.form hn;have hA:A=some ⟨g,0,none⟩:=by injection hv
 subst hA;exact⟨_,rfl,hlt,h.cells (g:=g) rfl⟩
end
def Blk (w:World)(g:Nat)(t:TypeId)(cs:Array Value):Prop:=w.heap[g]? =some (.cells cs t (0,0))
section
variable {w w' : World} {g : Nat} {t : TypeId} {cs : Array Value}
theorem Blk.lt(h:Blk w g t cs):g<w.heap.size:=by
 rcases Nat.lt_or_ge g w.heap.size with hlt|hge
 · exact hlt
 unfold Blk at h;rw[Array.getElem?_eq_none hge]at h;cases h
theorem Blk.cell(h:Blk w g t cs)(i:Nat):w.cell? ⟨g,i,none⟩=cs[i]? :=cell_of_row w g i cs t (0,0) h
theorem Blk.frozen(h:Blk w g t cs)(i:Nat):w.frozen? ⟨g,i,none⟩=false:=by
 unfold Blk at h;simp[World.frozen?,h]
theorem Blk.new(w:World)(t:TypeId)(cs:Array Value):Blk (w.alloc (.cells cs t)) w.heap.size t cs:=heap_alloc_new w _
theorem Blk.drew(h:Blk w g t cs):Blk w.drew g t cs:=h
theorem Blk.drewN(h:Blk w g t cs)(n:Nat):Blk (w.drewN n) g t cs:=h
theorem Blk.alloc(h:Blk w g t cs)(o:Obj):Blk (w.alloc o) g t cs:=(Below.heap_alloc w o g h.lt).trans h
theorem Blk.set_(h:Blk w g t cs)(i:Nat)(u:Value):Blk (w.setCell ⟨g,i,none⟩ u) g t (cs.setIfInBounds i u):=by
 unfold Blk at h ⊢;simp[World.setCell,Array.getElem?_modify,h]
theorem Blk.far(h:Blk w g t cs){p:Addr}(hp:g≠p.block)(u:Value):Blk (w.setCell p u) g t cs:=(Below.heap_setCell w p u g hp).trans h
theorem Blk.below(h:Blk w g t cs)(hb:Below B w w')(hg:g<B):Blk w' g t cs:=(hb.block g hg).trans h
theorem Blk.grown{row:Option Nat}(h:Blk w g t cs)(hb:w.grownBy w' row)(hg:some g≠row):Blk w' g t cs:=(hb.block g h.lt hg).trans h
theorem Blk.ne_{cs':Array Value}(h:Blk w g t cs)(h':Blk w g' t' cs')(hne:t≠t'):g≠g':=by
 rintro rfl;unfold Blk at h h';rw[h]at h';injection h' with h';injection h' with _ ht;exact hne ht
theorem qa3(h:w.ownsRow base e size v n xs)(hg:Blk w g t cs)(hne:e≠t):v.ownBlock≠some g:=by
 rcases h.2 with⟨rfl,_⟩|⟨g',cap,cur,rfl,_,hh,_⟩
 · simp[Value.ownBlock]
 intro he;have:g'=g:=by simpa [Value.ownBlock] using he
 subst this;exact Blk.ne_ (t:=e) hh hg hne rfl
end
section
variable {P : Program} (w : World)
theorem qa4(base:Nat)(t ty e:TypeId)(i:TypeInfo)(size:Nat)(ht:P.underlying t=some (.slice e))(hi:P.info? e=some i)
 (v:Value)(n:Nat)(xs:List Value)(hown:w.ownsRow base e size v n xs)(c:Nat):(Builtin.append_ #[t,t] ty #[v,.slice none 0 c]).run P w=.ok v w:=by
 rcases hown.2 with⟨rfl,rfl⟩|⟨g,cap,cur,rfl,_,_,hnc,_⟩
 · simp[Builtin.append_,run_underlying ht,sizeOf,typeInfo,hi,Builtin.lenOf,Builtin.firstCells]
 simp[Builtin.append_,run_underlying ht,sizeOf,typeInfo,hi,Builtin.lenOf,Builtin.firstCells,hnc,storeCells]
theorem qa5(base:Nat)(t ty e:TypeId)(i:TypeInfo)(z:Value)(size bytes:Nat)(ht:P.underlying t=some (.slice e))(hi:P.info? e=some i)(hz:i.zero=some z)
 (hsize:i.size=size)(hby:i.bytes=bytes)(hzs:z.cells.size=size)(hsz:0<size)
 (v:Value)(n:Nat)(xs:List Value)(hown:w.ownsRow base e size v n xs)
 (B:Nat)(A:Option Addr)(m c:Nat)(news:List Value)(hr:Reads w B size A m news)(h1:∀u∈news,u.oneCell'=true)
 (h63:n+m≤maxLen)(hbytes:(n+m)*bytes≤140737488355328)(hbase:base≤w.heap.size):
 ∃v' w',(Builtin.append_ #[t,t] ty #[v,.slice A m c]).run P w=.ok v' w'∧w'.ownsRow base e size v' (n+m) (xs++news)∧w.grownBy w' v.ownBlock∧
  (v'.ownBlock=v.ownBlock∨v'.ownBlock=some w.heap.size):=by
 rcases A with _|ad
 ·
  have hm:m=0:=by
   rcases Nat.eq_zero_or_pos m with h0|h0
   · exact h0
   obtain⟨ad,h,_⟩:=hr.2 h0;cases h
  subst hm;have hn:news=[]:=tB8 (by simpa using hr.1);subst hn;exact⟨v,w,qa4 w base t ty e i size ht hi v n xs hown c,by simpa using hown,tB9 w _,.inl rfl⟩
 have hcells:∀j u,news[j]? =some u→w.cell? (ad.add j)=some u:=by
  intro j u hu;rcases Nat.eq_zero_or_pos m with h0|h0
  · subst h0
    have hn:news=[]:=tB8 (by simpa using hr.1);subst hn;simp at hu
  obtain⟨ad',h,_,hc⟩:=hr.2 h0;injection h with h;subst h;exact hc j u hu
 obtain⟨v',w',hrun,h2,h3,_,h5⟩:=run_append_own_at (P:=P) w base t ty e i z size bytes ht hi hz hsize hby hzs hsz v n xs hown ad m c news hr.1 hcells h1 h63 hbytes hbase;exact⟨v',w',hrun,h2,h3,h5⟩
theorem qa6(s x:Operand)(t:TypeId)
 (ho:o.op=.call {callee:=.builtin .append,args:=#[s,x],argTypes:=#[t,t]})
 (base:Nat)(e:TypeId)(i:TypeInfo)(z:Value)(size bytes:Nat)(ht:P.underlying t=some (.slice e))(hi:P.info? e=some i)(hz:i.zero=some z)
 (hsize:i.size=size)(hby:i.bytes=bytes)(hzs:z.cells.size=size)(hsz:0<size)
 (v:Value)(n:Nat)(xs:List Value)(hs:a.eval s=v)(hown:w.ownsRow base e size v n xs)
 (B:Nat)(A:Option Addr)(m c:Nat)(news:List Value)(hx:a.eval x=.slice A m c)(hr:Reads w B size A m news)(h1:∀u∈news,u.oneCell'=true)
 (h63:n+m≤maxLen)(hbytes:(n+m)*bytes≤140737488355328)(hbase:base≤w.heap.size)
 (h:∀v' w',w'.ownsRow base e size v' (n+m) (xs++news)→w.grownBy w' v.ownBlock→(v'.ownBlock=v.ownBlock∨v'.ownBlock=some w.heap.size)→K (a.put o.dst v') w'):o.wp P a w K Q:=by
 obtain⟨v',w',hrun,h2,h3,h4⟩:=qa5 (P:=P) w base t o.type e i z size bytes ht hi hz hsize hby hzs hsz v n xs hown B A m c news hr h1 h63 hbytes hbase;unfold Oper.wp execOp;simp only[ho,resolve,invoke,builtin,Sem.run_bind,Sem.run_pure,Result.andThen_ok,List.map_toArray,List.map_cons,List.map_nil,hs,hx,hrun];exact h v' w' h2 h3 h4
theorem qa7{ops:Array Oper}{rest:List Oper}(hgd:o.guard=none)(s x:Operand)(t:TypeId)
 (ho:o.op=.call {callee:=.builtin .append,args:=#[s,x],argTypes:=#[t,t]})
 (base:Nat)(e:TypeId)(i:TypeInfo)(z:Value)(size bytes:Nat)(ht:P.underlying t=some (.slice e))(hi:P.info? e=some i)(hz:i.zero=some z)
 (hsize:i.size=size)(hby:i.bytes=bytes)(hzs:z.cells.size=size)(hsz:0<size)
 (v:Value)(n:Nat)(xs:List Value)(hs:a.eval s=v)(hown:w.ownsRow base e size v n xs)
 (B:Nat)(A:Option Addr)(m c:Nat)(news:List Value)(hx:a.eval x=.slice A m c)(hr:Reads w B size A m news)(h1:∀u∈news,u.oneCell'=true)
 (h63:n+m≤maxLen)(hbytes:(n+m)*bytes≤140737488355328)(hbase:base≤w.heap.size)
 (h:∀v' w',w'.ownsRow base e size v' (n+m) (xs++news)→w.grownBy w' v.ownBlock→(v'.ownBlock=v.ownBlock∨v'.ownBlock=some w.heap.size)→wpList P ops Q rest (a.put o.dst v') w'):wpList P ops Q (o::rest) a w:=
 wpList_plain hgd fun _ hK=>qa6 w s x t ho base e i z size bytes ht hi hz hsize hby hzs hsz v n xs hs hown B A m c news hx hr h1 h63 hbytes hbase fun v' w' h2 h3 h4=>hK _ _ (h v' w' h2 h3 h4)
end
theorem qa8{a:World}(h:Below B a w)(n:Nat):Below B a (w.drewN n):=⟨h.os,h.tape,h.output,h.size,h.block⟩
theorem qa9{a:World}{row:Option Nat}(h:a.grownBy w row):a.grownBy w.drew row:=⟨h.os,h.tape,h.output,h.size,h.block⟩
theorem qaa{a:World}{row:Option Nat}(h:a.grownBy w row)(o:Obj):a.grownBy (w.alloc o) row:=
 ⟨h.os,h.tape,h.output,tB1 h.size zm,fun i hi hne=>(Below.heap_alloc w o i (tB0 hi h.size)).trans (h.block i hi hne)⟩
theorem qab{a:World}(h:a.grownBy w (some g)){p:Addr}(hp:p.block=g∨a.heap.size≤p.block)(u:Value):a.grownBy (w.setCell p u) (some g):=
 ⟨h.os,h.tape,h.output,by simpa [World.setCell] using h.size,fun i hi hne=>(Below.heap_setCell w p u i (by
  rintro rfl;rcases hp with hp|hp
  · exact hne (by rw[hp])
  omega)).trans (h.block i hi hne)⟩
theorem qac{a b c:World}{row:Option Nat}(h:a.grownBy b (some g))(k:b.grownBy c row)(hr:∀d,row=some d→d=g∨a.heap.size≤d):a.grownBy c (some g):=
 ⟨k.os.trans h.os,k.tape.trans h.tape,k.output.trans h.output,tB1 h.size k.size,fun i hi hn=>
  (k.block i (tB0 hi h.size) (fun e=>by rcases hr i e.symm with rfl|h';exact hn rfl;omega)).trans (h.block i hi hn)⟩
theorem qad{a:World}(h:Zb a w)(row:Option Nat):a.grownBy w row:=⟨h.os,h.tape,h.output,h.size,fun i hi _=>h.block i hi⟩
section
open Go.WideShapes Go.ChangeShapes
section
variable {H : Type} {enc : TypeId × Value → H} {P : Program}
end
end
theorem Reads.new(w:World)(t:TypeId)(l:List Value)(size n:Nat)(h:l.length=n*size):
 Reads (w.alloc (.cells l.toArray t)) (w.heap.size+1) size (some ⟨w.heap.size,0,none⟩) n l:=by
 refine⟨h,fun _=>⟨_,rfl,by simp,fun j u hu=>?_⟩⟩;have hadd:(⟨w.heap.size,0,none⟩:Addr).add j=⟨w.heap.size,j,none⟩:=by unfold Addr.add;split<;>simp_all
 rw[hadd,(Blk.new w t l.toArray).cell];simpa using hu
theorem Reads.new1(w:World)(t:TypeId)(u:Value):
 Reads (w.alloc (.cells #[u] t)) (w.heap.size+1) 1 (some ⟨w.heap.size,0,none⟩) 1 [u]:=Reads.new w t [u] 1 1 rfl
theorem qae(h:Below B W w)(hown:w.ownsRow base e size v n xs)(hg:w.grownBy w' v.ownBlock)(hB:B≤base)(hbase:base≤w.heap.size):Below B W w':=
 h.grown hg (tB1 hB hbase) fun k hk=>tB1 hB (hown.lt k hk).1
theorem qaf(h:w.ownsRow base e size v n xs):
 ∃A c,v=.slice A n c∧n≤c∧c≤maxLen∧Reads w w.heap.size size A n xs:=by
 rcases h.2 with⟨rfl,rfl⟩|⟨g,cap,cur,rfl,_,_,hn,hc,_⟩
 · exact⟨none,0,rfl,tA4 _,by simp[maxLen],Reads.of_own (c:=0) h⟩
 exact⟨_,cap,rfl,hn,hc,Reads.of_own h⟩
theorem qag(h:Zb W w)(hb:Zb w w1):Zb W w1:=h.trans (hb.mono h.size)
theorem qah(h:Zb W w)(o:Obj):Zb W (w.alloc o):=h.alloc h.size o
theorem qai{a:Addr}(h:w.cell? a=some v)(hb:Zb w w1):w1.cell? a=some v:=(hb.cell (World.block_lt_of_cell? _ _ h)).trans h
theorem qaj{a:Addr}(h:w.cell? a=some v)(o:Obj):(w.alloc o).cell? a=some v:=qai h ((tA5 _ _).alloc (tA4 _) o)
theorem qak(w:World)(cs:Array Value)(t:TypeId)(i:Nat):(w.alloc (.cells cs t)).cell? ⟨w.heap.size,i,none⟩=cs[i]? :=(Blk.new w t cs).cell i
theorem qal(h:w.ownsRow base e size v n xs){p:Addr}(hp:v.ownBlock≠some p.block)(u:Value):(w.setCell p u).ownsRow base e size v n xs:=
 h.kept (row:=some p.block) ⟨rfl,rfl,rfl,by simp[World.setCell],fun k _ hne=>Below.heap_setCell w p u k (fun e=>hne (by rw[e]))⟩ (.inr hp)
theorem qam(w:World)(g:Nat)(cs:Array Value):w.grownBy (w.setRow g cs) (some g):=
 ⟨rfl,rfl,rfl,by simp,fun i hi hne=>by
  unfold World.setRow;simp only[Array.getElem?_modify];rw[if_neg (fun e=>hne (by rw[e]))]⟩
theorem Blk.setRow{t:TypeId}{cs:Array Value}(h:Blk w g t cs)(c':Array Value):Blk (w.setRow g c') g t c':=setRow_heap w g cs c' t (0,0) h
theorem qao{fn:Func}{t:Tmp}{tmps:Array Value}(h:fn.results=#[.cell t ty])(ht:tmps.getD t undef=.pointer (some ⟨g,0,none⟩))
 (hl:(loadVar ty ⟨g,0,none⟩).run P w=.ok v w):(results fn tmps).run P w=.ok v w:=by
 unfold results;rw[h];simp only[Array.getD_eq_getD_getElem?]at ht;simp[ht,asAddr,hl,Sem.run_pure]
theorem qap{t:TypeId}{l:List Value}(h:Blk w g t l.toArray)(o:Nat)(cs:List Value)(hc:∀j u,cs[j]? =some u→l[o+j]? =some u):w.rangeAt g o cs:=by
 intro j u hu;rw[h.cell];simpa using hc j u hu
theorem qaq{ops:Array Oper}{rest:List Oper}(hw:Region.wanted op (yielded ops a.tmps)=true)(ty:TypeId)(x:Operand)(ho:op.op=.load ty x)
 (b o:Nat)(hx:a.eval x=.pointer (some ⟨b,o,none⟩))(cs:List Value)(d:TypeDesc)(hc:w.rangeAt b o cs)
 (hu:P.underlying ty=some d)(hd:d.isRow=true)(hi:(P.info? ty).map (·.size)=some cs.length)(h:wpList P ops Q rest (a.put op.dst (.agg cs.toArray)) w):wpList P ops Q (op::rest) a w:=by
 unfold wpList;rw[if_pos hw];exact .inl (wp_load_mid ty x ho b o hx cs d hc hu hd hi h)
theorem qar(w:World)(o:Obj):(w.alloc o).heap.size=w.heap.size+1:=by simp
theorem zrt{fn:Func} {R:Ending→World→Prop}   {t:Nat}   {d:TypeDesc} (HR:w.rangeAt g 0 X) (hu:P.underlying ty=some d) (hi:(P.info? ty).map (·.size)=some X.length) (hR:R (.returned (.agg X.toArray)) w) (hd:d.isRow=true:=by rfl) (h:fn.results=#[.cell t ty]:=by rfl) (ht:a.tmps.getD t undef=.pointer (some ⟨g,0,none⟩):=by rfl) (hdf:a.defers=[]:=by rfl):bodyPost P fn R .ret a w:=bodyPost_ret (qao h ht (run_loadVar_mid _ _ 0 _ X _ HR hu hd hi)) hdf hR
theorem zst{ops:Array Oper} {rest:List Oper}     {t:TypeId} {x y:Operand}   {old:Array Value} (hg:w.heap[g]? =some (.cells old t (0,0))) (hi:(P.info? t).map (·.size)=some X.length) (hold:old.size=X.toArray.size) (h1:∀u∈X,u.oneCell'=true) (h:wpList P ops Q rest (a.put o.dst undef) (w.setRow g X.toArray)) (hgd:o.guard=none:=by rfl) (ho:o.op=.store t x y:=by rfl) (hx:a.eval x=.pointer (some ⟨g,0,none⟩):=by rfl) (hy:a.eval y=.agg X.toArray:=by rfl):wpList P ops Q (o::rest) a w:=wpList_store_row hgd t x y ho g X.toArray hx hy t old hg (by simpa using hi) hold (by simpa using h1) h
theorem zld{ops:Array Oper} {rest:List Oper}      {x:Operand} {o:Nat}  {d:TypeDesc} (hc:w.rangeAt b o cs) (hu:P.underlying ty=some d) (hi:(P.info? ty).map (·.size)=some cs.length) (h:wpList P ops Q rest (a.put op.dst (.agg cs.toArray)) w) (hw:Region.wanted op (yielded ops a.tmps)=true:=by rfl) (ho:op.op=.load ty x:=by rfl) (hx:a.eval x=.pointer (some ⟨b,o,none⟩):=by rfl) (hd:d.isRow=true:=by rfl):wpList P ops Q (op::rest) a w:=qaq hw ty x ho b o hx cs d hc hu hd hi h
theorem zI(t:TypeId)   (h:X.length=n) (k:(Tryz.prog.info? t).map (·.size)=some n:=by kernel_rfl):(Tryz.prog.info? t).map (·.size)=some X.length:=h▸k
def zq:Nat→Nat→List (Nat × Bool)→List (Nat × Bool)
  |_,0,t=>t
  |i,n+1,t=>(i,false)::zq (i+1) n t
theorem zS(p:World→Prop):∃S:World→Prop,Hid (∀w',S w'=p w'):=⟨p,fun _=>rfl⟩
theorem zF{S:World→Prop}  {p:Addr}  (H:Hid (∀w',S w'=Below W.heap.size W w')) (c:W.cell? p=some v):∀w',S w'→w'.cell? p=some v:=fun w' h=>qai c ((H.out w').mp h)
theorem zca{f:FuncId} {args:Array Value}   {K:Ending→World→Prop} (h:Calls Tryz.prog f args w fun e w'=>e=.returned v∧w=w') (k:K (.returned v) w):Calls Tryz.prog f args w K:=h.mono (fun _ _ h=>h.1▸h.2▸k)
theorem zcb{f:FuncId} {args:Array Value}   {R:World→Prop} {K:Ending→World→Prop} (h:Calls Tryz.prog f args w fun e w'=>e=.returned v∧R w') (k:∀w',R w'→K (.returned v) w'):Calls Tryz.prog f args w K:=h.mono (fun _ w' h=>h.1▸k w' h.2)
theorem zdr(w:World):∃x,x=w.drew∧Hid (Below w.heap.size w x):=⟨_,rfl,(Below.refl _ _).drew⟩
theorem zmf:∀(fn:Fn) (first cap:Array Value) (w:World),(Instr.makeFunc fn first cap).run Tryz.prog w=.ok (.func fn first cap) w:=fun _ _ _ _=>rfl
section
variable {w W : World} {A A' A'' : Array Value} {T T' T'' : TypeId}
theorem zNa(h:W=w.alloc (.cells A T)):Blk W w.heap.size T A:=by subst h;exact Blk.new _ _ _
theorem zNb(h:W=(w.alloc (.cells A T)).alloc (.cells A' T')):Blk W w.heap.size T A:=by subst h;exact(Blk.new _ _ _).alloc _
theorem zNc(h:W=(w.alloc (.cells A T)).alloc (.cells A' T')):Blk W (w.heap.size+1) T' A':=by
  have k:=Blk.new (w.alloc (.cells A T)) T' A'
  rw[qar]at k
  subst h
  exact k
theorem zNd(h:W=((w.alloc (.cells A T)).alloc (.cells A' T')).alloc (.cells A'' T'')):Blk W w.heap.size T A:=by subst h;exact((Blk.new _ _ _).alloc _).alloc _
theorem zNe(h:W=((w.alloc (.cells A T)).alloc (.cells A' T')).alloc (.cells A'' T'')):Blk W (w.heap.size+1) T' A':=by subst h;exact(zNc rfl).alloc _
theorem zNf(h:W=((w.alloc (.cells A T)).alloc (.cells A' T')).alloc (.cells A'' T'')):Blk W (w.heap.size+1+1) T'' A'':=by
  have k:=Blk.new ((w.alloc (.cells A T)).alloc (.cells A' T')) T'' A''
  rw[qar,qar]at k
  subst h
  exact k
theorem zMa(h:W=w.alloc (.cells A T)):Below w.heap.size w W:=by subst h;exact qah (Below.refl _ _) _
theorem zMb(h:W=(w.alloc (.cells A T)).alloc (.cells A' T')):Below w.heap.size w W:=by subst h;exact qah (qah (Below.refl _ _) _) _
theorem zMc(h:W=((w.alloc (.cells A T)).alloc (.cells A' T')).alloc (.cells A'' T'')):Below w.heap.size w W:=by subst h;exact qah (qah (qah (Below.refl _ _) _) _) _
end
end
def byv (l:List Nat):List Value:=l.map fun b:Nat=>Value.int .u8 (b:Int)
theorem qas(a b:List Nat):byv (a++b)=byv a++byv b:=by simp[byv]
theorem qat(a:List Nat):(byv a).length=a.length:=by simp[byv]
theorem qau(l:List Nat):∀u∈byv l,u.oneCell'=true:=by
 intro u hu;obtain⟨x,_,rfl⟩:=List.mem_map.1 hu;rfl
def qav (n k:Nat):Nat:=n / 256^k % 256
def be (n s:Nat):List Nat:=(List.range s).map fun j=>qav n (s - 1 - j)
theorem qaw(n s:Nat):(be n s).length=s:=by simp[be]
theorem qax(n s j:Nat)(h:j<s):(be n s).take (j+1)=(be n s).take j++[qav n (s - 1 - j)]:=by
 rw[List.take_add_one];congr 1
 simp[be,h]
theorem qay(n k:Nat):qav n k<256:=Nat.mod_lt _ zo
theorem qaz(n s:Nat):∀b∈be n s,b<256:=by
 intro b hb;simp only[be,List.mem_map]at hb;obtain⟨j,_,rfl⟩:=hb;exact qay _ _
def qb0 (k:Int):Nat:=(min (max k 1) 8).toNat
theorem qb1(k:Int):1≤qb0 k∧qb0 k≤8:=by unfold qb0;omega
def txt (b:List Nat):List Nat:=be (b.length % 65536) 2++b.take (b.length % 65536)
theorem qb2(a:Nat)(ha:a<9223372036854775808):(BitVec.ofInt 64 (a:Int)).toNat=a:=by
 rw[BitVec.ofInt_natCast,BitVec.toNat_ofNat];exact Nat.mod_eq_of_lt zo
theorem qb4(n:Nat)(hn:n≤9223372036854775807):bits .and .i64 (n:Int) 65535=((n % 65536:Nat):Int):=by
 have h:bits .and .i64 (n:Int) ((65535:Nat):Int)=((n&&& 65535:Nat):Int):=by
  have hx:n&&& 65535<2^63:=Nat.and_lt_two_pow _ zo;show IntKind.i64.wrap ((BitVec.ofInt 64 (n:Int)&&& BitVec.ofInt 64 ((65535:Nat):Int)).toNat:Int)=_;rw[BitVec.toNat_and,qb2 n zo,qb2 65535 zo,IntKind.wrap_i64];omega
 rw[show (65535:Int)=((65535:Nat):Int) from rfl,h];rw[show n&&& 65535=n % 65536 from Nat.and_two_pow_sub_one_eq_mod n 16]
theorem Reads.pre(h:Reads w B 1 A n xs)(hk:k≤n):Reads w B 1 A k (xs.take k):=by
 refine⟨by rw[tBd,h.1];omega,fun hk0=>?_⟩;obtain⟨ad,e,hb,hc⟩:=h.2 zo;exact⟨ad,e,hb,fun j u hu=>hc j u (by rw[List.getElem?_take]at hu;split at hu<;>simp_all)⟩
theorem Reads.here(h:Reads w B 1 A n xs):Reads w w.heap.size 1 A n xs:=by
 refine⟨h.1,fun hn=>?_⟩;obtain⟨ad,u,e,hb,hu,hc⟩:=h.at_ hn;obtain⟨ad',e',hb',hc'⟩:=h.2 hn;rw[e]at e';injection e' with e';subst e';refine⟨ad,e,?_,hc'⟩;have:=World.block_lt_of_cell? _ _ hc;rwa[qa1]at this
theorem qb5(h:Reads w B 1 A n (byv bs)):bs.length=n:=by
 have:=h.1;simpa [byv] using this
theorem Reads.mid(h:Reads w B size A n xs)(hn:0<n)(hs:0<size):
 ∃b o,A=some ⟨b,o,none⟩∧b<B∧∀j u,xs[j]? =some u→w.cell? ⟨b,o+j,none⟩=some u:=by
 obtain⟨⟨b,o,sp⟩,rfl,hb,hc⟩:=h.2 hn;have hl:0<xs.length:=by rw[h.1];exact Nat.mul_pos hn hs
 have h0:=hc 0 _ (tA7 hl);have hsp:sp=none:=by
  have:=World.cell?_spot h0;simpa [Addr.add] using this
 subst hsp;refine⟨b,o,rfl,hb,fun j u hu=>?_⟩;have:=hc j u hu;have e:(⟨b,o,none⟩:Addr).add j=⟨b,o+j,none⟩:=by unfold Addr.add;split<;>simp_all
 rwa[e]at this
section
open Go
section
variable {P : Program} {ops : Array Oper} {Q : Exit → Act → World → Prop} {md : Region.Mode} {S : World → Prop} {n : Nat}
def wpAnyS (P:Program)(md:Region.Mode)(ops:Array Oper)(Q:Exit→Act→World→Prop)(S:World→Prop)(n:Nat):Nat→Array Bool→Act→World→Prop
 |0,listed,a,w=>Region.ready md ops listed=[]∧Q .normal a w
 |fuel+1,listed,a,w=>
  (Region.ready md ops listed=[]→Q .normal a w)∧
  ∀i∈Region.ready md ops listed,wpOp P ops Q i (fun a' w'=>(i<n→S w')∧wpAnyS P md ops Q S n fuel (listed.setIfInBounds i true) a' w') a w
theorem qb6:∀(fuel:Nat) (listed:Array Bool) (a:Act) (w:World),wpAnyS P md ops Q S n fuel listed a w→wpAny P md ops Q fuel listed a w
 |0,_,_,_,h=>h
 |fuel+1,_,_,_,h=>⟨h.1,fun i hi=>wpOp_mono (fun a' w' h'=>qb6 fuel _ a' w' h'.2) (h.2 i hi)⟩
def Tails (md:Region.Mode)(ops:Array Oper)(n:Nat):Prop:=n=ops.size∨(Region.sinkB md ops n=true∧Region.chainB md ops n=true∧n<ops.size)
theorem Tails.lt{listed:Array Bool}(ht:Tails md ops n)(inv:HeadInv md ops n listed)(hi:i<n)(hun:listed.getD i true=false)(hj:j∈Region.ready md ops listed):j<n:=by
 rcases ht with rfl|⟨hs,hc,hn⟩
 · obtain⟨_,oj,hoj,_⟩:=mem_ready.1 hj
   exact(Array.getElem?_eq_some_iff.1 hoj).1
 rcases Nat.lt_or_ge j n with h|h
 · exact h
 exact absurd hj (tail_waits hs hc hn inv _ i rfl hi hun j h)
theorem qb7(hi:ops[i]? =some oi)(hsel:∀(j:Nat) (o:Oper) cs b,ops[j]? =some o→o.op≠.select cs b)
 (hQ:∀c a w,Q (.panic c) (a.put oi.dst v) w→Q (.panic c) a w)(ht:Tails md ops n)(hin:i<n):
 ∀(fuel:Nat) (listed:Array Bool) (a:Act) (w:World),HeadInv md ops n listed→
  (∀j oj,ops[j]? =some oj→j≠i→listed.getD j true=false→(∀e∈oj.after,Region.binds md e=true→e.on≠i)→oi.apart ops oj=true)→
  i∈Region.ready md ops listed→YieldsIf P ops S oi v a→S w→
  wpAnyS P md ops Q S n fuel (listed.setIfInBounds i true) (a.put oi.dst v) w→wpAnyS P md ops Q S n (fuel+1) listed a w:=by
 intro fuel;induction fuel with
 |zero=>
  intro listed a w inv _ hr hy hS H;refine⟨fun h=>(by rw[h]at hr;cases hr),fun j hj=>?_⟩;by_cases hji:j=i
  · subst hji;exact hy.wpOp hi hS ⟨fun _=>hS,H⟩
  have:=ready_mono hj hji;rw[H.1]at this;cases this
 |succ fuel ih=>
  intro listed a w inv hfree hr hy hS H;refine⟨fun h=>(by rw[h]at hr;cases hr),fun j hj=>?_⟩;by_cases hji:j=i
  · subst hji;exact hy.wpOp hi hS ⟨fun _=>hS,H⟩
  have hjn:j<n:=ht.lt inv hin (mem_ready.1 hr).1 hj;have h1:=H.2 j (ready_mono hj hji);obtain⟨hjun,oj,hoj,hall⟩:=mem_ready.1 hj;have hnot:∀e∈oj.after,Region.binds md e=true→e.on≠i:=fun e he hb heq=>by
   have h1:=hall e he hb;have h0:=(mem_ready.1 hr).1;rw[heq]at h1;rcases Nat.lt_or_ge i listed.size with h'|h'
   · simp[h']at h0 h1;rw[h0]at h1;cases h1
   simp[Array.getElem?_eq_none h']at h1
  have h2:=wpOp_putIf hoj (hfree j oj hoj hji hjun hnot) (fun cs b=>hsel i oi cs b hi) (fun cs b=>hsel j oj cs b hoj) hQ hy h1;have hfree':∀k ok,ops[k]? =some ok→k≠i→(listed.setIfInBounds j true).getD k true=false→
   (∀e∈ok.after,Region.binds md e=true→e.on≠i)→oi.apart ops ok=true:=fun k ok hk hki hun hno=>by
   refine hfree k ok hk hki ?_ hno;by_cases hjk:j=k
   · subst hjk;exact hjun
   rw[getD_set_ne true hjk]at hun;exact hun
  refine wpOp_mono (fun a' w' h3=>⟨h3.2.1,ih (listed.setIfInBounds j true) a' w' (inv.set hj hjn) hfree' (ready_mono hr (Ne.symm hji)) h3.1 (h3.2.1 hjn) ?_⟩) h2;rw[Array.setIfInBounds_comm _ _ hji];exact h3.2.2
def qb8 (md:Region.Mode)(ops:Array Oper)(n:Nat):List (Nat × Bool)→Array Bool→Bool
 |[],listed=>(Region.ready md ops listed).isEmpty
 |(i,false)::r,listed=>decide (i<n)&&(Region.ready md ops listed).contains i&&Region.free md ops listed i&&qb8 md ops n r (listed.setIfInBounds i true)
 |(i,true)::r,listed=>(decide (i<n)||r.all fun x=>x.2)&&(Region.ready md ops listed==[i])&&qb8 md ops n r (listed.setIfInBounds i true)
def nth {α:Type}:List α→Nat→Option α
 |[],_=>none
 |x::_,0=>some x
 |_::l,i+1=>nth l i
theorem qb9 {α:Type}:∀(l:List α) (i:Nat),nth l i=l.toArray[i]?
 |[],i=>by simp[nth]
 |x::l,0=>by simp[nth]
 |x::l,i+1=>by simpa [nth] using qb9 l i
def qba (P:Program)(ops:Array Oper)(Q:Exit→Act→World→Prop)(S:World→Prop)(n:Nat):List (Nat × Bool)→Act→World→Prop
 |[],a,w=>Q .normal a w
 |(i,false)::r,a,w=>∃o v,ops[i]? =some o∧YieldsIf P ops S o v a∧qba P ops Q S n r (a.put o.dst v) w
 |(i,true)::r,a,w=>wpOp P ops Q i (fun a' w'=>(i<n→S w')∧qba P ops Q S n r a' w') a w
theorem qbb(hall:∀(r:List (Nat × Bool)) (listed:Array Bool) (a:Act) (w:World),(r.all fun x=>x.2)=true→qb8 md ops n r listed=true→qba P ops Q S n r a w→wpAnyS P md ops Q S n r.length listed a w)
 (hsel:Region.noSelect ops=true)(hQ:∀c a d v w,Q (.panic c) (a.put d v) w→Q (.panic c) a w)(ht:Tails md ops n):
 ∀(r:List (Nat × Bool)) (listed:Array Bool) (a:Act) (w:World),HeadInv md ops n listed→S w→qb8 md ops n r listed=true→qba P ops Q S n r a w→wpAnyS P md ops Q S n r.length listed a w:=by
 intro r;induction r with
 |nil=>
  intro listed a w _ _ ho h;simp only[qb8,List.isEmpty_iff]at ho;exact⟨ho,h⟩
 |cons x r ih=>
  obtain⟨i,b⟩:=x;intro listed a w inv hS ho h;cases b with
  |false=>
   simp only[qb8,Bool.and_eq_true,decide_eq_true_eq]at ho;obtain⟨⟨⟨hin,hr⟩,hf⟩,ho⟩:=ho;obtain⟨o,v,hi,hy,h⟩:=h;have hr':i∈Region.ready md ops listed:=by simpa using hr
   exact qb7 hi (Region.noSelect_spec hsel) (fun c a w=>hQ c a o.dst v w) ht hin r.length listed a w inv (Region.free_spec hi hf) hr' hy hS (ih _ _ _ (inv.set hr' hin) hS ho h)
  |true=>
   by_cases hin:i<n
   · simp only[qb8,Bool.and_eq_true,beq_iff_eq]at ho
     obtain⟨⟨_,hr⟩,ho⟩:=ho;have hr':i∈Region.ready md ops listed:=by rw[hr];simp
     refine⟨fun h0=>(by rw[hr]at h0;cases h0),fun j hj=>?_⟩;obtain rfl:j=i:=by rw[hr]at hj;simpa using hj
     exact wpOp_mono (fun a' w' h'=>⟨h'.1,ih _ _ _ (inv.set hr' hin) (h'.1 hin) ho h'.2⟩) h
   have ho':=ho;simp only[qb8,Bool.and_eq_true,Bool.or_eq_true,decide_eq_true_eq,hin,false_or]at ho;exact hall ((i,true)::r) listed a w (by simpa using ho.1.1) ho' h
theorem qbc:∀(r:List (Nat × Bool)) (listed:Array Bool) (a:Act) (w:World),(r.all fun x=>x.2)=true→qb8 md ops n r listed=true→qba P ops Q S n r a w→wpAnyS P md ops Q S n r.length listed a w
 |[],listed,a,w,_,ho,h=>by
  simp only[qb8,List.isEmpty_iff]at ho;exact⟨ho,h⟩
 |(i,false)::r,_,_,_,ha,_,_=>by simp at ha
 |(i,true)::r,listed,a,w,ha,ho,h=>by
  simp only[qb8,Bool.and_eq_true,beq_iff_eq]at ho;obtain⟨⟨_,hr⟩,ho⟩:=ho;refine⟨fun h0=>(by rw[hr]at h0;cases h0),fun j hj=>?_⟩;obtain rfl:j=i:=by rw[hr]at hj;simpa using hj
  exact wpOp_mono (fun a' w' h'=>⟨h'.1,qbc r _ _ _ (by simpa using ha) ho h'.2⟩) h
theorem qbd:HeadInv md ops n (Array.replicate ops.size false):=
 ⟨by simp,fun j oj hj hl=>(by rw[getD_replicate_false]at hl;cases hl),fun t h1 h2=>by simp[h2]⟩
def qbe (md:Region.Mode)(ops:Array Oper)(n:Nat):Bool:=n==ops.size||(Region.sinkB md ops n&&Region.chainB md ops n&&decide (n<ops.size))
theorem qbf(S:World→Prop)(n:Nat)(r:List (Nat × Bool))(hm:P.follows .mixedOrders=true)(hlen:(r.length==ops.size)=true)(hsel:Region.noSelect ops=true)(ht:qbe .any ops n=true)
 (ho:qb8 .any ops n r (Array.replicate ops.size false)=true)(hQ:∀c a d v w,Q (.panic c) (a.put d v) w→Q (.panic c) a w)(hS:S w.drew)
 (h:qba P ops Q S n r a w.drew):(Code.region id ops true).wp P Q a w:=by
 have ht':Tails .any ops n:=by
  unfold qbe at ht;simp only[Bool.or_eq_true,beq_iff_eq,Bool.and_eq_true,decide_eq_true_eq]at ht;exact ht.imp (fun h=>h) fun ⟨⟨a,b⟩,c⟩=>⟨a,b,c⟩
 have hl:r.length=ops.size:=by simpa using hlen
 refine wp_region_any hm (qb6 (n:=n) (S:=S) _ _ _ _ ?_);rw[←hl];rw[hl];have:=qbb qbc hsel hQ ht' r (Array.replicate ops.size false) a w.drew qbd hS ho h;rw[hl]at this;exact this
theorem qbg(h:Q .normal a w):qba P ops Q S n [] a w:=h
theorem qbh{r:List (Nat × Bool)}(hi:nth l i=some o)(hw:Region.wanted o (yielded l.toArray a.tmps)=true)
 (h:∃v,(∀w,S w→(execOp a.eval o).run P w=.ok (.value v) w)∧qba P l.toArray Q S n r (a.put o.dst v) w):qba P l.toArray Q S n ((i,false)::r) a w:=
 h.elim fun v hv=>⟨o,v,(qb9 l i).symm.trans hi,.inl ⟨hw,hv.1⟩,hv.2⟩
theorem qbi{r:List (Nat × Bool)}(hi:nth l i=some o)(hw:Region.wanted o (yielded l.toArray a.tmps)=false)
 (h:qba P l.toArray Q S n r (a.put o.dst undef) w):qba P l.toArray Q S n ((i,false)::r) a w:=⟨o,undef,(qb9 l i).symm.trans hi,.inr ⟨hw,rfl⟩,h⟩
theorem qbj{r:List (Nat × Bool)}(hi:nth l i=some o)(hw:Region.wanted o (yielded l.toArray a.tmps)=true)
 (h:o.wp P a w (fun a' w'=>(i<n→S w')∧qba P l.toArray Q S n r a' w') Q):qba P l.toArray Q S n ((i,true)::r) a w:=by
 show wpOp P l.toArray Q i _ a w;unfold wpOp;simp only[(qb9 l i).symm.trans hi,hw,if_true];exact .inl h
theorem qbk{rest:List Oper}(hw:Region.wanted o (yielded ops a.tmps)=true)
 (h:∃v,(execOp a.eval o).run P w=.ok (.value v) w∧wpList P ops Q rest (a.put o.dst v) w):wpList P ops Q (o::rest) a w:=by
 obtain⟨v,h1,h2⟩:=h;unfold wpList;rw[if_pos hw];refine .inl ?_;unfold Oper.wp;rw[h1];exact h2
end
section
variable {P : Program} {ops : Array Oper} {Q : Exit → Act → World → Prop} {S : World → Prop} {n : Nat}
theorem zrd{r:List (Nat × Bool)}     (hi:nth l i=some o) (hw:Region.wanted o (yielded l.toArray a.tmps)=true) (h1:∀w,S w→(execOp a.eval o).run P w=.ok (.value v) w) (h2:qba P l.toArray Q S n r (a.put o.dst v) w):qba P l.toArray Q S n ((i,false)::r) a w:=qbh hi hw ⟨v,h1,h2⟩
variable {l : List Oper} {i : Nat} {r : List (Nat × Bool)} {a a' : Act} {w : World} {o : Oper} {v : Value}
theorem zre(hi:nth l i=some o) (hw:Region.wanted o (yielded l.toArray a.tmps)=true) (h1:∀w,S w→(execOp a.eval o).run P w=.ok (.value v) w) (h2:qba P l.toArray Q S n r a' w) (he:a.put o.dst v=a':=by(simp only[Act.put,tA0,tA1,tA2];exact rfl)):qba P l.toArray Q S n ((i,false)::r) a w:=qbh hi hw ⟨v,h1,he.symm▸h2⟩
theorem zrb(h2:qba P l.toArray Q S n r a' w) (hi:nth l i=some o:=by rfl) (hw:Region.wanted o (yielded l.toArray a.tmps)=true:=by rfl) (h1:∀w,S w→(execOp a.eval o).run P w=.ok (.value v) w:=by(intro w1 hS;go_simp;(try go_bits);try rfl)) (he:a.put o.dst v=a':=by(simp only[Act.put,tA0,tA1,tA2];exact rfl)):qba P l.toArray Q S n ((i,false)::r) a w:=qbh hi hw ⟨v,h1,he.symm▸h2⟩
theorem zrs0(h2:qba P l.toArray Q S n r a' w) (hi:nth l i=some o:=by rfl) (hw:Region.wanted o (yielded l.toArray a.tmps)=true:=by rfl) (h1:∀w,S w→(execOp a.eval o).run P w=.ok (.value v) w:=by(intro w1 hS;rw[HS.out]at hS;go_split_ands;go_simp;try rfl)) (he:a.put o.dst v=a':=by(simp only[Act.put,tA0,tA1,tA2];exact rfl)):qba P l.toArray Q S n ((i,false)::r) a w:=qbh hi hw ⟨v,h1,he.symm▸h2⟩
theorem zrs9(h2:qba P l.toArray Q S n r a' w) (hi:nth l i=some o:=by rfl) (hw:Region.wanted o (yielded l.toArray a.tmps)=true:=by rfl) (h1:∀w,S w→(execOp a.eval o).run P w=.ok (.value v) w:=by(intro w1 hS;rw[HS9.out]at hS;go_split_ands;go_simp;try rfl)) (he:a.put o.dst v=a':=by(simp only[Act.put,tA0,tA1,tA2];exact rfl)):qba P l.toArray Q S n ((i,false)::r) a w:=qbh hi hw ⟨v,h1,he.symm▸h2⟩
theorem zrt0(h2:qba P l.toArray Q S n r a' w) (hi:nth l i=some o:=by rfl) (hw:Region.wanted o (yielded l.toArray a.tmps)=true:=by rfl) (h1:∀w,S w→(execOp a.eval o).run P w=.ok (.value v) w:=by(intro w1 hS;rw[HS.out]at hS;go_split_ands;go_simp;(try go_bits);try rfl)) (he:a.put o.dst v=a':=by(simp only[Act.put,tA0,tA1,tA2];exact rfl)):qba P l.toArray Q S n ((i,false)::r) a w:=qbh hi hw ⟨v,h1,he.symm▸h2⟩
theorem zrt9(h2:qba P l.toArray Q S n r a' w) (hi:nth l i=some o:=by rfl) (hw:Region.wanted o (yielded l.toArray a.tmps)=true:=by rfl) (h1:∀w,S w→(execOp a.eval o).run P w=.ok (.value v) w:=by(intro w1 hS;rw[HS9.out]at hS;go_split_ands;go_simp;(try go_bits);try rfl)) (he:a.put o.dst v=a':=by(simp only[Act.put,tA0,tA1,tA2];exact rfl)):qba P l.toArray Q S n ((i,false)::r) a w:=qbh hi hw ⟨v,h1,he.symm▸h2⟩
theorem zr1(h2:qba P l.toArray Q S n r a' w) (hi:nth l i=some o:=by rfl) (hw:Region.wanted o (yielded l.toArray a.tmps)=true:=by rfl) (h1:∀w,S w→(execOp a.eval o).run P w=.ok (.value v) w:=by(intro w1 hS;have g0:=F0.out w1 hS;clear hS;go_simp;try rfl)) (he:a.put o.dst v=a':=by(simp only[Act.put,tA0,tA1,tA2];exact rfl)):qba P l.toArray Q S n ((i,false)::r) a w:=qbh hi hw ⟨v,h1,he.symm▸h2⟩
theorem zr2(h2:qba P l.toArray Q S n r a' w) (hi:nth l i=some o:=by rfl) (hw:Region.wanted o (yielded l.toArray a.tmps)=true:=by rfl) (h1:∀w,S w→(execOp a.eval o).run P w=.ok (.value v) w:=by(intro w1 hS;have g0:=F0.out w1 hS;have g1:=F1.out w1 hS;clear hS;go_simp;try rfl)) (he:a.put o.dst v=a':=by(simp only[Act.put,tA0,tA1,tA2];exact rfl)):qba P l.toArray Q S n ((i,false)::r) a w:=qbh hi hw ⟨v,h1,he.symm▸h2⟩
theorem zr3(h2:qba P l.toArray Q S n r a' w) (hi:nth l i=some o:=by rfl) (hw:Region.wanted o (yielded l.toArray a.tmps)=true:=by rfl) (h1:∀w,S w→(execOp a.eval o).run P w=.ok (.value v) w:=by(intro w1 hS;have g0:=F0.out w1 hS;have g1:=F1.out w1 hS;have g2:=F2.out w1 hS;clear hS;go_simp;try rfl)) (he:a.put o.dst v=a':=by(simp only[Act.put,tA0,tA1,tA2];exact rfl)):qba P l.toArray Q S n ((i,false)::r) a w:=qbh hi hw ⟨v,h1,he.symm▸h2⟩
theorem zr4(h2:qba P l.toArray Q S n r a' w) (hi:nth l i=some o:=by rfl) (hw:Region.wanted o (yielded l.toArray a.tmps)=true:=by rfl) (h1:∀w,S w→(execOp a.eval o).run P w=.ok (.value v) w:=by(intro w1 hS;have g0:=F0.out w1 hS;have g1:=F1.out w1 hS;have g2:=F2.out w1 hS;have g3:=F3.out w1 hS;clear hS;go_simp;try rfl)) (he:a.put o.dst v=a':=by(simp only[Act.put,tA0,tA1,tA2];exact rfl)):qba P l.toArray Q S n ((i,false)::r) a w:=qbh hi hw ⟨v,h1,he.symm▸h2⟩
theorem zr5(h2:qba P l.toArray Q S n r a' w) (hi:nth l i=some o:=by rfl) (hw:Region.wanted o (yielded l.toArray a.tmps)=true:=by rfl) (h1:∀w,S w→(execOp a.eval o).run P w=.ok (.value v) w:=by(intro w1 hS;have g0:=F0.out w1 hS;have g1:=F1.out w1 hS;have g2:=F2.out w1 hS;have g3:=F3.out w1 hS;have g4:=F4.out w1 hS;clear hS;go_simp;try rfl)) (he:a.put o.dst v=a':=by(simp only[Act.put,tA0,tA1,tA2];exact rfl)):qba P l.toArray Q S n ((i,false)::r) a w:=qbh hi hw ⟨v,h1,he.symm▸h2⟩
theorem zr6(h2:qba P l.toArray Q S n r a' w) (hi:nth l i=some o:=by rfl) (hw:Region.wanted o (yielded l.toArray a.tmps)=true:=by rfl) (h1:∀w,S w→(execOp a.eval o).run P w=.ok (.value v) w:=by(intro w1 hS;have g0:=F0.out w1 hS;have g1:=F1.out w1 hS;have g2:=F2.out w1 hS;have g3:=F3.out w1 hS;have g4:=F4.out w1 hS;have g5:=F5.out w1 hS;clear hS;go_simp;try rfl)) (he:a.put o.dst v=a':=by(simp only[Act.put,tA0,tA1,tA2];exact rfl)):qba P l.toArray Q S n ((i,false)::r) a w:=qbh hi hw ⟨v,h1,he.symm▸h2⟩
theorem zsk(h:qba P l.toArray Q S n r a' w) (hi:nth l i=some o:=by rfl) (hw:Region.wanted o (yielded l.toArray a.tmps)=false:=by rfl) (he:a.put o.dst undef=a':=by((try simp only[Act.put,tA0,tA1,tA2]);exact rfl)):qba P l.toArray Q S n ((i,false)::r) a w:=qbi hi hw (he.symm▸h)
theorem zw(h:o.wp P a w (fun a' w'=>(i<n→S w')∧qba P l.toArray Q S n r a' w') Q) (hi:nth l i=some o:=by rfl) (hw:Region.wanted o (yielded l.toArray a.tmps)=true:=by rfl):qba P l.toArray Q S n ((i,true)::r) a w:=qbj hi hw h
theorem zput(h:qba P ops Q S n r a' w) (he:a=a':=by((try simp only[Act.put,tA0,tA1,tA2]);exact rfl)):qba P ops Q S n r a w:=he.symm▸h
end
section
variable {P : Program} {ops : Array Oper} {Q : Exit → Act → World → Prop}
theorem zrs(S:World→Prop) (n:Nat) (r:List (Nat × Bool)) (hS:S w.drew) (h:qba P ops Q S n r a w.drew) (hm:P.follows .mixedOrders=true:=by kernel_rfl) (hlen:(r.length==ops.size)=true:=by rfl) (hsel:Region.noSelect ops=true:=by kernel_rfl) (ht:qbe .any ops n=true:=by kernel_rfl) (ho:qb8 .any ops n r (Array.replicate ops.size false)=true:=by kernel_rfl) (hQ:∀c a d v w,Q (.panic c) (a.put d v) w→Q (.panic c) a w:=by(intro _ _ d _ _ h;cases d<;>exact h)):(Code.region id ops true).wp P Q a w:=qbf S n r hm hlen hsel ht ho hQ hS h
end
end
def rotr (x a:Nat):Nat:=(x / 2^a)|||(x*2^(32 - a) % 4294967296)
theorem qbl(x a:Nat)(h:x<4294967296):rotr x a<4294967296:=by
 unfold rotr;have h1:x / 2^a<2^32:=Nat.lt_of_le_of_lt (Nat.div_le_self _ _) (by simpa using h);have h2:x*2^(32 - a) % 4294967296<2^32:=Nat.mod_lt _ zdc;exact Nat.or_lt_two_pow h1 h2
theorem qbm(a:Nat)(a1:1≤a)(a2:a≤31):bits .and .u64 (IntKind.u64.wrap (-(a:Int))) 31=((32 - a:Nat):Int):=by
 have h:a=1∨a=2∨a=3∨a=4∨a=5∨a=6∨a=7∨a=8∨a=9∨a=10∨a=11∨a=12∨a=13∨a=14∨a=15∨a=16∨a=17∨a=18∨a=19∨a=20∨a=21∨a=22∨a=23∨a=24∨a=25∨a=26∨a=27∨a=28∨a=29∨a=30∨a=31:=zo;rcases h with rfl|rfl|rfl|rfl|rfl|rfl|rfl|rfl|rfl|rfl|rfl|rfl|rfl|rfl|rfl|rfl|rfl|rfl|rfl|rfl|rfl|rfl|rfl|rfl|rfl|rfl|rfl|rfl|rfl|rfl|rfl<;>decide
theorem qbn(x a:Nat)(w:World)(h:x<4294967296)(a1:1≤a)(a2:a≤31):
 Zc 265 #[.int .u32 x,.int .i64 (-(a:Int))] w fun e w'=>e=.returned (.int .u32 (rotr x a))∧w=w':=by
 obtain⟨s,hs⟩:=xeq (32 - a);have hb:bits .and .u64 (IntKind.u64.wrap (-(a:Int))) 31=(s:Int):=by rw[←hs];exact qbm a a1 a2
 have hs2:s≤31:=zo;have hs3:1≤s:=zo;have HS:=zh1 hs;clear hs;go_enter Tryz.func265,Tryz.ntmps265
 go_wp2
 go_ret
 refine⟨?_,rfl⟩;have HS':32 - a=s:=HS;have e1:((x:Int)*2^s % 4294967296)=((x*2^s % 4294967296:Nat):Int):=by
  rw[Int.natCast_emod,Int.natCast_mul,Int.natCast_pow];rfl
 have e2:32 - s=a:=zo;have e3:((x:Int) / 2^(32 - s))=((x / 2^a:Nat):Int):=by rw[e2];push_cast;rfl
 rw[e1,e3,u32_or_nat]
 · unfold rotr;rw[HS',Nat.or_comm];rfl
 · exact Nat.mod_lt _ zdc
 exact Nat.lt_of_le_of_lt (Nat.div_le_self _ _) h
theorem qbo(x a b c:Nat)(w:World)(h:x<4294967296)(a1:1≤a)(a2:a≤31)(b1:1≤b)(b2:b≤31)(c1:1≤c)(c2:c≤31):
 Zc 264 #[.int .u32 x,.int .i64 a,.int .i64 b,.int .i64 c] w fun e w'=>e=.returned (.int .u32 (rotr x a^^^rotr x b^^^rotr x c:Nat))∧w=w':=by
 go_enter Tryz.func264,Tryz.ntmps264
 go_wp2_with ((with_reducible refine(qbn _ _ _ h (by assumption) (by assumption)).mono ?_);(rintro _ _ ⟨rfl,rfl⟩))
 have ha:=qbl x a h;have hb:=qbl x b h;have hc:=qbl x c h;go_ret
 refine⟨?_,rfl⟩;rw[u32_xor_nat _ _ ha hb,u32_xor_nat _ _ (Nat.xor_lt_two_pow (n:=32) ha hb) hc];rfl
theorem qbp(x a b c:Nat)(w:World)(h:x<4294967296)(a1:1≤a)(a2:a≤31)(b1:1≤b)(b2:b≤31)(c1:1≤c)(c2:c≤31):
 Zc 263 #[.int .u32 x,.int .i64 a,.int .i64 b,.int .i64 c] w fun e w'=>e=.returned (.int .u32 (rotr x a^^^rotr x b^^^x / 2^c:Nat))∧∃m,w'=w.drewN m:=by
 go_enter Tryz.func263,Tryz.ntmps263
 go_wp2_with fail
 go_quiet ((go_at_call 265;exact Calls.quiet_of_same ((qbn _ _ _ h (by assumption) (by assumption)).mono (by rintro _ _ ⟨rfl,rfl⟩;exact⟨rfl,rfl⟩))))
 go_wp2
 have ha:=qbl x a h;have hb:=qbl x b h;have hc:x / 2^c<4294967296:=Nat.lt_of_le_of_lt (Nat.div_le_self _ _) h;have e3:((x:Int) / 2^c)=((x / 2^c:Nat):Int):=by rw[Int.natCast_ediv,Int.natCast_pow];rfl
 go_ret
 refine⟨?_,_,rfl⟩;rw[e3,u32_xor_nat _ _ ha hb,u32_xor_nat _ _ (Nat.xor_lt_two_pow (n:=32) ha hb) hc];rfl
def qbq (ws:List Nat):List Value:=ws.map fun n:Nat=>Value.int .u32 (n:Int)
def be32 (bs:List Nat)(i:Nat):Nat:=(((bs.getD i 0*16777216)|||(bs.getD (i+1) 0*65536))|||(bs.getD (i+2) 0*256))|||bs.getD (i+3) 0
def sig0 (x:Nat):Nat:=rotr x 7^^^rotr x 18^^^x / 2^3
def sig1 (x:Nat):Nat:=rotr x 17^^^rotr x 19^^^x / 2^10
def qbr (bs W:List Nat)(i:Nat):Nat:=
 if i<16 then be32 bs (4*i) else(sig1 (W.getD (i - 2) 0)+W.getD (i - 7) 0+sig0 (W.getD (i - 15) 0)+W.getD (i - 16) 0) % 4294967296
def qbs (bs:List Nat):Nat→List Nat
 |0=>[]
 |i+1=>qbs bs i++[qbr bs (qbs bs i) i]
theorem qbt (bs:List Nat):∀i,(qbs bs i).length=i
 |0=>rfl
 |i+1=>by simp[qbs,qbt bs i]
def u32s (ws:List Nat):Prop:=∀x∈ws,x<4294967296
theorem u32s.getD(h:u32s ws)(i:Nat):ws.getD i 0<4294967296:=by
 rw[tB4];rcases hx:ws[i]? with _|x
 · simp
 exact h x (tB2 hx)
theorem qbu(bs:List Nat)(h:∀b∈bs,b<256)(i:Nat):be32 bs i<4294967296:=by
 have hb:∀k,bs.getD k 0<256:=fun k=>by
  rw[tB4];rcases hx:bs[k]? with _|x
  · simp
  exact h x (tB2 hx)
 have h0:=hb i;have h1:=hb (i+1);have h2:=hb (i+2);have h3:=hb (i+3);unfold be32;exact Nat.or_lt_two_pow (n:=32) (Nat.or_lt_two_pow (Nat.or_lt_two_pow zo zo) zo) zo
theorem qbv (bs:List Nat)(h:∀b∈bs,b<256):∀i,u32s (qbs bs i)
 |0=>by intro x hx;cases hx
 |i+1=>by
  intro x hx;simp only[qbs,tBg,tBh]at hx;rcases hx with hx|rfl
  · exact qbv bs h i x hx
  unfold qbr;split
  · exact qbu bs h _
  exact Nat.mod_lt _ zdc
def qbw (ws:List Nat):List Nat:=ws++List.replicate (64 - ws.length) 0
theorem qbx(h:ws.length=k)(hk:k<64):(qbq (qbw ws)).toArray[k]? =some (.int .u32 0):=by
 subst h;simp only[qbq,qbw,tA3,tBj,tBn (tA4 _),List.getElem?_replicate];rw[if_pos zo];rfl
theorem qby{v:Nat}(h:ws.length=k)(hk:k<64):(qbq (qbw ws)).toArray.setIfInBounds k (.int .u32 v)=(qbq (qbw (ws++[v]))).toArray:=by
 subst h;have e:64 - ws.length=(64 - (ws.length+1))+1:=zo;unfold qbq qbw;rw[e,List.replicate_succ];simp
theorem qbz(h:ws.length=k)(hi:i<k):(qbq (qbw ws)).toArray[i]? =some (.int .u32 (ws.getD i 0:Nat)):=by
 subst h;simp only[qbq,qbw,tA3,tBj,tBm hi];rw[tB4,tA7 hi];rfl
theorem qc0(hne:i≠k)(h:w.cell? ⟨g,i,none⟩=some u):(w.setCell ⟨g,k,none⟩ v).cell? ⟨g,i,none⟩=some u:=by
 rw[World.cell?_setCell_other _ _ _ _ (fun e=>hne (by injection e with _ e;exact e.symm))];exact h
theorem add4(a b c d:Nat):IntKind.u32.wrap (IntKind.u32.wrap (IntKind.u32.wrap ((a:Int)+b)+c)+d)=(((a+b+c+d) % 4294967296:Nat):Int):=by
 unfold IntKind.wrap;simp[IntKind.bits,IntKind.signed]
theorem qc1(h:ws.length=64):qbw ws=ws:=by
 unfold qbw;rw[h];simp
structure St where
 a:Nat
 b:Nat
 c:Nat
 d:Nat
 e:Nat
 f:Nat
 g:Nat
 h:Nat
def St.ok (s:St):Prop:=s.a<4294967296∧s.b<4294967296∧s.c<4294967296∧s.d<4294967296∧s.e<4294967296∧s.f<4294967296∧s.g<4294967296∧s.h<4294967296
def Kt:List Nat:=[0x428a2f98,0x71374491,0xb5c0fbcf,0xe9b5dba5,0x3956c25b,0x59f111f1,0x923f82a4,0xab1c5ed5,0xd807aa98,0x12835b01,0x243185be,0x550c7dc3,0x72be5d74,0x80deb1fe,0x9bdc06a7,0xc19bf174,0xe49b69c1,0xefbe4786,0x0fc19dc6,0x240ca1cc,0x2de92c6f,0x4a7484aa,0x5cb0a9dc,0x76f988da,0x983e5152,0xa831c66d,0xb00327c8,0xbf597fc7,0xc6e00bf3,0xd5a79147,0x06ca6351,0x14292967,0x27b70a85,0x2e1b2138,0x4d2c6dfc,0x53380d13,0x650a7354,0x766a0abb,0x81c2c92e,0x92722c85,0xa2bfe8a1,0xa81a664b,0xc24b8b70,0xc76c51a3,0xd192e819,0xd6990624,0xf40e3585,0x106aa070,0x19a4c116,0x1e376c08,0x2748774c,0x34b0bcb5,0x391c0cb3,0x4ed8aa4a,0x5b9cca4f,0x682e6ff3,0x748f82ee,0x78a5636f,0x84c87814,0x8cc70208,0x90befffa,0xa4506ceb,0xbef9a3f7,0xc67178f2]
def Sig0 (x:Nat):Nat:=rotr x 2^^^rotr x 13^^^rotr x 22
def Sig1 (x:Nat):Nat:=rotr x 6^^^rotr x 11^^^rotr x 25
def chf (s:St):Nat:=(s.e&&& s.f)^^^((4294967295^^^s.e)&&& s.g)
def maj (s:St):Nat:=((s.a&&& s.b)^^^(s.a&&& s.c))^^^(s.b&&& s.c)
def hh (s:St)(k wd:Nat):Nat:=(s.h+Sig1 s.e+chf s+k+wd) % 4294967296
def round (s:St)(k wd:Nat):St:=
 ⟨(hh s k wd+(Sig0 s.a+maj s) % 4294967296) % 4294967296,s.a,s.b,s.c,(s.d+hh s k wd) % 4294967296,s.e,s.f,s.g⟩
def rounds (W:List Nat)(s:St):Nat→St
 |0=>s
 |i+1=>round (rounds W s i) (Kt.getD i 0) (W.getD i 0)
def qc2:St:=⟨0x6a09e667,0xbb67ae85,0x3c6ef372,0xa54ff53a,0x510e527f,0x9b05688c,0x1f83d9ab,0x5be0cd19⟩
def St.vals (s:St):Array Value:=#[.int .u32 s.a,.int .u32 s.b,.int .u32 s.c,.int .u32 s.d,.int .u32 s.e,.int .u32 s.f,.int .u32 s.g,.int .u32 s.h]
structure Tabs (w:World):Prop where
 size:3≤w.heap.size
 start:∀i,i<8→w.cell? ⟨1,i,none⟩=qc2.vals[i]?
 words:∀i,i<64→w.cell? ⟨2,i,none⟩=some (.int .u32 (Kt.getD i 0:Nat))
theorem Tabs.below(h:Tabs w)(hb:Below B w w')(hB:3≤B):Tabs w':=
 ⟨tB1 h.size hb.size,fun i hi=>(hb.cell (p:=⟨1,i,none⟩) (show (1:Nat)<B by omega)).trans (h.start i hi),fun i hi=>(hb.cell (p:=⟨2,i,none⟩) (show (2:Nat)<B by omega)).trans (h.words i hi)⟩
theorem Kt_lt(i:Nat):Kt.getD i 0<4294967296:=by
 have:u32s Kt:=by
  intro x hx;have h:(Kt.all fun x=>decide (x<4294967296))=true:=by decide
  simpa using List.all_eq_true.1 h x hx
 exact this.getD i
def St.list (s:St):List Nat:=[s.a,s.b,s.c,s.d,s.e,s.f,s.g,s.h]
theorem St.ok_list{s:St}(h:s.ok):u32s s.list:=by
 obtain⟨h1,h2,h3,h4,h5,h6,h7,h8⟩:=h;intro x hx;simp only[St.list,List.mem_cons,List.not_mem_nil,or_false]at hx;rcases hx with rfl|rfl|rfl|rfl|rfl|rfl|rfl|rfl<;>assumption
def addl (A B:List Nat)(k:Nat):List Nat:=(List.range A.length).map fun i=>if i<k then(A.getD i 0+B.getD i 0) % 4294967296 else A.getD i 0
theorem qc3{A:List Nat}(h:i<A.length):(qbq A).toArray[i]? =some (.int .u32 (A.getD i 0:Nat)):=by
 simp only[qbq,tA3,tBj];rw[tB4,tA7 h];rfl
theorem qc4(A B:List Nat)(k:Nat):(addl A B k).length=A.length:=by simp[addl]
theorem qc5(A B:List Nat):addl A B 0=A:=by
 apply List.ext_getElem?;intro i;by_cases h:i<A.length
 · simp only[addl,Nat.not_lt_zero,if_false,tBj,List.getElem?_range h,Option.map_some]
   rw[tB4,tA7 h];rfl
 rw[List.getElem?_eq_none (by rw[qc4];omega),List.getElem?_eq_none zo]
theorem qc6{A B:List Nat}(h:i<A.length):(qbq (addl A B k)).toArray[i]? =some (.int .u32 ((if i<k then(A.getD i 0+B.getD i 0) % 4294967296 else A.getD i 0:Nat):Int)):=by
 simp only[qbq,addl,tA3,tBj,List.getElem?_range h,Option.map_some]
theorem qc7{A B:List Nat}(h:k<A.length):(qbq (addl A B k)).toArray.setIfInBounds k (.int .u32 (((A.getD k 0+B.getD k 0) % 4294967296:Nat):Int))=(qbq (addl A B (k+1))).toArray:=by
 apply Array.ext_getElem?;intro i;rw[Array.getElem?_setIfInBounds];by_cases hi:i<A.length
 ·
  rw[qc6 hi,qc6 hi];by_cases hik:k=i
  · subst hik
    rw[if_pos rfl,if_pos (by simp[qbq,qc4];omega),if_pos zo]
  rw[if_neg hik];by_cases h2:i<k
  · rw[if_pos h2,if_pos zo]
  rw[if_neg h2,if_neg zo]
 rw[if_neg zo,Array.getElem?_eq_none (by simp[qbq,qc4];omega),Array.getElem?_eq_none (by simp[qbq,qc4];omega)]
theorem qc8{a b c:World}{row:Option Nat}(h:a.grownBy b row)(k:b.grownBy c row):a.grownBy c row:=
 ⟨k.os.trans h.os,k.tape.trans h.tape,k.output.trans h.output,tB1 h.size k.size,fun i hi hne=>(k.block i (tB0 hi h.size) hne).trans (h.block i hi hne)⟩
def qc9 (s z:St):St:=⟨(s.a+z.a) % 4294967296,(s.b+z.b) % 4294967296,(s.c+z.c) % 4294967296,(s.d+z.d) % 4294967296,(s.e+z.e) % 4294967296,(s.f+z.f) % 4294967296,(s.g+z.g) % 4294967296,(s.h+z.h) % 4294967296⟩
def mixed (bs:List Nat)(s:St):St:=qc9 s (rounds (qbs bs 64) s 64)
theorem qca(s z:St):addl s.list z.list 8=(qc9 s z).list:=rfl
theorem St.vals_list(s:St):s.vals=(qbq s.list).toArray:=rfl
theorem qcb(bs:List Nat)(s:St):(mixed bs s).ok:=
 ⟨Nat.mod_lt _ zdc,Nat.mod_lt _ zdc,Nat.mod_lt _ zdc,Nat.mod_lt _ zdc,Nat.mod_lt _ zdc,Nat.mod_lt _ zdc,Nat.mod_lt _ zdc,Nat.mod_lt _ zdc⟩
theorem qcc(s:St)(k wd:Nat)(h:s.ok):(round s k wd).ok:=by
 obtain⟨h1,h2,h3,h4,h5,h6,h7,h8⟩:=h;exact⟨Nat.mod_lt _ zdc,h1,h2,h3,Nat.mod_lt _ zdc,h5,h6,h7⟩
theorem qcd (W:List Nat)(s:St)(h:s.ok):∀i,(rounds W s i).ok
 |0=>h
 |i+1=>qcc _ _ _ (qcd W s h i)
theorem qce(a b c d e f g h k wd t1 t2 p3 q5:Nat)(h1:Sig1 e=t1)(h2:Sig0 a=t2)(h3:chf ⟨a,b,c,d,e,f,g,h⟩=p3)(h4:maj ⟨a,b,c,d,e,f,g,h⟩=q5):
 (round ⟨a,b,c,d,e,f,g,h⟩ k wd).vals=#[.int .u32 (((h+t1+p3+k+wd:Int)+(t2+q5)) % 4294967296),.int .u32 a,.int .u32 b,.int .u32 c,.int .u32 ((d+(h+t1+p3+k+wd:Int)) % 4294967296),.int .u32 e,.int .u32 f,.int .u32 g]:=by
 have e1:hh ⟨a,b,c,d,e,f,g,h⟩ k wd=(h+t1+p3+k+wd) % 4294967296:=by unfold hh;rw[h3];simp only[h1]
 unfold round St.vals;dsimp only;rw[e1,h2,h4];have v1:(((((h+t1+p3+k+wd) % 4294967296+(t2+q5) % 4294967296) % 4294967296:Nat)):Int)=((h+t1+p3+k+wd:Int)+(t2+q5)) % 4294967296:=by clear h1 h2 h3 h4 e1;omega
 have v2:((((d+(h+t1+p3+k+wd) % 4294967296) % 4294967296:Nat)):Int)=(d+(h+t1+p3+k+wd:Int)) % 4294967296:=by clear h1 h2 h3 h4 e1 v1;omega
 rw[v1,v2]
theorem qcf(h:bs[i]? =some b):bs.getD i 0=b:=by rw[tB4,h];rfl
theorem qcg{o:Nat}(hr:∀j u,(byv bs)[j]? =some u→w.cell? ⟨g,o+j,none⟩=some u)(hl:bs.length=n)(hbl:Zb w wr)(hB:B≤w.heap.size)(hg:g<B)(hj:j<n):
 ∃b:Nat,bs[j]? =some b∧wr.cell? ⟨g,o+j,none⟩=some (.int .u8 b):=by
 refine⟨bs[j]'zo,by simp,?_⟩;rw[hbl.cell (by show g<_;omega)];exact hr j _ (by simp[byv,show j<bs.length by omega])
theorem qch(hb:∀b∈bs,b<256)(hn:64≤n)(hj:4*k=j)(h16:k<16)(q0:bs[j]? =some b0)(q1:bs[j+1]? =some b1)(q2:bs[j+2]? =some b2)(q3:bs[j+3]? =some b3):
 ∃a1 a2 a3:Nat,a3=be32 bs (4*k)∧j≤60∧IntKind.i64.wrap (4*(k:Int))=(j:Int)∧(IntKind.i64.wrap ((j:Int)+1)=(j:Int)+1∧IntKind.i64.wrap ((j:Int)+2)=(j:Int)+2∧IntKind.i64.wrap ((j:Int)+3)=(j:Int)+3)∧
  ((j:Int)<n∧(j:Int)+1<n∧(j:Int)+2<n∧(j:Int)+3<n)∧((0:Int)≤(j:Int)+1∧(0:Int)≤(j:Int)+2∧(0:Int)≤(j:Int)+3)∧(b0<256∧b1<256∧b2<256∧b3<256)∧
  (IntKind.u32.wrap (b0:Int)=b0∧IntKind.u32.wrap (b1:Int)=b1∧IntKind.u32.wrap (b2:Int)=b2∧IntKind.u32.wrap (b3:Int)=b3)∧
  (IntKind.u32.wrap ((b0:Int)*16777216)=b0*16777216∧IntKind.u32.wrap ((b1:Int)*65536)=b1*65536∧IntKind.u32.wrap ((b2:Int)*256)=b2*256)∧(((j:Int)+2).toNat=j+2∧((j:Int)+3).toNat=j+3)∧
  (bits .or .u32 ((b0:Int)*16777216) ((b1:Int)*65536)=a1∧bits .or .u32 (a1:Int) ((b2:Int)*256)=a2∧bits .or .u32 (a2:Int) (b3:Int)=a3)∧(k:Int)<64∧(k:Int)<16:=by
 have v0:=hb b0 (tB2 q0);have v1:=hb b1 (tB2 q1);have v2:=hb b2 (tB2 q2);have v3:=hb b3 (tB2 q3);have l1:(b0*16777216|||b1*65536)<4294967296:=Nat.or_lt_two_pow (n:=32) zo zo;have l2:(b0*16777216|||b1*65536|||b2*256)<4294967296:=Nat.or_lt_two_pow (n:=32) l1 zo;have iw:∀x:Int,0≤x→x≤100→IntKind.i64.wrap x=x:=fun x h1 h2=>tBb _ zo
 have uw:∀x:Int,0≤x→x<4294967296→IntKind.u32.wrap x=x:=fun x h1 h2=>tBf _ zo
 refine⟨_,_,_,?_,by omega,by rw[iw _ zo zo];omega,⟨iw _ zo zo,iw _ zo zo,iw _ zo zo⟩,by omega,by omega,⟨v0,v1,v2,v3⟩,⟨uw _ zo zo,uw _ zo zo,uw _ zo zo,uw _ zo zo⟩,⟨uw _ zo zo,uw _ zo zo,uw _ zo zo⟩,by omega,⟨u32_or_nat (b0*16777216) (b1*65536) zo zo,u32_or_nat _ (b2*256) l1 zo,u32_or_nat _ b3 l2 zo⟩,by omega,by omega⟩;unfold be32;rw[hj,qcf q0,qcf q1,qcf q2,qcf q3]
theorem qci(hb:∀b∈bs,b<256)(h16:¬k<16)(hk:k<64):
 ∃m2 m7 m15 m16 x2 x7 x15 x16:Nat,qbr bs (qbs bs k) k=(sig1 x2+x7+sig0 x15+x16) % 4294967296∧
  ((qbq (qbw (qbs bs k))).toArray[m2]? =some (.int .u32 x2)∧(qbq (qbw (qbs bs k))).toArray[m7]? =some (.int .u32 x7)∧(qbq (qbw (qbs bs k))).toArray[m15]? =some (.int .u32 x15)∧(qbq (qbw (qbs bs k))).toArray[m16]? =some (.int .u32 x16)∧(qbq (qbw (qbs bs k))).toArray[k]? =some (.int .u32 0))∧
  (x2<4294967296∧x7<4294967296∧x15<4294967296∧x16<4294967296)∧(IntKind.i64.wrap ((k:Int) - 2)=(m2:Int)∧IntKind.i64.wrap ((k:Int) - 7)=(m7:Int)∧IntKind.i64.wrap ((k:Int) - 15)=(m15:Int)∧IntKind.i64.wrap ((k:Int) - 16)=(m16:Int))∧
  ((m2:Int)<64∧(m7:Int)<64∧(m15:Int)<64∧(m16:Int)<64∧(k:Int)<64)∧m2≠k∧m7≠k∧m15≠k∧m16≠k:=by
 have hl:=qbt bs k;have hu:=qbv bs hb k;have iw:∀x m:Nat,m+x=k→IntKind.i64.wrap ((k:Int) - (x:Int))=(m:Int):=fun x m e=>by rw[show ((k:Int) - (x:Int))=(m:Int) by omega];exact tBb _ zo
 refine⟨k - 2,k - 7,k - 15,k - 16,_,_,_,_,?_,⟨qbz hl zo,qbz hl zo,qbz hl zo,qbz hl zo,qbx hl hk⟩,⟨hu.getD _,hu.getD _,hu.getD _,hu.getD _⟩,⟨iw 2 _ zo,iw 7 _ zo,iw 15 _ zo,iw 16 _ zo⟩,by omega,by omega,by omega,by omega,by omega⟩;unfold qbr;rw[if_neg h16]
theorem qcj{a c e:Nat}(oa:a<4294967296)(ob:b<4294967296)(oc:c<4294967296)(oe:e<4294967296)(of:f<4294967296)(og:g<4294967296):
 ∃n1 p1 p2 p3 q1 q2 q3 q4 q5:Nat,(chf ⟨a,b,c,d,e,f,g,h⟩=p3∧maj ⟨a,b,c,d,e,f,g,h⟩=q5∧n1<4294967296)∧bits .xor .u32 (if IntKind.u32.signed=true then -1 else IntKind.u32.max) (e:Int)=n1∧bits .and .u32 (e:Int) (f:Int)=p1∧bits .and .u32 (n1:Int) (g:Int)=p2∧bits .xor .u32 (p1:Int) (p2:Int)=p3∧
  bits .and .u32 (a:Int) (b:Int)=q1∧bits .and .u32 (a:Int) (c:Int)=q2∧bits .xor .u32 (q1:Int) (q2:Int)=q3∧bits .and .u32 (b:Int) (c:Int)=q4∧bits .xor .u32 (q3:Int) (q4:Int)=q5:=by
 have n1:4294967295^^^e<4294967296:=Nat.xor_lt_two_pow (n:=32) zo oe;have la:∀x y,y<4294967296→x&&& y<4294967296:=fun x y h=>Nat.and_lt_two_pow (n:=32) _ h
 exact⟨_,_,_,_,_,_,_,_,_,⟨rfl,rfl,n1⟩,u32_xor_nat 4294967295 e zo oe,u32_and_nat e f oe of,u32_and_nat _ g n1 og,u32_xor_nat _ _ (la _ _ of) (la _ _ og),u32_and_nat a b oa ob,u32_and_nat a c oa oc,u32_xor_nat _ _ (la _ _ ob) (la _ _ oc),u32_and_nat b c ob oc,u32_xor_nat _ _ (Nat.xor_lt_two_pow (n:=32) (la _ _ ob) (la _ _ oc)) (la _ _ oc)⟩
theorem qck(g B n cc:Nat)(A:Option Addr)(bs:List Nat)(s0:St)(w:World)(hS2:s0.ok)(hb:bs.length=n)(hn:64≤n)(hb2:∀b∈bs,b<256)
 (hg:Blk w g 209 #[.int .u32 s0.a,.int .u32 s0.b,.int .u32 s0.c,.int .u32 s0.d,.int .u32 s0.e,.int .u32 s0.f,.int .u32 s0.g,.int .u32 s0.h])(hr:Reads w B 1 A n (byv bs))(hBw:B≤w.heap.size)(ht:Tabs w):
 Zc 259 #[.pointer (some ⟨g,0,none⟩),.slice A n cc] w fun e w'=>e=.returned (.tuple #[])∧Blk w' g 209 (mixed bs s0).vals∧w.grownBy w' (some g):=by
 have hb2':∀b,b∈bs→b<256:=hb2;obtain⟨gb,ob,rfl,hadB,hr⟩:=hr.mid zo zo;go_enter Tryz.func259,Tryz.ntmps259
 go_wp2_with fail
 go_loopw [13] (fun i wr=>∃k q:Nat,k≤64∧i=.int .i64 k∧Blk wr w.heap.size 208 (qbq (qbw (qbs bs k))).toArray∧Zb w wr) (fun i _=>64 - (intOf i).toNat)
 case atStart=>exact⟨0,0,by omega,rfl,Blk.new ..,(tA5 _ w).alloc (tA4 _) _⟩
 case round=>
  obtain⟨k,q,hk,rfl,hw,hbl⟩:=hrel;by_cases h16:k<16
  ·
   have hwc:=hw.cell k;rw[qbx (qbt bs k) zo]at hwc;have hwf:=hw.frozen k;have hk64:k<64:=zo;have h16':k<16:=h16;obtain⟨j,hj⟩:=xeq (4*k);obtain⟨b0,q0,e0⟩:=qcg hr hb hbl hBw hadB (j:=j) zo;obtain⟨b1,q1,e1⟩:=qcg hr hb hbl hBw hadB (j:=j+1) zo;obtain⟨b2,q2,e2⟩:=qcg hr hb hbl hBw hadB (j:=j+2) zo;obtain⟨b3,q3,e3⟩:=qcg hr hb hbl hBw hadB (j:=j+3) zo;obtain⟨a1,a2,a3,l3,j60,hm,⟨w1,w2,w3⟩,⟨p0,p1,p2,p3⟩,⟨t1,t2,t3⟩,⟨v0,v1,v2,v3⟩,⟨x0,x1,x2,x3⟩,⟨y0,y1,y2⟩,⟨n2,n3⟩,⟨o1,o2,o3⟩,k64,k16⟩:=qch hb2 hn hj h16 q0 q1 q2 q3;obtain⟨L3,HJ⟩:=zh2 l3 hj;clear q0 q1 q2 q3 l3 hj hr;go_wp2_with fail
   go_still_tail 35,zk
   change wpList _ _ _ _ _ wr.drew;go_wp2
   go_roundw
   case rel=>
    refine⟨k+1,q,by omega,by go_num,?_,?_⟩
    · rw[qbs,←qby (qbt bs k) hk64,qbr,if_pos h16',←L3.o]
      exact hw.drew.set_ k _
    exact hbl.drew.setCell (tA4 _) _
   case measure=>simp[intOf];omega
  by_cases hk64:k<64
  ·
   obtain⟨m2,m7,m15,m16,x2,x7,x15,x16,hwx,⟨e2,e7,e15,e16,ek⟩,⟨u2,u7,u15,u16⟩,⟨i2,i7,i15,i16⟩,⟨q2,q7,q15,q16,qk⟩,z2,z7,z15,z16⟩:=qci hb2 h16 hk64;have c2:=(hw.cell m2).trans e2;have c7:=(hw.cell m7).trans e7;have c15:=(hw.cell m15).trans e15;have c16:=(hw.cell m16).trans e16;have hwc:=(hw.cell k).trans ek;have hwf:=hw.frozen k;have A3:=zh1 hwx;clear hwx e2 e7 e15 e16 ek hr;obtain⟨y2,Y2⟩:=xeq (sig1 x2);obtain⟨y15,A0⟩:=xeq (sig0 x15);have K1:∀w,Zc 263 #[.int .u32 x2,.int .i64 17,.int .i64 19,.int .i64 10] w fun e w'=>e=.returned (.int .u32 (y2:Nat))∧∃m,w'=w.drewN m:=fun w=>Y2▸qbp x2 17 19 10 w u2 zo zo zo zo zo zo
   have K2:∀w,Zc 263 #[.int .u32 x15,.int .i64 7,.int .i64 18,.int .i64 3] w fun e w'=>e=.returned (.int .u32 (y15:Nat))∧∃m,w'=w.drewN m:=fun w=>A0▸qbp x15 7 18 3 w u15 zo zo zo zo zo zo
   obtain⟨A4,A1⟩:=zh2 Y2 A0;clear Y2 A0;go_wp2_with fail
   go_region_held3 (fun w'=>w'.cell? ⟨w.heap.size,m2,none⟩=some (.int .u32 x2)∧w'.cell? ⟨w.heap.size,m7,none⟩=some (.int .u32 x7)∧w'.cell? ⟨w.heap.size,m15,none⟩=some (.int .u32 x15)∧w'.cell? ⟨w.heap.size,m16,none⟩=some (.int .u32 x16))
    (first|exact⟨c2,c7,c15,c16⟩|exact⟨qc0 z2 c2,qc0 z7 c7,qc0 z15 c15,qc0 z16 c16⟩)
    (first|(go_at_call 263;(with_reducible refine(K1 _).mono ?_);rintro e w2 ⟨rfl,m,rfl⟩;go_split_ands)|(go_at_call 263;(with_reducible refine(K2 _).mono ?_);rintro e w2 ⟨rfl,m,rfl⟩;go_split_ands))
   all_goals
    go_wp2
    go_roundw
    case rel=>
     refine⟨k+1,q,by omega,by go_num,?_,?_⟩
     · rw[qbs,←qby (qbt bs k) hk64,A3.o,A4.o,A1.o,←add4]
       exact(hw.drewN _).set_ k _
     exact(qa8 hbl _).setCell (tA4 _) _
    case measure=>simp[intOf];omega
  have hk':k=64:=zo;have hk2:¬(k:Int)<64:=zo;obtain⟨wo,rfl⟩:=eqx wr;rw[hk',qc1 (qbt bs 64)]at hw;obtain⟨W,hW⟩:=xeq (qbs bs 64);have hWl:=qbt bs 64;have hWu:=qbv bs hb2 64;rw[hW]at hw hWl hWu;obtain⟨HW,HWl,HWu,A2⟩:=zh4 hW hWl hWu hS2;have hg2:Blk wo g 209 #[.int .u32 s0.a,.int .u32 s0.b,.int .u32 s0.c,.int .u32 s0.d,.int .u32 s0.e,.int .u32 s0.f,.int .u32 s0.g,.int .u32 s0.h]:=hg.below hbl hg.lt;have c0:=hg2.cell 0;have c1:=hg2.cell 1;have c2:=hg2.cell 2;have c3:=hg2.cell 3;have c4:=hg2.cell 4;have c5:=hg2.cell 5;have c6:=hg2.cell 6;have c7:=hg2.cell 7;simp at c0 c1 c2 c3 c4 c5 c6 c7;clear hr hW hWl hWu hS2 hk h16 hk64 hk' hb hb2 hb2' hg;go_wp2_with fail
  go_loopw [80] (fun i wr=>∃(k:Nat) (s:St),k≤64∧i=.int .i64 k∧s=rounds W s0 k∧s.ok∧Blk wr wo.heap.size 209 #[.int .u32 s.a,.int .u32 s.b,.int .u32 s.c,.int .u32 s.d,.int .u32 s.e,.int .u32 s.f,.int .u32 s.g,.int .u32 s.h]∧Zb wo wr) (fun i _=>64 - (intOf i).toNat)
  case atStart=>exact⟨0,s0,by omega,rfl,rfl,A2.o,Blk.new ..,(tA5 _ wo).alloc (tA4 _) _⟩
  case round=>
   clear c0 c1 c2 c3 c4 c5 c6 c7;obtain⟨k,s,hk,rfl,hs,hok,hst,hb3⟩:=hrel;obtain⟨Hs,Hok⟩:=zh2 hs hok;clear hs;obtain⟨a,b,c,d,e,f,g',h⟩:=s;obtain⟨oa,ob',oc,od,oe,of,og,oh⟩:=hok;dsimp only at oa ob' oc od oe of og oh hst;by_cases hk64:k<64
   ·
    have c0:=hst.cell 0;have c1:=hst.cell 1;have c2:=hst.cell 2;have c3:=hst.cell 3;have c4:=hst.cell 4;have c5:=hst.cell 5;have c6:=hst.cell 6;have c7:=hst.cell 7;simp at c0 c1 c2 c3 c4 c5 c6 c7;have qk:(k:Int)<64:=zo;have ckk:wr.cell? ⟨2,k,none⟩=some (.int .u32 (Kt.getD k 0:Nat)):=(ht.below (hbl.trans (hb3.mono hbl.size)) ht.size).words k hk64;have cww:wr.cell? ⟨w.heap.size,k,none⟩=some (.int .u32 (W.getD k 0:Nat)):=by
     have hx:=qbz HWl.o hk64;rw[qc1 HWl.o]at hx;rw[(hw.below hb3 hw.lt).cell];exact hx
    obtain⟨kk,hkk⟩:=xeq (Kt.getD k 0);obtain⟨ww,hww⟩:=xeq (W.getD k 0);rw[hkk]at ckk;rw[hww]at cww;have okk:kk<4294967296:=hkk▸Kt_lt k;have oww:ww<4294967296:=hww▸HWu.getD k;obtain⟨A5,A6⟩:=zh2 hkk hww;clear hkk hww;have hwl:=hw.lt;obtain⟨AB,Hst,Hb3,Hbl⟩:=zh4 hw hst hb3 hbl;clear hw hst hb3 hbl hg2;obtain⟨n1,p1,p2,p3,q1,q2,q3,q4,q5,⟨hch,hmj,ln1⟩,on1,op1,op2,op3,oq1,oq2,oq3,oq4,oq5⟩:=qcj (d:=d) (h:=h) oa ob' oc oe of og;obtain⟨A7,A8⟩:=zh2 hch hmj;clear hch hmj;obtain⟨t1,ht1⟩:=xeq (Sig1 e);obtain⟨t2,ht2⟩:=xeq (Sig0 a);have K1:∀w,Zc 264 #[.int .u32 e,.int .i64 6,.int .i64 11,.int .i64 25] w fun e w'=>e=.returned (.int .u32 (t1:Nat))∧w=w':=fun w=>ht1▸qbo e 6 11 25 w oe zo zo zo zo zo zo
    have K2:∀w,Zc 264 #[.int .u32 a,.int .i64 2,.int .i64 13,.int .i64 22] w fun e w'=>e=.returned (.int .u32 (t2:Nat))∧w=w':=fun w=>ht2▸qbo a 2 13 22 w oa zo zo zo zo zo zo
    obtain⟨A9,AA⟩:=zh2 ht1 ht2;clear ht1 ht2;go_upto_region 14 with(fail)
    go_quiet ((go_at_call 264;exact Calls.quiet_of_same ((K1 _).mono (by rintro _ _ ⟨rfl,rfl⟩;exact⟨rfl,rfl⟩))))
    go_upto_region 16 with((with_reducible refine(K2 _).mono ?_);(rintro _ _ ⟨rfl,rfl⟩))
    refine wp_region_lit ?_;iterate 20 (refine qbk rfl ⟨?_,?_,?_⟩;rotate_left;(focus(go_simp;(try go_bits);try rfl));simp only[Act.put,tA0,tA1,tA2])
    refine wpList_store_row rfl 209 _ _ rfl wo.heap.size _ rfl rfl 209 _ (Hst.drewN nq) zk rfl (by simp[Value.oneCell']) ?_;go_wp2
    go_roundw
    case rel=>
     refine⟨k+1,round ⟨a,b,c,d,e,f,g',h⟩ kk ww,by omega,by go_num,?_,?_,?_,?_⟩
     · rw[rounds,←Hs.o,A5.o,A6.o]
     · exact qcc _ _ _ Hok.o
     · show Blk _ _ _ (round ⟨a,b,c,d,e,f,g',h⟩ kk ww).vals
       rw[qce a b c d e f g' h kk ww t1 t2 p3 q5 A9.o AA.o A7.o A8.o];exact(Hst.drewN nq).setRow _
     exact(qa8 Hb3.o nq).grown (qam _ _ _) (Nat.le_of_lt Hst.lt) (fun k hk=>by injection hk with hk;omega)
    case measure=>simp[intOf];omega
   have qk:¬(k:Int)<64:=zo;have hk':k=64:=zo;have hz:(⟨a,b,c,d,e,f,g',h⟩:St)=rounds W s0 64:=by rw[←hk'];exact Hs.o
   obtain⟨z,hzz⟩:∃z:St,z=⟨a,b,c,d,e,f,g',h⟩:=⟨_,rfl⟩;have hzb:Blk wr wo.heap.size 209 (qbq z.list).toArray:=by rw[hzz];exact hst
   rw[←hzz]at hz;obtain⟨Hz,Hzb⟩:=zh2 hz hzb;have hzu:u32s z.list:=by
    rw[hz];exact St.ok_list (qcd W s0 A2.o 64)
   have Hzu:=zh1 hzu;obtain⟨wq,rfl⟩:=eqx wr;have hgq:Blk wq g 209 (qbq s0.list).toArray:=(hg2.below hb3 hg2.lt);obtain⟨Hgq,Hb3,Hbl⟩:=zh3 hgq hb3 hbl;have hgo:g≠wo.heap.size:=Nat.ne_of_lt hg2.lt;have Hs0:=zh1 (St.ok_list A2.o);clear hzz hz hzb hzu hst hb3 hbl hw hg2 hgq hk' hk64 oa ob' oc od oe of og oh;go_wp2_with fail
   go_loopw [154] (fun i wr=>∃(k:Nat),k≤8∧i=.int .i64 k∧Blk wr g 209 (qbq (addl s0.list z.list k)).toArray∧wq.grownBy wr (some g)) (fun i _=>8 - (intOf i).toNat)
   case atStart=>exact⟨0,by omega,rfl,by rw[qc5];exact Hgq.o,tB9 _ _⟩
   case round=>
    obtain⟨k,hk,rfl,hgk,hgr⟩:=hrel;by_cases hk8:k<8
    ·
     have qk8:(k:Int)<8:=zo;have cg:=hgk.cell k;rw[qc6 (by simp[St.list];omega),if_neg (Nat.lt_irrefl k)]at cg;have cz:=(Hzb.grown hgr (by intro e;injection e with e;exact hgo e.symm)).cell k;rw[qc3 (by simp[St.list];omega)]at cz;have fg:=hgk.frozen k;obtain⟨Hgk,Hgr⟩:=zh2 hgk hgr;obtain⟨x,hx⟩:=xeq (s0.list.getD k 0);obtain⟨y,hy⟩:=xeq (z.list.getD k 0);rw[hx]at cg;rw[hy]at cz;have lx:x<4294967296:=hx▸Hs0.getD k;have ly:y<4294967296:=hy▸Hzu.getD k;obtain⟨Hx,Hy⟩:=zh2 hx hy;clear hx hy hgk hgr;go_wp2_with fail
     go_still_tail 11,zk
     change wpList _ _ _ _ _ wr.drew;go_wp2
     go_roundw
     case rel=>
      refine⟨k+1,by omega,by go_num,?_,?_⟩
      · rw[←qc7 (by simp[St.list];omega),Hx.o,Hy.o]
        have e:(((x+y) % 4294967296:Nat):Int)=((x:Int)+y) % 4294967296:=zo;rw[e];exact Hgk.drew.set_ k _
      exact qab (qa9 Hgr.o) (.inl rfl) _
     case measure=>simp[intOf];omega
    have qk8:¬(k:Int)<8:=zo;have hk8':k=8:=zo;rw[hk8',qca]at hgk;obtain⟨Hgk,Hgr⟩:=zh2 hgk hgr;clear hgk hgr hk8' hk8;go_wp2
    go_end0
    refine⟨rfl,?_,?_⟩
    · have e:=Hgk.o
      rw[Hz.o,←HW.o,←St.vals_list]at e;exact e
    exact qc8 (qad (Hbl.trans (Hb3.mono Hbl.size)) _) Hgr.o
def qcl (cs:Array Value):Obj→Obj
 |.cells _ t frozen=>.cells cs t frozen
 |o=>o
theorem qcm:Tryz.prog.globalNamed "errors.errorType"=some 0:=by kernel_rfl
theorem qcn:(Tryz.prog.cutTypes.find? (·.1== "internal/reflectlite.rtype")).map (·.2)=some 327:=by kernel_rfl
theorem qco:((List.range 395).filter fun t=>Tryz.prog.rowNamed t [101,114,114,111,114])=[81]:=by kernel_rfl
theorem qcp:Tryz.prog.types.size=395:=by kernel_rfl
theorem qcq{r:List (String × DataW Unit)}(h:handlesMet Tryz.prog (("errors.errorType",Rows.laid_errors_errorType)::r) W):W.cell? ⟨0,0,none⟩=some (.iface 327 (.agg #[.pointer (some ⟨3,81,none⟩)])):=by
 obtain⟨name,u,ty,e1,e2,e3,e4,e5⟩:=h _ (List.mem_cons_self ..);have en:name=[101,114,114,111,114]:=(Option.some.inj e1).symm;subst en;obtain rfl:=Option.some.inj (qcn.symm.trans e2);have hm:ty∈(List.range 395).filter fun t=>Tryz.prog.rowNamed t [101,114,114,111,114]:=List.mem_filter.2 ⟨List.mem_range.2 (by rw[←qcp];exact e3),e4⟩
 rw[qco]at hm;obtain rfl:=List.mem_singleton.1 hm;have hh:typeHandle Tryz.prog 81=.pointer (some ⟨3,81,none⟩):=by kernel_rfl
 rw[hh]at e5;simpa using World.var?_cell qcm e5 0
theorem qcr:Tryz.prog.globalNamed "deponent/sha.start"=some 1:=by kernel_rfl
theorem qcs:(Tryz.prog.globals[1]?).map (·.type)=some 209:=by kernel_rfl
theorem qct:Tryz.prog.globalNamed "deponent/sha.words"=some 2:=by kernel_rfl
theorem qcu:(Tryz.prog.globals[2]?).map (·.type)=some 208:=by kernel_rfl
theorem qcv:Tryz.prog.cellsOf 209=8:=by kernel_rfl
theorem qcw:Tryz.prog.cellsOf 208=64:=by kernel_rfl
theorem qcx:Tryz.prog.cellsOf 22=1:=by kernel_rfl
theorem qcy{r:List (String × DataW Unit)}(h:laidMet Tryz.prog (("deponent/sha.start",Rows.laid_deponent_sha_start)::("deponent/sha.words",Rows.laid_deponent_sha_words)::r) W):Tabs W:=by
 have h1:Lib.TabIs Tryz.prog W "deponent/sha.start" .u32 (qc2.list.map fun n:Nat=>(n:Int)):=Lib.tabIs_of_head qcr qcs Tryz.underlying209 Tryz.underlying22 qcx qcv h;have h2:Lib.TabIs Tryz.prog W "deponent/sha.words" .u32 (Kt.map fun n:Nat=>(n:Int)):=Lib.tabIs_of_head qct qcu Tryz.underlying208 Tryz.underlying22 qcx qcw (laidMet.tail h);have c1:∀i,i<8→W.cell? ⟨1,i,none⟩=some (.int .u32 ((qc2.list.getD i 0:Nat):Int)):=fun i hi=>by
  have:=h1.cell qcr i (by simpa [St.list] using hi);rw[this];congr 2
  simp only[tB4,tBj];cases qc2.list[i]? <;>rfl
 have c2:∀i,i<64→W.cell? ⟨2,i,none⟩=some (.int .u32 ((Kt.getD i 0:Nat):Int)):=fun i hi=>by
  have:=h2.cell qct i (by simpa [Kt] using hi);rw[this];congr 2
  simp only[tB4,tBj];cases Kt[i]? <;>rfl
 refine⟨World.block_lt_of_cell? _ _ (c2 0 zdc),fun i hi=>?_,c2⟩;rw[c1 i hi,St.vals_list,qc3 (by simpa [St.list] using hi)]
theorem qcz(h:laidMetH Tryz.prog [("deponent/sha.start",Rows.laid_deponent_sha_start),("deponent/sha.words",Rows.laid_deponent_sha_words),("errors.errorType",Rows.laid_errors_errorType)] W):
 Tabs W∧W.cell? ⟨0,0,none⟩=some (.iface 327 (.agg #[.pointer (some ⟨3,81,none⟩)])):=by
 have h':laidMet Tryz.prog [("deponent/sha.start",Rows.laid_deponent_sha_start),("deponent/sha.words",Rows.laid_deponent_sha_words)] W∧handlesMet Tryz.prog [("errors.errorType",Rows.laid_errors_errorType)] W:=h;exact⟨qcy (r:=[]) h'.1,qcq h'.2⟩
theorem Tryz.byte_info:(Tryz.prog.info? 5).map (fun i=>(i.zero,i.size,i.bytes))=some (some (.int .u8 0),1,1):=by kernel_rfl
def Wri (w:World)(B g:Nat)(bs:List Nat):Prop:=∃v,Blk w g 271 #[v]∧B≤g∧w.ownsRow B 5 1 v bs.length (byv bs)
def NB (w w':World)(g:Nat):Prop:=w.heap.size≤w'.heap.size∧∀k,k<w.heap.size→k≠g→(∀cs,w.heap[k]? ≠some (.cells cs 5 (0,0)))→w'.heap[k]? =w.heap[k]?
theorem NB.refl(w:World)(g:Nat):NB w w g:=⟨tA4 _,fun _ _ _ _=>rfl⟩
theorem NB.trans{a b c:World}(h:NB a b g)(k:NB b c g):NB a c g:=
 ⟨tB1 h.1 k.1,fun i hi hg hn=>by
  have e:=h.2 i hi hg hn;exact(k.2 i (tB0 hi h.1) hg (by rw[e];exact hn)).trans e⟩
theorem NB.drew{a b:World}(h:NB a b g):NB a b.drew g:=h
theorem NB.below{a b:World}(h:Zb a b):NB a b g:=⟨h.size,fun k hk _ _=>h.block k hk⟩
theorem NB.alloc{a b:World}(h:NB a b g)(o:Obj):NB a (b.alloc o) g:=h.trans (NB.below ((tA5 _ _).alloc (tA4 _) o))
theorem NB.setCell{a b:World}(h:NB a b g)(i:Nat)(u:Value):NB a (b.setCell ⟨g,i,none⟩ u) g:=
 h.trans ⟨by simp[World.setCell],fun k _ hk _=>Below.heap_setCell b ⟨g,i,none⟩ u k hk⟩
theorem NB.grown{a b c:World}(h:NB a b g)(hown:b.ownsRow B 5 1 v n xs)(hg:b.grownBy c v.ownBlock):NB a c g:=
 h.trans ⟨hg.size,fun k hk _ hn=>hg.block k hk (fun e=>by
  rcases hown.2 with⟨rfl,_⟩|⟨q,cap,cur,rfl,_,hh,_⟩
  · simp[Value.ownBlock]at e
  simp[Value.ownBlock]at e;subst e;exact hn cur hh)⟩
theorem NB.blk{L:Nat}{t:TypeId}{cs:Array Value}(h:NB w w' g)(hL:Blk w L t cs)(ht:t≠5)(hne:L≠g):Blk w' L t cs:=by
 refine(h.2 L hL.lt hne fun cs' e=>?_).trans hL;unfold Blk at hL;rw[hL]at e;injection e with e;injection e with _ e;exact ht e
theorem qd0{k:IntKind}{a b:Int}(h:a=b):Ending.returned (.int k a)=.returned (.int k b):=by rw[h]
theorem qd1(k:Int)(w:World):
 Zc 148 #[.int .i64 k] w fun e w'=>e=.returned (.int .i64 (qb0 k))∧w=w':=by
 by_cases h1:k<1
 · have H:Hid (((qb0 k:Nat):Int)=1):=by unfold Hid qb0;omega
   go_enter Tryz.func148,Tryz.ntmps148
   go_wp2
   go_ret
   exact⟨qd0 H.symm,rfl⟩
 by_cases h8:8<k
 · have H:Hid (((qb0 k:Nat):Int)=8):=by unfold Hid qb0;omega
   go_enter Tryz.func148,Tryz.ntmps148
   go_wp2
   go_ret
   exact⟨qd0 H.symm,rfl⟩
 have H:Hid (((qb0 k:Nat):Int)=k):=by unfold Hid qb0;omega
 go_enter Tryz.func148,Tryz.ntmps148
 go_wp2
 go_ret
 exact⟨qd0 H.symm,rfl⟩
theorem qd2(B g n:Nat)(k:Int)(bs:List Nat)(w:World)(hw:Wri w B g bs)(hn:n<18446744073709551616)(hl:bs.length≤4294967296):
 Zc 107 #[.pointer (some ⟨g,0,none⟩),.int .u64 n,.int .i64 k] w fun e w'=>e=.returned (.tuple #[])∧Wri w' B g (bs++be n (qb0 k))∧Below B w w'∧NB w w' g:=by
 obtain⟨i0,hi0,hz0,hz1,hz2⟩:=info_parts Tryz.byte_info;obtain⟨hs1,hs8⟩:=qb1 k;go_enter Tryz.func107,Tryz.ntmps107
 go_wp2_with fail
 refine zca (qd1 _ _) ?_;obtain⟨s,hs⟩:=xeq (qb0 k);have Hs:=zh1 hs;rw[hs]at hs1 hs8 ⊢;clear hs;go_wp2
 go_loopw [6] (fun i wr=>∃j m:Nat,s=j+m∧i=.int .i64 ((m:Int) - 1)∧Wri wr B g (bs++(be n s).take j)∧Below B w wr∧NB w wr g) (fun i _=>(intOf i+1).toNat)
 case atStart=>exact⟨0,s,by omega,rfl,by simpa using hw,tA5 _ _,NB.refl _ _⟩
 case round=>
  obtain⟨j,m,hjm,rfl,hw2,hb,hnb⟩:=hrel;clear hw;cases m with
  |zero=>
   obtain rfl:j=s:=zo;rw[tB5 (by rw[qaw];omega)]at hw2;go_wp2
   go_end0
   exact⟨rfl,by rw[Hs.o];exact hw2,hb,hnb⟩
  |succ m=>
   have em:((m+1:Nat):Int) - 1=m:=zo;rw[em];clear em;obtain⟨v,hg,hBg,hown⟩:=hw2;have hlj:(bs++(be n s).take j).length≤4294967296+8:=by rw[tA6,tBd,qaw];omega
   obtain⟨L,hL⟩:=xeq ((bs++(be n s).take j).length);rw[hL]at hown hlj;have HL:=zh1 hL;clear hL;have hc:=hg.cell 0;have hf:=hg.frozen 0;simp at hc;go_wp2_with fail
   have Hjm:=zh1 hjm;clear hjm;have hm8:m≤7:=by have:=Hjm.o;omega
   obtain⟨S,HS⟩:=zS fun w'=>w'.cell? ⟨g,0,none⟩=some v
   refine zrs S 14 (zq 0 10 [(10,true),(11,true),(12,false),(13,false),(14,true)]) ((HS.o _).mpr hc) ?_;repeat(refine zrt0 ?_)
   refine zw ?_;go_simp;refine⟨(HS.o _).mpr (qaj hc _),?_⟩;refine zw ?_;refine qa6 _ (.tmp 18) (.tmp 24) _ rfl B 5 i0 _ 1 1 Tryz.underlying23 hi0 hz0 hz1 hz2 rfl zo v _ _ rfl (hown.alloc _) (wr.heap.size+1) _ 1 1 _ rfl (Reads.new1 _ _ _) (by simp[Value.oneCell']) (by simp only[maxLen];omega) zo (by have:=hg.lt;simp;omega) ?_;intro v1 w1 hown1 hg1 hat1;have hgw:=(hg.alloc (.cells #[.int .u8 (n / 2^(8*m) % 256)] 5)).drew.grown hg1 (Ne.symm (qa3 hown hg zdc));have hb1:=qae (hb.alloc (by have:=hg.lt;omega) (.cells #[.int .u8 (n / 2^(8*m) % 256)] 5)).drew (hown.alloc _) hg1 (tA4 _) (by have:=hg.lt;simp;omega);obtain⟨A1,c1,rfl,-,-,-⟩:=qaf hown1;have hne1:=qa3 hown1 hgw zdc;have hc1:=hgw.cell 0;have hf1:=hgw.frozen 0;simp at hc1;simp only[Act.put,tA0,tA1,tA2];refine⟨fun _=>(HS.o _).mpr hc1,?_⟩;repeat(refine zrt0 ?_)
   refine zw ?_;go_simp;refine qbg ?_;have HW:Hid (Wri (w1.setCell ⟨g,0,none⟩ (.slice A1 (L+1) c1)) B g (bs++(be n s).take (j+1))):=by
    have e:s - 1 - j=m:=by have:=Hjm.o;omega
    rw[qax n s j (by have:=Hjm.o;omega),e,←List.append_assoc];refine⟨.slice A1 (L+1) c1,by simpa using hgw.set_ 0 (.slice A1 (L+1) c1),hBg,?_⟩;have:=qal hown1 (p:=⟨g,0,none⟩) hne1 (.slice A1 (L+1) c1);rw[show qav n m=n / 2^(8*m) % 256 from by unfold qav;rw[Nat.pow_mul]];rw[qas,List.length_append (bs:=[_]),HL.o];simpa [byv] using this
   obtain⟨HB,HN⟩:=zh2 (hb1.setCell (p:=⟨g,0,none⟩) hBg (.slice A1 (L+1) c1)) (((hnb.alloc (.cells #[.int .u8 (n / 2^(8*m) % 256)] 5)).drew.grown (hown.alloc _) hg1).setCell 0 (.slice A1 (L+1) c1));clear hnb;clear hb1 hne1 hown1 hgw hat1 hg1 hc1 hf1 hown hg hb hc hf HS hlj;go_wp2
   go_roundw
   case rel=>exact⟨j+1,m,by have:=Hjm.o;omega,rfl,HW.o,HB.o,HN.o⟩
   case measure=>simp[intOf]
theorem qd3(w:World):
 Zc 105 #[] w fun e w'=>e=.returned (.pointer (some ⟨w.heap.size,0,none⟩))∧Wri w' w.heap.size w.heap.size []∧Zb w w':=by
 go_enter Tryz.func105,Tryz.ntmps105
 go_wp2
 go_ret
 exact⟨rfl,⟨.slice none 0 0,Blk.new ..,tA4 _,World.ownsRow_nil ..⟩,(tA5 _ _).alloc (tA4 _) _⟩
theorem qd4(A:Option Addr)(n c B:Nat)(xs:List Value)(w:World)(hr:Reads w B 1 A n xs)(h1:∀u∈xs,u.oneCell'=true)(hn:n≤140737488355328):
 Zc 47 #[.slice A n c] w fun e w'=>∃v,e=.returned v∧w'.ownsRow w.heap.size 5 1 v n xs∧Zb w w':=by
 obtain⟨i0,hi0,hz0,hz1,hz2⟩:=info_parts Tryz.byte_info;have qn:∀(w:World) (a:Option Addr) (n c n' c':Nat),(binOp .eql 23 (.slice a n c) (.slice none n' c')).run Tryz.prog w=.ok (.bool a.isNone) w:=fun w a n c n' c'=>Lib.run_eql_slice_nil w _ _ a n c n' c' Tryz.underlying23
 cases A with
 |none=>
  obtain rfl:n=0:=by
   rcases Nat.eq_zero_or_pos n with h|h
   · exact h
   obtain⟨ad,e,_⟩:=hr.2 h;cases e
  obtain rfl:xs=[]:=tB8 (by simpa using hr.1);go_enter Tryz.func47,Tryz.ntmps47
  go_wp2
  go_ret
  exact⟨_,rfl,World.ownsRow_nil ..,tA5 _ _⟩
 |some ad=>
  go_enter Tryz.func47,Tryz.ntmps47
  go_wp2_with (at_builtin;refine qa7 _ rfl (.tmp 5) (.tmp 6) _ rfl w.heap.size 5 i0 _ 1 1 Tryz.underlying23 hi0 hz0 hz1 hz2 rfl zo _ 0 [] rfl (World.ownsRow_made w #[] 0 (tA4 _) (Nat.zero_le _) rfl) w.heap.size (some ad) n c xs rfl ?_ h1 (by simp only[maxLen];omega) zo zm ?_)
  · exact hr.here.alloc (tA4 _) _
  intro v1 w1 hown1 hg1 hat1;go_wp2
  go_ret
  exact⟨_,rfl,by simpa using hown1,qae ((tA5 _ _).alloc (tA4 _) _) (World.ownsRow_made (size:=1) w #[] 0 (tA4 _) (Nat.zero_le _) rfl) hg1 (tA4 _) zm⟩
theorem Wri.kept_call(h:Wri w B g bs)(hb:Zb w w1):Wri w1 B g bs:=by
 obtain⟨v,hg,hB,ho⟩:=h;exact⟨v,hg.below hb hg.lt,hB,ho.kept ⟨hb.os,hb.tape,hb.output,hb.size,fun k hk _=>hb.block k hk⟩ (row:=none) (by cases v.ownBlock<;>simp)⟩
theorem qd5(B g:Nat)(bs:List Nat)(w:World)(hw:Wri w B g bs)(hl:bs.length≤140737488355328):
 Zc 111 #[.pointer (some ⟨g,0,none⟩)] w fun e w'=>∃v,e=.returned v∧w'.ownsRow w.heap.size 5 1 v bs.length (byv bs)∧Zb w w':=by
 obtain⟨v,hg,hB,ho⟩:=hw;have hc:=hg.cell 0;simp at hc;obtain⟨A,c,rfl,-,-,hr⟩:=qaf ho;clear ho;go_enter Tryz.func111,Tryz.ntmps111
 go_wp2_with fail
 refine(qd4 A bs.length c w.heap.size (byv bs) w hr (qau _) hl).mono ?_;rintro e w1 ⟨v1,rfl,hown1,hb1⟩;go_wp2
 go_ret
 exact⟨_,rfl,hown1,hb1⟩
theorem qd6{c:Nat}(hg:Blk w1 g 271 #[v])(hB:B≤g)(hown:w1.ownsRow B 5 1 (.slice A n c) n (byv bs)):Wri (w1.setCell ⟨g,0,none⟩ (.slice A n c)) B g bs:=by
 have hn:bs.length=n:=by have:=hown.1;simpa [byv] using this
 subst hn;exact⟨.slice A bs.length c,by simpa using hg.set_ 0 (.slice A bs.length c),hB,qal hown (p:=⟨g,0,none⟩) (qa3 hown hg zdc) _⟩
theorem qd7(B g:Nat)(bs xs:List Nat)(A:Option Addr)(n c:Nat)(w:World)(hw:Wri w B g bs)(hl:bs.length≤4294967296)(hr:Reads w B 1 A n (byv xs))(hnc:n≤c)(hc:c≤maxLen):
 Zc 108 #[.pointer (some ⟨g,0,none⟩),.slice A n c] w fun e w'=>e=.returned (.tuple #[])∧Wri w' B g (bs++txt xs)∧Below B w w'∧NB w w' g:=by
 obtain⟨i0,hi0,hz0,hz1,hz2⟩:=info_parts Tryz.byte_info;unfold maxLen at hc;have hln:=qb5 hr;subst hln;have hand:=qb4 xs.length zo;obtain⟨k,hk⟩:=xeq (xs.length % 65536);have hk1:k≤xs.length:=zo;have hk2:k≤65535:=zo;have HK:=zh1 hk;rw[hk]at hand;clear hk;go_enter Tryz.func108,Tryz.ntmps108
 go_wp2_with fail
 refine(qd2 B g k 2 bs w hw zo hl).mono ?_;rintro e w1 ⟨rfl,⟨v,hg,hBg,hown⟩,hb,hnb⟩;have hr1:=(hr.below hb).pre (k:=k) hk1;have e2:qb0 2=2:=rfl;rw[e2]at hown;clear hw hr e2;obtain⟨L,hL⟩:=xeq ((bs++be k 2).length);have hLl:L≤4294967296+2:=by rw[←hL,tA6,qaw];omega
 rw[hL]at hown;have HL:=zh1 hL;clear hL;have hc1:=hg.cell 0;have hf1:=hg.frozen 0;simp at hc1;go_wp2_with fail
 have q0:(0:Int)≤(k:Int):=zo;have q1:(k:Int)≤(c:Int):=zo;obtain⟨S,HS⟩:=zS fun w'=>w'.cell? ⟨g,0,none⟩=some v
 refine zrs S 11 (zq 0 8 [(8,true),(9,false),(10,false),(11,true)]) ((HS.o _).mpr hc1) ?_;repeat(refine zrt0 ?_)
 refine zw ?_;refine qa6 _ (.tmp 16) (.tmp 19) _ rfl B 5 i0 _ 1 1 Tryz.underlying23 hi0 hz0 hz1 hz2 rfl zo v L (byv (bs++be k 2)) rfl hown B A k c _ rfl hr1 (fun u hu=>qau _ u (tB7 hu)) (by simp only[maxLen];omega) zo (by have:=hg.lt;simp;omega) ?_;intro v1 w2 hown1 hg1 hat1;have hgw:=hg.drew.grown hg1 (Ne.symm (qa3 hown hg zdc));have hb1:=qae hb.drew hown hg1 (tA4 _) (by have:=hg.lt;simp;omega);obtain⟨A1,c1,rfl,-,-,-⟩:=qaf hown1;have hc2:=hgw.cell 0;have hf2:=hgw.frozen 0;simp at hc2;simp only[Act.put,tA0,tA1,tA2];refine⟨fun _=>(HS.o _).mpr hc2,?_⟩;repeat(refine zrt0 ?_)
 refine zw ?_;go_simp;refine qbg ?_;have HW:Hid (Wri (w2.setCell ⟨g,0,none⟩ (.slice A1 (L+k) c1)) B g (bs++txt xs)):=by
  refine qd6 hgw hBg ?_;unfold txt;rw[HK.o,←List.append_assoc,qas];simpa [byv] using hown1
 obtain⟨HB,HN⟩:=zh2 (hb1.setCell (p:=⟨g,0,none⟩) hBg (.slice A1 (L+k) c1)) ((hnb.drew.grown hown hg1).setCell 0 (.slice A1 (L+k) c1));clear hnb;clear hb1 hown1 hgw hat1 hg1 hc2 hf2 hown hg hb hc1 hf1 HS;go_wp2
 go_end0
 exact⟨rfl,HW.o,HB.o,HN.o⟩
theorem qd8(B g:Nat)(bs d:List Nat)(w:World)(hw:Wri w B g bs)(hl:bs.length≤4294967296)(hd:d.length=32):
 Zc 110 #[.pointer (some ⟨g,0,none⟩),.agg (byv d).toArray] w fun e w'=>e=.returned (.tuple #[])∧Wri w' B g (bs++d)∧Below B w w'∧NB w w' g:=by
 obtain⟨i0,hi0,hz0,hz1,hz2⟩:=info_parts Tryz.byte_info;obtain⟨v,hg,hBg,hown⟩:=hw;obtain⟨L,hL⟩:=xeq bs.length;rw[hL]at hown hl;obtain⟨HL,Hd⟩:=zh2 hL hd;clear hL hd;have hc1:=hg.cell 0;have hf1:=hg.frozen 0;simp at hc1;have hbw:B≤w.heap.size:=by have:=hg.lt;omega
 obtain⟨D,hD⟩:=xeq ((byv d).toArray);have HD:=zh1 hD;rw[hD];clear hD;go_enter Tryz.func110,Tryz.ntmps110
 go_wp2_with fail
 have hr1:Reads (w.alloc (.cells D 29)).drew (w.heap.size+1) 1 (some ⟨w.heap.size,0,none⟩) 32 (byv d):=by
  rw[←HD.o];exact Reads.new w _ (byv d) 1 32 (by rw[qat,Hd.o])
 have hg0:=(hg.alloc (.cells D 29)).drew;have hown0:=hown.alloc (.cells D 29);obtain⟨S,HS⟩:=zS fun w'=>w'.cell? ⟨g,0,none⟩=some v
 refine zrs S 9 (zq 0 6 [(6,true),(7,false),(8,false),(9,true)]) ((HS.o _).mpr (qaj hc1 _)) ?_;repeat(refine zrt0 ?_)
 refine zw ?_;refine qa6 _ (.tmp 8) (.tmp 9) _ rfl B 5 i0 _ 1 1 Tryz.underlying23 hi0 hz0 hz1 hz2 rfl zo v L (byv bs) rfl hown0 (w.heap.size+1) _ 32 32 _ rfl hr1 (qau _) (by simp only[maxLen];omega) zo (by simp;omega) ?_;intro v1 w2 hown1 hg1 hat1;have hgw:=hg0.grown hg1 (Ne.symm (qa3 hown0 hg0 zdc));have hb1:=qae ((tA5 B w).alloc hbw (.cells D 29)).drew hown0 hg1 (tA4 _) (by simp;omega);obtain⟨A1,c1,rfl,-,-,-⟩:=qaf hown1;have hc2:=hgw.cell 0;have hf2:=hgw.frozen 0;simp at hc2;simp only[Act.put,tA0,tA1,tA2];refine⟨fun _=>(HS.o _).mpr hc2,?_⟩;repeat(refine zrt0 ?_)
 refine zw ?_;go_simp;refine qbg ?_;have HW:Hid (Wri (w2.setCell ⟨g,0,none⟩ (.slice A1 (L+32) c1)) B g (bs++d)):=by
  refine qd6 hgw hBg ?_;rw[qas];exact hown1
 obtain⟨HB,HN⟩:=zh2 (hb1.setCell (p:=⟨g,0,none⟩) hBg (.slice A1 (L+32) c1)) ((((NB.refl w g).alloc (.cells D 29)).drew.grown hown0 hg1).setCell 0 (.slice A1 (L+32) c1));clear hb1 hown1 hgw hat1 hg1 hc2 hf2 hown0 hg0 hown hg hc1 hf1 HS hr1;go_wp2
 go_end0
 exact⟨rfl,HW.o,HB.o,HN.o⟩
def qd9 (k:Int):Bool:=k==1||k==2||k==3
theorem qda{k:Int}(h:qd9 k=true):1≤k∧k≤3:=by simp[qd9]at h;omega
def cavv (l:List (Int × Nat)):List Value:=l.flatMap fun c=>[Value.int .i64 c.1,Value.int .u32 (c.2:Int)]
def cavb (l:List (Int × Nat)):List Nat:=l.flatMap fun c=>be c.1.toNat 1++be c.2 4
def qdb (id:Nat)(l:List (Int × Nat))(tag:List Nat):Nat × List Nat:=
 if 4<l.length then(4,[]) else if l.all fun c=>qd9 c.1 then(0,be id 4++be l.length 1++cavb l++tag) else(1,[])
def tokv (id:Nat)(s:Value)(tag:List Nat):List Value:=Value.int .u32 (id:Int)::s::byv tag
theorem qdc{a b:Bool}(h:a=b):Ending.returned (.bool a)=.returned (.bool b):=by rw[h]
theorem qdd(k:Int)(w:World):
 Zc 150 #[.int .i64 k] w fun e w'=>e=.returned (.bool (qd9 k))∧w=w':=by
 go_enter Tryz.func150,Tryz.ntmps150
 go_wp2
 all_goals
  go_ret
  refine⟨?_,rfl⟩;exact qdc (by simp_all [qd9])
theorem qde(B g:Nat)(bs:List Nat)(k:Int)(n:Nat)(w:World)(hw:Wri w B g bs)(hl:bs.length≤4294967000)(k1:1≤k)(k3:k≤3)(hn:n<4294967296):
 Zc 197 #[.pointer (some ⟨g,0,none⟩),.agg #[.int .i64 k,.int .u32 n]] w fun e w'=>e=.returned (.tuple #[])∧Wri w' B g (bs++(be k.toNat 1++be n 4))∧Below B w w'∧NB w w' g:=by
 obtain⟨m,rfl⟩:=Int.eq_ofNat_of_zero_le (by omega:0≤k);have hB:B≤w.heap.size:=by obtain⟨v,hg,hB,_⟩:=hw;have:=hg.lt;omega
 have hgl:g<w.heap.size:=by obtain⟨v,hg,_⟩:=hw;exact hg.lt
 have hw0:Wri (w.alloc (.cells #[.int .i64 m,.int .u32 n] 132)) B g bs:=hw.kept_call ((tA5 _ _).alloc (tA4 _) _);have hb0:Below B w (w.alloc (.cells #[.int .i64 m,.int .u32 n] 132)):=(tA5 _ _).alloc hB _;have hn0:NB w (w.alloc (.cells #[.int .i64 m,.int .u32 n] 132)) g:=(NB.refl w g).alloc _;go_enter Tryz.func197,Tryz.ntmps197
 go_wp2_with fail
 refine(qd2 B g m 1 bs _ hw0 zo zo).mono ?_;rintro e w1 ⟨rfl,hw1,hb1,hn1⟩;have hL:=hn1.blk (Blk.new w 132 #[.int .i64 m,.int .u32 n]) zdc zo;have hc1:=hL.cell 1;simp at hc1;have e1:qb0 1=1:=rfl;have e4:qb0 4=4:=rfl;rw[e1]at hw1;clear hw0 hL e1;go_wp2_with fail
 refine(qd2 B g n 4 (bs++be m 1) _ hw1 zo (by rw[tA6,qaw];omega)).mono ?_;rintro e w2 ⟨rfl,hw2,hb2,hn2⟩;rw[e4,List.append_assoc]at hw2;clear e4;go_wp2
 go_end0
 exact⟨rfl,by simpa using hw2,(hb0.trans hb1).trans hb2,(hn0.trans hn1).trans hn2⟩
theorem qdf(h:w.ownsRow base' e size v n xs)(hb:base≤base'):w.ownsRow base e size v n xs:=by
 refine⟨h.1,?_⟩;rcases h.2 with h|⟨g,cap,cur,hv,hg,rest⟩
 · exact .inl h
 exact .inr ⟨g,cap,cur,hv,tB1 hb hg,rest⟩
theorem qdg(id:Nat)(s:Value)(tag:List Nat)(h:tag.length=32):(tokv id s tag).length=34:=by simp[tokv,byv,h]
theorem qdh(l:List (Int × Nat))(k:Nat)(x:Int × Nat)(h:l[k]? =some x):cavb (l.take (k+1))=cavb (l.take k)++(be x.1.toNat 1++be x.2 4):=by
 rw[List.take_add_one,h];simp[cavb]
theorem qdi(l:List (Int × Nat)):(cavb l).length=5*l.length:=by
 unfold cavb;induction l with
 |nil=>rfl
 |cons x l ih=>simp only[List.flatMap_cons,tA6,qaw,ih,tBi];omega
theorem qdj(l:List (Int × Nat))(k:Nat)(x:Int × Nat)(h:l[k]? =some x):(cavv l)[k*2]? =some (.int .i64 x.1)∧(cavv l)[k*2+1]? =some (.int .u32 (x.2:Int)):=by
 unfold cavv;induction l generalizing k with
 |nil=>simp at h
 |cons y l ih=>
  cases k with
  |zero=>simp at h;subst h;simp
  |succ k=>
   have:=ih k (by simpa using h);rw[show (k+1)*2=k*2+2 from by omega];simpa [List.getElem?_append] using this
theorem Tryz.digest_info:(Tryz.prog.info? 29).map (·.size)=some 32:=by kernel_rfl
theorem qdk(id:Nat)(l:List (Int × Nat))(A:Option Addr)(c:Nat)(tag:List Nat)(w:World)(hr:Reads w w.heap.size 2 A l.length (cavv l))(hlc:l.length≤c)(hc:c≤maxLen)(hid:id<4294967296)(hln:∀x∈l,x.2<4294967296)(ht:tag.length=32):
 Zc 153 #[.agg (tokv id (.slice A l.length c) tag).toArray] w fun e w'=>∃v,e=.returned (.tuple #[v,.int .i64 ((qdb id l tag).1:Int)])∧w'.ownsRow w.heap.size 5 1 v (qdb id l tag).2.length (byv (qdb id l tag).2)∧Zb w w':=by
 unfold maxLen at hc;obtain⟨D,hD⟩:=xeq ((tokv id (.slice A l.length c) tag).toArray);have d0:D[0]? =some (.int .u32 (id:Int)):=by rw[←hD];rfl
 have d1:D[1]? =some (.slice A l.length c):=by rw[←hD];rfl
 have dt:D.extract 2 (2+32)=(byv tag).toArray:=by
  rw[←hD];simp only[tokv,byv,List.extract_toArray,List.extract_eq_take_drop,List.drop_succ_cons,List.drop_zero];rw[tB5 (by simp[ht])]
 rw[hD];obtain⟨DT,A0⟩:=zh2 dt hln;clear hD dt hln;by_cases h4:4<l.length
 · have H:Hid (qdb id l tag=(4,[])):=by unfold Hid qdb;rw[if_pos h4]
   go_enter Tryz.func153,Tryz.ntmps153
   go_wp2
   go_ret2
   exact⟨_,by rw[H.o];rfl,by rw[H.o];exact World.ownsRow_nil ..,(tA5 _ _).alloc (tA4 _) _⟩
 have Ha:Hid (qdb id l tag=if l.all fun c=>qd9 c.1 then(0,be id 4++be l.length 1++cavb l++tag) else(1,[])):=by unfold Hid qdb;rw[if_neg h4]
 have e1:qb0 1=1:=rfl;have e4:qb0 4=4:=rfl;go_enter Tryz.func153,Tryz.ntmps153
 go_wp2_with fail
 refine(qd3 _).mono ?_;rintro e w1 ⟨rfl,hw1,hb1⟩;have B1:=qag (qah (tA5 w.heap.size w) (.cells D 31)) hb1;simp[Zb]at hw1 hb1;have t1:Blk w1 w.heap.size 31 D:=(Blk.new w _ D).below hb1 zm;have hr1:=(hr.alloc (tA4 _) (.cells D 31)).below (hb1.mono zo);clear hr hb1;have c0:=t1.cell 0;have c1:=t1.cell 1;rw[d0]at c0;rw[d1]at c1;go_wp2_with fail
 refine(qd2 _ _ id 4 [] _ hw1 zo zm).mono ?_;rintro e w2 ⟨rfl,hw2,hb2,-⟩;rw[e4,List.nil_append]at hw2;have t2:=t1.below hb2 zo;have hr2:=hr1.below (hb2.mono zo);have c0:=t2.cell 0;have c1:=t2.cell 1;rw[d0]at c0;rw[d1]at c1;go_wp2_with fail
 refine(qd2 _ _ l.length 1 _ _ hw2 zo (by rw[qaw];omega)).mono ?_;rintro e w3 ⟨rfl,hw3,hb3,-⟩;rw[e1]at hw3;clear e1 e4;have t3:=t2.below hb3 zo;have hr3:=hr2.below (hb3.mono zo);have B3:=B1.trans ((hb2.trans hb3).mono zo);have b3:Below (w.heap.size+1) w1 w3:=hb2.trans hb3;clear t1 t2 hr1 hr2 hb2 hb3 c0 c1;have c0:=t3.cell 0;have c1:=t3.cell 1;rw[d0]at c0;rw[d1]at c1;go_wp2
 go_loopw [26] (fun i wr=>∃k:Nat,k≤l.length∧i=.int .i64 k∧(l.take k).all (fun c=>qd9 c.1)=true∧Wri wr (w.heap.size+1) (w.heap.size+1) (be id 4++be l.length 1++cavb (l.take k))∧Below (w.heap.size+1) w3 wr) (fun i _=>l.length - (intOf i).toNat)
 case atStart=>exact⟨0,by omega,rfl,by simp,by simpa [cavb] using hw3,tA5 _ _⟩
 case round=>
  obtain⟨k,hk,rfl,hall,hwr,hbr⟩:=hrel;have tr:=t3.below hbr zo;have hrr:=hr3.below (hbr.mono zo);have Hall:=zh1 hall;clear hall t3 hr3 c0 c1 hw3;have c0:=tr.cell 0;have c1:=tr.cell 1;rw[d0]at c0;rw[d1]at c1;by_cases hlt:k<l.length
  ·
   have hx:l[k]? =some l[k]:=tA7 hlt;obtain⟨x,hxe⟩:=xeq (l[k]);rw[hxe]at hx;clear hxe;obtain⟨q0,q1⟩:=qdj l k x hx;obtain⟨b,o,rfl,hab,hcell⟩:=hrr.mid zo zo;have m0:=hcell _ _ q0;have m1:=hcell _ _ q1;rw[←Nat.add_assoc]at m1;have Hx:=zh1 hx;clear hx q0 q1 hcell;go_wp2_with fail
   refine zca (qdd _ _) ?_;cases hkb:qd9 x.1 with
   |true=>
    obtain⟨k1,k3⟩:=qda hkb;go_wp2_with fail
    have hwa:=hwr.kept_call ((tA5 _ _).alloc (tA4 _) (.cells #[.int .i64 x.1,.int .u32 (x.2:Int)] 132));refine(qde _ _ _ x.1 x.2 _ hwa ?_ k1 k3 (A0.o x (tB2 Hx.o))).mono ?_
    · have:=qdi (l.take k)
      rw[tA6,tA6,qaw,qaw,this,tBd];omega
    rintro e w5 ⟨rfl,hw5,hb5,-⟩;have hsz:w.heap.size+1≤wr.heap.size:=by have:=tr.lt;omega
    have hb6:=(hbr.alloc hsz (.cells #[.int .i64 x.1,.int .u32 (x.2:Int)] 132)).trans hb5;have HW:Hid (Wri w5 (w.heap.size+1) (w.heap.size+1) (be id 4++be l.length 1++cavb (l.take (k+1)))):=by
     rw[qdh l k x Hx.o,←List.append_assoc];exact hw5
    have HB:=zh1 hb6;clear hw5 hb5 hb6 hwa hwr hbr tr hrr c0 c1 m0 m1;go_wp2
    go_roundw
    case rel=>exact⟨k+1,by omega,by go_num,by
     rw[List.take_add_one,Hx.o,List.all_append,Hall.o];simpa using hkb,HW.o,HB.o⟩
    case measure=>simp[intOf];omega
   |false=>
    have H:Hid (qdb id l tag=(1,[])):=by
     unfold Hid;rw[Ha.o,if_neg];intro h;have:=List.all_eq_true.1 h x (tB2 Hx.o);rw[hkb]at this;cases this
    have hsz:w.heap.size+1≤wr.heap.size:=by have:=tr.lt;omega
    have HB:=zh1 ((B3.trans (hbr.mono zo)).alloc (by omega:w.heap.size≤wr.heap.size) (.cells #[.int .i64 x.1,.int .u32 (x.2:Int)] 132));go_wp2
    go_ret2
    exact⟨_,by rw[H.o];rfl,by rw[H.o];exact World.ownsRow_nil ..,HB.o⟩
  obtain rfl:k=l.length:=zo;have H:Hid (qdb id l tag=(0,be id 4++be l.length 1++cavb l++tag)):=by
   unfold Hid;rw[Ha.o,if_pos];simpa using Hall.o
  rw[List.take_length]at hwr;have hrg:wr.rangeAt w.heap.size 2 (byv tag):=by
   have:=World.rangeAt_of_block tr 2 32;rw[DT.o]at this;exact this
  have hln:((Tryz.prog.info? 29).map (·.size))=some (byv tag).length:=by rw[qat,ht];exact Tryz.digest_info
  have HLn:=zh1 hln;clear hln;go_wp2_with (refine wpList_load_mid rfl 29 (.tmp 39) rfl w.heap.size 2 rfl (byv tag) _ hrg Tryz.underlying29 rfl HLn.o ?_)
  refine(qd8 _ _ _ tag _ hwr ?_ ht).mono ?_
  · have:=qdi l
    rw[tA6,tA6,qaw,qaw,this];omega
  rintro e w5 ⟨rfl,hw5,hb5,-⟩;go_wp2_with fail
  refine(qd5 _ _ _ _ hw5 ?_).mono ?_
  · have:=qdi l
    rw[tA6,tA6,tA6,qaw,qaw,this,ht];omega
  rintro e w6 ⟨v,rfl,hown6,hb6⟩;have hsz:=hb5.size;have hsz2:w.heap.size≤w5.heap.size:=by have:=tr.lt;omega
  obtain⟨HO,HB⟩:=zh2 (qdf hown6 hsz2) ((B3.trans ((hbr.trans hb5).mono zo)).trans (hb6.mono hsz2));clear hown6 hb6 hb5 hw5 hwr hbr tr hrr c0 c1 hrg;go_wp2
  go_ret2
  exact⟨v,by rw[H.o];rfl,by rw[H.o];exact HO.o,HB.o⟩
structure Req where
 op:Int
 tid:Nat
 cavs:List (Int × Nat)
 tag:List Nat
 tree:Int
 tenant:Int
 role:Int
 state:Int
 weight:Int
 id:Nat
 lo:Nat
 hi:Nat
 rate:Nat
 burst:Nat
 store:Nat
 expires:Nat
 leaf:List Nat
structure Req.Good (R:Req):Prop where
 tag:R.tag.length=32
 tagb:∀b∈R.tag,b<256
 tid:R.tid<4294967296
 cavn:∀x∈R.cavs,x.2<4294967296
 cavk:∀x∈R.cavs,(Lit.int .i64 x.1).wf=true
 op:(Lit.int .i64 R.op).wf=true
 tree:(Lit.int .i64 R.tree).wf=true
 tenant:(Lit.int .i64 R.tenant).wf=true
 role:(Lit.int .i64 R.role).wf=true
 state:(Lit.int .i64 R.state).wf=true
 weight:(Lit.int .i64 R.weight).wf=true
 id:R.id<4294967296
 lo:R.lo<18446744073709551616
 hi:R.hi<18446744073709551616
 rate:R.rate<4294967296
 burst:R.burst<4294967296
 store:R.store<4294967296
 expires:R.expires<18446744073709551616
 leafb:∀b∈R.leaf,b<256
def Req.rest (R:Req)(leafv:Value):List Value:=
 [.int .i64 R.tree,.int .i64 R.tenant,.int .i64 R.role,.int .i64 R.state,.int .i64 R.weight,.int .u32 (R.id:Int),.int .u64 (R.lo:Int),.int .u64 (R.hi:Int),.int .u32 (R.rate:Int),.int .u32 (R.burst:Int),.int .u32 (R.store:Int),.int .u64 (R.expires:Int),leafv]
def reqv (R:Req)(cav leafv:Value):List Value:=(Value.int .i64 R.op::tokv R.tid cav R.tag)++R.rest leafv
theorem qdl(R:Req)(cav leafv:Value)(ht:R.tag.length=32)(k:Nat):(reqv R cav leafv)[35+k]? =(R.rest leafv)[k]? :=by
 have h:(Value.int .i64 R.op::tokv R.tid cav R.tag).length=35:=by rw[tBi,qdg _ _ _ ht]
 unfold reqv;rw[tBn zo,h];congr 1
 omega
abbrev Fld:=Nat × Nat × Nat
def qdm (op:Int):Bool:=decide (1≤op∧op≤9)
def fieldsOf (op:Int):Option (List Fld):=
 if op=1 then some [(1,1,35),(0,0,0)]
 else if op=2∨op=9 then some [(1,1,35)]
 else if op=3 then some [(1,1,35),(8,3,41)]
 else if op=4∨op=5 then some [(1,1,35),(8,3,41),(8,3,42)]
 else if op=6 then some [(1,1,35),(1,1,36),(1,1,39)]
 else if op=8 then some [(1,1,35),(1,1,39)]
 else if op=7 then some [(1,1,35),(1,1,38)]
 else if op=10 then some [(1,1,36),(1,1,37),(8,3,46)]
 else if op=11 then some [(4,2,40)]
 else if op=12 then some [(1,1,36),(4,2,43),(4,2,44),(4,2,45)]
 else none
def fldv (g:Nat)(f:Fld):List Value:=
 if f.2.1=1 then [.int .i64 (f.1:Int),.pointer (some ⟨g,f.2.2,none⟩),.pointer none,.pointer none]
 else if f.2.1=2 then [.int .i64 (f.1:Int),.pointer none,.pointer (some ⟨g,f.2.2,none⟩),.pointer none]
 else if f.2.1=3 then [.int .i64 (f.1:Int),.pointer none,.pointer none,.pointer (some ⟨g,f.2.2,none⟩)]
 else [.int .i64 (f.1:Int),.pointer none,.pointer none,.pointer none]
def qdn (g:Nat)(l:List Fld):List Value:=l.flatMap (fldv g)
theorem Tryz.fld_info:(Tryz.prog.info? 252).map (fun i=>(i.zero,i.size,i.bytes))=some (some (.agg #[.int .i64 0,.pointer none,.pointer none,.pointer none]),4,32):=by kernel_rfl
theorem qdo(op:Int)(w:World):
 Zc 133 #[.int .i64 op] w fun e w'=>e=.returned (.bool (qdm op))∧w=w':=by
 go_enter Tryz.func133,Tryz.ntmps133
 go_wp2
 all_goals
  go_ret
  exact⟨qdc (by simp_all [qdm];try omega),rfl⟩
def Lst (w:World)(B L g:Nat)(l:List Fld):Prop:=∃v,Blk w L 244 #[v]∧B≤L∧w.ownsRow B 252 4 v l.length (qdn g l)
theorem qdp{L c:Nat}{l:List Fld}(hg:Blk w1 L 244 #[v])(hB:B≤L)(hn:l.length=n)(hown:w1.ownsRow B 252 4 (.slice A n c) n (qdn g l)):Lst (w1.setCell ⟨L,0,none⟩ (.slice A n c)) B L g l:=by
 subst hn;exact⟨.slice A l.length c,by simpa using hg.set_ 0 (.slice A l.length c),hB,qal hown (p:=⟨L,0,none⟩) (qa3 hown hg zdc) _⟩
theorem qdq(B L g off:Nat)(l:List Fld)(w:World)(h:Lst w B L g l)(hl:l.length≤100):
 Zc 194 #[.pointer (some ⟨g,off,none⟩),.pointer (some ⟨L,0,none⟩)] w fun e w'=>e=.returned (.tuple #[])∧Lst w' B L g (l++[(1,1,off)])∧Below B w w':=by
 obtain⟨i0,hi0,hz0,hz1,hz2⟩:=info_parts Tryz.fld_info;obtain⟨v,hL,hBL,hown⟩:=h;have hc:=hL.cell 0;have hf:=hL.frozen 0;simp at hc;have hlt:=hL.lt;go_enter Tryz.func194,Tryz.ntmps194
 go_wp2_with (at_builtin;refine qa7 _ rfl (.tmp 3) (.tmp 6) _ rfl B 252 i0 _ 4 32 Tryz.underlying244 hi0 hz0 hz1 hz2 rfl zo v l.length (qdn g l) rfl (hown.alloc _) (w.heap.size+1) _ 1 1 [.int .i64 1,.pointer (some ⟨g,off,none⟩),.pointer none,.pointer none] rfl (Reads.new w _ _ 4 1 rfl) (by simp[Value.oneCell']) (by simp only[maxLen];omega) zo (by simp;omega) ?_)
 intro v1 w1 hown1 hg1 hat1;have hgw:=(hL.alloc (.cells #[.int .i64 1,.pointer (some ⟨g,off,none⟩),.pointer none,.pointer none] 252)).grown hg1 (Ne.symm (qa3 hown hL zdc));have hb1:=qae ((tA5 B w).alloc zo (.cells #[.int .i64 1,.pointer (some ⟨g,off,none⟩),.pointer none,.pointer none] 252)) (hown.alloc _) hg1 (tA4 _) (by simp;omega);obtain⟨A1,c1,rfl,-,-,-⟩:=qaf hown1;have hc1:=hgw.cell 0;have hf1:=hgw.frozen 0;simp at hc1;obtain⟨HL,HB⟩:=zh2 (qdp hgw hBL (l:=l++[(1,1,off)]) (n:=l.length+1) zm (by simpa [qdn,fldv] using hown1)) (hb1.setCell (p:=⟨L,0,none⟩) hBL (.slice A1 (l.length+1) c1));clear hb1 hown1 hgw hat1 hg1 hown hL hc hf;go_wp2
 go_end0
 exact⟨rfl,HL.o,HB.o⟩
theorem qdr(B L g off:Nat)(l:List Fld)(w:World)(h:Lst w B L g l)(hl:l.length≤100):
 Zc 195 #[.pointer (some ⟨g,off,none⟩),.pointer (some ⟨L,0,none⟩)] w fun e w'=>e=.returned (.tuple #[])∧Lst w' B L g (l++[(4,2,off)])∧Below B w w':=by
 obtain⟨i0,hi0,hz0,hz1,hz2⟩:=info_parts Tryz.fld_info;obtain⟨v,hL,hBL,hown⟩:=h;have hc:=hL.cell 0;have hf:=hL.frozen 0;simp at hc;have hlt:=hL.lt;go_enter Tryz.func195,Tryz.ntmps195
 go_wp2_with (at_builtin;refine qa7 _ rfl (.tmp 3) (.tmp 6) _ rfl B 252 i0 _ 4 32 Tryz.underlying244 hi0 hz0 hz1 hz2 rfl zo v l.length (qdn g l) rfl (hown.alloc _) (w.heap.size+1) _ 1 1 [.int .i64 4,.pointer none,.pointer (some ⟨g,off,none⟩),.pointer none] rfl (Reads.new w _ _ 4 1 rfl) (by simp[Value.oneCell']) (by simp only[maxLen];omega) zo (by simp;omega) ?_)
 intro v1 w1 hown1 hg1 hat1;have hgw:=(hL.alloc (.cells #[.int .i64 4,.pointer none,.pointer (some ⟨g,off,none⟩),.pointer none] 252)).grown hg1 (Ne.symm (qa3 hown hL zdc));have hb1:=qae ((tA5 B w).alloc zo (.cells #[.int .i64 4,.pointer none,.pointer (some ⟨g,off,none⟩),.pointer none] 252)) (hown.alloc _) hg1 (tA4 _) (by simp;omega);obtain⟨A1,c1,rfl,-,-,-⟩:=qaf hown1;have hc1:=hgw.cell 0;have hf1:=hgw.frozen 0;simp at hc1;obtain⟨HL,HB⟩:=zh2 (qdp hgw hBL (l:=l++[(4,2,off)]) (n:=l.length+1) zm (by simpa [qdn,fldv] using hown1)) (hb1.setCell (p:=⟨L,0,none⟩) hBL (.slice A1 (l.length+1) c1));clear hb1 hown1 hgw hat1 hg1 hown hL hc hf;go_wp2
 go_end0
 exact⟨rfl,HL.o,HB.o⟩
theorem qds(B L g off:Nat)(l:List Fld)(w:World)(h:Lst w B L g l)(hl:l.length≤100):
 Zc 196 #[.pointer (some ⟨g,off,none⟩),.pointer (some ⟨L,0,none⟩)] w fun e w'=>e=.returned (.tuple #[])∧Lst w' B L g (l++[(8,3,off)])∧Below B w w':=by
 obtain⟨i0,hi0,hz0,hz1,hz2⟩:=info_parts Tryz.fld_info;obtain⟨v,hL,hBL,hown⟩:=h;have hc:=hL.cell 0;have hf:=hL.frozen 0;simp at hc;have hlt:=hL.lt;go_enter Tryz.func196,Tryz.ntmps196
 go_wp2_with (at_builtin;refine qa7 _ rfl (.tmp 3) (.tmp 6) _ rfl B 252 i0 _ 4 32 Tryz.underlying244 hi0 hz0 hz1 hz2 rfl zo v l.length (qdn g l) rfl (hown.alloc _) (w.heap.size+1) _ 1 1 [.int .i64 8,.pointer none,.pointer none,.pointer (some ⟨g,off,none⟩)] rfl (Reads.new w _ _ 4 1 rfl) (by simp[Value.oneCell']) (by simp only[maxLen];omega) zo (by simp;omega) ?_)
 intro v1 w1 hown1 hg1 hat1;have hgw:=(hL.alloc (.cells #[.int .i64 8,.pointer none,.pointer none,.pointer (some ⟨g,off,none⟩)] 252)).grown hg1 (Ne.symm (qa3 hown hL zdc));have hb1:=qae ((tA5 B w).alloc zo (.cells #[.int .i64 8,.pointer none,.pointer none,.pointer (some ⟨g,off,none⟩)] 252)) (hown.alloc _) hg1 (tA4 _) (by simp;omega);obtain⟨A1,c1,rfl,-,-,-⟩:=qaf hown1;have hc1:=hgw.cell 0;have hf1:=hgw.frozen 0;simp at hc1;obtain⟨HL,HB⟩:=zh2 (qdp hgw hBL (l:=l++[(8,3,off)]) (n:=l.length+1) zm (by simpa [qdn,fldv] using hown1)) (hb1.setCell (p:=⟨L,0,none⟩) hBL (.slice A1 (l.length+1) c1));clear hb1 hown1 hgw hat1 hg1 hown hL hc hf;go_wp2
 go_end0
 exact⟨rfl,HL.o,HB.o⟩
def Gat (W w:World)(g:Nat)(D:Array Value)(l:List Fld):Prop:=g<W.heap.size∧Blk w g 34 D∧Lst w W.heap.size W.heap.size g l∧Zb W w
theorem qdt(W:World)(g:Nat)(D:Array Value)(off:Nat)(l:List Fld)(w:World)(h:Gat W w g D l)(hl:l.length≤100):
 Zc 194 #[.pointer (some ⟨g,off,none⟩),.pointer (some ⟨W.heap.size,0,none⟩)] w fun e w'=>e=.returned (.tuple #[])∧Gat W w' g D (l++[(1,1,off)]):=by
 refine(qdq _ _ _ off l w h.2.2.1 hl).mono ?_;rintro e w' ⟨rfl,h1,h2⟩;exact⟨rfl,h.1,h.2.1.below h2 h.1,h1,h.2.2.2.trans h2⟩
theorem qdu(W:World)(g:Nat)(D:Array Value)(off:Nat)(l:List Fld)(w:World)(h:Gat W w g D l)(hl:l.length≤100):
 Zc 195 #[.pointer (some ⟨g,off,none⟩),.pointer (some ⟨W.heap.size,0,none⟩)] w fun e w'=>e=.returned (.tuple #[])∧Gat W w' g D (l++[(4,2,off)]):=by
 refine(qdr _ _ _ off l w h.2.2.1 hl).mono ?_;rintro e w' ⟨rfl,h1,h2⟩;exact⟨rfl,h.1,h.2.1.below h2 h.1,h1,h.2.2.2.trans h2⟩
theorem qdv(W:World)(g:Nat)(D:Array Value)(off:Nat)(l:List Fld)(w:World)(h:Gat W w g D l)(hl:l.length≤100):
 Zc 196 #[.pointer (some ⟨g,off,none⟩),.pointer (some ⟨W.heap.size,0,none⟩)] w fun e w'=>e=.returned (.tuple #[])∧Gat W w' g D (l++[(8,3,off)]):=by
 refine(qds _ _ _ off l w h.2.2.1 hl).mono ?_;rintro e w' ⟨rfl,h1,h2⟩;exact⟨rfl,h.1,h.2.1.below h2 h.1,h1,h.2.2.2.trans h2⟩
theorem qdw(w:World)(g:Nat)(D:Array Value)(hg:Blk w g 34 D):Gat w (w.alloc (.cells #[.slice none 0 0] 244)) g D []:=
 ⟨hg.lt,hg.alloc _,⟨_,Blk.new _ _ _,tA4 _,World.ownsRow_nil ..⟩,(tA5 _ _).alloc (tA4 _) _⟩
theorem qdx{D:Array Value}{l:List Fld}(h:Gat W w g D l)(h0:D[0]? =some v):w.cell? ⟨g,0,none⟩=some v:=(h.2.1.cell 0).trans h0
theorem qdy{D:Array Value}{l:List Fld}(h:Gat W w g D l):∃v,w.cell? ⟨W.heap.size,0,none⟩=some v∧w.ownsRow W.heap.size 252 4 v l.length (qdn g l)∧Zb W w:=by
 obtain⟨-,-,⟨v,hb,-,ho⟩,hbl⟩:=h;exact⟨v,by simpa using hb.cell 0,ho,hbl⟩
theorem qdz{f:FuncId}{args:Array Value}{D:Array Value}{l':List Fld}{K:Ending→World→Prop}(h0:D[0]? =some v0)(hc:Zc f args w fun e w'=>e=.returned (.tuple #[])∧Gat W w' g D l')
 (k:∀w1,Hid (Gat W w1 g D l')→w1.cell? ⟨g,0,none⟩=some v0→K (.returned (.tuple #[])) w1):Zc f args w K:=by
 refine zcb hc fun w1 hG=>?_
 exact k w1 hG (qdx hG h0)
theorem qe1{f:FuncId}{args:Array Value}{D:Array Value}{l':List Fld}{K:Ending→World→Prop}(h0:D[0]? =some v0)(hc:Zc f args w fun e w'=>e=.returned (.tuple #[])∧Gat W w' g D l')
 (k:∀w1 v,w1.cell? ⟨g,0,none⟩=some v0→w1.cell? ⟨W.heap.size,0,none⟩=some v→Hid (w1.ownsRow W.heap.size 252 4 v l'.length (qdn g l'))→Hid (Zb W w1)→K (.returned (.tuple #[])) w1:=by
  (intro w1 v hc hv HO HB
   go_wp2
   go_ret2
   exact⟨v,rfl,HO.o,HB.o⟩)):Zc f args w K:=by
 refine zcb hc fun w1 hG=>?_
 obtain⟨v,hv,ho,hb⟩:=qdy hG;exact k w1 v (qdx hG h0) hv ho hb
theorem qe2(g:Nat)(D:Array Value)(op:Int)(w:World)(hg:Blk w g 34 D)(h0:D[0]? =some (.int .i64 op)):
 Zc 152 #[.pointer (some ⟨g,0,none⟩)] w fun e w'=>∃v,e=.returned (.tuple #[v,.bool (fieldsOf op).isSome])∧w'.ownsRow w.heap.size 252 4 v ((fieldsOf op).getD []).length (qdn g ((fieldsOf op).getD []))∧Zb w w':=by
 have hmf:=zmf;have HG:=zh1 (qdw w g D hg);have hc:=qdx HG.o h0;go_enter Tryz.func152,Tryz.ntmps152
 go_wp2_with fail
 refine(qdo _ _).mono ?_;rintro e w1 ⟨rfl,rfl⟩;go_upto_if 15 with(fail)
 go_cut [] (fun wx=>Hid (Gat w wx g D (if qdm op then [(1,1,35)] else [])))
 case first=>
  cases hb:qdm op with
  |false=>
   have HX:=zh1 hb;clear hb;go_wp2
   go_meet
   case rel=>rw[HX.o];exact HG
  |true=>
   have HX:=zh1 hb;clear hb;go_wp2_with fail
   refine qdz h0 (qdt _ _ _ _ _ _ HG.o (by first|(simp;done)|(split<;>simp))) fun w1 HG hc=>?_
   go_wp2
   go_meet
   case rel=>rw[HX.o];exact HG
 case rest=>
  have HG:=hcut;clear hc;have hc:=qdx HG.o h0;by_cases hn:1≤op∧op≤12
  ·
   have h12:op=1∨(op=2∨op=9)∨op=3∨(op=4∨op=5)∨op=6∨op=7∨op=8∨op=10∨op=11∨op=12:=zo;clear hn;rcases h12 with rfl|h29|rfl|h45|rfl|rfl|rfl|rfl|rfl|rfl
   ·
    have hG1:Gat w wc g D [(1,1,35)]:=HG.o;clear HG;obtain⟨i0,hi0,hz0,hz1,hz2⟩:=info_parts Tryz.fld_info;obtain⟨hgs,-,⟨v,hL,hBL,hown⟩,hB⟩:=hG1;have hcL:=hL.cell 0;have hfL:=hL.frozen 0;simp at hcL;have hlt:=hL.lt;go_wp2_with (at_builtin;refine qa7 _ rfl (.tmp 47) (.tmp 49) _ rfl w.heap.size 252 i0 _ 4 32 Tryz.underlying244 hi0 hz0 hz1 hz2 rfl zo v 1 (qdn g [(1,1,35)]) rfl (hown.alloc _) (wc.heap.size+1) _ 1 1 [.int .i64 0,.pointer none,.pointer none,.pointer none] rfl (Reads.new wc _ _ 4 1 rfl) (by simp[Value.oneCell']) (by simp only[maxLen];omega) zo (by simp;omega) ?_)
    intro v1 w2 hown1 hg1 hat1;have hgw:=(hL.alloc (.cells #[.int .i64 0,.pointer none,.pointer none,.pointer none] 252)).grown hg1 (Ne.symm (qa3 hown hL zdc));have hb1:=qae (hB.alloc zo (.cells #[.int .i64 0,.pointer none,.pointer none,.pointer none] 252)) (hown.alloc _) hg1 (tA4 _) (by simp;omega);obtain⟨A1,c1,rfl,-,-,-⟩:=qaf hown1;have hc1:=hgw.cell 0;have hf1:=hgw.frozen 0;simp at hc1;obtain⟨HL,HB⟩:=zh2 (qdp hgw hBL (l:=[(1,1,35),(0,0,0)]) (n:=2) rfl (by simpa [qdn,fldv] using hown1)) (hb1.setCell (p:=⟨w.heap.size,0,none⟩) hBL (.slice A1 2 c1));clear hb1 hown1 hgw hat1 hg1 hown hL hcL hfL;obtain⟨x,hx,-,ho⟩:=HL.o;have h2:(w2.setCell ⟨w.heap.size,0,none⟩ (Value.slice A1 2 c1)).cell? ⟨w.heap.size,0,none⟩=some (Value.slice A1 2 c1):=World.cell?_setCell_same _ _ _ hc1;have hxe:x=Value.slice A1 2 c1:=by
     have h1:=hx.cell 0;rw[h2]at h1;simpa using h1.symm
    subst hxe;have HO:=zh1 ho;clear ho hx HL;go_wp2
    go_ret2
    exact⟨_,rfl,HO.o,HB.o⟩
   ·
    obtain⟨v,hv,ho,hb⟩:=qdy HG.o;obtain⟨HO,HB⟩:=zh2 ho hb;clear ho hb;rcases h29 with rfl|rfl;all_goals
     go_wp2
     go_ret2
     exact⟨v,rfl,HO.o,HB.o⟩
   · go_wp2_with fail
     exact qe1 h0 (qdv _ _ _ _ _ _ HG.o (by first|(simp;done)|(split<;>simp)))
   · rcases h45 with rfl|rfl
     all_goals
      go_wp2_with fail
      refine qdz h0 (qdv _ _ _ _ _ _ HG.o (by first|(simp;done)|(split<;>simp))) fun w1 HG hc=>?_
      go_wp2_with fail
      exact qe1 h0 (qdv _ _ _ _ _ _ HG.o (by first|(simp;done)|(split<;>simp)))
   · go_wp2_with fail
     refine qdz h0 (qdt _ _ _ _ _ _ HG.o (by first|(simp;done)|(split<;>simp))) fun w1 HG hc=>?_
     go_wp2_with fail
     exact qe1 h0 (qdt _ _ _ _ _ _ HG.o (by first|(simp;done)|(split<;>simp)))
   · go_wp2_with fail
     exact qe1 h0 (qdt _ _ _ _ _ _ HG.o (by first|(simp;done)|(split<;>simp)))
   · go_wp2_with fail
     exact qe1 h0 (qdt _ _ _ _ _ _ HG.o (by first|(simp;done)|(split<;>simp)))
   · go_wp2_with fail
     refine qdz h0 (qdt _ _ _ _ _ _ HG.o (by first|(simp;done)|(split<;>simp))) fun w1 HG hc=>?_
     go_wp2_with fail
     refine qdz h0 (qdt _ _ _ _ _ _ HG.o (by first|(simp;done)|(split<;>simp))) fun w1 HG hc=>?_
     go_wp2_with fail
     exact qe1 h0 (qdv _ _ _ _ _ _ HG.o (by first|(simp;done)|(split<;>simp)))
   · go_wp2_with fail
     exact qe1 h0 (qdu _ _ _ _ _ _ HG.o (by first|(simp;done)|(split<;>simp)))
   go_wp2_with fail
   refine qdz h0 (qdt _ _ _ _ _ _ HG.o (by first|(simp;done)|(split<;>simp))) fun w1 HG hc=>?_
   go_wp2_with fail
   refine qdz h0 (qdu _ _ _ _ _ _ HG.o (by first|(simp;done)|(split<;>simp))) fun w1 HG hc=>?_
   go_wp2_with fail
   refine qdz h0 (qdu _ _ _ _ _ _ HG.o (by first|(simp;done)|(split<;>simp))) fun w1 HG hc=>?_
   go_wp2_with fail
   exact qe1 h0 (qdu _ _ _ _ _ _ HG.o (by first|(simp;done)|(split<;>simp)))
  have hN:=zh1 (show fieldsOf op=none by
   unfold fieldsOf;repeat' rw[if_neg zo])
  have hb:=zh1 HG.o.2.2.2;have q1:¬op=1:=zo;have q2:¬op=2:=zo;have q3:¬op=3:=zo;have q4:¬op=4:=zo;have q5:¬op=5:=zo;have q6:¬op=6:=zo;have q7:¬op=7:=zo;have q8:¬op=8:=zo;have q9:¬op=9:=zo;have q10:¬op=10:=zo;have q11:¬op=11:=zo;have q12:¬op=12:=zo;clear hn;go_wp2
  go_ret2
  exact⟨_,by rw[hN.o];rfl,by rw[hN.o];exact World.ownsRow_nil ..,hb.o⟩
theorem Tryz.u8_info:(Tryz.prog.info? 5).map (fun i=>(i.zero,i.size,i.bytes))=some (some (.int .u8 0),1,1):=by kernel_rfl
theorem Tryz.dig_info:(Tryz.prog.info? 29).map (·.size)=some 32:=by kernel_rfl
def OwnB (w:World)(base:Nat)(v:Value)(bs:List Nat):Prop:=w.ownsRow base 5 1 v bs.length (byv bs)
section
variable {w w' : World} {base : Nat} {v : Value} {bs : List Nat}
theorem OwnB.of(h:w.ownsRow base 5 1 v bs.length (byv bs)):OwnB w base v bs:=h
theorem OwnB.nil(w:World)(base:Nat):OwnB w base (.slice none 0 0) []:=World.ownsRow_nil ..
theorem OwnB.slice(h:OwnB w base v bs):∃A c,v=.slice A bs.length c∧bs.length≤c∧c≤maxLen∧Reads w w.heap.size 1 A bs.length (byv bs):=qaf h
theorem OwnB.sl(h:OwnB w base v bs):∃A n c,v=.slice A n c∧n≤c∧c≤maxLen∧Reads w w.heap.size 1 A n (byv bs):=by
 obtain⟨A,c,h1,h2,h3,h4⟩:=h.slice;exact⟨A,_,c,h1,h2,h3,h4⟩
theorem OwnB.kept(h:OwnB w base v bs)(hb:Zb w w'):OwnB w' base v bs:=
 tB3 h ⟨hb.os,hb.tape,hb.output,hb.size,fun k hk _=>hb.block k hk⟩ (row:=none) (by cases v.ownBlock<;>simp)
theorem OwnB.cast(h:OwnB w base v bs)(e:ys=bs):OwnB w base v ys:=e▸h
theorem OwnB.alloc(h:OwnB w base v bs)(o:Obj):OwnB (w.alloc o) base v bs:=h.kept ((tA5 _ _).alloc (tA4 _) o)
theorem OwnB.drew(h:OwnB w base v bs):OwnB w.drew base v bs:=h.kept ((tA5 _ _).drew)
theorem OwnB.mono(h:OwnB w base v bs)(hb:base'≤base):OwnB w base' v bs:=by
 refine⟨h.1,?_⟩;rcases h.2 with h|⟨g,cap,cur,hv,hg,rest⟩
 · exact .inl h
 exact .inr ⟨g,cap,cur,hv,tB1 hb hg,rest⟩
theorem OwnB.made(w:World)(l:List Nat)(hc:l.length≤maxLen):OwnB (w.alloc (.cells (byv l).toArray 5)) w.heap.size (.slice (some ⟨w.heap.size,0,none⟩) l.length l.length) l:=by
 exact World.ownsRow_lit (size:=1) (e:=5) w (byv l).toArray l.length (tA4 _) hc (by simp[qat])
theorem OwnB.far(h:OwnB w base v bs){p:Addr}(hp:v.ownBlock≠some p.block)(u:Value):OwnB (w.setCell p u) base v bs:=qal h hp u
theorem OwnB.blk_ne{t:TypeId}{cs:Array Value}(h:OwnB w base v bs)(hg:Blk w g t cs)(hne:5≠t):v.ownBlock≠some g:=qa3 h hg hne
end
theorem qe3{ops:Array Oper}{rest:List Oper}(hgd:o.guard=none)(s x:Operand)
 (ho:o.op=.call {callee:=.builtin .append,args:=#[s,x],argTypes:=#[23,23]})
 (base:Nat)(v:Value)(bs:List Nat)(hs:a.eval s=v)(hown:OwnB w base v bs)(A:Option Addr)(m c:Nat)(news:List Nat)(hx:a.eval x=.slice A m c)(hr:Reads w w.heap.size 1 A m (byv news))
 (hlen:bs.length+m≤140737488355328)(hbase:base≤w.heap.size)
 (h:∀v' w',OwnB w' base v' (bs++news)→Below base w w'→w.grownBy w' v.ownBlock→wpList Tryz.prog ops Q rest (a.put o.dst v') w'):wpList Tryz.prog ops Q (o::rest) a w:=by
 obtain⟨i0,hi0,hz0,hz1,hz2⟩:=info_parts Tryz.u8_info;have hm:=qb5 hr;refine qa7 (P:=Tryz.prog) w hgd s x _ ho base 5 i0 _ 1 1 Tryz.underlying23 hi0 hz0 hz1 hz2 rfl zo v bs.length (byv bs) hs hown w.heap.size A m c (byv news) hx hr (qau _) (by simp only[maxLen];omega) zo hbase ?_;intro v' w' h1 h2 h3;refine h v' w' ?_ ?_ h2
 · unfold OwnB
   rw[qas,tA6,hm];exact h1
 exact qae (tA5 _ _) hown h2 (tA4 _) hbase
theorem qe4(s x:Operand)
 (ho:o.op=.call {callee:=.builtin .append,args:=#[s,x],argTypes:=#[23,23]})
 (base:Nat)(v:Value)(bs:List Nat)(hs:a.eval s=v)(hown:OwnB w base v bs)(A:Option Addr)(m c:Nat)(news:List Nat)(hx:a.eval x=.slice A m c)(hr:Reads w w.heap.size 1 A m (byv news))
 (hlen:bs.length+m≤140737488355328)(hbase:base≤w.heap.size)
 (h:∀v' w',OwnB w' base v' (bs++news)→Below base w w'→w.grownBy w' v.ownBlock→K (a.put o.dst v') w'):o.wp Tryz.prog a w K Q:=by
 obtain⟨i0,hi0,hz0,hz1,hz2⟩:=info_parts Tryz.u8_info;have hm:=qb5 hr;refine qa6 (P:=Tryz.prog) w s x _ ho base 5 i0 _ 1 1 Tryz.underlying23 hi0 hz0 hz1 hz2 rfl zo v bs.length (byv bs) hs hown w.heap.size A m c (byv news) hx hr (qau _) (by simp only[maxLen];omega) zo hbase ?_;intro v' w' h1 h2 h3;refine h v' w' ?_ ?_ h2
 · unfold OwnB
   rw[qas,tA6,hm];exact h1
 exact qae (tA5 _ _) hown h2 (tA4 _) hbase
theorem qe5(w:World):w.drew.heap.size=w.heap.size:=rfl
theorem Reads.drewS(h:Reads w w.heap.size size A n xs):Reads w.drew w.drew.heap.size size A n xs:=h
theorem qe6(h:Below w.drew.heap.size w.drew w'):Zb w w':=⟨h.os,h.tape,h.output,h.size,h.block⟩
theorem qe7(w:World)(b:Nat):Reads (w.alloc (.cells #[.int .u8 (b:Int)] 5)) (w.alloc (.cells #[.int .u8 (b:Int)] 5)).heap.size 1 (some ⟨w.heap.size,0,none⟩) 1 (byv [b]):=by
 have:=Reads.new1 w 5 (.int .u8 (b:Int));simpa [byv] using this
theorem qe8(w:World)(l:List Nat)(g:Nat)(hg:g=w.heap.size)(m:Nat)(hm:m=l.length):Reads (w.alloc (.cells (byv l).toArray 5)) (w.alloc (.cells (byv l).toArray 5)).heap.size 1 (some ⟨g,0,none⟩) m (byv l):=by
 subst hg hm;have:=Reads.new w 5 (byv l) 1 l.length (by rw[qat,Nat.mul_one]);rwa[show (w.alloc (.cells (byv l).toArray 5)).heap.size=w.heap.size+1 from by simp]
theorem Reads.call(h:Reads w w.heap.size size A n xs)(hb:Zb w w'):Reads w' w'.heap.size size A n xs:=(h.below hb).more hb.size
theorem Reads.laid(h:Reads w w.heap.size size A n xs)(o:Obj):Reads (w.alloc o) (w.alloc o).heap.size size A n xs:=h.call ((tA5 _ _).alloc (tA4 _) o)
def bstr (bs:List Nat):ByteArray:=strOfNums (bs.map fun b:Nat=>(b:Int))
theorem qe9{a b:List Nat}(ha:∀x∈a,x<256)(hb:∀x∈b,x<256):bstr a=bstr b ↔ a=b:=by
 constructor
 ·
  intro h;unfold bstr strOfNums at h;injection h with h;injection h with h;rw[List.map_map,List.map_map]at h;have key:∀(a b:List Nat),(∀x∈a,x<256)→(∀x∈b,x<256)→a.map ((fun n:Int=>UInt8.ofNat n.toNat) ∘ fun b:Nat=>(b:Int))=b.map ((fun n:Int=>UInt8.ofNat n.toNat) ∘ fun b:Nat=>(b:Int))→a=b:=by
   intro a;induction a with
   |nil=>intro b _ _ h;simpa using h.symm
   |cons x a ih=>
    intro b ha hb h;cases b with
    |nil=>simp at h
    |cons y b=>
     simp only[List.map_cons,List.cons.injEq,Function.comp,tBe]at h;have h1:=congrArg UInt8.toNat h.1;have hx:=ha x zm;have hy:=hb y zm;simp[UInt8.toNat_ofNat,Nat.mod_eq_of_lt hx,Nat.mod_eq_of_lt hy]at h1;rw[h1,ih b (fun z hz=>ha z (by simp[hz])) (fun z hz=>hb z (by simp[hz])) h.2]
  exact key a b ha hb h
 rintro rfl;rfl
theorem qea{c:Nat}(hr:Reads w B 1 A n (byv bs)):
 (convert 23 9 (.slice A n c)).run Tryz.prog w=.ok (.string (bstr bs)) w:=by
 have hln:=qb5 hr;subst hln;cases A with
 |none=>
  have:bs=[]:=by
   cases bs with
   |nil=>rfl
   |cons x l=>
    obtain⟨ad,e,-⟩:=hr.2 zm;cases e
  subst this;exact run_convert_bytes_nil w _ _ Tryz.underlying23 Tryz.underlying5 _ _ _ Tryz.underlying9
 |some ad=>
  cases bs with
  |nil=>
   obtain⟨b,o,s⟩:=ad;rw[run_convert_bytes_string w _ _ _ _ _ c Tryz.underlying23 Tryz.underlying5 Tryz.underlying9,run_bytesToString w _ _ _ [] (by simp[loadCells];rfl)];rfl
  |cons x l=>
   obtain⟨b,o,e,hb,hc⟩:=hr.mid zm zo;injection e with e;subst e;refine run_convert_bytes_arg w _ _ Tryz.underlying23 Tryz.underlying5 b o _ _ ((x::l).map fun b:Nat=>(b:Int)) zm (fun i hi=>?_) _ Tryz.underlying9;refine hc i _ ?_;unfold byv;rw[tBj,tB4,tBj,tA7 hi];rfl
section
open Go.Extern.Stop (cell)
theorem Tryz.tok_info:(Tryz.prog.info? 31).map (·.size)=some 34:=by kernel_rfl
theorem qeb(id:Nat)(l:List (Int × Nat))(tag:List Nat)(ht:tag.length=32):(qdb id l tag).2.length≤60:=by
 unfold qdb;split
 · simp
 split
 · have:=qdi l
   simp only[tA6,qaw];omega
 simp
theorem Tryz.cav_info:(Tryz.prog.info? 132).map (fun i=>(i.zero,i.size,i.bytes))=some (some (.agg #[.int .i64 0,.int .u32 0]),2,16):=by kernel_rfl
def OwnC (w:World)(base:Nat)(v:Value)(l:List (Int × Nat)):Prop:=w.ownsRow base 132 2 v l.length (cavv l)
theorem qec(l:List (Int × Nat)):∀u∈cavv l,u.oneCell'=true:=by
 intro u hu;unfold cavv at hu;obtain⟨x,_,hx⟩:=List.mem_flatMap.1 hu;simp at hx;rcases hx with rfl|rfl<;>rfl
theorem qed(a b:List (Int × Nat)):cavv (a++b)=cavv a++cavv b:=by simp[cavv]
theorem qee(l:List (Int × Nat)):(cavv l).length=l.length*2:=by
 unfold cavv;induction l with
 |nil=>rfl
 |cons y l ih=>simp only[List.flatMap_cons,tA6,ih,tBi];simp;omega
section
variable {w w' : World} {base : Nat} {v : Value} {l : List (Int × Nat)}
theorem OwnC.nil(w:World)(base:Nat):OwnC w base (.slice none 0 0) []:=World.ownsRow_nil ..
theorem OwnC.sl(h:OwnC w base v l):∃A n c,v=.slice A n c∧n=l.length∧n≤c∧c≤maxLen∧Reads w w.heap.size 2 A n (cavv l):=by
 obtain⟨A,c,h1,h2,h3,h4⟩:=qaf h;exact⟨A,_,c,h1,rfl,h2,h3,h4⟩
theorem OwnC.kept(h:OwnC w base v l)(hb:Zb w w'):OwnC w' base v l:=
 tB3 h ⟨hb.os,hb.tape,hb.output,hb.size,fun k hk _=>hb.block k hk⟩ (row:=none) (by cases v.ownBlock<;>simp)
theorem OwnC.alloc(h:OwnC w base v l)(o:Obj):OwnC (w.alloc o) base v l:=h.kept ((tA5 _ _).alloc (tA4 _) o)
theorem OwnC.mono(h:OwnC w base v l)(hb:base'≤base):OwnC w base' v l:=qdf h hb
theorem OwnC.made(w:World)(l:List (Int × Nat))(hc:l.length≤maxLen):OwnC (w.alloc (.cells (cavv l).toArray 132)) w.heap.size (.slice (some ⟨w.heap.size,0,none⟩) l.length l.length) l:=by
 exact World.ownsRow_lit (size:=2) (e:=132) w (cavv l).toArray l.length (tA4 _) hc (by simp[qee])
end
theorem qef{ops:Array Oper}{rest:List Oper}(hgd:o.guard=none)(s x:Operand)
 (ho:o.op=.call {callee:=.builtin .append,args:=#[s,x],argTypes:=#[27,27]})
 (base:Nat)(v:Value)(l:List (Int × Nat))(hs:a.eval s=v)(hown:OwnC w base v l)(A:Option Addr)(m c:Nat)(news:List (Int × Nat))(hx:a.eval x=.slice A m c)(hr:Reads w w.heap.size 2 A m (cavv news))
 (hlen:l.length+m≤8796093022208)(hbase:base≤w.heap.size)
 (h:∀v' w',OwnC w' base v' (l++news)→Below base w w'→w.grownBy w' v.ownBlock→wpList Tryz.prog ops Q rest (a.put o.dst v') w'):wpList Tryz.prog ops Q (o::rest) a w:=by
 obtain⟨i0,hi0,hz0,hz1,hz2⟩:=info_parts Tryz.cav_info;have hm:news.length=m:=by have:=hr.1;rw[qee]at this;omega
 refine qa7 (P:=Tryz.prog) w hgd s x _ ho base 132 i0 _ 2 16 Tryz.underlying27 hi0 hz0 hz1 hz2 rfl zo v l.length (cavv l) hs hown w.heap.size A m c (cavv news) hx hr (qec _) (by simp only[maxLen];omega) zo hbase ?_;intro v' w' h1 h2 h3;refine h v' w' ?_ ?_ h2
 · unfold OwnC
   rw[qed,tA6,hm];exact h1
 exact qae (tA5 _ _) hown h2 (tA4 _) hbase
theorem qeg(w:World)(a b:List Nat)(ha:a.length=32)(hb:b.length=32)(ha':∀x∈a,x<256)(hb':∀x∈b,x<256):
 (binOp .eql 29 (.agg (byv a).toArray) (.agg (byv b).toArray)).run Tryz.prog w=.ok (.bool (a==b)) w:=by
 have e:∀l:List Nat,(∀x∈l,x<256)→byv l=(l.map UInt8.ofNat).map cell:=by
  intro l hl;unfold byv;rw[List.map_map];refine List.map_congr_left fun x hx=>?_
  have:=hl x hx;simp[cell,Function.comp,UInt8.toNat_ofNat,Nat.mod_eq_of_lt this]
 rw[e a ha',e b hb',run_eql_bytes w 29 5 32 Tryz.underlying29 Tryz.underlying5 (fun _=>by kernel_rfl) _ _ (by simpa using ha) (by simpa using hb)];congr 2
 rw[Bool.eq_iff_iff];simp only[beq_iff_eq];constructor
 ·
  intro h;have key:∀(a b:List Nat),(∀x∈a,x<256)→(∀x∈b,x<256)→a.map UInt8.ofNat=b.map UInt8.ofNat→a=b:=by
   intro a;induction a with
   |nil=>intro b _ _ h;simpa using h.symm
   |cons x a ih=>
    intro b ha hb h;cases b with
    |nil=>simp at h
    |cons y b=>
     simp only[List.map_cons,List.cons.injEq]at h;have h1:=congrArg UInt8.toNat h.1;have hx:=ha x zm;have hy:=hb y zm;simp[UInt8.toNat_ofNat,Nat.mod_eq_of_lt hx,Nat.mod_eq_of_lt hy]at h1;rw[h1,ih b (fun z hz=>ha z (by simp[hz])) (fun z hz=>hb z (by simp[hz])) h.2]
  exact key a b ha' hb' h
 rintro rfl;rfl
theorem qeh(id:Nat)(s:Value)(hs:s.oneCell'=true)(tag:List Nat):∀u∈tokv id s tag,u.oneCell'=true:=by
 intro u hu;unfold tokv at hu;simp only[List.mem_cons]at hu;rcases hu with rfl|rfl|hu
 · rfl
 · exact hs
 exact qau _ u hu
theorem qei(id:Nat)(l:List (Int × Nat))(A:Option Addr)(n c:Nat)(tag:List Nat)(w:World)(hr:Reads w w.heap.size 2 A n (cavv l))(hn:n≤8796093022208)(ht:tag.length=32):
 Zc 156 #[.agg (tokv id (.slice A n c) tag).toArray] w fun e w'=>∃v,e=.returned (.agg (tokv id v tag).toArray)∧OwnC w' w.heap.size v l∧Zb w w':=by
 have hlen:=qdg id (.slice A n c) tag ht;have h1:(tokv id (.slice A n c) tag)[1]? =some (.slice A n c):=rfl;have hset:∀v,(tokv id (.slice A n c) tag).toArray.setIfInBounds 1 v=(tokv id v tag).toArray:=fun v=>by simp[tokv]
 obtain⟨L,hL⟩:=xeq (tokv id (.slice A n c) tag);rw[hL]at hlen h1 hset ⊢;obtain⟨HS,H1,A0⟩:=zh3 hset h1 hlen;clear hL hset h1 hlen;have t0:Blk (w.alloc (.cells L.toArray 31)) w.heap.size 31 L.toArray:=Blk.new w _ _;have hl1:(((w.alloc (.cells L.toArray 31)).alloc (.cells zLT 31)).alloc (.cells #[] 132)).heap.size=w.heap.size+3:=by simp
 have hr3:=((hr.laid (.cells L.toArray 31)).laid (.cells zLT 31)).laid (.cells #[] 132);have t3:=(t0.alloc (.cells zLT 31)).alloc (.cells #[] 132);have z3:=(Blk.new (w.alloc (.cells L.toArray 31)) 31 zLT).alloc (.cells #[] 132);rw[qar]at z3;have c1:=(t3.cell 1).trans (show L.toArray[1]? =some (.slice A n c) by simpa using H1.o);have hown0:OwnC (((w.alloc (.cells L.toArray 31)).alloc (.cells zLT 31)).alloc (.cells #[] 132)) (w.heap.size+2) (.slice (some ⟨w.heap.size+2,0,none⟩) 0 0) []:=by
  have:=OwnC.made ((w.alloc (.cells L.toArray 31)).alloc (.cells zLT 31)) [] (by simp[maxLen]);simp only[qar]at this;exact this
 go_enter Tryz.func156,Tryz.ntmps156
 go_wp2_with (at_builtin;refine qef rfl _ _ rfl (w.heap.size+2) _ [] rfl hown0 A n c l rfl hr3 (by simp;omega) (by rw[hl1];omega) ?_)
 intro v1 w1 hown1 hb1 hg1;have B1:Zb w w1:=(qah (qah (qah (tA5 _ _) _) _) _).trans (hb1.mono zo);have t1:=t3.below hb1 zo;have z1:=z3.below hb1 zo;clear hr hr3 t3 z3 hown0 hl1 c1 t0 hb1;obtain⟨A1,n1,c1,rfl,hn1,hc1,hcm1,-⟩:=hown1.sl;have cc1:=(t1.cell 1).trans (show L.toArray[1]? =some (.slice A n c) by simpa using H1.o);have ff1:=t1.frozen 1;have hne:=qa3 hown1 t1 zdc;have hlt:=t1.lt;have t2:=t1.set_ 1 (.slice A1 n1 c1);rw[HS.o]at t2;have z2:=z1.far (p:=⟨w.heap.size,1,none⟩) zm (.slice A1 n1 c1);have B2:=B1.setCell (p:=⟨w.heap.size,1,none⟩) (tA4 _) (.slice A1 n1 c1);have hown2:OwnC _ (w.heap.size+2) _ l:=qal hown1 (p:=⟨w.heap.size,1,none⟩) hne (.slice A1 n1 c1);have hlen1:=qdg id (.slice A1 n1 c1) tag ht;have hone1:=qeh id (.slice A1 n1 c1) rfl tag;obtain⟨M,hM⟩:=xeq (tokv id (.slice A1 n1 c1) tag);have HM:=zh1 hM;rw[hM]at t2 hlen1 hone1;obtain⟨A2,A3,HO,HI,Hn1⟩:=zh5 (qap t2 0 M zjq) hlen1 hone1 (zI 31 hlen1) hn1;clear hM hlen1 hone1 HS H1 hn1;go_wp2_with (first
  |(refine zld A2.o zu31 HI.o ?_)
  |(refine zst z2 HI.o (by simp[A3.o]) HO.o ?_))
 have z3:=z2.setRow M.toArray;have A4:=qap z3 0 M zjq;refine zrt A4 zu31 HI.o ⟨_,by rw[←HM.o],?_,below_setRow B2 zo _⟩;have:=(tB3 hown2 (qam _ (w.heap.size+1) M.toArray) (.inr (qa3 hown2 z2 zdc)));exact qdf this zo
theorem Blk.setCells {g:Nat}{t:TypeId}:∀(cs:List Value) (o:Nat) (w:World) (l:List Value),Blk w g t l.toArray→o+cs.length≤l.length→Blk (w.setCells g o cs) g t (l.take o++(cs++l.drop (o+cs.length))).toArray
 |[],o,w,l,h,_=>by simpa [World.setCells] using h
 |v::r,o,w,l,h,hl=>by
  have h1:=h.set_ o v;rw[List.setIfInBounds_toArray]at h1;have h2:=Blk.setCells r (o+1) _ _ h1 (by simp at hl ⊢;omega);rw[World.setCells];have ho:o<l.length:=by simp at hl;omega
  have e:(l.set o v).take (o+1)++(r++(l.set o v).drop (o+1+r.length))=l.take o++(v::r++l.drop (o+(v::r).length)):=by
   rw[List.take_succ_eq_append_getElem (by simpa using ho),List.take_set_of_le (tA4 o),List.getElem_set_self,List.drop_set_of_lt zo];simp[Nat.add_assoc,Nat.add_comm 1]
  rw[e]at h2;exact h2
theorem qej (g:Nat):∀(cs:List Value) (o:Nat) (w:World),w.grownBy (w.setCells g o cs) (some g)
 |[],_,w=>tB9 w _
 |v::r,o,w=>by
  have h1:=qab (tB9 w (some g)) (p:=⟨g,o,none⟩) (.inl rfl) v;have h2:=qej g r (o+1) (w.setCell ⟨g,o,none⟩ v);rw[World.setCells];exact⟨h2.os.trans h1.os,h2.tape.trans h1.tape,h2.output.trans h1.output,tB1 h1.size h2.size,fun i hi hne=>(h2.block i (tB0 hi h1.size) hne).trans (h1.block i hi hne)⟩
theorem qek(hb:Below B w0 w)(hg:B≤g)(hB:B≤w.heap.size)(o:Nat)(cs:List Value):Below B w0 (w.setCells g o cs):=
 hb.grown (qej g cs o w) hB (fun k hk=>by injection hk with hk;omega)
theorem qel{t:TypeId}{l:List Value}(h:Blk w g t l.toArray)(o n:Nat)(hn:o+n≤l.length):w.there g o n:=fun j hj=>by
 refine⟨?_,h.frozen _⟩;rw[h.cell];simp;omega
end
section
open Go.RowKit Go.ChangeShapes Go.WideShapes Go.ChangeAt Go.Deep
section
variable {H : Type} {enc : TypeId × Value → H} {W : World} {base : Nat} {held : Bool}
theorem qem(h:(Lit.int .u8 x).wf=true):((x.toNat:Nat):Int)=x∧x.toNat<256:=by
 have:=(Go.Lit.wf_int_iff _ _).1 h;rw[IntKind.min_u8,IntKind.max_u8]at this;omega
theorem qen(h:(Lit.int .u32 x).wf=true):((x.toNat:Nat):Int)=x∧x.toNat<4294967296:=by
 have:=(Go.Lit.wf_int_iff _ _).1 h;rw[IntKind.min_u32,IntKind.max_u32]at this;omega
theorem qeo(h:(Lit.int .u64 x).wf=true):((x.toNat:Nat):Int)=x∧x.toNat<18446744073709551616:=by
 have:=(Go.Lit.wf_int_iff _ _).1 h;rw[IntKind.min_u64,IntKind.max_u64]at this;omega
theorem qep(h:(Lit.int .i64 x).wf=true): -9223372036854775808≤x∧x≤9223372036854775807:=by
 have:=(Go.Lit.wf_int_iff _ _).1 h;rw[IntKind.min_i64,IntKind.max_i64]at this;omega
theorem qeq{zs:List Int}(h:∀z∈zs,(Lit.int .u8 z).wf=true):byv (zs.map Int.toNat)=zs.map (Value.int .u8)∧∀b∈zs.map Int.toNat,b<256:=by
 refine⟨?_,fun b hb=>?_⟩
 · unfold byv
   rw[List.map_map];exact List.map_congr_left fun z hz=>by simp only[Function.comp];rw[(qem (h z hz)).1]
 obtain⟨z,hz,rfl⟩:=List.mem_map.1 hb;exact(qem (h z hz)).2
theorem qer{x:DataW H × List MemPlace}(h:DataW.trod enc Tryz.prog W base (fun _=>true) held fuel 23 cs=some x):
 ∃(A:Option Addr) (c:Nat) (bs:List Nat),cs=[.slice A bs.length c]∧bs.length≤c∧c≤maxLen∧(∀b∈bs,b<256)∧Reads W W.heap.size 1 A bs.length (byv bs):=by
 rcases open_ints Tryz.underlying23 Tryz.underlying5 zk h with⟨hcs,_⟩|⟨a,l,c,zs,hcs,_,hl,hm,hz,_,hcell,hwz⟩
 · exact⟨none,0,[],hcs,tA4 _,by simp[maxLen],by simp,Reads.none_⟩
 have hz':zs.length=c:=by simpa using hz
 obtain⟨h1,h2⟩:=qeq (zs:=zs.take l) fun z hz=>hwz z (tB7 hz)
 have hlen:((zs.take l).map Int.toNat).length=l:=by simp;omega
 refine⟨some a,c,(zs.take l).map Int.toNat,by rw[hlen];exact hcs,by omega,hm,h2,?_⟩;rw[h1,hlen];refine⟨by simp;omega,fun hn=>⟨a,rfl,?_,fun j u hu=>?_⟩⟩
 · have:=hcell 0 zo
   have hb:=World.block_lt_of_cell? _ _ this;rwa[qa1]at hb
 simp only[tBj,Option.map_eq_some_iff]at hu;obtain⟨y,hy,rfl⟩:=hu;rw[List.getElem?_take]at hy;split at hy
 · rename_i hj
   have:=hcell j zo;rw[this,tB4,hy];rfl
 cases hy
theorem qes{x:DataW H × List MemPlace}(h:DataW.trod enc Tryz.prog W base (fun _=>true) held fuel 29 cs=some x):
 ∃tag:List Nat,cs=byv tag∧tag.length=32∧∀b∈tag,b<256:=by
 obtain⟨xs,m,-,-,hlen,hxl,hx⟩:=DataW.trod_array Tryz.underlying29 h;have c1:(Tryz.prog).cellsOf 5=1:=by kernel_rfl
 have c2:(Tryz.prog).cellsOf 29=32:=by kernel_rfl
 rw[c2]at hlen;have each:∀v∈cs,∃n:Int,v=.int .u8 n∧(Lit.int .u8 n).wf=true:=by
  intro v hv;obtain⟨i,hi,rfl⟩:=List.mem_iff_getElem.1 hv;have:=hx i zo;rw[c1,Nat.mul_one,List.drop_eq_getElem_cons hi]at this;simp only[List.take_succ_cons,List.take_zero]at this;cases hxi:xs[i]? with
  |none=>
   have h2:=(List.getElem?_eq_none_iff.1 hxi);omega
  |some y=>
   rw[hxi]at this;obtain⟨n,hn,-,hw⟩:=DataW.trod_int Tryz.underlying5 this;exact⟨n,by simpa using hn,hw⟩
 refine⟨cs.map fun v=>(intOf v).toNat,?_,by simp[hlen],fun b hb=>?_⟩
 ·
  unfold byv;rw[List.map_map];conv=>lhs;rw[←List.map_id cs]
  refine List.map_congr_left fun v hv=>?_
  obtain⟨n,rfl,hw⟩:=each v hv;simp[intOf,(qem hw).1]
 obtain⟨v,hv,rfl⟩:=List.mem_map.1 hb;obtain⟨n,rfl,hw⟩:=each v hv;simpa [intOf] using (qem hw).2
theorem qet{x:DataW H × List MemPlace}(h:DataW.trod enc Tryz.prog W base (fun _=>true) held fuel 27 cs=some x):
 ∃(A:Option Addr) (c:Nat) (l:List (Int × Nat)),cs=[.slice A l.length c]∧l.length≤c∧c≤maxLen∧(∀x∈l,x.2<4294967296)∧(∀x∈l,(Lit.int .i64 x.1).wf=true)∧Reads W W.heap.size 2 A l.length (cavv l)∧(∀M,(∀n∈x.1.weights Tryz.prog 27,n≤M)→c*16≤M):=by
 have hby:(Tryz.prog).bytesOf 132=16:=by kernel_rfl
 rcases open_slice_pairs Tryz.underlying27 Tryz.underlying132 zk rfl rfl zk zk h with⟨hcs,_⟩|⟨a,len,c,m,n,V0,V1,D0,D1,P0,P1,hcs,_,hl,hm,hmm,hx0,hel⟩
 · exact⟨none,0,[],hcs,tA4 _,by simp[maxLen],by simp,by simp,Reads.none_,fun M _=>by omega⟩
 have hmc:m=c:=by simpa using hmm
 have e0:∀i,i<len→∃k:Int,V0 i=.int .i64 k∧(Lit.int .i64 k).wf=true:=fun i hi=>by
  obtain⟨k,hk,-,hw⟩:=DataW.trod_int Tryz.underlying3 (hel i zo).2.2.1;exact⟨k,by simpa using hk,hw⟩
 have e1:∀i,i<len→∃k:Int,V1 i=.int .u32 k∧(Lit.int .u32 k).wf=true:=fun i hi=>by
  obtain⟨k,hk,-,hw⟩:=DataW.trod_int Tryz.underlying22 (hel i zo).2.2.2;exact⟨k,by simpa using hk,hw⟩
 obtain⟨L,hL⟩:=eqx ((List.range len).map fun i=>(intOf (V0 i),(intOf (V1 i)).toNat));have hlen:L.length=len:=by rw[hL];simp
 have hget:∀i,i<len→L[i]? =some (intOf (V0 i),(intOf (V1 i)).toNat):=fun i hi=>by rw[hL];simp[hi]
 have hv:∀i,i<len→V0 i=.int .i64 (intOf (V0 i))∧V1 i=.int .u32 ((intOf (V1 i)).toNat:Int):=fun i hi=>by
  obtain⟨k,hk,hw⟩:=e0 i hi;obtain⟨q,hq,hw2⟩:=e1 i hi;rw[hk,hq];simp[intOf,(qen hw2).1]
 refine⟨some a,c,L,by rw[hlen];exact hcs,by omega,hm,fun x hx=>?_,fun x hx=>?_,?_,?_⟩
 ·
  obtain⟨i,hi,rfl⟩:=List.mem_iff_getElem.1 hx;have:=hget i zo;rw[tA7 hi]at this;injection this with this;rw[this];obtain⟨q,hq,hw2⟩:=e1 i zo;simpa [hq,intOf] using (qen hw2).2
 ·
  obtain⟨i,hi,rfl⟩:=List.mem_iff_getElem.1 hx;have:=hget i zo;rw[tA7 hi]at this;injection this with this;rw[this];obtain⟨q,hq,hw2⟩:=e0 i zo;simpa [hq,intOf] using hw2
 ·
  rw[hlen];have hcl:(cavv L).length=len*2:=by
   have:∀l:List (Int × Nat),(cavv l).length=l.length*2:=by
    intro l;unfold cavv;induction l with
    |nil=>rfl
    |cons y l ih=>simp only[List.flatMap_cons,tA6,ih,tBi];simp;omega
   rw[this,hlen]
  refine⟨hcl,fun hn=>⟨a,rfl,?_,fun j u hu=>?_⟩⟩
  · have hb:=World.block_lt_of_cell? _ _ (hel 0 zo).1
    rwa[qa1]at hb
  have hj:j<len*2:=by
   rcases Nat.lt_or_ge j (cavv L).length with h|h
   · omega
   rw[List.getElem?_eq_none h]at hu;cases hu
  obtain⟨i,hi⟩:=eqx (j / 2);obtain⟨q0,q1⟩:=qdj L i _ (hget i zo);obtain⟨v0,v1⟩:=hv i zo;rcases Nat.mod_two_eq_zero_or_one j with h2|h2
  · have e:j=i*2:=zo
    rw[e]at hu ⊢;rw[q0]at hu;injection hu with hu;rw[(hel i zo).1,v0,←hu]
  have e:j=i*2+1:=zo;rw[e]at hu ⊢;rw[q1]at hu;injection hu with hu;rw[(hel i zo).2.1,v1,←hu]
 intro M hM;refine hM _ ?_;rw[hx0];unfold DataW.weights;rw[Tryz.underlying27];simp only[tBl,List.length_range,hby];rw[show len+(m - len)=c from by omega];exact List.mem_cons_self ..
theorem qeu(l:List Value)(a k:Nat):l.drop a=(l.drop a).take k++l.drop (a+k):=by
 have:=(List.take_append_drop k (l.drop a)).symm;rwa[List.drop_drop]at this
theorem qev{α:Type}{xs:List α}(h:i<xs.length):∃y,xs[i]? =some y:=⟨_,tA7 h⟩
theorem qew{x:DataW H × List MemPlace}(h:DataW.trod enc Tryz.prog W base (fun _=>true) held fuel 31 cs=some x):
 ∃(id:Nat) (A:Option Addr) (c:Nat) (l:List (Int × Nat)) (tag:List Nat),cs=tokv id (.slice A l.length c) tag∧id<4294967296∧l.length≤c∧c≤maxLen∧(∀x∈l,x.2<4294967296)∧(∀x∈l,(Lit.int .i64 x.1).wf=true)∧
  Reads W W.heap.size 2 A l.length (cavv l)∧tag.length=32∧(∀b∈tag,b<256)∧(∀M,(∀n∈x.1.weights Tryz.prog 31,n≤M)→c*16≤M):=by
 obtain⟨xs,n,-,hx0,hlen,hxl,hf⟩:=DataW.trod_struct Tryz.underlying31 h;have c1:(Tryz.prog).cellsOf 22=1:=by kernel_rfl
 have c2:(Tryz.prog).cellsOf 27=1:=by kernel_rfl
 have c3:(Tryz.prog).cellsOf 29=32:=by kernel_rfl
 have c4:(Tryz.prog).cellsOf 31=34:=by kernel_rfl
 rw[c4]at hlen;have hx:∀i,i<3→∃y,xs[i]? =some y:=fun i hi=>qev (by rw[hxl];exact hi)
 obtain⟨y0,h0⟩:=hx 0 zo;obtain⟨y1,h1⟩:=hx 1 zo;obtain⟨y2,h2⟩:=hx 2 zo;have g0:=(hf 0 _ rfl).trans h0;have g1:=(hf 1 _ rfl).trans h1;have g2:=(hf 2 _ rfl).trans h2;simp only[List.getElem_toArray,List.getElem_cons_zero,List.getElem_cons_succ]at g0 g1 g2;rw[c1]at g0;rw[c2]at g1;rw[c3]at g2;obtain⟨i,e0,-,w0⟩:=DataW.trod_int Tryz.underlying22 g0;obtain⟨A,c,l,e1,a1,a2,a3,a4,a5,a6⟩:=qet g1;obtain⟨tag,e2,b1,b2⟩:=qes g2;refine⟨i.toNat,A,c,l,tag,?_,(qen w0).2,a1,a2,a3,a4,a5,b1,b2,fun M hM=>a6 M fun n hn=>hM n ?_⟩
 · have:cs=(cs.drop 0).take 1++((cs.drop 1).take 1++((cs.drop 2).take 32++cs.drop 34)):=by
    rw[←qeu cs 2 32,←qeu cs 1 1,←qeu cs 0 1];rfl
   rw[this,e0,e1,e2,List.drop_eq_nil_of_le zo];simp[tokv,(qen w0).1]
 rw[hx0];unfold DataW.weights;rw[Tryz.underlying31];exact DataW.weights_mem_each (j:=1) rfl (by rw[tBj,h1];rfl) n hn
end
end
section
open Go.RowKit Go.ChangeShapes Go.WideShapes Go.ChangeAt Go.Deep
section
variable {H : Type} {enc : TypeId × Value → H} {W : World} {base : Nat} {held : Bool}
theorem qex{x:DataW H × List MemPlace}(h:DataW.trod enc Tryz.prog W base (fun _=>true) held fuel 34 cs=some x):
 ∃(R:Req) (Ac:Option Addr) (cc:Nat) (Al:Option Addr) (cl:Nat),cs=reqv R (.slice Ac R.cavs.length cc) (.slice Al R.leaf.length cl)∧R.Good∧R.cavs.length≤cc∧cc≤maxLen∧R.leaf.length≤cl∧cl≤maxLen∧
  Reads W W.heap.size 2 Ac R.cavs.length (cavv R.cavs)∧Reads W W.heap.size 1 Al R.leaf.length (byv R.leaf)∧(∀M,(∀n∈x.1.weights Tryz.prog 34,n≤M)→cc*16≤M):=by
 obtain⟨xs,n,-,hx0,hlen,hxl,hf⟩:=DataW.trod_struct Tryz.underlying34 h;have c1:(Tryz.prog).cellsOf 3=1:=by kernel_rfl
 have c2:(Tryz.prog).cellsOf 31=34:=by kernel_rfl
 have c3:(Tryz.prog).cellsOf 22=1:=by kernel_rfl
 have c4:(Tryz.prog).cellsOf 32=1:=by kernel_rfl
 have c5:(Tryz.prog).cellsOf 23=1:=by kernel_rfl
 have c6:(Tryz.prog).cellsOf 34=48:=by kernel_rfl
 rw[c6]at hlen;have hx:∀i,i<15→∃y,xs[i]? =some y:=fun i hi=>qev (by rw[hxl];exact hi)
 obtain⟨y0,h0⟩:=hx 0 zo;obtain⟨y1,h1⟩:=hx 1 zo;obtain⟨y2,h2⟩:=hx 2 zo;obtain⟨y3,h3⟩:=hx 3 zo;obtain⟨y4,h4⟩:=hx 4 zo;obtain⟨y5,h5⟩:=hx 5 zo;obtain⟨y6,h6⟩:=hx 6 zo;obtain⟨y7,h7⟩:=hx 7 zo;obtain⟨y8,h8⟩:=hx 8 zo;obtain⟨y9,h9⟩:=hx 9 zo;obtain⟨y10,h10⟩:=hx 10 zo;obtain⟨y11,h11⟩:=hx 11 zo;obtain⟨y12,h12⟩:=hx 12 zo;obtain⟨y13,h13⟩:=hx 13 zo;obtain⟨y14,h14⟩:=hx 14 zo;have g0:=(hf 0 _ rfl).trans h0;have g1:=(hf 1 _ rfl).trans h1;have g2:=(hf 2 _ rfl).trans h2;have g3:=(hf 3 _ rfl).trans h3;have g4:=(hf 4 _ rfl).trans h4;have g5:=(hf 5 _ rfl).trans h5;have g6:=(hf 6 _ rfl).trans h6;have g7:=(hf 7 _ rfl).trans h7;have g8:=(hf 8 _ rfl).trans h8;have g9:=(hf 9 _ rfl).trans h9;have g10:=(hf 10 _ rfl).trans h10;have g11:=(hf 11 _ rfl).trans h11;have g12:=(hf 12 _ rfl).trans h12;have g13:=(hf 13 _ rfl).trans h13;have g14:=(hf 14 _ rfl).trans h14;simp only[List.getElem_toArray,List.getElem_cons_zero,List.getElem_cons_succ]at g0 g1 g2 g3 g4 g5 g6 g7 g8 g9 g10 g11 g12 g13 g14;rw[c1]at g0 g2 g3 g4 g5 g6;rw[c2]at g1;rw[c3]at g7 g10 g11 g12;rw[c4]at g8 g9 g13;rw[c5]at g14;obtain⟨op,e0,-,w0⟩:=DataW.trod_int Tryz.underlying3 g0;obtain⟨tid,Ac,cc,cavs,tag,e1,t0,t1,t2,t3,t4,t5,t6,t7,t8⟩:=qew g1;obtain⟨tree,e2,-,w2⟩:=DataW.trod_int Tryz.underlying3 g2;obtain⟨tenant,e3,-,w3⟩:=DataW.trod_int Tryz.underlying3 g3;obtain⟨role,e4,-,w4⟩:=DataW.trod_int Tryz.underlying3 g4;obtain⟨state,e5,-,w5⟩:=DataW.trod_int Tryz.underlying3 g5;obtain⟨weight,e6,-,w6⟩:=DataW.trod_int Tryz.underlying3 g6;obtain⟨id,e7,-,w7⟩:=DataW.trod_int Tryz.underlying22 g7;obtain⟨lo,e8,-,w8⟩:=DataW.trod_int Tryz.underlying32 g8;obtain⟨hi,e9,-,w9⟩:=DataW.trod_int Tryz.underlying32 g9;obtain⟨rate,e10,-,w10⟩:=DataW.trod_int Tryz.underlying22 g10;obtain⟨burst,e11,-,w11⟩:=DataW.trod_int Tryz.underlying22 g11;obtain⟨store,e12,-,w12⟩:=DataW.trod_int Tryz.underlying22 g12;obtain⟨expires,e13,-,w13⟩:=DataW.trod_int Tryz.underlying32 g13;obtain⟨Al,cl,leaf,e14,l1,l2,l3,l4⟩:=qer g14;refine⟨⟨op,tid,cavs,tag,tree,tenant,role,state,weight,id.toNat,lo.toNat,hi.toNat,rate.toNat,burst.toNat,store.toNat,expires.toNat,leaf⟩,Ac,cc,Al,cl,?_,?_,t1,t2,l1,l2,t5,l4,fun M hM=>t8 M fun n hn=>hM n ?_⟩
 · have:cs=(cs.drop 0).take 1++((cs.drop 1).take 34++((cs.drop 35).take 1++((cs.drop 36).take 1++((cs.drop 37).take 1++((cs.drop 38).take 1++((cs.drop 39).take 1++((cs.drop 40).take 1++((cs.drop 41).take 1++((cs.drop 42).take 1++((cs.drop 43).take 1++((cs.drop 44).take 1++((cs.drop 45).take 1++((cs.drop 46).take 1++((cs.drop 47).take 1++cs.drop 48)))))))))))))):=by
    rw[←qeu cs 47 1,←qeu cs 46 1,←qeu cs 45 1,←qeu cs 44 1,←qeu cs 43 1,←qeu cs 42 1,←qeu cs 41 1,←qeu cs 40 1,←qeu cs 39 1,←qeu cs 38 1,←qeu cs 37 1,←qeu cs 36 1,←qeu cs 35 1,←qeu cs 1 34,←qeu cs 0 1];rfl
   rw[this,e0,e1,e2,e3,e4,e5,e6,e7,e8,e9,e10,e11,e12,e13,e14,List.drop_eq_nil_of_le zo];simp[reqv,tokv,Req.rest,(qen w7).1,(qeo w8).1,(qeo w9).1,(qen w10).1,(qen w11).1,(qen w12).1,(qeo w13).1]
 · exact⟨t6,t7,t0,t3,t4,w0,w2,w3,w4,w5,w6,(qen w7).2,(qeo w8).2,(qeo w9).2,(qen w10).2,(qen w11).2,(qen w12).2,(qeo w13).2,l3⟩
 rw[hx0];unfold DataW.weights;rw[Tryz.underlying34];exact DataW.weights_mem_each (j:=1) rfl (by rw[tBj,h1];rfl) n hn
end
end
theorem qey(hgd:o.guard=none)(d s:Operand)(dT sT:TypeId)
 (ho:o.op=.call {callee:=.builtin .copy,args:=#[d,s],argTypes:=#[dT,sT]})(elem:TypeId)(hu:P.underlying dT=some (.slice elem))(hsz:(P.info? elem).map (·.size)=some 1)
 (dp sp:Option Addr)(dLen dCap sLen sCap:Nat)(hd:a.eval d=.slice dp dLen dCap)(hs:a.eval s=.slice sp sLen sCap)
 (g off:Nat)(cur:List Value)(t:TypeId)(hg:w.heap[g]? =some (.cells cur.toArray t (0,0)))(cs:List Value)(hn:cs.length=Nat.min sLen dLen)
 (hpos:0<cs.length→dp=some ⟨g,off,none⟩∧∃ad,sp=some ad∧∀j v,cs[j]? =some v→w.cell? (ad.add j)=some v)
 (hfit:off+cs.length≤cur.length)(h1:∀v∈cs,v.oneCell'=true)(B:Nat)(w0:World)(hb:RowKit.Below B w0 w)(hBg:B≤g)
 (h:∀w',RowKit.Hid (w'.heap[g]? =some (.cells (splice cur off cs).toArray t (0,0)))→RowKit.Below B w0 w'→K (a.put o.dst (goInt cs.length)) w'):o.wp P a w K Q:=by
 have:=step_copy_splice (P:=P) (ops:=#[]) (o:=o) (a:=a) (w:=w) (K:=K) (Q:=Q) (E:=True) hgd d s dT sT ho elem hu hsz dp sp dLen dCap sLen sCap hd hs g off cur t hg cs hn hpos hfit h1 B w0 hb hBg h;rwa[if_pos (by simp[Region.wanted,hgd])]at this
theorem qez(rest:List Nat)(N:Nat):splice (byv (List.replicate N 0)) 0 (byv rest)=byv (rest++List.replicate (N - rest.length) 0):=by
 simp[splice,byv]
theorem qf0{ops:Array Oper}{rest:List Oper}(hgd:o.guard=none)(d s:Operand)(dT sT:TypeId)
 (ho:o.op=.call {callee:=.builtin .copy,args:=#[d,s],argTypes:=#[dT,sT]})(elem:TypeId)(hu:P.underlying dT=some (.slice elem))(hsz:(P.info? elem).map (·.size)=some 1)
 (dp sp:Option Addr)(dLen dCap sLen sCap:Nat)(hd:a.eval d=.slice dp dLen dCap)(hs:a.eval s=.slice sp sLen sCap)
 (g off:Nat)(cur:List Value)(t:TypeId)(hg:w.heap[g]? =some (.cells cur.toArray t (0,0)))(cs:List Value)(hn:cs.length=Nat.min sLen dLen)
 (hpos:0<cs.length→dp=some ⟨g,off,none⟩∧∃ad,sp=some ad∧∀j v,cs[j]? =some v→w.cell? (ad.add j)=some v)
 (hfit:off+cs.length≤cur.length)(h1:∀v∈cs,v.oneCell'=true)
 (h:∀w',Hid (w'.heap[g]? =some (.cells (splice cur off cs).toArray t (0,0)))→w.grownBy w' (some g)→wpList P ops Q rest (a.put o.dst (goInt cs.length)) w'):
 wpList P ops Q (o::rest) a w:=by
 by_cases h0:cs.length=0
 · obtain rfl:cs=[]:=tB8 h0
   refine wpList_copy_nothing hgd d s dT sT ho elem hu hsz dp sp dLen dCap sLen sCap hd hs (by simpa using hn.symm) ?_;exact h w (show _=_ by simpa [splice] using hg) (tB9 _ _)
 obtain⟨rfl,ad,rfl,hsrc⟩:=hpos zo;refine wpList_copy_own hgd d s dT sT ho elem hu hsz g off dLen dCap ad sLen sCap hd hs cur.toArray t hg cs hn hsrc (by simpa using hfit) h1 ?_;exact h _ (show _=_ by simpa [splice] using setRow_heap w g _ _ t _ hg) (qam _ _ _)
theorem qf1(d s:Operand)(dT sT:TypeId)
 (ho:o.op=.call {callee:=.builtin .copy,args:=#[d,s],argTypes:=#[dT,sT]})(elem:TypeId)(hu:P.underlying dT=some (.slice elem))(hsz:(P.info? elem).map (·.size)=some 1)
 (dp sp:Option Addr)(dLen dCap sLen sCap:Nat)(hd:a.eval d=.slice dp dLen dCap)(hs:a.eval s=.slice sp sLen sCap)
 (g off:Nat)(cur:List Value)(t:TypeId)(hg:w.heap[g]? =some (.cells cur.toArray t (0,0)))(cs:List Value)(hn:cs.length=Nat.min sLen dLen)
 (hpos:0<cs.length→dp=some ⟨g,off,none⟩∧∃ad,sp=some ad∧∀j v,cs[j]? =some v→w.cell? (ad.add j)=some v)
 (hfit:off+cs.length≤cur.length)(h1:∀v∈cs,v.oneCell'=true)
 (h:∀w',Hid (w'.heap[g]? =some (.cells (splice cur off cs).toArray t (0,0)))→w.grownBy w' (some g)→K (a.put o.dst (goInt cs.length)) w'):o.wp P a w K Q:=by
 by_cases h0:cs.length=0
 · obtain rfl:cs=[]:=tB8 h0
   have hrun:=run_copy_none (P:=P) w dT sT o.type elem dp sp dLen dCap sLen sCap hu hsz (by simpa using hn.symm);unfold Oper.wp;simp[execOp,ho,resolve,invoke,builtin,hd,hs,hrun,Result.andThen];exact h w (show _=_ by simpa [splice] using hg) (tB9 _ _)
 obtain⟨rfl,ad,rfl,hsrc⟩:=hpos zo;have hrun:=run_copy_row (P:=P) w dT sT o.type elem g off dLen dCap ad sLen sCap cur.toArray t cs hu hsz hg hn hsrc (by simpa using hfit) h1;unfold Oper.wp;simp[execOp,ho,resolve,invoke,builtin,hd,hs,hrun,Result.andThen];exact h _ (show _=_ by simpa [splice] using setRow_heap w g _ _ t _ hg) (qam _ _ _)
theorem qf3(P Q:List Nat)(x v:Nat):(byv (P++x::Q)).toArray.setIfInBounds P.length (.int .u8 (v:Int))=(byv (P++v::Q)).toArray:=by
 simp[byv]
theorem qf4{P Q:List Nat}{x:Nat}(h:P.length=i):(byv (P++x::Q)).toArray[i]? =some (.int .u8 (x:Int)):=by
 subst h;simp[byv]
def blocks (bs:List Nat)(s:St):Nat→St
 |0=>s
 |k+1=>mixed (bs.drop (64*k)) (blocks bs s k)
theorem qf5(bs:List Nat)(s:St)(h:s.ok):∀k,(blocks bs s k).ok
 |0=>h
 |k+1=>qcb _ _
theorem qf6:qc2.ok:=by unfold St.ok qc2;decide
def qf7 (r:Nat):Nat:=if r+9>64 then 128 else 64
def qf8 (bs:List Nat)(k:Nat):List Nat:=
 let r:=bs.length % 64
 (bs.drop (bs.length - r)++128::List.replicate (qf7 r - r - 1 - k) 0)++(be (8*bs.length) k++List.replicate (128 - qf7 r) 0)
def qf9 (bs:List Nat):St:=blocks (qf8 bs 8) (blocks bs qc2 (bs.length / 64)) (qf7 (bs.length % 64) / 64)
def qfa (s:St):List Nat:=(List.range 32).map fun i=>s.list.getD (i / 4) 0 / 2^(24 - 8*(i % 4)) % 256
def sha (bs:List Nat):List Nat:=qfa (qf9 bs)
theorem qfb{l:List Nat}(h:i<l.length):(byv l).toArray[i]? =some (.int .u8 (l.getD i 0:Nat)):=by
 simp only[byv,tA3,tBj];rw[tB4,tA7 h];rfl
theorem qfc{t:TypeId}{l:List Nat}(h:Blk w g t (byv l).toArray)(hp:p≤l.length):Reads w w.heap.size 1 (some ⟨g,p,none⟩) (l.length - p) (byv (l.drop p)):=by
 refine⟨by simp[byv],fun _=>⟨_,rfl,h.lt,fun j u hu=>?_⟩⟩;have e:(⟨g,p,none⟩:Addr).add j=⟨g,p+j,none⟩:=by unfold Addr.add;split<;>simp_all
 rw[e,h.cell,←hu];simp[byv]
def qfd (L:List Nat)(k:Nat):List Nat:=L.take k++List.replicate (L.length - k) 0
theorem qfe{L:List Nat}{v:Nat}(h:k<L.length)(hv:L.getD k 0=v):(byv (qfd L k)).toArray.setIfInBounds k (.int .u8 (v:Int))=(byv (qfd L (k+1))).toArray:=by
 unfold qfd;rw[show L.length - k=(L.length - (k+1))+1 by omega,List.replicate_succ];have e:=qf3 (L.take k) (List.replicate (L.length - (k+1)) 0) 0 v;rw[tBd,Nat.min_eq_left zo]at e;rw[e,List.take_add_one,tA7 h];rw[tB4,tA7 h]at hv;simp only[Option.getD_some]at hv;simp[hv]
theorem qff(L:List Nat):qfd L L.length=L:=by simp[qfd]
theorem qfg(st:St)(h:k<32):(qfa st).getD k 0=st.list.getD (k / 4) 0 / 2^(24 - 8*(k % 4)) % 256:=by
 unfold qfa;rw[tB4,tBj,List.getElem?_range h];rfl
theorem qfh(r:Nat)(h:r<64):r+9≤qf7 r∧(qf7 r=64∨qf7 r=128):=by unfold qf7;split<;>omega
theorem qfi(N k:Nat):be N (k+1)=qav N k::be N k:=by
 unfold be;rw[List.range_succ_eq_map,List.map_cons,List.map_map];congr 1
 apply List.map_congr_left;intro j hj;have:=List.mem_range.1 hj;show qav N (k+1 - 1 - (j+1))=qav N (k - 1 - j);congr 1
 omega
theorem qfj(bs:List Nat)(k:Nat)(hk:k<8):(byv (qf8 bs k)).toArray.setIfInBounds (qf7 (bs.length % 64) - 1 - k) (.int .u8 (qav (8*bs.length) k:Nat))=(byv (qf8 bs (k+1))).toArray:=by
 have hr:bs.length % 64<64:=Nat.mod_lt _ zdc;obtain⟨e1,e2⟩:=qfh _ hr;unfold qf8;dsimp only;have e:qf7 (bs.length % 64) - bs.length % 64 - 1 - k=(qf7 (bs.length % 64) - bs.length % 64 - 1 - (k+1))+1:=zo;rw[qfi,e,List.replicate_succ'];have h:=qf3 (bs.drop (bs.length - bs.length % 64)++128::List.replicate (qf7 (bs.length % 64) - bs.length % 64 - 1 - (k+1)) 0) (be (8*bs.length) k++List.replicate (128 - qf7 (bs.length % 64)) 0) 0 (qav (8*bs.length) k);have hl:(bs.drop (bs.length - bs.length % 64)++128::List.replicate (qf7 (bs.length % 64) - bs.length % 64 - 1 - (k+1)) 0).length=qf7 (bs.length % 64) - 1 - k:=by simp;omega
 rw[hl]at h;simpa using h
theorem qfk(bs:List Nat):qf8 bs 0=bs.drop (bs.length - bs.length % 64)++128::List.replicate (127 - bs.length % 64) 0:=by
 have hr:bs.length % 64<64:=Nat.mod_lt _ zdc;obtain⟨e1,e2⟩:=qfh _ hr;unfold qf8;have:be (8*bs.length) 0=[]:=rfl;simp only[this,List.nil_append,List.append_assoc,List.cons_append,List.replicate_append_replicate];congr 3
 omega
theorem qfl(bs:List Nat)(k:Nat)(hk:k≤8):(qf8 bs k).length=128:=by
 have hr:bs.length % 64<64:=Nat.mod_lt _ zdc;obtain⟨e1,e2⟩:=qfh _ hr;simp[qf8,qaw];omega
theorem qfm(bs:List Nat)(h:∀b∈bs,b<256)(k:Nat):∀b∈qf8 bs k,b<256:=by
 intro b hb;simp only[qf8,tBg,List.mem_cons,List.mem_replicate]at hb;rcases hb with(hb|rfl|⟨_,rfl⟩)|hb|⟨_,rfl⟩
 · exact h b (List.mem_of_mem_drop hb)
 · decide
 · decide
 · exact qaz _ _ b hb
 decide
theorem qfn(h:Tabs w)(hg:w.grownBy w' (some g))(h3:3≤g):Tabs w':=
 ⟨tB1 h.size hg.size,fun i hi=>(World.cell?_of_block (hg.block _ (by have:=h.size;show (1:Nat)<_;omega) (fun e=>by injection e with e;have e:(1:Nat)=g:=e;omega))).trans (h.start i hi),
  fun i hi=>(World.cell?_of_block (hg.block _ (by have:=h.size;show (2:Nat)<_;omega) (fun e=>by injection e with e;have e:(2:Nat)=g:=e;omega))).trans (h.words i hi)⟩
theorem qfo(n cc:Nat)(A:Option Addr)(bs:List Nat)(w:World)(hb2:∀b∈bs,b<256)(hr:Reads w w.heap.size 1 A n (byv bs))(hnc:n≤cc)(hn:n≤1152921504606846975)(ht:Tabs w):
 Zc 245 #[.slice A n cc] w fun e w'=>e=.returned (.agg (byv (sha bs)).toArray)∧Zb w w':=by
 have hlen:bs.length=n:=qb5 hr;obtain⟨m,hm⟩:=xeq (n / 64);have d1:Int.tdiv (n:Int) 64=(m:Int):=by rw[←hm,Int.tdiv_eq_ediv_of_nonneg zo];omega
 have d2:IntKind.i64.wrap (m:Int)=m:=tBb _ zo;obtain⟨p4,hp4⟩:=xeq (64*m);have d3:IntKind.i64.wrap ((m:Int)*64)=(p4:Int):=by rw[show ((m:Int)*64)=(p4:Int) by omega];exact tBb _ zo
 have A1:=zh1 hp4;have g0:∀i,i<8→w.cell? ⟨1,i,none⟩=qc2.vals[i]? :=ht.start;have c0:=g0 0 zo;have c1:=g0 1 zo;have c2:=g0 2 zo;have c3:=g0 3 zo;have c4:=g0 4 zo;have c5:=g0 5 zo;have c6:=g0 6 zo;have c7:=g0 7 zo;simp[St.vals,qc2]at c0 c1 c2 c3 c4 c5 c6 c7;have hlt2:1<w.heap.size:=by have:=ht.size;omega
 clear g0;obtain⟨Ht,Hr,HM,A0⟩:=zh4 ht hr hm hlen;have hW:∃x,x=(w.alloc (.cells zLD 29)).alloc (.cells #[.int .u32 1779033703,.int .u32 3144134277,.int .u32 1013904242,.int .u32 2773480762,.int .u32 1359893119,.int .u32 2600822924,.int .u32 528734635,.int .u32 1541459225] 209):=⟨_,rfl⟩;obtain⟨W1,hW1⟩:=hW;have Z1:Blk W1 w.heap.size 29 zLD:=by rw[hW1];exact(Blk.new w _ _).alloc _
 have S1:Blk W1 (w.heap.size+1) 209 qc2.vals:=by
  have h:=Blk.new (w.alloc (.cells zLD 29)) 209 qc2.vals;rw[qar]at h;rw[hW1];exact h
 have B1:Zb w W1:=by rw[hW1];exact qah (qah (tA5 _ _) _) _
 have L1:w.heap.size+1<W1.heap.size:=S1.lt;have A6:=zh1 hb2;clear ht hr hm hlen hp4 hb2;go_enter Tryz.func245,Tryz.ntmps245
 go_wp2_with fail
 rw[←hW1];obtain⟨AP,A8,A9,A3⟩:=zh4 hW1 Z1 S1 B1;clear hW1 Z1 S1 B1 c0 c1 c2 c3 c4 c5 c6 c7;go_loopw [5] (fun i wr=>∃k p:Nat,k≤m∧Hid (64*k=p)∧i=.int .i64 p∧Blk wr (w.heap.size+1) 209 (blocks bs qc2 k).vals∧W1.grownBy wr (some (w.heap.size+1))) (fun i _=>p4 - (intOf i).toNat)
 case atStart=>exact⟨0,0,by omega,rfl,rfl,A9.o,tB9 _ _⟩
 case round=>
  obtain⟨k,p,hk,hp,rfl,hst,hgr⟩:=hrel;by_cases hkm:k<m
  ·
   have ep:=hp.o;have e4:=A1.o;have em:=HM.o;have q1:(p:Int)<p4:=zo;have q2:p≤n:=zo;have q3:p<cc:=zo;have q4:cc≠p:=zo;have hr1:=((Hr.below A3.o).grown hgr zo (by intro g hg;injection hg with hg;omega)).cut (k:=p) (cap:=cc) q2 hnc;rw[if_neg zo,Nat.mul_one,show (byv bs).drop p=byv (bs.drop p) by simp[byv]]at hr1;have hT:=(Ht.below A3.o Ht.size);have hT1:=qfn hT hgr (by have:=Ht.size;omega);have hl1:(bs.drop p).length=n - p:=by rw[tBk,A0.o]
   have hst2:=hst;rw[St.vals]at hst2;have K:=qck (w.heap.size+1) w.heap.size (n - p) (cc - p) _ (bs.drop p) _ wr (qf5 bs qc2 qf6 k) hl1 zo (fun b hb=>A6.o b (List.mem_of_mem_drop hb)) hst2 hr1 (by have:=hgr.size;omega) hT1;obtain⟨HK,Hgr⟩:=zh2 K hgr;clear ep e4 em hgr K hT hT1 hst hst2 hr1 hl1;go_wp2_with fail
   with_reducible refine HK.o.mono ?_
   rintro e w2 ⟨rfl,h1,h2⟩;have w1:IntKind.i64.wrap ((p:Int)+64)=(p+64:Nat):=by rw[show ((p:Int)+64)=((p+64:Nat):Int) by omega];exact tBb _ (by have:=hp.o;have:=A1.o;have:=HM.o;omega)
   go_wp2
   go_roundw
   case rel=>exact⟨k+1,p+64,by omega,(show 64*(k+1)=p+64 by have:=hp.o;omega),by go_num,by rw[blocks,hp.o];exact h1,qc8 Hgr.o h2⟩
   case measure=>simp[intOf];have:=hp.o;omega
  have hk':k=m:=zo;have q1:¬(p:Int)<p4:=by have:=hp.o;have:=A1.o;omega
  rw[hk']at hst;obtain⟨Hst,Hgr⟩:=zh2 hst hgr;clear hst hgr hk' hkm hk;obtain⟨W2,rfl⟩:=eqx wr;obtain⟨r,hrr⟩:=xeq (n - p4);have hr64:n % 64=r:=by have:=A1.o;have:=HM.o;omega
  have r64:r<64:=zo;have e4n:p4≤n:=by have:=A1.o;have:=HM.o;omega
  have HX:Reads W2 w.heap.size 1 (if cc=p4 then A else A.map (·.add p4)) r (byv (bs.drop p4)):=by
   have h:=((Hr.below A3.o).grown Hgr.o zo (by intro g hg;injection hg with hg;omega)).cut (k:=p4) (cap:=cc) e4n hnc;rw[hrr,Nat.mul_one,show (byv bs).drop p4=byv (bs.drop p4) by simp[byv]]at h;exact h
  have HX':=zh1 HX;obtain⟨rest,hrest⟩:=xeq (bs.drop p4);have lrest:rest.length=r:=by rw[←hrest,tBk,A0.o];exact hrr
  have W3a:Blk (W2.alloc (.cells Tryz.zeroCells360 360)) W2.heap.size 360 (byv (List.replicate 128 0)).toArray:=Blk.new W2 _ _;rw[hrest]at HX;obtain⟨A2,hA2⟩:∃x,(if cc=p4 then A else A.map (·.add p4))=x:=⟨_,rfl⟩;rw[hA2]at HX;have AA:=zh1 hA2;clear hA2;obtain⟨HXr,Hrest,Hlrest,HW3a,Hrr⟩:=zh5 HX hrest lrest W3a hrr;have L2:w.heap.size+1<W2.heap.size:=tB0 L1 Hgr.size;have A5:=zh1 L2;clear HX HX' hrest lrest W3a;go_wp2_with fail
  obtain⟨S,HS⟩:∃S:World→Prop,Hid (∀w',S w'):=⟨fun _=>True,fun _=>trivial⟩;refine zrs S 6 (zq 0 4 [(4,true),(5,false)]) (HS.o _) ?_;iterate 3 (refine zrb ?_)
  refine qbh rfl rfl ⟨.slice A2 r (cc - p4),fun w1 hS=>?_,?_⟩
  · rw[←AA.o]
    by_cases hcp:cc=p4
    · subst hcp
      go_simp
    go_simp
  refine zP ?_;refine zw ?_;refine qey rfl (.tmp 27) (.tmp 30) 23 23 rfl 5 zk zk _ _ _ _ _ _ rfl rfl W2.heap.size 0 (byv (List.replicate 128 0)) 360 HW3a.o (byv rest) (by rw[qat,Hlrest.o];show r=min r 128;omega) (fun h0=>⟨rfl,?_⟩) (by rw[qat,qat,Hlrest.o,List.length_replicate];omega) (qau _) W2.heap.size W2 ((tA5 _ _).alloc (tA4 _) _).drew (tA4 _) ?_
  · obtain⟨ad,h1,h2,h3⟩:=HXr.o.2 (by rw[qat,Hlrest.o]at h0;exact h0)
    refine⟨ad,h1,fun j v hv=>?_⟩;rw[←h3 j v hv];exact World.cell?_alloc_lt W2 _ _ (by rw[qa1];omega)
  intro w3 HG3 hB3;refine⟨fun _=>HS.o w3,zput ?_⟩;rw[show (byv rest).length=r by rw[qat,Hlrest.o]];iterate 1 (refine zrb ?_)
  refine qbg ?_;have hT3:Blk w3 W2.heap.size 360 (byv (rest++List.replicate (128 - r) 0)).toArray:=by
   have h:=HG3.o;rw[qez,Hlrest.o]at h;exact h
  rw[show 128 - r=(127 - r)+1 by omega,List.replicate_succ]at hT3;have ct:=hT3.cell r;rw[qf4 (Hlrest.o)]at ct;have ft:=hT3.frozen r;have q128:(r:Int)<128:=zo;have A7:=zh1 hT3;clear hT3;go_upto_region 11 with(fail)
  obtain⟨W4,hW4⟩:=eqx (w3.setCell ⟨W2.heap.size,r,none⟩ (.int .u8 128));rw[←hW4];have hT4:Blk W4 W2.heap.size 360 (byv (qf8 bs 0)).toArray:=by
   have h:=A7.set_ r (.int .u8 (128:Nat));have e:=qf3 rest (List.replicate (127 - r) 0) 0 128;rw[Hlrest.o]at e;rw[e]at h;rw[hW4,qfk,A0.o,hr64,show n - r=p4 by have:=Hrr.o;omega,Hrest.o];exact h
  have hB4:Zb W2 W4:=by rw[hW4];exact hB3.setCell (tA4 _) _
  obtain⟨AB,A4⟩:=zh2 hT4 hB4;clear hT4 hB4 hW4 ct ft A7 hB3 HG3;go_upto_if 36 with(fail)
  obtain⟨E,hE⟩:=xeq (qf7 r);have eb:=qfh r r64;rw[hE]at eb;obtain⟨eb1,eb2⟩:=eb;have HE:=zh1 hE;clear hE;go_cut [8] from 27 (fun s8 wx=>s8=.int .i64 (E:Nat)∧wx=W4)
  case first=>
   go_wp2
   all_goals
    go_meet
    case rel=>
     refine⟨?_,rfl⟩;rw[←HE.o];unfold qf7;first|rw[if_pos zo];rfl|rw[if_neg zo];rfl
  case rest=>
   obtain⟨rfl,rfl⟩:=hcut;go_wp2_with fail
   go_loopw [37] (fun i wr=>∃k:Nat,k≤8∧i=.int .i64 k∧Blk wr W2.heap.size 360 (byv (qf8 bs k)).toArray∧Below W2.heap.size wc wr) (fun i _=>8 - (intOf i).toNat)
   case atStart=>exact⟨0,by omega,rfl,AB.o,tA5 _ _⟩
   case round=>
    obtain⟨k,hk,rfl,htk,hbk⟩:=hrel;by_cases hk8:k<8
    ·
     have qk8:(k:Int)<8:=zo;obtain⟨j,hj⟩:=xeq (E - 1 - k);have v1:IntKind.i64.wrap ((E:Int) - 1)=(E:Int) - 1:=tBb _ zo;have v2:IntKind.i64.wrap ((E:Int) - 1 - k)=(j:Int):=by rw[show ((E:Int) - 1 - k)=(j:Int) by omega];exact tBb _ zo
     have v3:IntKind.u64.wrap (n:Int)=n:=tBa _ zo;have v4:IntKind.u64.wrap ((n:Int)*8)=((n*8:Nat):Int):=by rw[show ((n:Int)*8)=((n*8:Nat):Int) by omega];exact tBa _ zo
     have v5:IntKind.i64.wrap (8*(k:Int))=((8*k:Nat):Int):=by rw[show (8*(k:Int))=((8*k:Nat):Int) by omega];exact tBb _ zo
     have qj:(j:Int)<128:=zo;have ct:=htk.cell j;rw[qfb (by rw[qfl bs k zo];omega)]at ct;have ft:=htk.frozen j;obtain⟨Htk,Hbk,Hj⟩:=zh3 htk hbk hj;clear htk hbk hj;go_wp2
     go_roundw
     case rel=>
      refine⟨k+1,by omega,by go_num,?_,Hbk.setCell (tA4 _) _⟩;have e:((n:Int)*8 / 2^(8*k) % 256)=((qav (8*bs.length) k:Nat):Int):=by
       rw[A0.o];unfold qav;rw[show (256:Nat)^k=2^(8*k) by rw[Nat.pow_mul],Nat.mul_comm 8 n];push_cast
       rfl
      have e2:j=qf7 (bs.length % 64) - 1 - k:=by rw[A0.o,hr64,HE.o,Hj.o]
      rw[e,←qfj bs k hk8,←e2];exact Htk.set_ j _
     case measure=>simp[intOf];omega
    have qk8:¬(k:Int)<8:=zo;have hk':k=8:=zo;rw[hk']at htk;obtain⟨W5,rfl⟩:=eqx wr;have hs5:Blk W5 (w.heap.size+1) 209 (blocks bs qc2 m).vals:=(Hst.below A4.o (tB0 (tB0 L1 Hgr.size) (tA4 _))).below hbk (tB0 L1 Hgr.size);have hT5:Tabs W5:=((qfn (Ht.below A3.o Ht.size) Hgr.o (by have:=Ht.size;omega)).below A4.o (by have:=Ht.size;have:=A5.o;omega)).below hbk (by have:=Ht.size;have:=A5.o;omega);obtain⟨st1,hst1⟩:=xeq (blocks bs qc2 m);have hok1:st1.ok:=hst1▸qf5 bs qc2 qf6 m;rw[hst1]at hs5;obtain⟨Hst1,Hok1,AC,AD,Ht5,Hb5⟩:=zh6 hst1 hok1 hs5 hT5 htk hbk;have AE:=A5.o;have gne:W2.heap.size≠w.heap.size+1:=zo;clear hs5 hT5 hst1 hok1 htk hbk hk' hk8;go_wp2_with fail
    go_loopw [10] (fun i wr=>∃q p:Nat,Hid (64*q=p)∧p≤E∧i=.int .i64 p∧Blk wr (w.heap.size+1) 209 (blocks (qf8 bs 8) st1 q).vals∧W5.grownBy wr (some (w.heap.size+1))) (fun i _=>E - (intOf i).toNat)
    case atStart=>exact⟨0,0,rfl,by omega,rfl,AC.o,tB9 _ _⟩
    case round=>
     obtain⟨q,p,hp,hpE,rfl,hsq,hgq⟩:=hrel;by_cases hqE:p<E
     ·
      have q1:(p:Int)<E:=zo;have hp64:p+64≤E:=by have:=hp.o;omega
      have p128:p≤128:=zo;have pz:0≤(p:Int):=zo;have p128':(p:Int)≤128:=zo;have hrd:=qfc (Ht5.grown hgq (by intro e;injection e with e;exact gne e)) (p:=p) (by rw[qfl bs 8 zo];omega);rw[qfl bs 8 zo]at hrd;have hsq2:=hsq;rw[St.vals]at hsq2;have K:=qck (w.heap.size+1) wr.heap.size (128 - p) (128 - p) _ ((qf8 bs 8).drop p) _ wr (qf5 (qf8 bs 8) st1 Hok1.o q) (by rw[tBk,qfl bs 8 zo]) zo (fun b hb=>qfm bs A6.o 8 b (List.mem_of_mem_drop hb)) hsq2 hrd (tA4 _) (qfn AD.o hgq (by have:=Ht.size;omega));obtain⟨HK,Hgq⟩:=zh2 K hgq;clear K hsq hsq2 hrd hgq;go_wp2_with fail
      refine HK.o.mono ?_;rintro e w2 ⟨rfl,h1,h2⟩;have w1:IntKind.i64.wrap ((p:Int)+64)=(p+64:Nat):=by rw[show ((p:Int)+64)=((p+64:Nat):Int) by omega];exact tBb _ zo
      go_wp2
      go_roundw
      case rel=>exact⟨q+1,p+64,(show 64*(q+1)=p+64 by have:=hp.o;omega),hp64,by go_num,by rw[blocks,hp.o];exact h1,qc8 Hgq.o h2⟩
      case measure=>simp[intOf];omega
     have q1:¬(p:Int)<E:=zo;have hq:q=qf7 (bs.length % 64) / 64:=by rw[A0.o,hr64,HE.o];have:=hp.o;omega
     have hsh:blocks (qf8 bs 8) st1 q=qf9 bs:=by
      unfold qf9;rw[←hq,A0.o,HM.o,Hst1.o]
     rw[hsh]at hsq;obtain⟨st,hst⟩:=xeq (qf9 bs);rw[hst]at hsq;obtain⟨W6,rfl⟩:=eqx wr;have hok:st.ok:=by rw[←hst];exact qf5 _ _ (qf5 _ _ qf6 _) _
     have hlist:=St.ok_list hok;have hZ6:Blk W6 w.heap.size 29 zLD:=(((A8.grown Hgr.o (by intro e;injection e with e;omega)).below A4.o zo).below Hb5.o zo).grown hgq (by intro e;injection e with e;omega);have hB6:Zb w W6:=(((A3.grown Hgr.o zo (by intro g hg;injection hg with hg;omega)).trans (A4.mono zo)).trans (Hb5.mono zo)).grown hgq (by have:=Hb5.size;have:=A4.size;omega) (by intro g hg;injection hg with hg;omega);obtain⟨AF,AG,AH,AI,AJ⟩:=zh5 hsq hZ6 hB6 hst hlist;have lW6:w.heap.size+1<W6.heap.size:=hsq.lt;have hD7:Blk (W6.alloc (.cells zLD 29)) W6.heap.size 29 (byv (qfd (qfa st) 0)).toArray:=by
      have h:=Blk.new W6 29 zLD;exact h
     have AK:=zh1 hD7;clear hsq hZ6 hB6 hst hlist hok hD7 hq hsh hgq;go_wp2_with fail
     go_loopw [62] (fun i wr=>∃k:Nat,k≤32∧i=.int .i64 k∧Blk wr W6.heap.size 29 (byv (qfd (qfa st) k)).toArray∧Zb W6 wr) (fun i _=>32 - (intOf i).toNat)
     case atStart=>exact⟨0,by omega,rfl,AK.o,(tA5 _ _).alloc (tA4 _) _⟩
     case round=>
      obtain⟨k,hk,rfl,hdk,hbk⟩:=hrel;by_cases hk32:k<32
      ·
       have qk:(k:Int)<32:=zo;obtain⟨a,ha⟩:=xeq (k / 4);obtain⟨b,hb⟩:=xeq (k % 4);obtain⟨s,hs⟩:=xeq (24 - 8*b);have u1:Int.tdiv (k:Int) 4=(a:Int):=by rw[Int.tdiv_eq_ediv_of_nonneg zo];omega
       have u2:Int.tmod (k:Int) 4=(b:Int):=by rw[Int.tmod_eq_emod_of_nonneg zo];omega
       have u3:IntKind.i64.wrap (a:Int)=a:=tBb _ zo;have u4:IntKind.i64.wrap (b:Int)=b:=tBb _ zo;have u5:IntKind.i64.wrap (8*(b:Int))=8*(b:Int):=tBb _ zo;have u6:IntKind.i64.wrap (24 - 8*(b:Int))=(s:Int):=by rw[show (24 - 8*(b:Int))=(s:Int) by omega];exact tBb _ zo
       have u7:(a:Int)<8:=zo;have cs:=(AF.below hbk lW6).cell a;rw[St.vals_list,qc3 (by simp[St.list];omega)]at cs;obtain⟨x,hx⟩:=xeq (st.list.getD a 0);rw[hx]at cs;have lx:x<4294967296:=hx▸AJ.getD a;have cd:=hdk.cell k;rw[qfb (by simp[qfd,qfa];omega)]at cd;have fd:=hdk.frozen k;obtain⟨Hdk,Hbk,Hx,Ha,Hb,Hs⟩:=zh6 hdk hbk hx ha hb hs;clear hdk hbk hx ha hb hs;go_wp2
       go_roundw
       case rel=>
        refine⟨k+1,by omega,by go_num,?_,Hbk.setCell (tA4 _) _⟩;have s24:s≤24:=by have:=Hs.o;omega
        have e:((x:Int) / 2^min s 32 % 256)=((x / 2^s % 256:Nat):Int):=by
         rw[Nat.min_eq_left zo];push_cast
         rfl
        rw[e,←qfe (L:=qfa st) (k:=k) (v:=x / 2^s % 256) (by simp[qfa];omega) (by rw[qfg st hk32,Ha.o,Hb.o,Hs.o,Hx.o])];exact Hdk.set_ k _
       case measure=>simp[intOf];omega
      have qk:¬(k:Int)<32:=zo;have hk':k=(qfa st).length:=by simp[qfa];omega
      rw[hk',qff]at hdk;have hV:(byv (qfa st)).length=32:=by simp[byv,qfa]
      have hV1:=qau (qfa st);obtain⟨V,hVV⟩:=xeq (byv (qfa st));rw[hVV]at hdk hV hV1;have AL:=zh1 (qap hdk 0 V zjq);have z7:=AG.below hbk zo;obtain⟨HV,AM,AN,Hbk,HI⟩:=zh5 hV hV1 hVV hbk (zI 29 hV);clear hdk hV hV1 hVV hbk hk' hk32;go_wp2_with (first
       |(refine zld AL.o zu29 HI.o ?_)
       |(refine zst z7 HI.o (by simp[HV.o]) AM.o ?_))
      have z8:=z7.setRow V.toArray;have AO:=qap z8 0 V zjq;refine zrt AO zu29 HI.o ⟨?_,below_setRow (AH.trans (Hbk.mono zo)) (tA4 _) _⟩;rw[←AN.o,←AI.o];rfl
def cutW (width:Int):Nat:=if width<1∨32<width then 32 else width.toNat
theorem qfp(width:Int):1≤cutW width∧cutW width≤32:=by unfold cutW;split<;>omega
def cutD (d:List Nat)(w:Nat):List Nat:=d.take w++List.replicate (32 - w) 0
def sumH (w:Nat)(b:List Nat):List Nat:=cutD (sha b) w
def qfq (w:Nat)(b:List Nat):List Nat:=sumH w (0::b)
def qfr (w:Nat)(a b:List Nat):List Nat:=sumH w (1::(a.take w++b.take w))
def half (n:Nat):Nat:=2^Nat.log2 (n - 1)
theorem qfs(h:2≤n):1≤half n∧half n<n∧n≤2*half n:=by
 unfold half;have h1:=Nat.log2_self_le (n:=n - 1) zo;have h2:=@Nat.lt_log2_self (n - 1);have h3:0<2^Nat.log2 (n - 1):=Nat.pow_pos zdc;rw[Nat.pow_succ]at h2;omega
def qft (w:Nat)(l:List (List Nat)):List Nat:=
 if h:l.length≤1 then(match l with|[]=>sumH w []|b::_=>qfq w b)
 else qfr w (qft w (l.take (half l.length))) (qft w (l.drop (half l.length)))
 termination_by l.length
 decreasing_by
 · have:=qfs (n:=l.length) zo;rw[tBd];omega
 have:=qfs (n:=l.length) zo;rw[tBk];omega
theorem qfu(w:Nat):qft w []=sumH w []:=by rw[qft];rfl
theorem qfv(w:Nat)(b:List Nat):qft w [b]=qfq w b:=by rw[qft];rfl
theorem qfw(w:Nat){l:List (List Nat)}(h:2≤l.length):qft w l=qfr w (qft w (l.take (half l.length))) (qft w (l.drop (half l.length))):=by
 rw[qft,dif_neg zo]
def qfx (w:Nat)(l:List (List Nat))(i:Nat):List (List Nat):=
 if h:l.length≤1 then []
 else if i<half l.length then qfx w (l.take (half l.length)) i++[qft w (l.drop (half l.length))]
 else qfx w (l.drop (half l.length)) (i - half l.length)++[qft w (l.take (half l.length))]
 termination_by l.length
 decreasing_by
 · have:=qfs (n:=l.length) zo;rw[tBd];omega
 have:=qfs (n:=l.length) zo;rw[tBk];omega
theorem qfy(w:Nat){l:List (List Nat)}(i:Nat)(h:l.length≤1):qfx w l i=[]:=by rw[qfx,dif_pos h]
theorem qfz(w:Nat){l:List (List Nat)}(h:2≤l.length)(hi:i<half l.length):qfx w l i=qfx w (l.take (half l.length)) i++[qft w (l.drop (half l.length))]:=by
 rw[qfx,dif_neg zo,if_pos hi]
theorem qg0(w:Nat){l:List (List Nat)}(h:2≤l.length)(hi:¬i<half l.length):qfx w l i=qfx w (l.drop (half l.length)) (i - half l.length)++[qft w (l.take (half l.length))]:=by
 rw[qfx,dif_neg zo,if_neg hi]
def subH (w:Nat)(l:List (List Nat))(m:Nat)(whole:Bool):List (List Nat):=
 if h:l.length≤1∨m=l.length then(if whole then [] else [qft w l])
 else if m≤half l.length then subH w (l.take (half l.length)) m whole++[qft w (l.drop (half l.length))]
 else subH w (l.drop (half l.length)) (m - half l.length) false++[qft w (l.take (half l.length))]
 termination_by l.length
 decreasing_by
 · have:=qfs (n:=l.length) zo;rw[tBd];omega
 have:=qfs (n:=l.length) zo;rw[tBk];omega
theorem qg1(w:Nat){l:List (List Nat)}(whole:Bool)(h:m=l.length):subH w l m whole=if whole then [] else [qft w l]:=by rw[subH,dif_pos (.inr h)]
theorem qg2(w:Nat){l:List (List Nat)}(whole:Bool)(h:2≤l.length)(hm:m≠l.length)(hi:m≤half l.length):subH w l m whole=subH w (l.take (half l.length)) m whole++[qft w (l.drop (half l.length))]:=by
 rw[subH,dif_neg zo,if_pos hi]
theorem qg3(w:Nat){l:List (List Nat)}(whole:Bool)(h:2≤l.length)(hm:m≠l.length)(hi:¬m≤half l.length):subH w l m whole=subH w (l.drop (half l.length)) (m - half l.length) false++[qft w (l.take (half l.length))]:=by
 rw[subH,dif_neg zo,if_neg hi]
theorem qg4{d:List Nat}{w:Nat}(h:d.length=32)(hw:w≤32):(cutD d w).length=32:=by
 unfold cutD;rw[tA6,tBd,List.length_replicate];omega
theorem qg5{d:List Nat}{w:Nat}(h:∀x∈d,x<256):∀x∈cutD d w,x<256:=by
 intro x hx;rcases List.mem_append.1 hx with hx|hx
 · exact h x (tB7 hx)
 rw[(List.mem_replicate.1 hx).2];decide
end Go.Proofs.YthomgopipiomhaaGreatDoor

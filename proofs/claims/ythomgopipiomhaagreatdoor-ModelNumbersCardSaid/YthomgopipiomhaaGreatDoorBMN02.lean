/-
  Lemmas for ModelNumbers, shortened by program.
-/
import Derived.Test.YthomgopipiomhaaGreatDoorBMN01
import Derived.Laws.CopyOwn
import Derived.WalkSpells
namespace Go.Proofs.YthomgopipiomhaaGreatDoor
set_option linter.unusedVariables false
set_option linter.unusedSimpArgs false
set_option maxRecDepth 100000
set_option maxHeartbeats 32000000
section
open Go.RowKit
theorem Tryz.u8_info:(Tryz.prog.info? 5).map (fun i=>(i.zero,i.size,i.bytes))=some (some (.int .u8 0),1,1):=by kernel_rfl
theorem Tryz.dig_info:(Tryz.prog.info? 29).map (·.size)=some 32:=by kernel_rfl
def OwnB (w:World)(base:Nat)(v:Value)(bs:List Nat):Prop:=w.ownsRow base 5 1 v bs.length (byv bs)
section
variable {w w' : World} {base : Nat} {v : Value} {bs : List Nat}
theorem OwnB.of (h:w.ownsRow base 5 1 v bs.length (byv bs)):OwnB w base v bs:=h
theorem OwnB.nil (w:World)(base:Nat):OwnB w base (.slice none 0 0) []:=World.ownsRow_nil ..
theorem OwnB.slice (h:OwnB w base v bs):∃A c,v=.slice A bs.length c∧bs.length≤c∧c≤maxLen∧Reads w w.heap.size 1 A bs.length (byv bs):=qaf h
theorem OwnB.sl (h:OwnB w base v bs):∃A n c,v=.slice A n c∧n≤c∧c≤maxLen∧Reads w w.heap.size 1 A n (byv bs):=by
 obtain⟨A,c,h1,h2,h3,h4⟩:=h.slice;exact⟨A,_,c,h1,h2,h3,h4⟩
theorem OwnB.kept (h:OwnB w base v bs)(hb:Below w.heap.size w w'):OwnB w' base v bs:=
 World.ownsRow.kept h ⟨hb.os,hb.tape,hb.output,hb.size,fun k hk _=>hb.block k hk⟩ (row:=none) (by cases v.ownBlock<;>simp)
theorem OwnB.cast {ys:List Nat}(h:OwnB w base v bs)(e:ys=bs):OwnB w base v ys:=e▸h
theorem OwnB.alloc (h:OwnB w base v bs)(o:Obj):OwnB (w.alloc o) base v bs:=h.kept ((tA5 _ _).alloc (tA4 _) o)
theorem OwnB.mono {base':Nat}(h:OwnB w base v bs)(hb:base'≤base):OwnB w base' v bs:=by
 refine⟨h.1,?_⟩;rcases h.2 with h|⟨g,cap,cur,hv,hg,rest⟩
 · exact .inl h
 exact .inr ⟨g,cap,cur,hv,Nat.le_trans hb hg,rest⟩
theorem OwnB.made (w:World)(l:List Nat)(hc:l.length≤maxLen):OwnB (w.alloc (.cells (byv l).toArray 5)) w.heap.size (.slice (some ⟨w.heap.size,0,none⟩) l.length l.length) l:=by
 exact World.ownsRow_lit (size:=1) (e:=5) w (byv l).toArray l.length (tA4 _) hc (by simp[qat])
theorem OwnB.far (h:OwnB w base v bs){p:Addr}(hp:v.ownBlock≠some p.block)(u:Value):OwnB (w.setCell p u) base v bs:=qal h hp u
theorem OwnB.blk_ne {g:Nat}{t:TypeId}{cs:Array Value}(h:OwnB w base v bs)(hg:Blk w g t cs)(hne:5≠t):v.ownBlock≠some g:=qa3 h hg hne
end
theorem qcx {w:World}{ops:Array Oper}{rest:List Oper}{o:Oper}{a:Act}{Q:Exit→Act→World→Prop}(hgd:o.guard=none)(s x:Operand)
 (ho:o.op=.call {callee:=.builtin .append,args:=#[s,x],argTypes:=#[23,23]})
 (base:Nat)(v:Value)(bs:List Nat)(hs:a.eval s=v)(hown:OwnB w base v bs)(A:Option Addr)(m c:Nat)(news:List Nat)(hx:a.eval x=.slice A m c)(hr:Reads w w.heap.size 1 A m (byv news))
 (hlen:bs.length+m≤140737488355328)(hbase:base≤w.heap.size)
 (h:∀v' w',OwnB w' base v' (bs++news)→Below base w w'→w.grownBy w' v.ownBlock→wpList Tryz.prog ops Q rest (a.put o.dst v') w'):wpList Tryz.prog ops Q (o::rest) a w:=by
 obtain⟨i0,hi0,hz0,hz1,hz2⟩:=info_parts Tryz.u8_info;have hm:=qb5 hr;refine qa7 (P:=Tryz.prog) w hgd s x _ ho base 5 i0 _ 1 1 Tryz.underlying23 hi0 hz0 hz1 hz2 rfl (by omega) v bs.length (byv bs) hs hown w.heap.size A m c (byv news) hx hr (qau _) (by simp only[maxLen];omega) (by omega) hbase ?_;intro v' w' h1 h2 h3;refine h v' w' ?_ ?_ h2
 · unfold OwnB
   rw[qas,tA6,hm];exact h1
 exact qae (tA5 _ _) hown h2 (tA4 _) hbase
theorem qcy (w:World):w.drew.heap.size=w.heap.size:=rfl
theorem Reads.drewS {w:World}{n size:Nat}{A:Option Addr}{xs:List Value}(h:Reads w w.heap.size size A n xs):Reads w.drew w.drew.heap.size size A n xs:=h
theorem qcz {w w':World}(h:Below w.drew.heap.size w.drew w'):Below w.heap.size w w':=⟨h.os,h.tape,h.output,h.size,h.block⟩
theorem qd0 (w:World)(b:Nat):Reads (w.alloc (.cells #[.int .u8 (b:Int)] 5)) (w.alloc (.cells #[.int .u8 (b:Int)] 5)).heap.size 1 (some ⟨w.heap.size,0,none⟩) 1 (byv [b]):=by
 have:=Reads.new1 w 5 (.int .u8 (b:Int));simpa [byv] using this
theorem Reads.call {w w':World}{n size:Nat}{A:Option Addr}{xs:List Value}(h:Reads w w.heap.size size A n xs)(hb:Below w.heap.size w w'):Reads w' w'.heap.size size A n xs:=(h.below hb).more hb.size
theorem Reads.laid {w:World}{n size:Nat}{A:Option Addr}{xs:List Value}(h:Reads w w.heap.size size A n xs)(o:Obj):Reads (w.alloc o) (w.alloc o).heap.size size A n xs:=h.call ((tA5 _ _).alloc (tA4 _) o)
def bstr (bs:List Nat):ByteArray:=strOfNums (bs.map fun b:Nat=>(b:Int))
theorem qd1 {a b:List Nat}(ha:∀x∈a,x<256)(hb:∀x∈b,x<256):bstr a=bstr b ↔ a=b:=by
 constructor
 ·
  intro h;unfold bstr strOfNums at h;injection h with h;injection h with h;rw[List.map_map,List.map_map]at h;have key:∀(a b:List Nat),(∀x∈a,x<256)→(∀x∈b,x<256)→a.map ((fun n:Int=>UInt8.ofNat n.toNat) ∘ fun b:Nat=>(b:Int))=b.map ((fun n:Int=>UInt8.ofNat n.toNat) ∘ fun b:Nat=>(b:Int))→a=b:=by
   intro a;induction a with
   |nil=>intro b _ _ h;simpa using h.symm
   |cons x a ih=>
    intro b ha hb h;cases b with
    |nil=>simp at h
    |cons y b=>
     simp only[List.map_cons,List.cons.injEq,Function.comp,Int.toNat_natCast]at h;have h1:=congrArg UInt8.toNat h.1;have hx:=ha x (by simp);have hy:=hb y (by simp);simp[UInt8.toNat_ofNat,Nat.mod_eq_of_lt hx,Nat.mod_eq_of_lt hy]at h1;rw[h1,ih b (fun z hz=>ha z (by simp[hz])) (fun z hz=>hb z (by simp[hz])) h.2]
  exact key a b ha hb h
 rintro rfl;rfl
theorem qd2 {w:World}{B n c:Nat}{A:Option Addr}{bs:List Nat}(hr:Reads w B 1 A n (byv bs)):
 (convert 23 9 (.slice A n c)).run Tryz.prog w=.ok (.string (bstr bs)) w:=by
 have hln:=qb5 hr;subst hln;cases A with
 |none=>
  have:bs=[]:=by
   cases bs with
   |nil=>rfl
   |cons x l=>
    obtain⟨ad,e,-⟩:=hr.2 (by simp);cases e
  subst this;exact run_convert_bytes_nil w _ _ Tryz.underlying23 Tryz.underlying5 _ _ _ Tryz.underlying9
 |some ad=>
  cases bs with
  |nil=>
   obtain⟨b,o,s⟩:=ad;rw[run_convert_bytes_string w _ _ _ _ _ c Tryz.underlying23 Tryz.underlying5 Tryz.underlying9,run_bytesToString w _ _ _ [] (by simp[loadCells];rfl)];rfl
  |cons x l=>
   obtain⟨b,o,e,hb,hc⟩:=hr.mid (by simp) (by omega);injection e with e;subst e;refine run_convert_bytes_arg w _ _ Tryz.underlying23 Tryz.underlying5 b o _ _ ((x::l).map fun b:Nat=>(b:Int)) (by simp) (fun i hi=>?_) _ Tryz.underlying9;refine hc i _ ?_;unfold byv;rw[List.getElem?_map,List.getD_eq_getElem?_getD,List.getElem?_map,tA7 hi];rfl
end
section
open Go.RowKit
theorem qd3 {P:Program}{o:Oper}{a:Act}{w:World}{K:Act→World→Prop}{Q:Exit→Act→World→Prop}(hgd:o.guard=none)(d s:Operand)(dT sT:TypeId)
 (ho:o.op=.call {callee:=.builtin .copy,args:=#[d,s],argTypes:=#[dT,sT]})(elem:TypeId)(hu:P.underlying dT=some (.slice elem))(hsz:(P.info? elem).map (·.size)=some 1)
 (dp sp:Option Addr)(dLen dCap sLen sCap:Nat)(hd:a.eval d=.slice dp dLen dCap)(hs:a.eval s=.slice sp sLen sCap)
 (g off:Nat)(cur:List Value)(t:TypeId)(hg:w.heap[g]? =some (.cells cur.toArray t (0,0)))(cs:List Value)(hn:cs.length=Nat.min sLen dLen)
 (hpos:0<cs.length→dp=some ⟨g,off,none⟩∧∃ad,sp=some ad∧∀j v,cs[j]? =some v→w.cell? (ad.add j)=some v)
 (hfit:off+cs.length≤cur.length)(h1:∀v∈cs,v.oneCell'=true)(B:Nat)(w0:World)(hb:RowKit.Below B w0 w)(hBg:B≤g)
 (h:∀w',RowKit.Hid (w'.heap[g]? =some (.cells (splice cur off cs).toArray t (0,0)))→RowKit.Below B w0 w'→K (a.put o.dst (goInt cs.length)) w'):o.wp P a w K Q:=by
 have:=step_copy_splice (P:=P) (ops:=#[]) (o:=o) (a:=a) (w:=w) (K:=K) (Q:=Q) (E:=True) hgd d s dT sT ho elem hu hsz dp sp dLen dCap sLen sCap hd hs g off cur t hg cs hn hpos hfit h1 B w0 hb hBg h;rwa[if_pos (by simp[Region.wanted,hgd])]at this
theorem qd4 (rest:List Nat)(N:Nat):splice (byv (List.replicate N 0)) 0 (byv rest)=byv (rest++List.replicate (N - rest.length) 0):=by
 simp[splice,byv]
theorem qd5 {P:Program}{w:World}{ops:Array Oper}{rest:List Oper}{o:Oper}{a:Act}{Q:Exit→Act→World→Prop}(hgd:o.guard=none)(d s:Operand)(dT sT:TypeId)
 (ho:o.op=.call {callee:=.builtin .copy,args:=#[d,s],argTypes:=#[dT,sT]})(elem:TypeId)(hu:P.underlying dT=some (.slice elem))(hsz:(P.info? elem).map (·.size)=some 1)
 (dp sp:Option Addr)(dLen dCap sLen sCap:Nat)(hd:a.eval d=.slice dp dLen dCap)(hs:a.eval s=.slice sp sLen sCap)
 (g off:Nat)(cur:List Value)(t:TypeId)(hg:w.heap[g]? =some (.cells cur.toArray t (0,0)))(cs:List Value)(hn:cs.length=Nat.min sLen dLen)
 (hpos:0<cs.length→dp=some ⟨g,off,none⟩∧∃ad,sp=some ad∧∀j v,cs[j]? =some v→w.cell? (ad.add j)=some v)
 (hfit:off+cs.length≤cur.length)(h1:∀v∈cs,v.oneCell'=true)
 (h:∀w',Hid (w'.heap[g]? =some (.cells (splice cur off cs).toArray t (0,0)))→w.grownBy w' (some g)→wpList P ops Q rest (a.put o.dst (goInt cs.length)) w'):
 wpList P ops Q (o::rest) a w:=by
 by_cases h0:cs.length=0
 · obtain rfl:cs=[]:=List.eq_nil_of_length_eq_zero h0
   refine wpList_copy_nothing hgd d s dT sT ho elem hu hsz dp sp dLen dCap sLen sCap hd hs (by simpa using hn.symm) ?_;exact h w (show _=_ by simpa [splice] using hg) (World.grownBy.refl _ _)
 obtain⟨rfl,ad,rfl,hsrc⟩:=hpos (by omega);refine wpList_copy_own hgd d s dT sT ho elem hu hsz g off dLen dCap ad sLen sCap hd hs cur.toArray t hg cs hn hsrc (by simpa using hfit) h1 ?_;exact h _ (show _=_ by simpa [splice] using setRow_heap w g _ _ t _ hg) (qam _ _ _)
theorem qd6 {P:Program}{w:World}{o:Oper}{a:Act}{K:Act→World→Prop}{Q:Exit→Act→World→Prop}(d s:Operand)(dT sT:TypeId)
 (ho:o.op=.call {callee:=.builtin .copy,args:=#[d,s],argTypes:=#[dT,sT]})(elem:TypeId)(hu:P.underlying dT=some (.slice elem))(hsz:(P.info? elem).map (·.size)=some 1)
 (dp sp:Option Addr)(dLen dCap sLen sCap:Nat)(hd:a.eval d=.slice dp dLen dCap)(hs:a.eval s=.slice sp sLen sCap)
 (g off:Nat)(cur:List Value)(t:TypeId)(hg:w.heap[g]? =some (.cells cur.toArray t (0,0)))(cs:List Value)(hn:cs.length=Nat.min sLen dLen)
 (hpos:0<cs.length→dp=some ⟨g,off,none⟩∧∃ad,sp=some ad∧∀j v,cs[j]? =some v→w.cell? (ad.add j)=some v)
 (hfit:off+cs.length≤cur.length)(h1:∀v∈cs,v.oneCell'=true)
 (h:∀w',Hid (w'.heap[g]? =some (.cells (splice cur off cs).toArray t (0,0)))→w.grownBy w' (some g)→K (a.put o.dst (goInt cs.length)) w'):o.wp P a w K Q:=by
 by_cases h0:cs.length=0
 · obtain rfl:cs=[]:=List.eq_nil_of_length_eq_zero h0
   have hrun:=run_copy_none (P:=P) w dT sT o.type elem dp sp dLen dCap sLen sCap hu hsz (by simpa using hn.symm);unfold Oper.wp;simp[execOp,ho,resolve,invoke,builtin,hd,hs,hrun,Result.andThen];exact h w (show _=_ by simpa [splice] using hg) (World.grownBy.refl _ _)
 obtain⟨rfl,ad,rfl,hsrc⟩:=hpos (by omega);have hrun:=run_copy_row (P:=P) w dT sT o.type elem g off dLen dCap ad sLen sCap cur.toArray t cs hu hsz hg hn hsrc (by simpa using hfit) h1;unfold Oper.wp;simp[execOp,ho,resolve,invoke,builtin,hd,hs,hrun,Result.andThen];exact h _ (show _=_ by simpa [splice] using setRow_heap w g _ _ t _ hg) (qam _ _ _)
theorem qd7 (P Q:List Nat)(x v:Nat):(byv (P++x::Q)).toArray.setIfInBounds P.length (.int .u8 (v:Int))=(byv (P++v::Q)).toArray:=by
 simp[byv]
theorem qd8 {P Q:List Nat}{x i:Nat}(h:P.length=i):(byv (P++x::Q)).toArray[i]? =some (.int .u8 (x:Int)):=by
 subst h;simp[byv]
end
section
open Go.RowKit
def blocks (bs:List Nat)(s:St):Nat→St
 |0=>s
 |k+1=>mixed (bs.drop (64*k)) (blocks bs s k)
theorem qd9 (bs:List Nat)(s:St)(h:s.ok):∀k,(blocks bs s k).ok
 |0=>h
 |k+1=>qcb _ _
theorem qda:qc2.ok:=by unfold St.ok qc2;decide
def qdb (r:Nat):Nat:=if r+9>64 then 128 else 64
def qdc (bs:List Nat)(k:Nat):List Nat:=
 let r:=bs.length % 64
 (bs.drop (bs.length - r)++128::List.replicate (qdb r - r - 1 - k) 0)++(be (8*bs.length) k++List.replicate (128 - qdb r) 0)
def qdd (bs:List Nat):St:=blocks (qdc bs 8) (blocks bs qc2 (bs.length / 64)) (qdb (bs.length % 64) / 64)
def qde (s:St):List Nat:=(List.range 32).map fun i=>s.list.getD (i / 4) 0 / 2^(24 - 8*(i % 4)) % 256
def sha (bs:List Nat):List Nat:=qde (qdd bs)
theorem qdf {l:List Nat}{i:Nat}(h:i<l.length):(byv l).toArray[i]? =some (.int .u8 (l.getD i 0:Nat)):=by
 simp only[byv,tA3,List.getElem?_map];rw[List.getD_eq_getElem?_getD,tA7 h];rfl
theorem qdg {w:World}{g p:Nat}{t:TypeId}{l:List Nat}(h:Blk w g t (byv l).toArray)(hp:p≤l.length):Reads w w.heap.size 1 (some ⟨g,p,none⟩) (l.length - p) (byv (l.drop p)):=by
 refine⟨by simp[byv],fun _=>⟨_,rfl,h.lt,fun j u hu=>?_⟩⟩;have e:(⟨g,p,none⟩:Addr).add j=⟨g,p+j,none⟩:=by unfold Addr.add;split<;>simp_all
 rw[e,h.cell,←hu];simp[byv]
def qdh (L:List Nat)(k:Nat):List Nat:=L.take k++List.replicate (L.length - k) 0
theorem qdi {L:List Nat}{k v:Nat}(h:k<L.length)(hv:L.getD k 0=v):(byv (qdh L k)).toArray.setIfInBounds k (.int .u8 (v:Int))=(byv (qdh L (k+1))).toArray:=by
 unfold qdh;rw[show L.length - k=(L.length - (k+1))+1 by omega,List.replicate_succ];have e:=qd7 (L.take k) (List.replicate (L.length - (k+1)) 0) 0 v;rw[List.length_take,Nat.min_eq_left (by omega)]at e;rw[e,List.take_add_one,tA7 h];rw[List.getD_eq_getElem?_getD,tA7 h]at hv;simp only[Option.getD_some]at hv;simp[hv]
theorem qdj (L:List Nat):qdh L L.length=L:=by simp[qdh]
theorem qdk (st:St){k:Nat}(h:k<32):(qde st).getD k 0=st.list.getD (k / 4) 0 / 2^(24 - 8*(k % 4)) % 256:=by
 unfold qde;rw[List.getD_eq_getElem?_getD,List.getElem?_map,List.getElem?_range h];rfl
theorem qdl (r:Nat)(h:r<64):r+9≤qdb r∧(qdb r=64∨qdb r=128):=by unfold qdb;split<;>omega
theorem qdm (N k:Nat):be N (k+1)=qav N k::be N k:=by
 unfold be;rw[List.range_succ_eq_map,List.map_cons,List.map_map];congr 1
 apply List.map_congr_left;intro j hj;have:=List.mem_range.1 hj;show qav N (k+1 - 1 - (j+1))=qav N (k - 1 - j);congr 1
 omega
theorem qdn (bs:List Nat)(k:Nat)(hk:k<8):(byv (qdc bs k)).toArray.setIfInBounds (qdb (bs.length % 64) - 1 - k) (.int .u8 (qav (8*bs.length) k:Nat))=(byv (qdc bs (k+1))).toArray:=by
 have hr:bs.length % 64<64:=Nat.mod_lt _ (by decide);obtain⟨e1,e2⟩:=qdl _ hr;unfold qdc;dsimp only;have e:qdb (bs.length % 64) - bs.length % 64 - 1 - k=(qdb (bs.length % 64) - bs.length % 64 - 1 - (k+1))+1:=by omega
 rw[qdm,e,List.replicate_succ'];have h:=qd7 (bs.drop (bs.length - bs.length % 64)++128::List.replicate (qdb (bs.length % 64) - bs.length % 64 - 1 - (k+1)) 0) (be (8*bs.length) k++List.replicate (128 - qdb (bs.length % 64)) 0) 0 (qav (8*bs.length) k);have hl:(bs.drop (bs.length - bs.length % 64)++128::List.replicate (qdb (bs.length % 64) - bs.length % 64 - 1 - (k+1)) 0).length=qdb (bs.length % 64) - 1 - k:=by simp;omega
 rw[hl]at h;simpa using h
theorem qdo (bs:List Nat):qdc bs 0=bs.drop (bs.length - bs.length % 64)++128::List.replicate (127 - bs.length % 64) 0:=by
 have hr:bs.length % 64<64:=Nat.mod_lt _ (by decide);obtain⟨e1,e2⟩:=qdl _ hr;unfold qdc;have:be (8*bs.length) 0=[]:=rfl;simp only[this,List.nil_append,List.append_assoc,List.cons_append,List.replicate_append_replicate];congr 3
 omega
theorem qdp (bs:List Nat)(k:Nat)(hk:k≤8):(qdc bs k).length=128:=by
 have hr:bs.length % 64<64:=Nat.mod_lt _ (by decide);obtain⟨e1,e2⟩:=qdl _ hr;simp[qdc,qaw];omega
theorem qdq (bs:List Nat)(h:∀b∈bs,b<256)(k:Nat):∀b∈qdc bs k,b<256:=by
 intro b hb;simp only[qdc,List.mem_append,List.mem_cons,List.mem_replicate]at hb;rcases hb with(hb|rfl|⟨_,rfl⟩)|hb|⟨_,rfl⟩
 · exact h b (List.mem_of_mem_drop hb)
 · decide
 · decide
 · exact qaz _ _ b hb
 decide
theorem qdr {w w':World}{g:Nat}(h:Tabs w)(hg:w.grownBy w' (some g))(h3:3≤g):Tabs w':=
 ⟨Nat.le_trans h.size hg.size,fun i hi=>(World.cell?_of_block (hg.block _ (by have:=h.size;show (1:Nat)<_;omega) (fun e=>by injection e with e;have e:(1:Nat)=g:=e;omega))).trans (h.start i hi),
  fun i hi=>(World.cell?_of_block (hg.block _ (by have:=h.size;show (2:Nat)<_;omega) (fun e=>by injection e with e;have e:(2:Nat)=g:=e;omega))).trans (h.words i hi)⟩
theorem qds (n cc:Nat)(A:Option Addr)(bs:List Nat)(w:World)(hb2:∀b∈bs,b<256)(hr:Reads w w.heap.size 1 A n (byv bs))(hnc:n≤cc)(hn:n≤1152921504606846975)(ht:Tabs w):
 Calls Tryz.prog 245 #[.slice A n cc] w fun e w'=>e=.returned (.agg (byv (sha bs)).toArray)∧Below w.heap.size w w':=by
 have hlen:bs.length=n:=qb5 hr;obtain⟨m,hm⟩:=xeq (n / 64);have d1:Int.tdiv (n:Int) 64=(m:Int):=by rw[←hm,Int.tdiv_eq_ediv_of_nonneg (by omega)];omega
 have d2:IntKind.i64.wrap (m:Int)=m:=IntWalk.i64_in _ (by omega);obtain⟨p4,hp4⟩:=xeq (64*m);have d3:IntKind.i64.wrap ((m:Int)*64)=(p4:Int):=by rw[show ((m:Int)*64)=(p4:Int) by omega];exact IntWalk.i64_in _ (by omega)
 have A1:=zh1 hp4;have g0:∀i,i<8→w.cell? ⟨1,i,none⟩=qc2.vals[i]? :=ht.start;have c0:=g0 0 (by omega);have c1:=g0 1 (by omega);have c2:=g0 2 (by omega);have c3:=g0 3 (by omega);have c4:=g0 4 (by omega);have c5:=g0 5 (by omega);have c6:=g0 6 (by omega);have c7:=g0 7 (by omega);simp[St.vals,qc2]at c0 c1 c2 c3 c4 c5 c6 c7;have hlt2:1<w.heap.size:=by have:=ht.size;omega
 clear g0;obtain⟨Ht,Hr,HM,A0⟩:=zh4 ht hr hm hlen;have hW:∃x,x=(w.alloc (.cells zLD 29)).alloc (.cells #[.int .u32 1779033703,.int .u32 3144134277,.int .u32 1013904242,.int .u32 2773480762,.int .u32 1359893119,.int .u32 2600822924,.int .u32 528734635,.int .u32 1541459225] 209):=⟨_,rfl⟩;obtain⟨W1,hW1⟩:=hW;have Z1:Blk W1 w.heap.size 29 zLD:=by rw[hW1];exact(Blk.new w _ _).alloc _
 have S1:Blk W1 (w.heap.size+1) 209 qc2.vals:=by
  have h:=Blk.new (w.alloc (.cells zLD 29)) 209 qc2.vals;rw[qar]at h;rw[hW1];exact h
 have B1:Below w.heap.size w W1:=by rw[hW1];exact qah (qah (tA5 _ _) _) _
 have L1:w.heap.size+1<W1.heap.size:=S1.lt;have A6:=zh1 hb2;clear ht hr hm hlen hp4 hb2;go_enter Tryz.func245,Tryz.ntmps245
 go_wp2_with fail
 rw[←hW1];obtain⟨AP,A8,A9,A3⟩:=zh4 hW1 Z1 S1 B1;clear hW1 Z1 S1 B1 c0 c1 c2 c3 c4 c5 c6 c7;go_loopw [5] (fun i wr=>∃k p:Nat,k≤m∧Hid (64*k=p)∧i=.int .i64 p∧Blk wr (w.heap.size+1) 209 (blocks bs qc2 k).vals∧W1.grownBy wr (some (w.heap.size+1))) (fun i _=>p4 - (intOf i).toNat)
 case atStart=>exact⟨0,0,by omega,rfl,rfl,A9.out,World.grownBy.refl _ _⟩
 case round=>
  obtain⟨k,p,hk,hp,rfl,hst,hgr⟩:=hrel;by_cases hkm:k<m
  ·
   have ep:=hp.out;have e4:=A1.out;have em:=HM.out;have q1:(p:Int)<p4:=by omega
   have q2:p≤n:=by omega
   have q3:p<cc:=by omega
   have q4:cc≠p:=by omega
   have hr1:=((Hr.out.below A3.out).grown hgr (by omega) (by intro g hg;injection hg with hg;omega)).cut (k:=p) (cap:=cc) q2 hnc;rw[if_neg (by omega),Nat.mul_one,show (byv bs).drop p=byv (bs.drop p) by simp[byv]]at hr1;have hT:=(Ht.out.below A3.out Ht.out.size);have hT1:=qdr hT hgr (by have:=Ht.out.size;omega);have hl1:(bs.drop p).length=n - p:=by rw[List.length_drop,A0.out]
   have hst2:=hst;rw[St.vals]at hst2;have K:=qch (w.heap.size+1) w.heap.size (n - p) (cc - p) _ (bs.drop p) _ wr (qd9 bs qc2 qda k) hl1 (by omega) (fun b hb=>A6.out b (List.mem_of_mem_drop hb)) hst2 hr1 (by have:=hgr.size;omega) hT1;obtain⟨HK,Hgr⟩:=zh2 K hgr;clear ep e4 em hgr K hT hT1 hst hst2 hr1 hl1;go_wp2_with fail
   with_reducible refine HK.out.mono ?_
   rintro e w2 ⟨rfl,h1,h2⟩;have w1:IntKind.i64.wrap ((p:Int)+64)=(p+64:Nat):=by rw[show ((p:Int)+64)=((p+64:Nat):Int) by omega];exact IntWalk.i64_in _ (by have:=hp.out;have:=A1.out;have:=HM.out;omega)
   go_wp2_with fail
   go_roundw
   case rel=>exact⟨k+1,p+64,by omega,(show 64*(k+1)=p+64 by have:=hp.out;omega),by go_num,by rw[blocks,hp.out];exact h1,qc8 Hgr.out h2⟩
   case measure=>simp[intOf];have:=hp.out;omega
  have hk':k=m:=by omega
  have q1:¬(p:Int)<p4:=by have:=hp.out;have:=A1.out;omega
  rw[hk']at hst;obtain⟨Hst,Hgr⟩:=zh2 hst hgr;clear hst hgr hk' hkm hk;obtain⟨W2,rfl⟩:=eqx wr;obtain⟨r,hrr⟩:=xeq (n - p4);have hr64:n % 64=r:=by have:=A1.out;have:=HM.out;omega
  have r64:r<64:=by omega
  have e4n:p4≤n:=by have:=A1.out;have:=HM.out;omega
  have HX:Reads W2 w.heap.size 1 (if cc=p4 then A else A.map (·.add p4)) r (byv (bs.drop p4)):=by
   have h:=((Hr.out.below A3.out).grown Hgr.out (by omega) (by intro g hg;injection hg with hg;omega)).cut (k:=p4) (cap:=cc) e4n hnc;rw[hrr,Nat.mul_one,show (byv bs).drop p4=byv (bs.drop p4) by simp[byv]]at h;exact h
  have HX':=zh1 HX;obtain⟨rest,hrest⟩:=xeq (bs.drop p4);have lrest:rest.length=r:=by rw[←hrest,List.length_drop,A0.out];exact hrr
  have W3a:Blk (W2.alloc (.cells Tryz.zeroCells360 360)) W2.heap.size 360 (byv (List.replicate 128 0)).toArray:=Blk.new W2 _ _;rw[hrest]at HX;obtain⟨A2,hA2⟩:∃x,(if cc=p4 then A else A.map (·.add p4))=x:=⟨_,rfl⟩;rw[hA2]at HX;have AA:=zh1 hA2;clear hA2;obtain⟨HXr,Hrest,Hlrest,HW3a,Hrr⟩:=zh5 HX hrest lrest W3a hrr;have L2:w.heap.size+1<W2.heap.size:=Nat.lt_of_lt_of_le L1 Hgr.out.size;have A5:=zh1 L2;clear HX HX' hrest lrest W3a;go_wp2_with fail
  obtain⟨S,HS⟩:∃S:World→Prop,Hid (∀w',S w'):=⟨fun _=>True,fun _=>trivial⟩;refine zrs S 6 [(0,false),(1,false),(2,false),(3,false),(4,true),(5,false)] (HS.out _) ?_;iterate 3 (refine zrd rfl rfl (fun w1 hS=>by go_simp;(try go_bits);try rfl) ?_;simp only[Act.put,tA0,tA1,tA2])
  refine qbh rfl rfl ⟨.slice A2 r (cc - p4),fun w1 hS=>?_,?_⟩
  · rw[←AA.out]
    by_cases hcp:cc=p4
    · subst hcp
      go_simp
    go_simp
  try simp only[Act.put,tA0,tA1,tA2]
  refine qbj rfl rfl ?_;refine qd3 rfl (.tmp 27) (.tmp 30) 23 23 rfl 5 (by kernel_rfl) (by kernel_rfl) _ _ _ _ _ _ rfl rfl W2.heap.size 0 (byv (List.replicate 128 0)) 360 HW3a.out (byv rest) (by rw[qat,Hlrest.out];show r=min r 128;omega) (fun h0=>⟨rfl,?_⟩) (by rw[qat,qat,Hlrest.out,List.length_replicate];omega) (qau _) W2.heap.size W2 ((tA5 _ _).alloc (tA4 _) _).drew (tA4 _) ?_
  · obtain⟨ad,h1,h2,h3⟩:=HXr.out.2 (by rw[qat,Hlrest.out]at h0;exact h0)
    refine⟨ad,h1,fun j v hv=>?_⟩;rw[←h3 j v hv];exact World.cell?_alloc_lt W2 _ _ (by rw[qa1];omega)
  intro w3 HG3 hB3;refine⟨fun _=>HS.out w3,?_⟩;try simp only[Act.put,tA0,tA1,tA2]
  rw[show (byv rest).length=r by rw[qat,Hlrest.out]];iterate 1 (refine zrd rfl rfl (fun w1 hS=>by go_simp;(try go_bits);try rfl) ?_;simp only[Act.put,tA0,tA1,tA2])
  refine qbg ?_;have hT3:Blk w3 W2.heap.size 360 (byv (rest++List.replicate (128 - r) 0)).toArray:=by
   have h:=HG3.out;rw[qd4,Hlrest.out]at h;exact h
  rw[show 128 - r=(127 - r)+1 by omega,List.replicate_succ]at hT3;have ct:=hT3.cell r;rw[qd8 (Hlrest.out)]at ct;have ft:=hT3.frozen r;have q128:(r:Int)<128:=by omega
  have A7:=zh1 hT3;clear hT3;go_upto_region 11 with(fail)
  obtain⟨W4,hW4⟩:=eqx (w3.setCell ⟨W2.heap.size,r,none⟩ (.int .u8 128));rw[←hW4];have hT4:Blk W4 W2.heap.size 360 (byv (qdc bs 0)).toArray:=by
   have h:=A7.out.set_ r (.int .u8 (128:Nat));have e:=qd7 rest (List.replicate (127 - r) 0) 0 128;rw[Hlrest.out]at e;rw[e]at h;rw[hW4,qdo,A0.out,hr64,show n - r=p4 by have:=Hrr.out;omega,Hrest.out];exact h
  have hB4:Below W2.heap.size W2 W4:=by rw[hW4];exact hB3.setCell (tA4 _) _
  obtain⟨AB,A4⟩:=zh2 hT4 hB4;clear hT4 hB4 hW4 ct ft A7 hB3 HG3;go_upto_if 36 with(fail)
  obtain⟨E,hE⟩:=xeq (qdb r);have eb:=qdl r r64;rw[hE]at eb;obtain⟨eb1,eb2⟩:=eb;have HE:=zh1 hE;clear hE;go_cut [8] from 27 (fun s8 wx=>s8=.int .i64 (E:Nat)∧wx=W4)
  case first=>
   go_wp2
   all_goals
    go_meet
    case rel=>
     refine⟨?_,rfl⟩;rw[←HE.out];unfold qdb;first|rw[if_pos (by omega)];rfl|rw[if_neg (by omega)];rfl
  case rest=>
   obtain⟨rfl,rfl⟩:=hcut;go_wp2_with fail
   go_loopw [37] (fun i wr=>∃k:Nat,k≤8∧i=.int .i64 k∧Blk wr W2.heap.size 360 (byv (qdc bs k)).toArray∧Below W2.heap.size wc wr) (fun i _=>8 - (intOf i).toNat)
   case atStart=>exact⟨0,by omega,rfl,AB.out,tA5 _ _⟩
   case round=>
    obtain⟨k,hk,rfl,htk,hbk⟩:=hrel;by_cases hk8:k<8
    ·
     have qk8:(k:Int)<8:=by omega
     obtain⟨j,hj⟩:=xeq (E - 1 - k);have v1:IntKind.i64.wrap ((E:Int) - 1)=(E:Int) - 1:=IntWalk.i64_in _ (by omega);have v2:IntKind.i64.wrap ((E:Int) - 1 - k)=(j:Int):=by rw[show ((E:Int) - 1 - k)=(j:Int) by omega];exact IntWalk.i64_in _ (by omega)
     have v3:IntKind.u64.wrap (n:Int)=n:=IntWalk.u64_in _ (by omega);have v4:IntKind.u64.wrap ((n:Int)*8)=((n*8:Nat):Int):=by rw[show ((n:Int)*8)=((n*8:Nat):Int) by omega];exact IntWalk.u64_in _ (by omega)
     have v5:IntKind.i64.wrap (8*(k:Int))=((8*k:Nat):Int):=by rw[show (8*(k:Int))=((8*k:Nat):Int) by omega];exact IntWalk.i64_in _ (by omega)
     have qj:(j:Int)<128:=by omega
     have ct:=htk.cell j;rw[qdf (by rw[qdp bs k (by omega)];omega)]at ct;have ft:=htk.frozen j;obtain⟨Htk,Hbk,Hj⟩:=zh3 htk hbk hj;clear htk hbk hj;go_wp2_with fail
     go_roundw
     case rel=>
      refine⟨k+1,by omega,by go_num,?_,Hbk.out.setCell (tA4 _) _⟩;have e:((n:Int)*8 / 2^(8*k) % 256)=((qav (8*bs.length) k:Nat):Int):=by
       rw[A0.out];unfold qav;rw[show (256:Nat)^k=2^(8*k) by rw[Nat.pow_mul],Nat.mul_comm 8 n];push_cast
       rfl
      have e2:j=qdb (bs.length % 64) - 1 - k:=by rw[A0.out,hr64,HE.out,Hj.out]
      rw[e,←qdn bs k hk8,←e2];exact Htk.out.set_ j _
     case measure=>simp[intOf];omega
    have qk8:¬(k:Int)<8:=by omega
    have hk':k=8:=by omega
    rw[hk']at htk;obtain⟨W5,rfl⟩:=eqx wr;have hs5:Blk W5 (w.heap.size+1) 209 (blocks bs qc2 m).vals:=(Hst.out.below A4.out (Nat.lt_of_lt_of_le (Nat.lt_of_lt_of_le L1 Hgr.out.size) (tA4 _))).below hbk (Nat.lt_of_lt_of_le L1 Hgr.out.size);have hT5:Tabs W5:=((qdr (Ht.out.below A3.out Ht.out.size) Hgr.out (by have:=Ht.out.size;omega)).below A4.out (by have:=Ht.out.size;have:=A5.out;omega)).below hbk (by have:=Ht.out.size;have:=A5.out;omega);obtain⟨st1,hst1⟩:=xeq (blocks bs qc2 m);have hok1:st1.ok:=hst1▸qd9 bs qc2 qda m;rw[hst1]at hs5;obtain⟨Hst1,Hok1,AC,AD,Ht5,Hb5⟩:=zh6 hst1 hok1 hs5 hT5 htk hbk;have AE:=A5.out;have gne:W2.heap.size≠w.heap.size+1:=by omega
    clear hs5 hT5 hst1 hok1 htk hbk hk' hk8;go_wp2_with fail
    go_loopw [10] (fun i wr=>∃q p:Nat,Hid (64*q=p)∧p≤E∧i=.int .i64 p∧Blk wr (w.heap.size+1) 209 (blocks (qdc bs 8) st1 q).vals∧W5.grownBy wr (some (w.heap.size+1))) (fun i _=>E - (intOf i).toNat)
    case atStart=>exact⟨0,0,rfl,by omega,rfl,AC.out,World.grownBy.refl _ _⟩
    case round=>
     obtain⟨q,p,hp,hpE,rfl,hsq,hgq⟩:=hrel;by_cases hqE:p<E
     ·
      have q1:(p:Int)<E:=by omega
      have hp64:p+64≤E:=by have:=hp.out;omega
      have p128:p≤128:=by omega
      have pz:0≤(p:Int):=by omega
      have p128':(p:Int)≤128:=by omega
      have hrd:=qdg (Ht5.out.grown hgq (by intro e;injection e with e;exact gne e)) (p:=p) (by rw[qdp bs 8 (by omega)];omega);rw[qdp bs 8 (by omega)]at hrd;have hsq2:=hsq;rw[St.vals]at hsq2;have K:=qch (w.heap.size+1) wr.heap.size (128 - p) (128 - p) _ ((qdc bs 8).drop p) _ wr (qd9 (qdc bs 8) st1 Hok1.out q) (by rw[List.length_drop,qdp bs 8 (by omega)]) (by omega) (fun b hb=>qdq bs A6.out 8 b (List.mem_of_mem_drop hb)) hsq2 hrd (tA4 _) (qdr AD.out hgq (by have:=Ht.out.size;omega));obtain⟨HK,Hgq⟩:=zh2 K hgq;clear K hsq hsq2 hrd hgq;go_wp2_with fail
      refine HK.out.mono ?_;rintro e w2 ⟨rfl,h1,h2⟩;have w1:IntKind.i64.wrap ((p:Int)+64)=(p+64:Nat):=by rw[show ((p:Int)+64)=((p+64:Nat):Int) by omega];exact IntWalk.i64_in _ (by omega)
      go_wp2_with fail
      go_roundw
      case rel=>exact⟨q+1,p+64,(show 64*(q+1)=p+64 by have:=hp.out;omega),hp64,by go_num,by rw[blocks,hp.out];exact h1,qc8 Hgq.out h2⟩
      case measure=>simp[intOf];omega
     have q1:¬(p:Int)<E:=by omega
     have hq:q=qdb (bs.length % 64) / 64:=by rw[A0.out,hr64,HE.out];have:=hp.out;omega
     have hsh:blocks (qdc bs 8) st1 q=qdd bs:=by
      unfold qdd;rw[←hq,A0.out,HM.out,Hst1.out]
     rw[hsh]at hsq;obtain⟨st,hst⟩:=xeq (qdd bs);rw[hst]at hsq;obtain⟨W6,rfl⟩:=eqx wr;have hok:st.ok:=by rw[←hst];exact qd9 _ _ (qd9 _ _ qda _) _
     have hlist:=St.ok_list hok;have hZ6:Blk W6 w.heap.size 29 zLD:=(((A8.out.grown Hgr.out (by intro e;injection e with e;omega)).below A4.out (by omega)).below Hb5.out (by omega)).grown hgq (by intro e;injection e with e;omega);have hB6:Below w.heap.size w W6:=(((A3.out.grown Hgr.out (by omega) (by intro g hg;injection hg with hg;omega)).trans (A4.out.mono (by omega))).trans (Hb5.out.mono (by omega))).grown hgq (by have:=Hb5.out.size;have:=A4.out.size;omega) (by intro g hg;injection hg with hg;omega);obtain⟨AF,AG,AH,AI,AJ⟩:=zh5 hsq hZ6 hB6 hst hlist;have lW6:w.heap.size+1<W6.heap.size:=hsq.lt;have hD7:Blk (W6.alloc (.cells zLD 29)) W6.heap.size 29 (byv (qdh (qde st) 0)).toArray:=by
      have h:=Blk.new W6 29 zLD;exact h
     have AK:=zh1 hD7;clear hsq hZ6 hB6 hst hlist hok hD7 hq hsh hgq;go_wp2_with fail
     go_loopw [62] (fun i wr=>∃k:Nat,k≤32∧i=.int .i64 k∧Blk wr W6.heap.size 29 (byv (qdh (qde st) k)).toArray∧Below W6.heap.size W6 wr) (fun i _=>32 - (intOf i).toNat)
     case atStart=>exact⟨0,by omega,rfl,AK.out,(tA5 _ _).alloc (tA4 _) _⟩
     case round=>
      obtain⟨k,hk,rfl,hdk,hbk⟩:=hrel;by_cases hk32:k<32
      ·
       have qk:(k:Int)<32:=by omega
       obtain⟨a,ha⟩:=xeq (k / 4);obtain⟨b,hb⟩:=xeq (k % 4);obtain⟨s,hs⟩:=xeq (24 - 8*b);have u1:Int.tdiv (k:Int) 4=(a:Int):=by rw[Int.tdiv_eq_ediv_of_nonneg (by omega)];omega
       have u2:Int.tmod (k:Int) 4=(b:Int):=by rw[Int.tmod_eq_emod_of_nonneg (by omega)];omega
       have u3:IntKind.i64.wrap (a:Int)=a:=IntWalk.i64_in _ (by omega);have u4:IntKind.i64.wrap (b:Int)=b:=IntWalk.i64_in _ (by omega);have u5:IntKind.i64.wrap (8*(b:Int))=8*(b:Int):=IntWalk.i64_in _ (by omega);have u6:IntKind.i64.wrap (24 - 8*(b:Int))=(s:Int):=by rw[show (24 - 8*(b:Int))=(s:Int) by omega];exact IntWalk.i64_in _ (by omega)
       have u7:(a:Int)<8:=by omega
       have cs:=(AF.out.below hbk lW6).cell a;rw[St.vals_list,qc3 (by simp[St.list];omega)]at cs;obtain⟨x,hx⟩:=xeq (st.list.getD a 0);rw[hx]at cs;have lx:x<4294967296:=hx▸AJ.out.getD a;have cd:=hdk.cell k;rw[qdf (by simp[qdh,qde];omega)]at cd;have fd:=hdk.frozen k;obtain⟨Hdk,Hbk,Hx,Ha,Hb,Hs⟩:=zh6 hdk hbk hx ha hb hs;clear hdk hbk hx ha hb hs;go_wp2_with fail
       go_roundw
       case rel=>
        refine⟨k+1,by omega,by go_num,?_,Hbk.out.setCell (tA4 _) _⟩;have s24:s≤24:=by have:=Hs.out;omega
        have e:((x:Int) / 2^min s 32 % 256)=((x / 2^s % 256:Nat):Int):=by
         rw[Nat.min_eq_left (by omega)];push_cast
         rfl
        rw[e,←qdi (L:=qde st) (k:=k) (v:=x / 2^s % 256) (by simp[qde];omega) (by rw[qdk st hk32,Ha.out,Hb.out,Hs.out,Hx.out])];exact Hdk.out.set_ k _
       case measure=>simp[intOf];omega
      have qk:¬(k:Int)<32:=by omega
      have hk':k=(qde st).length:=by simp[qde];omega
      rw[hk',qdj]at hdk;have hV:(byv (qde st)).length=32:=by simp[byv,qde]
      have hV1:=qau (qde st);obtain⟨V,hVV⟩:=xeq (byv (qde st));rw[hVV]at hdk hV hV1;have AL:=zh1 (qap hdk 0 V (fun j u h=>by simpa using h));have z7:=AG.out.below hbk (by omega);obtain⟨HV,AM,AN,Hbk,HI⟩:=zh5 hV hV1 hVV hbk (zI 29 hV);clear hdk hV hV1 hVV hbk hk' hk32;go_wp2_with (first
       |(refine qaq rfl 29 (.tmp 11) rfl W6.heap.size 0 rfl V _ AL.out Tryz.underlying29 rfl HI.out ?_)
       |(refine zst 29 (.tmp 2) (.tmp 78) w.heap.size V z7 HI.out (by simp[HV.out]) AM.out ?_))
      have z8:=z7.setRow V.toArray;have AO:=qap z8 0 V (fun j u h=>by simpa using h);refine zrt AO Tryz.underlying29 HI.out ⟨?_,below_setRow (AH.out.trans (Hbk.out.mono (by omega))) (tA4 _) _⟩;rw[←AN.out,←AI.out];rfl
end
def cutW (width:Int):Nat:=if width<1∨32<width then 32 else width.toNat
theorem qdt (width:Int):1≤cutW width∧cutW width≤32:=by unfold cutW;split<;>omega
def cutD (d:List Nat)(w:Nat):List Nat:=d.take w++List.replicate (32 - w) 0
def sumH (w:Nat)(b:List Nat):List Nat:=cutD (sha b) w
def qdu (w:Nat)(b:List Nat):List Nat:=sumH w (0::b)
def qdv (w:Nat)(a b:List Nat):List Nat:=sumH w (1::(a.take w++b.take w))
def half (n:Nat):Nat:=2^Nat.log2 (n - 1)
theorem qdw {n:Nat}(h:2≤n):1≤half n∧half n<n∧n≤2*half n:=by
 unfold half;have h1:=Nat.log2_self_le (n:=n - 1) (by omega);have h2:=@Nat.lt_log2_self (n - 1);have h3:0<2^Nat.log2 (n - 1):=Nat.pow_pos (by decide);rw[Nat.pow_succ]at h2;omega
def qdx (w:Nat)(l:List (List Nat)):List Nat:=
 if h:l.length≤1 then(match l with|[]=>sumH w []|b::_=>qdu w b)
 else qdv w (qdx w (l.take (half l.length))) (qdx w (l.drop (half l.length)))
 termination_by l.length
 decreasing_by
 · have:=qdw (n:=l.length) (by omega);rw[List.length_take];omega
 have:=qdw (n:=l.length) (by omega);rw[List.length_drop];omega
theorem qdy (w:Nat):qdx w []=sumH w []:=by rw[qdx];rfl
theorem qdz (w:Nat)(b:List Nat):qdx w [b]=qdu w b:=by rw[qdx];rfl
theorem qe1 (w:Nat){l:List (List Nat)}(h:2≤l.length):qdx w l=qdv w (qdx w (l.take (half l.length))) (qdx w (l.drop (half l.length))):=by
 rw[qdx,dif_neg (by omega)]
def qe2 (w:Nat)(l:List (List Nat))(i:Nat):List (List Nat):=
 if h:l.length≤1 then []
 else if i<half l.length then qe2 w (l.take (half l.length)) i++[qdx w (l.drop (half l.length))]
 else qe2 w (l.drop (half l.length)) (i - half l.length)++[qdx w (l.take (half l.length))]
 termination_by l.length
 decreasing_by
 · have:=qdw (n:=l.length) (by omega);rw[List.length_take];omega
 have:=qdw (n:=l.length) (by omega);rw[List.length_drop];omega
theorem qe3 (w:Nat){l:List (List Nat)}(i:Nat)(h:l.length≤1):qe2 w l i=[]:=by rw[qe2,dif_pos h]
theorem qe4 (w:Nat){l:List (List Nat)}{i:Nat}(h:2≤l.length)(hi:i<half l.length):qe2 w l i=qe2 w (l.take (half l.length)) i++[qdx w (l.drop (half l.length))]:=by
 rw[qe2,dif_neg (by omega),if_pos hi]
theorem qe5 (w:Nat){l:List (List Nat)}{i:Nat}(h:2≤l.length)(hi:¬i<half l.length):qe2 w l i=qe2 w (l.drop (half l.length)) (i - half l.length)++[qdx w (l.take (half l.length))]:=by
 rw[qe2,dif_neg (by omega),if_neg hi]
def subH (w:Nat)(l:List (List Nat))(m:Nat)(whole:Bool):List (List Nat):=
 if h:l.length≤1∨m=l.length then(if whole then [] else [qdx w l])
 else if m≤half l.length then subH w (l.take (half l.length)) m whole++[qdx w (l.drop (half l.length))]
 else subH w (l.drop (half l.length)) (m - half l.length) false++[qdx w (l.take (half l.length))]
 termination_by l.length
 decreasing_by
 · have:=qdw (n:=l.length) (by omega);rw[List.length_take];omega
 have:=qdw (n:=l.length) (by omega);rw[List.length_drop];omega
theorem qe6 (w:Nat){l:List (List Nat)}{m:Nat}(whole:Bool)(h:m=l.length):subH w l m whole=if whole then [] else [qdx w l]:=by rw[subH,dif_pos (.inr h)]
theorem qe7 (w:Nat){l:List (List Nat)}{m:Nat}(whole:Bool)(h:2≤l.length)(hm:m≠l.length)(hi:m≤half l.length):subH w l m whole=subH w (l.take (half l.length)) m whole++[qdx w (l.drop (half l.length))]:=by
 rw[subH,dif_neg (by omega),if_pos hi]
theorem qe8 (w:Nat){l:List (List Nat)}{m:Nat}(whole:Bool)(h:2≤l.length)(hm:m≠l.length)(hi:¬m≤half l.length):subH w l m whole=subH w (l.drop (half l.length)) (m - half l.length) false++[qdx w (l.take (half l.length))]:=by
 rw[subH,dif_neg (by omega),if_neg hi]
theorem qe9 {d:List Nat}{w:Nat}(h:d.length=32)(hw:w≤32):(cutD d w).length=32:=by
 unfold cutD;rw[tA6,List.length_take,List.length_replicate];omega
theorem qea {d:List Nat}{w:Nat}(h:∀x∈d,x<256):∀x∈cutD d w,x<256:=by
 intro x hx;rcases List.mem_append.1 hx with hx|hx
 · exact h x (List.mem_of_mem_take hx)
 rw[(List.mem_replicate.1 hx).2];decide
section
open Go.RowKit
theorem Tryz.byte_info:(Tryz.prog.info? 5).map (fun i=>(i.zero,i.size,i.bytes))=some (some (.int .u8 0),1,1):=by kernel_rfl
def Wri (w:World)(B g:Nat)(bs:List Nat):Prop:=∃v,Blk w g 271 #[v]∧B≤g∧w.ownsRow B 5 1 v bs.length (byv bs)
def NB (w w':World)(g:Nat):Prop:=w.heap.size≤w'.heap.size∧∀k,k<w.heap.size→k≠g→(∀cs,w.heap[k]? ≠some (.cells cs 5 (0,0)))→w'.heap[k]? =w.heap[k]?
theorem NB.refl (w:World)(g:Nat):NB w w g:=⟨tA4 _,fun _ _ _ _=>rfl⟩
theorem NB.trans {a b c:World}{g:Nat}(h:NB a b g)(k:NB b c g):NB a c g:=
 ⟨Nat.le_trans h.1 k.1,fun i hi hg hn=>by
  have e:=h.2 i hi hg hn;exact(k.2 i (Nat.lt_of_lt_of_le hi h.1) hg (by rw[e];exact hn)).trans e⟩
theorem NB.drew {a b:World}{g:Nat}(h:NB a b g):NB a b.drew g:=h
theorem NB.below {a b:World}{g:Nat}(h:Below a.heap.size a b):NB a b g:=⟨h.size,fun k hk _ _=>h.block k hk⟩
theorem NB.alloc {a b:World}{g:Nat}(h:NB a b g)(o:Obj):NB a (b.alloc o) g:=h.trans (NB.below ((tA5 _ _).alloc (tA4 _) o))
theorem NB.setCell {a b:World}{g:Nat}(h:NB a b g)(i:Nat)(u:Value):NB a (b.setCell ⟨g,i,none⟩ u) g:=
 h.trans ⟨by simp[World.setCell],fun k _ hk _=>Below.heap_setCell b ⟨g,i,none⟩ u k hk⟩
theorem NB.grown {a b c:World}{g B n:Nat}{v:Value}{xs:List Value}(h:NB a b g)(hown:b.ownsRow B 5 1 v n xs)(hg:b.grownBy c v.ownBlock):NB a c g:=
 h.trans ⟨hg.size,fun k hk _ hn=>hg.block k hk (fun e=>by
  rcases hown.2 with⟨rfl,_⟩|⟨q,cap,cur,rfl,_,hh,_⟩
  · simp[Value.ownBlock]at e
  simp[Value.ownBlock]at e;subst e;exact hn cur hh)⟩
theorem NB.blk {w w':World}{g L:Nat}{t:TypeId}{cs:Array Value}(h:NB w w' g)(hL:Blk w L t cs)(ht:t≠5)(hne:L≠g):Blk w' L t cs:=by
 refine(h.2 L hL.lt hne fun cs' e=>?_).trans hL;unfold Blk at hL;rw[hL]at e;injection e with e;injection e with _ e;exact ht e
theorem qeb {k:IntKind}{a b:Int}(h:a=b):Ending.returned (.int k a)=.returned (.int k b):=by rw[h]
theorem qec (k:Int)(w:World):
 Calls Tryz.prog 148 #[.int .i64 k] w fun e w'=>e=.returned (.int .i64 (qb0 k))∧w=w':=by
 by_cases h1:k<1
 · have H:Hid (((qb0 k:Nat):Int)=1):=by unfold Hid qb0;omega
   go_enter Tryz.func148,Tryz.ntmps148
   go_wp2
   go_ret
   exact⟨qeb H.out.symm,rfl⟩
 by_cases h8:8<k
 · have H:Hid (((qb0 k:Nat):Int)=8):=by unfold Hid qb0;omega
   go_enter Tryz.func148,Tryz.ntmps148
   go_wp2
   go_ret
   exact⟨qeb H.out.symm,rfl⟩
 have H:Hid (((qb0 k:Nat):Int)=k):=by unfold Hid qb0;omega
 go_enter Tryz.func148,Tryz.ntmps148
 go_wp2
 go_ret
 exact⟨qeb H.out.symm,rfl⟩
theorem qed (B g n:Nat)(k:Int)(bs:List Nat)(w:World)(hw:Wri w B g bs)(hn:n<18446744073709551616)(hl:bs.length≤4294967296):
 Calls Tryz.prog 107 #[.pointer (some ⟨g,0,none⟩),.int .u64 n,.int .i64 k] w fun e w'=>e=.returned (.tuple #[])∧Wri w' B g (bs++be n (qb0 k))∧Below B w w'∧NB w w' g:=by
 obtain⟨i0,hi0,hz0,hz1,hz2⟩:=info_parts Tryz.byte_info;obtain⟨hs1,hs8⟩:=qb1 k;go_enter Tryz.func107,Tryz.ntmps107
 go_wp2_with fail
 refine(qec _ _).mono ?_;rintro e w' ⟨rfl,rfl⟩;obtain⟨s,hs⟩:=xeq (qb0 k);have Hs:=zh1 hs;rw[hs]at hs1 hs8 ⊢;clear hs;go_wp2
 go_loopw [6] (fun i wr=>∃j m:Nat,s=j+m∧i=.int .i64 ((m:Int) - 1)∧Wri wr B g (bs++(be n s).take j)∧Below B w wr∧NB w wr g) (fun i _=>(intOf i+1).toNat)
 case atStart=>exact⟨0,s,by omega,rfl,by simpa using hw,tA5 _ _,NB.refl _ _⟩
 case round=>
  obtain⟨j,m,hjm,rfl,hw2,hb,hnb⟩:=hrel;clear hw;cases m with
  |zero=>
   obtain rfl:j=s:=by omega
   rw[List.take_of_length_le (by rw[qaw];omega)]at hw2;go_wp2
   go_end0
   exact⟨rfl,by rw[Hs.out];exact hw2,hb,hnb⟩
  |succ m=>
   have em:((m+1:Nat):Int) - 1=m:=by omega
   rw[em];clear em;obtain⟨v,hg,hBg,hown⟩:=hw2;have hlj:(bs++(be n s).take j).length≤4294967296+8:=by rw[tA6,List.length_take,qaw];omega
   obtain⟨L,hL⟩:=xeq ((bs++(be n s).take j).length);rw[hL]at hown hlj;have HL:=zh1 hL;clear hL;have hc:=hg.cell 0;have hf:=hg.frozen 0;simp at hc;go_wp2_with fail
   have Hjm:=zh1 hjm;clear hjm;have hm8:m≤7:=by have:=Hjm.out;omega
   obtain⟨S,HS⟩:∃S:World→Prop,Hid (∀w',S w'=(w'.cell? ⟨g,0,none⟩=some v)):=⟨_,fun _=>rfl⟩;refine zrs S 14 [(0,false),(1,false),(2,false),(3,false),(4,false),(5,false),(6,false),(7,false),(8,false),(9,false),(10,true),(11,true),(12,false),(13,false),(14,true)] ((HS.out _).mpr hc) ?_;repeat(refine zrd rfl rfl (fun w1 hS=>by rw[HS.out]at hS;go_split_ands;go_simp;(try go_bits);try rfl) ?_;simp only[Act.put,tA0,tA1,tA2])
   refine qbj rfl rfl ?_;go_simp;refine⟨(HS.out _).mpr (qaj hc _),?_⟩;refine qbj rfl rfl ?_;refine qa6 _ (.tmp 18) (.tmp 24) _ rfl B 5 i0 _ 1 1 Tryz.underlying23 hi0 hz0 hz1 hz2 rfl (by omega) v _ _ rfl (hown.alloc _) (wr.heap.size+1) _ 1 1 _ rfl (Reads.new1 _ _ _) (by simp[Value.oneCell']) (by simp only[maxLen];omega) (by omega) (by have:=hg.lt;simp;omega) ?_;intro v1 w1 hown1 hg1 hat1;have hgw:=(hg.alloc (.cells #[.int .u8 (n / 2^(8*m) % 256)] 5)).drew.grown hg1 (Ne.symm (qa3 hown hg (by decide)));have hb1:=qae (hb.alloc (by have:=hg.lt;omega) (.cells #[.int .u8 (n / 2^(8*m) % 256)] 5)).drew (hown.alloc _) hg1 (tA4 _) (by have:=hg.lt;simp;omega);obtain⟨A1,c1,rfl,-,-,-⟩:=qaf hown1;have hne1:=qa3 hown1 hgw (by decide);have hc1:=hgw.cell 0;have hf1:=hgw.frozen 0;simp at hc1;simp only[Act.put,tA0,tA1,tA2];refine⟨fun _=>(HS.out _).mpr hc1,?_⟩;repeat(refine zrd rfl rfl (fun w1 hS=>by rw[HS.out]at hS;go_split_ands;go_simp;(try go_bits);try rfl) ?_;simp only[Act.put,tA0,tA1,tA2])
   refine qbj rfl rfl ?_;go_simp;refine qbg ?_;have HW:Hid (Wri (w1.setCell ⟨g,0,none⟩ (.slice A1 (L+1) c1)) B g (bs++(be n s).take (j+1))):=by
    have e:s - 1 - j=m:=by have:=Hjm.out;omega
    rw[qax n s j (by have:=Hjm.out;omega),e,←List.append_assoc];refine⟨.slice A1 (L+1) c1,by simpa using hgw.set_ 0 (.slice A1 (L+1) c1),hBg,?_⟩;have:=qal hown1 (p:=⟨g,0,none⟩) hne1 (.slice A1 (L+1) c1);rw[show qav n m=n / 2^(8*m) % 256 from by unfold qav;rw[Nat.pow_mul]];rw[qas,List.length_append (bs:=[_]),HL.out];simpa [byv] using this
   obtain⟨HB,HN⟩:=zh2 (hb1.setCell (p:=⟨g,0,none⟩) hBg (.slice A1 (L+1) c1)) (((hnb.alloc (.cells #[.int .u8 (n / 2^(8*m) % 256)] 5)).drew.grown (hown.alloc _) hg1).setCell 0 (.slice A1 (L+1) c1));clear hnb;clear hb1 hne1 hown1 hgw hat1 hg1 hc1 hf1 hown hg hb hc hf HS hlj;go_wp2
   go_roundw
   case rel=>exact⟨j+1,m,by have:=Hjm.out;omega,rfl,HW.out,HB.out,HN.out⟩
   case measure=>simp[intOf]
theorem qee (w:World):
 Calls Tryz.prog 105 #[] w fun e w'=>e=.returned (.pointer (some ⟨w.heap.size,0,none⟩))∧Wri w' w.heap.size w.heap.size []∧Below w.heap.size w w':=by
 go_enter Tryz.func105,Tryz.ntmps105
 go_wp2
 go_ret
 exact⟨rfl,⟨.slice none 0 0,Blk.new ..,tA4 _,World.ownsRow_nil ..⟩,(tA5 _ _).alloc (tA4 _) _⟩
theorem qef (A:Option Addr)(n c B:Nat)(xs:List Value)(w:World)(hr:Reads w B 1 A n xs)(h1:∀u∈xs,u.oneCell'=true)(hn:n≤140737488355328):
 Calls Tryz.prog 47 #[.slice A n c] w fun e w'=>∃v,e=.returned v∧w'.ownsRow w.heap.size 5 1 v n xs∧Below w.heap.size w w':=by
 obtain⟨i0,hi0,hz0,hz1,hz2⟩:=info_parts Tryz.byte_info;have qn:∀(w:World) (a:Option Addr) (n c n' c':Nat),(binOp .eql 23 (.slice a n c) (.slice none n' c')).run Tryz.prog w=.ok (.bool a.isNone) w:=fun w a n c n' c'=>Lib.run_eql_slice_nil w _ _ a n c n' c' Tryz.underlying23
 cases A with
 |none=>
  obtain rfl:n=0:=by
   rcases Nat.eq_zero_or_pos n with h|h
   · exact h
   obtain⟨ad,e,_⟩:=hr.2 h;cases e
  obtain rfl:xs=[]:=List.eq_nil_of_length_eq_zero (by simpa using hr.1);go_enter Tryz.func47,Tryz.ntmps47
  go_wp2
  go_ret
  exact⟨_,rfl,World.ownsRow_nil ..,tA5 _ _⟩
 |some ad=>
  go_enter Tryz.func47,Tryz.ntmps47
  go_wp2_with (at_builtin;refine qa7 _ rfl (.tmp 5) (.tmp 6) _ rfl w.heap.size 5 i0 _ 1 1 Tryz.underlying23 hi0 hz0 hz1 hz2 rfl (by omega) _ 0 [] rfl (World.ownsRow_made w #[] 0 (tA4 _) (Nat.zero_le _) rfl) w.heap.size (some ad) n c xs rfl ?_ h1 (by simp only[maxLen];omega) (by omega) (by simp) ?_)
  · exact hr.here.alloc (tA4 _) _
  intro v1 w1 hown1 hg1 hat1;go_wp2
  go_ret
  exact⟨_,rfl,by simpa using hown1,qae ((tA5 _ _).alloc (tA4 _) _) (World.ownsRow_made (size:=1) w #[] 0 (tA4 _) (Nat.zero_le _) rfl) hg1 (tA4 _) (by simp)⟩
theorem Wri.kept_call {w w1:World}{B g:Nat}{bs:List Nat}(h:Wri w B g bs)(hb:Below w.heap.size w w1):Wri w1 B g bs:=by
 obtain⟨v,hg,hB,ho⟩:=h;exact⟨v,hg.below hb hg.lt,hB,ho.kept ⟨hb.os,hb.tape,hb.output,hb.size,fun k hk _=>hb.block k hk⟩ (row:=none) (by cases v.ownBlock<;>simp)⟩
theorem qeg (B g:Nat)(bs:List Nat)(w:World)(hw:Wri w B g bs)(hl:bs.length≤140737488355328):
 Calls Tryz.prog 111 #[.pointer (some ⟨g,0,none⟩)] w fun e w'=>∃v,e=.returned v∧w'.ownsRow w.heap.size 5 1 v bs.length (byv bs)∧Below w.heap.size w w':=by
 obtain⟨v,hg,hB,ho⟩:=hw;have hc:=hg.cell 0;simp at hc;obtain⟨A,c,rfl,-,-,hr⟩:=qaf ho;clear ho;go_enter Tryz.func111,Tryz.ntmps111
 go_wp2_with fail
 refine(qef A bs.length c w.heap.size (byv bs) w hr (qau _) hl).mono ?_;rintro e w1 ⟨v1,rfl,hown1,hb1⟩;go_wp2
 go_ret
 exact⟨_,rfl,hown1,hb1⟩
theorem qeh {w1:World}{B g n c:Nat}{v:Value}{A:Option Addr}{bs:List Nat}(hg:Blk w1 g 271 #[v])(hB:B≤g)(hown:w1.ownsRow B 5 1 (.slice A n c) n (byv bs)):Wri (w1.setCell ⟨g,0,none⟩ (.slice A n c)) B g bs:=by
 have hn:bs.length=n:=by have:=hown.1;simpa [byv] using this
 subst hn;exact⟨.slice A bs.length c,by simpa using hg.set_ 0 (.slice A bs.length c),hB,qal hown (p:=⟨g,0,none⟩) (qa3 hown hg (by decide)) _⟩
theorem qei (B g:Nat)(bs xs:List Nat)(A:Option Addr)(n c:Nat)(w:World)(hw:Wri w B g bs)(hl:bs.length≤4294967296)(hr:Reads w B 1 A n (byv xs))(hnc:n≤c)(hc:c≤maxLen):
 Calls Tryz.prog 108 #[.pointer (some ⟨g,0,none⟩),.slice A n c] w fun e w'=>e=.returned (.tuple #[])∧Wri w' B g (bs++txt xs)∧Below B w w'∧NB w w' g:=by
 obtain⟨i0,hi0,hz0,hz1,hz2⟩:=info_parts Tryz.byte_info;unfold maxLen at hc;have hln:=qb5 hr;subst hln;have hand:=qb4 xs.length (by omega);obtain⟨k,hk⟩:=xeq (xs.length % 65536);have hk1:k≤xs.length:=by omega
 have hk2:k≤65535:=by omega
 have HK:=zh1 hk;rw[hk]at hand;clear hk;go_enter Tryz.func108,Tryz.ntmps108
 go_wp2_with fail
 refine(qed B g k 2 bs w hw (by omega) hl).mono ?_;rintro e w1 ⟨rfl,⟨v,hg,hBg,hown⟩,hb,hnb⟩;have hr1:=(hr.below hb).pre (k:=k) hk1;have e2:qb0 2=2:=rfl;rw[e2]at hown;clear hw hr e2;obtain⟨L,hL⟩:=xeq ((bs++be k 2).length);have hLl:L≤4294967296+2:=by rw[←hL,tA6,qaw];omega
 rw[hL]at hown;have HL:=zh1 hL;clear hL;have hc1:=hg.cell 0;have hf1:=hg.frozen 0;simp at hc1;go_wp2_with fail
 have q0:(0:Int)≤(k:Int):=by omega
 have q1:(k:Int)≤(c:Int):=by omega
 obtain⟨S,HS⟩:∃S:World→Prop,Hid (∀w',S w'=(w'.cell? ⟨g,0,none⟩=some v)):=⟨_,fun _=>rfl⟩;refine zrs S 11 [(0,false),(1,false),(2,false),(3,false),(4,false),(5,false),(6,false),(7,false),(8,true),(9,false),(10,false),(11,true)] ((HS.out _).mpr hc1) ?_;repeat(refine zrd rfl rfl (fun w1 hS=>by rw[HS.out]at hS;go_split_ands;go_simp;(try go_bits);try rfl) ?_;simp only[Act.put,tA0,tA1,tA2])
 refine qbj rfl rfl ?_;refine qa6 _ (.tmp 16) (.tmp 19) _ rfl B 5 i0 _ 1 1 Tryz.underlying23 hi0 hz0 hz1 hz2 rfl (by omega) v L (byv (bs++be k 2)) rfl hown B A k c _ rfl hr1 (fun u hu=>qau _ u (List.mem_of_mem_take hu)) (by simp only[maxLen];omega) (by omega) (by have:=hg.lt;simp;omega) ?_;intro v1 w2 hown1 hg1 hat1;have hgw:=hg.drew.grown hg1 (Ne.symm (qa3 hown hg (by decide)));have hb1:=qae hb.drew hown hg1 (tA4 _) (by have:=hg.lt;simp;omega);obtain⟨A1,c1,rfl,-,-,-⟩:=qaf hown1;have hc2:=hgw.cell 0;have hf2:=hgw.frozen 0;simp at hc2;simp only[Act.put,tA0,tA1,tA2];refine⟨fun _=>(HS.out _).mpr hc2,?_⟩;repeat(refine zrd rfl rfl (fun w1 hS=>by rw[HS.out]at hS;go_split_ands;go_simp;(try go_bits);try rfl) ?_;simp only[Act.put,tA0,tA1,tA2])
 refine qbj rfl rfl ?_;go_simp;refine qbg ?_;have HW:Hid (Wri (w2.setCell ⟨g,0,none⟩ (.slice A1 (L+k) c1)) B g (bs++txt xs)):=by
  refine qeh hgw hBg ?_;unfold txt;rw[HK.out,←List.append_assoc,qas];simpa [byv] using hown1
 obtain⟨HB,HN⟩:=zh2 (hb1.setCell (p:=⟨g,0,none⟩) hBg (.slice A1 (L+k) c1)) ((hnb.drew.grown hown hg1).setCell 0 (.slice A1 (L+k) c1));clear hnb;clear hb1 hown1 hgw hat1 hg1 hc2 hf2 hown hg hb hc1 hf1 HS;go_wp2
 go_end0
 exact⟨rfl,HW.out,HB.out,HN.out⟩
theorem qej (B g:Nat)(bs d:List Nat)(w:World)(hw:Wri w B g bs)(hl:bs.length≤4294967296)(hd:d.length=32):
 Calls Tryz.prog 110 #[.pointer (some ⟨g,0,none⟩),.agg (byv d).toArray] w fun e w'=>e=.returned (.tuple #[])∧Wri w' B g (bs++d)∧Below B w w'∧NB w w' g:=by
 obtain⟨i0,hi0,hz0,hz1,hz2⟩:=info_parts Tryz.byte_info;obtain⟨v,hg,hBg,hown⟩:=hw;obtain⟨L,hL⟩:=xeq bs.length;rw[hL]at hown hl;obtain⟨HL,Hd⟩:=zh2 hL hd;clear hL hd;have hc1:=hg.cell 0;have hf1:=hg.frozen 0;simp at hc1;have hbw:B≤w.heap.size:=by have:=hg.lt;omega
 obtain⟨D,hD⟩:=xeq ((byv d).toArray);have HD:=zh1 hD;rw[hD];clear hD;go_enter Tryz.func110,Tryz.ntmps110
 go_wp2_with fail
 have hr1:Reads (w.alloc (.cells D 29)).drew (w.heap.size+1) 1 (some ⟨w.heap.size,0,none⟩) 32 (byv d):=by
  rw[←HD.out];exact Reads.new w _ (byv d) 1 32 (by rw[qat,Hd.out])
 have hg0:=(hg.alloc (.cells D 29)).drew;have hown0:=hown.alloc (.cells D 29);obtain⟨S,HS⟩:∃S:World→Prop,Hid (∀w',S w'=(w'.cell? ⟨g,0,none⟩=some v)):=⟨_,fun _=>rfl⟩;refine zrs S 9 [(0,false),(1,false),(2,false),(3,false),(4,false),(5,false),(6,true),(7,false),(8,false),(9,true)] ((HS.out _).mpr (qaj hc1 _)) ?_;repeat(refine zrd rfl rfl (fun w1 hS=>by rw[HS.out]at hS;go_split_ands;go_simp;(try go_bits);try rfl) ?_;simp only[Act.put,tA0,tA1,tA2])
 refine qbj rfl rfl ?_;refine qa6 _ (.tmp 8) (.tmp 9) _ rfl B 5 i0 _ 1 1 Tryz.underlying23 hi0 hz0 hz1 hz2 rfl (by omega) v L (byv bs) rfl hown0 (w.heap.size+1) _ 32 32 _ rfl hr1 (qau _) (by simp only[maxLen];omega) (by omega) (by simp;omega) ?_;intro v1 w2 hown1 hg1 hat1;have hgw:=hg0.grown hg1 (Ne.symm (qa3 hown0 hg0 (by decide)));have hb1:=qae ((tA5 B w).alloc hbw (.cells D 29)).drew hown0 hg1 (tA4 _) (by simp;omega);obtain⟨A1,c1,rfl,-,-,-⟩:=qaf hown1;have hc2:=hgw.cell 0;have hf2:=hgw.frozen 0;simp at hc2;simp only[Act.put,tA0,tA1,tA2];refine⟨fun _=>(HS.out _).mpr hc2,?_⟩;repeat(refine zrd rfl rfl (fun w1 hS=>by rw[HS.out]at hS;go_split_ands;go_simp;(try go_bits);try rfl) ?_;simp only[Act.put,tA0,tA1,tA2])
 refine qbj rfl rfl ?_;go_simp;refine qbg ?_;have HW:Hid (Wri (w2.setCell ⟨g,0,none⟩ (.slice A1 (L+32) c1)) B g (bs++d)):=by
  refine qeh hgw hBg ?_;rw[qas];exact hown1
 obtain⟨HB,HN⟩:=zh2 (hb1.setCell (p:=⟨g,0,none⟩) hBg (.slice A1 (L+32) c1)) ((((NB.refl w g).alloc (.cells D 29)).drew.grown hown0 hg1).setCell 0 (.slice A1 (L+32) c1));clear hb1 hown1 hgw hat1 hg1 hc2 hf2 hown0 hg0 hown hg hc1 hf1 HS hr1;go_wp2
 go_end0
 exact⟨rfl,HW.out,HB.out,HN.out⟩
end
section
open Go.RowKit
def qek (k:Int):Bool:=k==1||k==2||k==3
theorem qel {k:Int}(h:qek k=true):1≤k∧k≤3:=by simp[qek]at h;omega
def cavv (l:List (Int × Nat)):List Value:=l.flatMap fun c=>[Value.int .i64 c.1,Value.int .u32 (c.2:Int)]
def cavb (l:List (Int × Nat)):List Nat:=l.flatMap fun c=>be c.1.toNat 1++be c.2 4
def qem (id:Nat)(l:List (Int × Nat))(tag:List Nat):Nat × List Nat:=
 if 4<l.length then(4,[]) else if l.all fun c=>qek c.1 then(0,be id 4++be l.length 1++cavb l++tag) else(1,[])
def tokv (id:Nat)(s:Value)(tag:List Nat):List Value:=Value.int .u32 (id:Int)::s::byv tag
theorem qen {a b:Bool}(h:a=b):Ending.returned (.bool a)=.returned (.bool b):=by rw[h]
theorem qeo (k:Int)(w:World):
 Calls Tryz.prog 150 #[.int .i64 k] w fun e w'=>e=.returned (.bool (qek k))∧w=w':=by
 go_enter Tryz.func150,Tryz.ntmps150
 go_wp2
 all_goals
  go_ret
  refine⟨?_,rfl⟩;exact qen (by simp_all [qek])
theorem qep (B g:Nat)(bs:List Nat)(k:Int)(n:Nat)(w:World)(hw:Wri w B g bs)(hl:bs.length≤4294967000)(k1:1≤k)(k3:k≤3)(hn:n<4294967296):
 Calls Tryz.prog 197 #[.pointer (some ⟨g,0,none⟩),.agg #[.int .i64 k,.int .u32 n]] w fun e w'=>e=.returned (.tuple #[])∧Wri w' B g (bs++(be k.toNat 1++be n 4))∧Below B w w'∧NB w w' g:=by
 obtain⟨m,rfl⟩:=Int.eq_ofNat_of_zero_le (by omega:0≤k);have hB:B≤w.heap.size:=by obtain⟨v,hg,hB,_⟩:=hw;have:=hg.lt;omega
 have hgl:g<w.heap.size:=by obtain⟨v,hg,_⟩:=hw;exact hg.lt
 have hw0:Wri (w.alloc (.cells #[.int .i64 m,.int .u32 n] 132)) B g bs:=hw.kept_call ((tA5 _ _).alloc (tA4 _) _);have hb0:Below B w (w.alloc (.cells #[.int .i64 m,.int .u32 n] 132)):=(tA5 _ _).alloc hB _;have hn0:NB w (w.alloc (.cells #[.int .i64 m,.int .u32 n] 132)) g:=(NB.refl w g).alloc _;go_enter Tryz.func197,Tryz.ntmps197
 go_wp2_with fail
 refine(qed B g m 1 bs _ hw0 (by omega) (by omega)).mono ?_;rintro e w1 ⟨rfl,hw1,hb1,hn1⟩;have hL:=hn1.blk (Blk.new w 132 #[.int .i64 m,.int .u32 n]) (by decide) (by omega);have hc1:=hL.cell 1;simp at hc1;have e1:qb0 1=1:=rfl;have e4:qb0 4=4:=rfl;rw[e1]at hw1;clear hw0 hL e1;go_wp2_with fail
 refine(qed B g n 4 (bs++be m 1) _ hw1 (by omega) (by rw[tA6,qaw];omega)).mono ?_;rintro e w2 ⟨rfl,hw2,hb2,hn2⟩;rw[e4,List.append_assoc]at hw2;clear e4;go_wp2
 go_end0
 exact⟨rfl,by simpa using hw2,(hb0.trans hb1).trans hb2,(hn0.trans hn1).trans hn2⟩
theorem qeq {w:World}{base base':Nat}{e:TypeId}{size n:Nat}{v:Value}{xs:List Value}(h:w.ownsRow base' e size v n xs)(hb:base≤base'):w.ownsRow base e size v n xs:=by
 refine⟨h.1,?_⟩;rcases h.2 with h|⟨g,cap,cur,hv,hg,rest⟩
 · exact .inl h
 exact .inr ⟨g,cap,cur,hv,Nat.le_trans hb hg,rest⟩
theorem qer (id:Nat)(s:Value)(tag:List Nat)(h:tag.length=32):(tokv id s tag).length=34:=by simp[tokv,byv,h]
theorem qes (l:List (Int × Nat))(k:Nat)(x:Int × Nat)(h:l[k]? =some x):cavb (l.take (k+1))=cavb (l.take k)++(be x.1.toNat 1++be x.2 4):=by
 rw[List.take_add_one,h];simp[cavb]
theorem qet (l:List (Int × Nat)):(cavb l).length=5*l.length:=by
 unfold cavb;induction l with
 |nil=>rfl
 |cons x l ih=>simp only[List.flatMap_cons,tA6,qaw,ih,List.length_cons];omega
theorem qeu (l:List (Int × Nat))(k:Nat)(x:Int × Nat)(h:l[k]? =some x):(cavv l)[k*2]? =some (.int .i64 x.1)∧(cavv l)[k*2+1]? =some (.int .u32 (x.2:Int)):=by
 unfold cavv;induction l generalizing k with
 |nil=>simp at h
 |cons y l ih=>
  cases k with
  |zero=>simp at h;subst h;simp
  |succ k=>
   have:=ih k (by simpa using h);rw[show (k+1)*2=k*2+2 from by omega];simpa [List.getElem?_append] using this
theorem Tryz.digest_info:(Tryz.prog.info? 29).map (·.size)=some 32:=by kernel_rfl
theorem qev (id:Nat)(l:List (Int × Nat))(A:Option Addr)(c:Nat)(tag:List Nat)(w:World)(hr:Reads w w.heap.size 2 A l.length (cavv l))(hlc:l.length≤c)(hc:c≤maxLen)(hid:id<4294967296)(hln:∀x∈l,x.2<4294967296)(ht:tag.length=32):
 Calls Tryz.prog 153 #[.agg (tokv id (.slice A l.length c) tag).toArray] w fun e w'=>∃v,e=.returned (.tuple #[v,.int .i64 ((qem id l tag).1:Int)])∧w'.ownsRow w.heap.size 5 1 v (qem id l tag).2.length (byv (qem id l tag).2)∧Below w.heap.size w w':=by
 unfold maxLen at hc;obtain⟨D,hD⟩:=xeq ((tokv id (.slice A l.length c) tag).toArray);have d0:D[0]? =some (.int .u32 (id:Int)):=by rw[←hD];rfl
 have d1:D[1]? =some (.slice A l.length c):=by rw[←hD];rfl
 have dt:D.extract 2 (2+32)=(byv tag).toArray:=by
  rw[←hD];simp only[tokv,byv,List.extract_toArray,List.extract_eq_take_drop,List.drop_succ_cons,List.drop_zero];rw[List.take_of_length_le (by simp[ht])]
 rw[hD];obtain⟨DT,A0⟩:=zh2 dt hln;clear hD dt hln;by_cases h4:4<l.length
 · have H:Hid (qem id l tag=(4,[])):=by unfold Hid qem;rw[if_pos h4]
   go_enter Tryz.func153,Tryz.ntmps153
   go_wp2
   go_ret2
   exact⟨_,by rw[H.out];rfl,by rw[H.out];exact World.ownsRow_nil ..,(tA5 _ _).alloc (tA4 _) _⟩
 have Ha:Hid (qem id l tag=if l.all fun c=>qek c.1 then(0,be id 4++be l.length 1++cavb l++tag) else(1,[])):=by unfold Hid qem;rw[if_neg h4]
 have e1:qb0 1=1:=rfl;have e4:qb0 4=4:=rfl;go_enter Tryz.func153,Tryz.ntmps153
 go_wp2_with fail
 refine(qee _).mono ?_;rintro e w1 ⟨rfl,hw1,hb1⟩;have B1:=qag (qah (tA5 w.heap.size w) (.cells D 31)) hb1;simp at hw1 hb1;have t1:Blk w1 w.heap.size 31 D:=(Blk.new w _ D).below hb1 (by simp);have hr1:=(hr.alloc (tA4 _) (.cells D 31)).below (hb1.mono (by omega));clear hr hb1;have c0:=t1.cell 0;have c1:=t1.cell 1;rw[d0]at c0;rw[d1]at c1;go_wp2_with fail
 refine(qed _ _ id 4 [] _ hw1 (by omega) (by simp)).mono ?_;rintro e w2 ⟨rfl,hw2,hb2,-⟩;rw[e4,List.nil_append]at hw2;have t2:=t1.below hb2 (by omega);have hr2:=hr1.below (hb2.mono (by omega));have c0:=t2.cell 0;have c1:=t2.cell 1;rw[d0]at c0;rw[d1]at c1;go_wp2_with fail
 refine(qed _ _ l.length 1 _ _ hw2 (by omega) (by rw[qaw];omega)).mono ?_;rintro e w3 ⟨rfl,hw3,hb3,-⟩;rw[e1]at hw3;clear e1 e4;have t3:=t2.below hb3 (by omega);have hr3:=hr2.below (hb3.mono (by omega));have B3:=B1.trans ((hb2.trans hb3).mono (by omega));have b3:Below (w.heap.size+1) w1 w3:=hb2.trans hb3;clear t1 t2 hr1 hr2 hb2 hb3 c0 c1;have c0:=t3.cell 0;have c1:=t3.cell 1;rw[d0]at c0;rw[d1]at c1;go_wp2
 go_loopw [26] (fun i wr=>∃k:Nat,k≤l.length∧i=.int .i64 k∧(l.take k).all (fun c=>qek c.1)=true∧Wri wr (w.heap.size+1) (w.heap.size+1) (be id 4++be l.length 1++cavb (l.take k))∧Below (w.heap.size+1) w3 wr) (fun i _=>l.length - (intOf i).toNat)
 case atStart=>exact⟨0,by omega,rfl,by simp,by simpa [cavb] using hw3,tA5 _ _⟩
 case round=>
  obtain⟨k,hk,rfl,hall,hwr,hbr⟩:=hrel;have tr:=t3.below hbr (by omega);have hrr:=hr3.below (hbr.mono (by omega));have Hall:=zh1 hall;clear hall t3 hr3 c0 c1 hw3;have c0:=tr.cell 0;have c1:=tr.cell 1;rw[d0]at c0;rw[d1]at c1;by_cases hlt:k<l.length
  ·
   have hx:l[k]? =some l[k]:=tA7 hlt;obtain⟨x,hxe⟩:=xeq (l[k]);rw[hxe]at hx;clear hxe;obtain⟨q0,q1⟩:=qeu l k x hx;obtain⟨b,o,rfl,hab,hcell⟩:=hrr.mid (by omega) (by omega);have m0:=hcell _ _ q0;have m1:=hcell _ _ q1;rw[←Nat.add_assoc]at m1;have Hx:=zh1 hx;clear hx q0 q1 hcell;go_wp2_with fail
   refine(qeo _ _).mono ?_;rintro e w' ⟨rfl,rfl⟩;cases hkb:qek x.1 with
   |true=>
    obtain⟨k1,k3⟩:=qel hkb;go_wp2_with fail
    have hwa:=hwr.kept_call ((tA5 _ _).alloc (tA4 _) (.cells #[.int .i64 x.1,.int .u32 (x.2:Int)] 132));refine(qep _ _ _ x.1 x.2 _ hwa ?_ k1 k3 (A0.out x (List.mem_of_getElem? Hx.out))).mono ?_
    · have:=qet (l.take k)
      rw[tA6,tA6,qaw,qaw,this,List.length_take];omega
    rintro e w5 ⟨rfl,hw5,hb5,-⟩;have hsz:w.heap.size+1≤wr.heap.size:=by have:=tr.lt;omega
    have hb6:=(hbr.alloc hsz (.cells #[.int .i64 x.1,.int .u32 (x.2:Int)] 132)).trans hb5;have HW:Hid (Wri w5 (w.heap.size+1) (w.heap.size+1) (be id 4++be l.length 1++cavb (l.take (k+1)))):=by
     rw[qes l k x Hx.out,←List.append_assoc];exact hw5
    have HB:=zh1 hb6;clear hw5 hb5 hb6 hwa hwr hbr tr hrr c0 c1 m0 m1;go_wp2
    go_roundw
    case rel=>exact⟨k+1,by omega,by go_num,by
     rw[List.take_add_one,Hx.out,List.all_append,Hall.out];simpa using hkb,HW.out,HB.out⟩
    case measure=>simp[intOf];omega
   |false=>
    have H:Hid (qem id l tag=(1,[])):=by
     unfold Hid;rw[Ha.out,if_neg];intro h;have:=List.all_eq_true.1 h x (List.mem_of_getElem? Hx.out);rw[hkb]at this;cases this
    have hsz:w.heap.size+1≤wr.heap.size:=by have:=tr.lt;omega
    have HB:=zh1 ((B3.trans (hbr.mono (by omega))).alloc (by omega:w.heap.size≤wr.heap.size) (.cells #[.int .i64 x.1,.int .u32 (x.2:Int)] 132));go_wp2
    go_ret2
    exact⟨_,by rw[H.out];rfl,by rw[H.out];exact World.ownsRow_nil ..,HB.out⟩
  obtain rfl:k=l.length:=by omega
  have H:Hid (qem id l tag=(0,be id 4++be l.length 1++cavb l++tag)):=by
   unfold Hid;rw[Ha.out,if_pos];simpa using Hall.out
  rw[List.take_length]at hwr;have hrg:wr.rangeAt w.heap.size 2 (byv tag):=by
   have:=World.rangeAt_of_block tr 2 32;rw[DT.out]at this;exact this
  have hln:((Tryz.prog.info? 29).map (·.size))=some (byv tag).length:=by rw[qat,ht];exact Tryz.digest_info
  have HLn:=zh1 hln;clear hln;go_wp2_with (refine wpList_load_mid rfl 29 (.tmp 39) rfl w.heap.size 2 rfl (byv tag) _ hrg Tryz.underlying29 rfl HLn.out ?_)
  refine(qej _ _ _ tag _ hwr ?_ ht).mono ?_
  · have:=qet l
    rw[tA6,tA6,qaw,qaw,this];omega
  rintro e w5 ⟨rfl,hw5,hb5,-⟩;go_wp2_with fail
  refine(qeg _ _ _ _ hw5 ?_).mono ?_
  · have:=qet l
    rw[tA6,tA6,tA6,qaw,qaw,this,ht];omega
  rintro e w6 ⟨v,rfl,hown6,hb6⟩;have hsz:=hb5.size;have hsz2:w.heap.size≤w5.heap.size:=by have:=tr.lt;omega
  obtain⟨HO,HB⟩:=zh2 (qeq hown6 hsz2) ((B3.trans ((hbr.trans hb5).mono (by omega))).trans (hb6.mono hsz2));clear hown6 hb6 hb5 hw5 hwr hbr tr hrr c0 c1 hrg;go_wp2
  go_ret2
  exact⟨v,by rw[H.out];rfl,by rw[H.out];exact HO.out,HB.out⟩
end
end Go.Proofs.YthomgopipiomhaaGreatDoor

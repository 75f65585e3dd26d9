/- Lemmas. -/
import Derived.Test.YthomgopipiomhaaGreatDoorBML01
import Derived.Deep.DeepCutAuto
import Derived.Deep.CutBlock
import Derived.Stop.BytesEq
import Derived.Laws.CopyOwn
import Derived.ProofKit
import Derived.DataShut
import Derived.OpenShut
import Derived.ShutString
import Derived.Deep.SlicePairs
namespace Go.Proofs.YthomgopipiomhaaGreatDoor
open Go.RowKit
set_option linter.unusedVariables false
set_option linter.unusedSimpArgs false
set_option maxRecDepth 100000
set_option maxHeartbeats 32000000
variable {A:Option Addr}{v v0:Value}{B g n base' size fuel i p k m base:Nat}{w1 W w w' w0:World}{ys bs:List Nat}{Q:Exit→Act→World→Prop}{a:Act}{o:Oper}{K:Act→World→Prop}{xs cs:List Value}{P:Program}
structure Req where
 op:Int
 tid:Nat
 cavs:List (Int × Nat)
 tag:List Nat
 tree:Int
 tenant:Int
 role:Int
 state:Int
 weight:Int
 id:Nat
 lo:Nat
 hi:Nat
 rate:Nat
 burst:Nat
 store:Nat
 expires:Nat
 leaf:List Nat
structure Req.Good (R:Req):Prop where
 tag:R.tag.length=32
 tagb:∀b∈R.tag,b<256
 tid:R.tid<4294967296
 cavn:∀x∈R.cavs,x.2<4294967296
 cavk:∀x∈R.cavs,(Lit.int .i64 x.1).wf=true
 op:(Lit.int .i64 R.op).wf=true
 tree:(Lit.int .i64 R.tree).wf=true
 tenant:(Lit.int .i64 R.tenant).wf=true
 role:(Lit.int .i64 R.role).wf=true
 state:(Lit.int .i64 R.state).wf=true
 weight:(Lit.int .i64 R.weight).wf=true
 id:R.id<4294967296
 lo:R.lo<18446744073709551616
 hi:R.hi<18446744073709551616
 rate:R.rate<4294967296
 burst:R.burst<4294967296
 store:R.store<4294967296
 expires:R.expires<18446744073709551616
 leafb:∀b∈R.leaf,b<256
def Req.rest (R:Req)(leafv:Value):List Value:=
 [.int .i64 R.tree,.int .i64 R.tenant,.int .i64 R.role,.int .i64 R.state,.int .i64 R.weight,.int .u32 (R.id:Int),.int .u64 (R.lo:Int),.int .u64 (R.hi:Int),.int .u32 (R.rate:Int),.int .u32 (R.burst:Int),.int .u32 (R.store:Int),.int .u64 (R.expires:Int),leafv]
def reqv (R:Req)(cav leafv:Value):List Value:=(Value.int .i64 R.op::tokv R.tid cav R.tag)++R.rest leafv
theorem qdh(R:Req)(cav leafv:Value)(ht:R.tag.length=32)(k:Nat):(reqv R cav leafv)[35+k]? =(R.rest leafv)[k]? :=by
 have h:(Value.int .i64 R.op::tokv R.tid cav R.tag).length=35:=by rw[tBi,qdc _ _ _ ht]
 unfold reqv;rw[tBn zo,h];congr 1
 omega
abbrev Fld:=Nat × Nat × Nat
def qdi (op:Int):Bool:=decide (1≤op∧op≤9)
def fieldsOf (op:Int):Option (List Fld):=
 if op=1 then some [(1,1,35),(0,0,0)]
 else if op=2∨op=9 then some [(1,1,35)]
 else if op=3 then some [(1,1,35),(8,3,41)]
 else if op=4∨op=5 then some [(1,1,35),(8,3,41),(8,3,42)]
 else if op=6 then some [(1,1,35),(1,1,36),(1,1,39)]
 else if op=8 then some [(1,1,35),(1,1,39)]
 else if op=7 then some [(1,1,35),(1,1,38)]
 else if op=10 then some [(1,1,36),(1,1,37),(8,3,46)]
 else if op=11 then some [(4,2,40)]
 else if op=12 then some [(1,1,36),(4,2,43),(4,2,44),(4,2,45)]
 else none
def fldv (g:Nat)(f:Fld):List Value:=
 if f.2.1=1 then [.int .i64 (f.1:Int),.pointer (some ⟨g,f.2.2,none⟩),.pointer none,.pointer none]
 else if f.2.1=2 then [.int .i64 (f.1:Int),.pointer none,.pointer (some ⟨g,f.2.2,none⟩),.pointer none]
 else if f.2.1=3 then [.int .i64 (f.1:Int),.pointer none,.pointer none,.pointer (some ⟨g,f.2.2,none⟩)]
 else [.int .i64 (f.1:Int),.pointer none,.pointer none,.pointer none]
def qdj (g:Nat)(l:List Fld):List Value:=l.flatMap (fldv g)
theorem Tryz.fld_info:(Tryz.prog.info? 252).map (fun i=>(i.zero,i.size,i.bytes))=some (some (.agg #[.int .i64 0,.pointer none,.pointer none,.pointer none]),4,32):=by kernel_rfl
theorem qdk(op:Int)(w:World):
 Zc 133 #[.int .i64 op] w fun e w'=>e=.returned (.bool (qdi op))∧w=w':=by
 go_enter Tryz.func133,Tryz.ntmps133
 go_wp2
 all_goals
  go_ret
  exact⟨qd8 (by simp_all [qdi];try omega),rfl⟩
def Lst (w:World)(B L g:Nat)(l:List Fld):Prop:=∃v,Blk w L 244 #[v]∧B≤L∧w.ownsRow B 252 4 v l.length (qdj g l)
theorem qdl{L c:Nat}{l:List Fld}(hg:Blk w1 L 244 #[v])(hB:B≤L)(hn:l.length=n)(hown:w1.ownsRow B 252 4 (.slice A n c) n (qdj g l)):Lst (w1.setCell ⟨L,0,none⟩ (.slice A n c)) B L g l:=by
 subst hn;exact⟨.slice A l.length c,by simpa using hg.set_ 0 (.slice A l.length c),hB,qal hown (p:=⟨L,0,none⟩) (qa3 hown hg zdc) _⟩
theorem qdm(B L g off:Nat)(l:List Fld)(w:World)(h:Lst w B L g l)(hl:l.length≤100):
 Zc 194 #[.pointer (some ⟨g,off,none⟩),.pointer (some ⟨L,0,none⟩)] w fun e w'=>e=.returned (.tuple #[])∧Lst w' B L g (l++[(1,1,off)])∧Below B w w':=by
 obtain⟨i0,hi0,hz0,hz1,hz2⟩:=info_parts Tryz.fld_info;obtain⟨v,hL,hBL,hown⟩:=h;have hc:=hL.cell 0;have hf:=hL.frozen 0;simp at hc;have hlt:=hL.lt;go_enter Tryz.func194,Tryz.ntmps194
 go_wp2_with (at_builtin;refine qa7 _ rfl (.tmp 3) (.tmp 6) _ rfl B 252 i0 _ 4 32 Tryz.underlying244 hi0 hz0 hz1 hz2 rfl zo v l.length (qdj g l) rfl (hown.alloc _) (w.heap.size+1) _ 1 1 [.int .i64 1,.pointer (some ⟨g,off,none⟩),.pointer none,.pointer none] rfl (Reads.new w _ _ 4 1 rfl) (by simp[Value.oneCell']) (by simp only[maxLen];omega) zo (by simp;omega) ?_)
 intro v1 w1 hown1 hg1 hat1;have hgw:=(hL.alloc (.cells #[.int .i64 1,.pointer (some ⟨g,off,none⟩),.pointer none,.pointer none] 252)).grown hg1 (Ne.symm (qa3 hown hL zdc));have hb1:=qae ((tA5 B w).alloc zo (.cells #[.int .i64 1,.pointer (some ⟨g,off,none⟩),.pointer none,.pointer none] 252)) (hown.alloc _) hg1 (tA4 _) (by simp;omega);obtain⟨A1,c1,rfl,-,-,-⟩:=qaf hown1;have hc1:=hgw.cell 0;have hf1:=hgw.frozen 0;simp at hc1;obtain⟨HL,HB⟩:=zh2 (qdl hgw hBL (l:=l++[(1,1,off)]) (n:=l.length+1) zm (by simpa [qdj,fldv] using hown1)) (hb1.setCell (p:=⟨L,0,none⟩) hBL (.slice A1 (l.length+1) c1));clear hb1 hown1 hgw hat1 hg1 hown hL hc hf;go_wp2
 go_end0
 exact⟨rfl,HL.o,HB.o⟩
theorem qdn(B L g off:Nat)(l:List Fld)(w:World)(h:Lst w B L g l)(hl:l.length≤100):
 Zc 195 #[.pointer (some ⟨g,off,none⟩),.pointer (some ⟨L,0,none⟩)] w fun e w'=>e=.returned (.tuple #[])∧Lst w' B L g (l++[(4,2,off)])∧Below B w w':=by
 obtain⟨i0,hi0,hz0,hz1,hz2⟩:=info_parts Tryz.fld_info;obtain⟨v,hL,hBL,hown⟩:=h;have hc:=hL.cell 0;have hf:=hL.frozen 0;simp at hc;have hlt:=hL.lt;go_enter Tryz.func195,Tryz.ntmps195
 go_wp2_with (at_builtin;refine qa7 _ rfl (.tmp 3) (.tmp 6) _ rfl B 252 i0 _ 4 32 Tryz.underlying244 hi0 hz0 hz1 hz2 rfl zo v l.length (qdj g l) rfl (hown.alloc _) (w.heap.size+1) _ 1 1 [.int .i64 4,.pointer none,.pointer (some ⟨g,off,none⟩),.pointer none] rfl (Reads.new w _ _ 4 1 rfl) (by simp[Value.oneCell']) (by simp only[maxLen];omega) zo (by simp;omega) ?_)
 intro v1 w1 hown1 hg1 hat1;have hgw:=(hL.alloc (.cells #[.int .i64 4,.pointer none,.pointer (some ⟨g,off,none⟩),.pointer none] 252)).grown hg1 (Ne.symm (qa3 hown hL zdc));have hb1:=qae ((tA5 B w).alloc zo (.cells #[.int .i64 4,.pointer none,.pointer (some ⟨g,off,none⟩),.pointer none] 252)) (hown.alloc _) hg1 (tA4 _) (by simp;omega);obtain⟨A1,c1,rfl,-,-,-⟩:=qaf hown1;have hc1:=hgw.cell 0;have hf1:=hgw.frozen 0;simp at hc1;obtain⟨HL,HB⟩:=zh2 (qdl hgw hBL (l:=l++[(4,2,off)]) (n:=l.length+1) zm (by simpa [qdj,fldv] using hown1)) (hb1.setCell (p:=⟨L,0,none⟩) hBL (.slice A1 (l.length+1) c1));clear hb1 hown1 hgw hat1 hg1 hown hL hc hf;go_wp2
 go_end0
 exact⟨rfl,HL.o,HB.o⟩
theorem qdo(B L g off:Nat)(l:List Fld)(w:World)(h:Lst w B L g l)(hl:l.length≤100):
 Zc 196 #[.pointer (some ⟨g,off,none⟩),.pointer (some ⟨L,0,none⟩)] w fun e w'=>e=.returned (.tuple #[])∧Lst w' B L g (l++[(8,3,off)])∧Below B w w':=by
 obtain⟨i0,hi0,hz0,hz1,hz2⟩:=info_parts Tryz.fld_info;obtain⟨v,hL,hBL,hown⟩:=h;have hc:=hL.cell 0;have hf:=hL.frozen 0;simp at hc;have hlt:=hL.lt;go_enter Tryz.func196,Tryz.ntmps196
 go_wp2_with (at_builtin;refine qa7 _ rfl (.tmp 3) (.tmp 6) _ rfl B 252 i0 _ 4 32 Tryz.underlying244 hi0 hz0 hz1 hz2 rfl zo v l.length (qdj g l) rfl (hown.alloc _) (w.heap.size+1) _ 1 1 [.int .i64 8,.pointer none,.pointer none,.pointer (some ⟨g,off,none⟩)] rfl (Reads.new w _ _ 4 1 rfl) (by simp[Value.oneCell']) (by simp only[maxLen];omega) zo (by simp;omega) ?_)
 intro v1 w1 hown1 hg1 hat1;have hgw:=(hL.alloc (.cells #[.int .i64 8,.pointer none,.pointer none,.pointer (some ⟨g,off,none⟩)] 252)).grown hg1 (Ne.symm (qa3 hown hL zdc));have hb1:=qae ((tA5 B w).alloc zo (.cells #[.int .i64 8,.pointer none,.pointer none,.pointer (some ⟨g,off,none⟩)] 252)) (hown.alloc _) hg1 (tA4 _) (by simp;omega);obtain⟨A1,c1,rfl,-,-,-⟩:=qaf hown1;have hc1:=hgw.cell 0;have hf1:=hgw.frozen 0;simp at hc1;obtain⟨HL,HB⟩:=zh2 (qdl hgw hBL (l:=l++[(8,3,off)]) (n:=l.length+1) zm (by simpa [qdj,fldv] using hown1)) (hb1.setCell (p:=⟨L,0,none⟩) hBL (.slice A1 (l.length+1) c1));clear hb1 hown1 hgw hat1 hg1 hown hL hc hf;go_wp2
 go_end0
 exact⟨rfl,HL.o,HB.o⟩
def Gat (W w:World)(g:Nat)(D:Array Value)(l:List Fld):Prop:=g<W.heap.size∧Blk w g 34 D∧Lst w W.heap.size W.heap.size g l∧Zb W w
theorem qdp(W:World)(g:Nat)(D:Array Value)(off:Nat)(l:List Fld)(w:World)(h:Gat W w g D l)(hl:l.length≤100):
 Zc 194 #[.pointer (some ⟨g,off,none⟩),.pointer (some ⟨W.heap.size,0,none⟩)] w fun e w'=>e=.returned (.tuple #[])∧Gat W w' g D (l++[(1,1,off)]):=by
 refine(qdm _ _ _ off l w h.2.2.1 hl).mono ?_;rintro e w' ⟨rfl,h1,h2⟩;exact⟨rfl,h.1,h.2.1.below h2 h.1,h1,h.2.2.2.trans h2⟩
theorem qdq(W:World)(g:Nat)(D:Array Value)(off:Nat)(l:List Fld)(w:World)(h:Gat W w g D l)(hl:l.length≤100):
 Zc 195 #[.pointer (some ⟨g,off,none⟩),.pointer (some ⟨W.heap.size,0,none⟩)] w fun e w'=>e=.returned (.tuple #[])∧Gat W w' g D (l++[(4,2,off)]):=by
 refine(qdn _ _ _ off l w h.2.2.1 hl).mono ?_;rintro e w' ⟨rfl,h1,h2⟩;exact⟨rfl,h.1,h.2.1.below h2 h.1,h1,h.2.2.2.trans h2⟩
theorem qdr(W:World)(g:Nat)(D:Array Value)(off:Nat)(l:List Fld)(w:World)(h:Gat W w g D l)(hl:l.length≤100):
 Zc 196 #[.pointer (some ⟨g,off,none⟩),.pointer (some ⟨W.heap.size,0,none⟩)] w fun e w'=>e=.returned (.tuple #[])∧Gat W w' g D (l++[(8,3,off)]):=by
 refine(qdo _ _ _ off l w h.2.2.1 hl).mono ?_;rintro e w' ⟨rfl,h1,h2⟩;exact⟨rfl,h.1,h.2.1.below h2 h.1,h1,h.2.2.2.trans h2⟩
theorem qds(w:World)(g:Nat)(D:Array Value)(hg:Blk w g 34 D):Gat w (w.alloc (.cells #[.slice none 0 0] 244)) g D []:=
 ⟨hg.lt,hg.alloc _,⟨_,Blk.new _ _ _,tA4 _,World.ownsRow_nil ..⟩,(tA5 _ _).alloc (tA4 _) _⟩
theorem qdt{D:Array Value}{l:List Fld}(h:Gat W w g D l)(h0:D[0]? =some v):w.cell? ⟨g,0,none⟩=some v:=(h.2.1.cell 0).trans h0
theorem qdu{D:Array Value}{l:List Fld}(h:Gat W w g D l):∃v,w.cell? ⟨W.heap.size,0,none⟩=some v∧w.ownsRow W.heap.size 252 4 v l.length (qdj g l)∧Zb W w:=by
 obtain⟨-,-,⟨v,hb,-,ho⟩,hbl⟩:=h;exact⟨v,by simpa using hb.cell 0,ho,hbl⟩
theorem qdv{f:FuncId}{args:Array Value}{D:Array Value}{l':List Fld}{K:Ending→World→Prop}(h0:D[0]? =some v0)(hc:Zc f args w fun e w'=>e=.returned (.tuple #[])∧Gat W w' g D l')
 (k:∀w1,Hid (Gat W w1 g D l')→w1.cell? ⟨g,0,none⟩=some v0→K (.returned (.tuple #[])) w1):Zc f args w K:=by
 refine zcb hc fun w1 hG=>?_
 exact k w1 hG (qdt hG h0)
theorem qdw{f:FuncId}{args:Array Value}{D:Array Value}{l':List Fld}{K:Ending→World→Prop}(h0:D[0]? =some v0)(hc:Zc f args w fun e w'=>e=.returned (.tuple #[])∧Gat W w' g D l')
 (k:∀w1 v,w1.cell? ⟨g,0,none⟩=some v0→w1.cell? ⟨W.heap.size,0,none⟩=some v→Hid (w1.ownsRow W.heap.size 252 4 v l'.length (qdj g l'))→Hid (Zb W w1)→K (.returned (.tuple #[])) w1:=by
  (intro w1 v hc hv HO HB
   go_wp2
   go_ret2
   exact⟨v,rfl,HO.o,HB.o⟩)):Zc f args w K:=by
 refine zcb hc fun w1 hG=>?_
 obtain⟨v,hv,ho,hb⟩:=qdu hG;exact k w1 v (qdt hG h0) hv ho hb
theorem qdx(g:Nat)(D:Array Value)(op:Int)(w:World)(hg:Blk w g 34 D)(h0:D[0]? =some (.int .i64 op)):
 Zc 152 #[.pointer (some ⟨g,0,none⟩)] w fun e w'=>∃v,e=.returned (.tuple #[v,.bool (fieldsOf op).isSome])∧w'.ownsRow w.heap.size 252 4 v ((fieldsOf op).getD []).length (qdj g ((fieldsOf op).getD []))∧Zb w w':=by
 have hmf:=zmf;have HG:=zh1 (qds w g D hg);have hc:=qdt HG.o h0;go_enter Tryz.func152,Tryz.ntmps152
 go_wp2_with fail
 refine(qdk _ _).mono ?_;rintro e w1 ⟨rfl,rfl⟩;go_upto_if 15 with(fail)
 go_cut [] (fun wx=>Hid (Gat w wx g D (if qdi op then [(1,1,35)] else [])))
 case first=>
  cases hb:qdi op with
  |false=>
   have HX:=zh1 hb;clear hb;go_wp2
   go_meet
   case rel=>rw[HX.o];exact HG
  |true=>
   have HX:=zh1 hb;clear hb;go_wp2_with fail
   refine qdv h0 (qdp _ _ _ _ _ _ HG.o (by first|(simp;done)|(split<;>simp))) fun w1 HG hc=>?_
   go_wp2
   go_meet
   case rel=>rw[HX.o];exact HG
 case rest=>
  have HG:=hcut;clear hc;have hc:=qdt HG.o h0;by_cases hn:1≤op∧op≤12
  ·
   have h12:op=1∨(op=2∨op=9)∨op=3∨(op=4∨op=5)∨op=6∨op=7∨op=8∨op=10∨op=11∨op=12:=zo;clear hn;rcases h12 with rfl|h29|rfl|h45|rfl|rfl|rfl|rfl|rfl|rfl
   ·
    have hG1:Gat w wc g D [(1,1,35)]:=HG.o;clear HG;obtain⟨i0,hi0,hz0,hz1,hz2⟩:=info_parts Tryz.fld_info;obtain⟨hgs,-,⟨v,hL,hBL,hown⟩,hB⟩:=hG1;have hcL:=hL.cell 0;have hfL:=hL.frozen 0;simp at hcL;have hlt:=hL.lt;go_wp2_with (at_builtin;refine qa7 _ rfl (.tmp 47) (.tmp 49) _ rfl w.heap.size 252 i0 _ 4 32 Tryz.underlying244 hi0 hz0 hz1 hz2 rfl zo v 1 (qdj g [(1,1,35)]) rfl (hown.alloc _) (wc.heap.size+1) _ 1 1 [.int .i64 0,.pointer none,.pointer none,.pointer none] rfl (Reads.new wc _ _ 4 1 rfl) (by simp[Value.oneCell']) (by simp only[maxLen];omega) zo (by simp;omega) ?_)
    intro v1 w2 hown1 hg1 hat1;have hgw:=(hL.alloc (.cells #[.int .i64 0,.pointer none,.pointer none,.pointer none] 252)).grown hg1 (Ne.symm (qa3 hown hL zdc));have hb1:=qae (hB.alloc zo (.cells #[.int .i64 0,.pointer none,.pointer none,.pointer none] 252)) (hown.alloc _) hg1 (tA4 _) (by simp;omega);obtain⟨A1,c1,rfl,-,-,-⟩:=qaf hown1;have hc1:=hgw.cell 0;have hf1:=hgw.frozen 0;simp at hc1;obtain⟨HL,HB⟩:=zh2 (qdl hgw hBL (l:=[(1,1,35),(0,0,0)]) (n:=2) rfl (by simpa [qdj,fldv] using hown1)) (hb1.setCell (p:=⟨w.heap.size,0,none⟩) hBL (.slice A1 2 c1));clear hb1 hown1 hgw hat1 hg1 hown hL hcL hfL;obtain⟨x,hx,-,ho⟩:=HL.o;have h2:(w2.setCell ⟨w.heap.size,0,none⟩ (Value.slice A1 2 c1)).cell? ⟨w.heap.size,0,none⟩=some (Value.slice A1 2 c1):=World.cell?_setCell_same _ _ _ hc1;have hxe:x=Value.slice A1 2 c1:=by
     have h1:=hx.cell 0;rw[h2]at h1;simpa using h1.symm
    subst hxe;have HO:=zh1 ho;clear ho hx HL;go_wp2
    go_ret2
    exact⟨_,rfl,HO.o,HB.o⟩
   ·
    obtain⟨v,hv,ho,hb⟩:=qdu HG.o;obtain⟨HO,HB⟩:=zh2 ho hb;clear ho hb;rcases h29 with rfl|rfl;all_goals
     go_wp2
     go_ret2
     exact⟨v,rfl,HO.o,HB.o⟩
   · go_wp2_with fail
     exact qdw h0 (qdr _ _ _ _ _ _ HG.o (by first|(simp;done)|(split<;>simp)))
   · rcases h45 with rfl|rfl
     all_goals
      go_wp2_with fail
      refine qdv h0 (qdr _ _ _ _ _ _ HG.o (by first|(simp;done)|(split<;>simp))) fun w1 HG hc=>?_
      go_wp2_with fail
      exact qdw h0 (qdr _ _ _ _ _ _ HG.o (by first|(simp;done)|(split<;>simp)))
   · go_wp2_with fail
     refine qdv h0 (qdp _ _ _ _ _ _ HG.o (by first|(simp;done)|(split<;>simp))) fun w1 HG hc=>?_
     go_wp2_with fail
     exact qdw h0 (qdp _ _ _ _ _ _ HG.o (by first|(simp;done)|(split<;>simp)))
   · go_wp2_with fail
     exact qdw h0 (qdp _ _ _ _ _ _ HG.o (by first|(simp;done)|(split<;>simp)))
   · go_wp2_with fail
     exact qdw h0 (qdp _ _ _ _ _ _ HG.o (by first|(simp;done)|(split<;>simp)))
   · go_wp2_with fail
     refine qdv h0 (qdp _ _ _ _ _ _ HG.o (by first|(simp;done)|(split<;>simp))) fun w1 HG hc=>?_
     go_wp2_with fail
     refine qdv h0 (qdp _ _ _ _ _ _ HG.o (by first|(simp;done)|(split<;>simp))) fun w1 HG hc=>?_
     go_wp2_with fail
     exact qdw h0 (qdr _ _ _ _ _ _ HG.o (by first|(simp;done)|(split<;>simp)))
   · go_wp2_with fail
     exact qdw h0 (qdq _ _ _ _ _ _ HG.o (by first|(simp;done)|(split<;>simp)))
   go_wp2_with fail
   refine qdv h0 (qdp _ _ _ _ _ _ HG.o (by first|(simp;done)|(split<;>simp))) fun w1 HG hc=>?_
   go_wp2_with fail
   refine qdv h0 (qdq _ _ _ _ _ _ HG.o (by first|(simp;done)|(split<;>simp))) fun w1 HG hc=>?_
   go_wp2_with fail
   refine qdv h0 (qdq _ _ _ _ _ _ HG.o (by first|(simp;done)|(split<;>simp))) fun w1 HG hc=>?_
   go_wp2_with fail
   exact qdw h0 (qdq _ _ _ _ _ _ HG.o (by first|(simp;done)|(split<;>simp)))
  have hN:=zh1 (show fieldsOf op=none by
   unfold fieldsOf;repeat' rw[if_neg zo])
  have hb:=zh1 HG.o.2.2.2;have q1:¬op=1:=zo;have q2:¬op=2:=zo;have q3:¬op=3:=zo;have q4:¬op=4:=zo;have q5:¬op=5:=zo;have q6:¬op=6:=zo;have q7:¬op=7:=zo;have q8:¬op=8:=zo;have q9:¬op=9:=zo;have q10:¬op=10:=zo;have q11:¬op=11:=zo;have q12:¬op=12:=zo;clear hn;go_wp2
  go_ret2
  exact⟨_,by rw[hN.o];rfl,by rw[hN.o];exact World.ownsRow_nil ..,hb.o⟩
theorem Tryz.u8_info:(Tryz.prog.info? 5).map (fun i=>(i.zero,i.size,i.bytes))=some (some (.int .u8 0),1,1):=by kernel_rfl
theorem Tryz.dig_info:(Tryz.prog.info? 29).map (·.size)=some 32:=by kernel_rfl
def OwnB (w:World)(base:Nat)(v:Value)(bs:List Nat):Prop:=w.ownsRow base 5 1 v bs.length (byv bs)
section
variable {w w' : World} {base : Nat} {v : Value} {bs : List Nat}
theorem OwnB.of(h:w.ownsRow base 5 1 v bs.length (byv bs)):OwnB w base v bs:=h
theorem OwnB.nil(w:World)(base:Nat):OwnB w base (.slice none 0 0) []:=World.ownsRow_nil ..
theorem OwnB.slice(h:OwnB w base v bs):∃A c,v=.slice A bs.length c∧bs.length≤c∧c≤maxLen∧Reads w w.heap.size 1 A bs.length (byv bs):=qaf h
theorem OwnB.sl(h:OwnB w base v bs):∃A n c,v=.slice A n c∧n≤c∧c≤maxLen∧Reads w w.heap.size 1 A n (byv bs):=by
 obtain⟨A,c,h1,h2,h3,h4⟩:=h.slice;exact⟨A,_,c,h1,h2,h3,h4⟩
theorem OwnB.kept(h:OwnB w base v bs)(hb:Zb w w'):OwnB w' base v bs:=
 tB3 h ⟨hb.os,hb.tape,hb.output,hb.size,fun k hk _=>hb.block k hk⟩ (row:=none) (by cases v.ownBlock<;>simp)
theorem OwnB.cast(h:OwnB w base v bs)(e:ys=bs):OwnB w base v ys:=e▸h
theorem OwnB.alloc(h:OwnB w base v bs)(o:Obj):OwnB (w.alloc o) base v bs:=h.kept ((tA5 _ _).alloc (tA4 _) o)
theorem OwnB.drew(h:OwnB w base v bs):OwnB w.drew base v bs:=h.kept ((tA5 _ _).drew)
theorem OwnB.mono(h:OwnB w base v bs)(hb:base'≤base):OwnB w base' v bs:=by
 refine⟨h.1,?_⟩;rcases h.2 with h|⟨g,cap,cur,hv,hg,rest⟩
 · exact .inl h
 exact .inr ⟨g,cap,cur,hv,tB1 hb hg,rest⟩
theorem OwnB.made(w:World)(l:List Nat)(hc:l.length≤maxLen):OwnB (w.alloc (.cells (byv l).toArray 5)) w.heap.size (.slice (some ⟨w.heap.size,0,none⟩) l.length l.length) l:=by
 exact World.ownsRow_lit (size:=1) (e:=5) w (byv l).toArray l.length (tA4 _) hc (by simp[qat])
theorem OwnB.far(h:OwnB w base v bs){p:Addr}(hp:v.ownBlock≠some p.block)(u:Value):OwnB (w.setCell p u) base v bs:=qal h hp u
theorem OwnB.blk_ne{t:TypeId}{cs:Array Value}(h:OwnB w base v bs)(hg:Blk w g t cs)(hne:5≠t):v.ownBlock≠some g:=qa3 h hg hne
end
theorem qdy{ops:Array Oper}{rest:List Oper}(hgd:o.guard=none)(s x:Operand)
 (ho:o.op=.call {callee:=.builtin .append,args:=#[s,x],argTypes:=#[23,23]})
 (base:Nat)(v:Value)(bs:List Nat)(hs:a.eval s=v)(hown:OwnB w base v bs)(A:Option Addr)(m c:Nat)(news:List Nat)(hx:a.eval x=.slice A m c)(hr:Reads w w.heap.size 1 A m (byv news))
 (hlen:bs.length+m≤140737488355328)(hbase:base≤w.heap.size)
 (h:∀v' w',OwnB w' base v' (bs++news)→Below base w w'→w.grownBy w' v.ownBlock→wpList Tryz.prog ops Q rest (a.put o.dst v') w'):wpList Tryz.prog ops Q (o::rest) a w:=by
 obtain⟨i0,hi0,hz0,hz1,hz2⟩:=info_parts Tryz.u8_info;have hm:=qb4 hr;refine qa7 (P:=Tryz.prog) w hgd s x _ ho base 5 i0 _ 1 1 Tryz.underlying23 hi0 hz0 hz1 hz2 rfl zo v bs.length (byv bs) hs hown w.heap.size A m c (byv news) hx hr (qau _) (by simp only[maxLen];omega) zo hbase ?_;intro v' w' h1 h2 h3;refine h v' w' ?_ ?_ h2
 · unfold OwnB
   rw[qas,tA6,hm];exact h1
 exact qae (tA5 _ _) hown h2 (tA4 _) hbase
theorem qdz(s x:Operand)
 (ho:o.op=.call {callee:=.builtin .append,args:=#[s,x],argTypes:=#[23,23]})
 (base:Nat)(v:Value)(bs:List Nat)(hs:a.eval s=v)(hown:OwnB w base v bs)(A:Option Addr)(m c:Nat)(news:List Nat)(hx:a.eval x=.slice A m c)(hr:Reads w w.heap.size 1 A m (byv news))
 (hlen:bs.length+m≤140737488355328)(hbase:base≤w.heap.size)
 (h:∀v' w',OwnB w' base v' (bs++news)→Below base w w'→w.grownBy w' v.ownBlock→K (a.put o.dst v') w'):o.wp Tryz.prog a w K Q:=by
 obtain⟨i0,hi0,hz0,hz1,hz2⟩:=info_parts Tryz.u8_info;have hm:=qb4 hr;refine qa6 (P:=Tryz.prog) w s x _ ho base 5 i0 _ 1 1 Tryz.underlying23 hi0 hz0 hz1 hz2 rfl zo v bs.length (byv bs) hs hown w.heap.size A m c (byv news) hx hr (qau _) (by simp only[maxLen];omega) zo hbase ?_;intro v' w' h1 h2 h3;refine h v' w' ?_ ?_ h2
 · unfold OwnB
   rw[qas,tA6,hm];exact h1
 exact qae (tA5 _ _) hown h2 (tA4 _) hbase
theorem qe1(w:World):w.drew.heap.size=w.heap.size:=rfl
theorem Reads.drewS(h:Reads w w.heap.size size A n xs):Reads w.drew w.drew.heap.size size A n xs:=h
theorem qe2(h:Below w.drew.heap.size w.drew w'):Zb w w':=⟨h.os,h.tape,h.output,h.size,h.block⟩
theorem qe3(w:World)(b:Nat):Reads (w.alloc (.cells #[.int .u8 (b:Int)] 5)) (w.alloc (.cells #[.int .u8 (b:Int)] 5)).heap.size 1 (some ⟨w.heap.size,0,none⟩) 1 (byv [b]):=by
 have:=Reads.new1 w 5 (.int .u8 (b:Int));simpa [byv] using this
theorem qe4(w:World)(l:List Nat)(g:Nat)(hg:g=w.heap.size)(m:Nat)(hm:m=l.length):Reads (w.alloc (.cells (byv l).toArray 5)) (w.alloc (.cells (byv l).toArray 5)).heap.size 1 (some ⟨g,0,none⟩) m (byv l):=by
 subst hg hm;have:=Reads.new w 5 (byv l) 1 l.length (by rw[qat,Nat.mul_one]);rwa[show (w.alloc (.cells (byv l).toArray 5)).heap.size=w.heap.size+1 from by simp]
theorem Reads.call(h:Reads w w.heap.size size A n xs)(hb:Zb w w'):Reads w' w'.heap.size size A n xs:=(h.below hb).more hb.size
theorem Reads.laid(h:Reads w w.heap.size size A n xs)(o:Obj):Reads (w.alloc o) (w.alloc o).heap.size size A n xs:=h.call ((tA5 _ _).alloc (tA4 _) o)
def bstr (bs:List Nat):ByteArray:=strOfNums (bs.map fun b:Nat=>(b:Int))
theorem qe5{a b:List Nat}(ha:∀x∈a,x<256)(hb:∀x∈b,x<256):bstr a=bstr b ↔ a=b:=by
 constructor
 ·
  intro h;unfold bstr strOfNums at h;injection h with h;injection h with h;rw[List.map_map,List.map_map]at h;have key:∀(a b:List Nat),(∀x∈a,x<256)→(∀x∈b,x<256)→a.map ((fun n:Int=>UInt8.ofNat n.toNat) ∘ fun b:Nat=>(b:Int))=b.map ((fun n:Int=>UInt8.ofNat n.toNat) ∘ fun b:Nat=>(b:Int))→a=b:=by
   intro a;induction a with
   |nil=>intro b _ _ h;simpa using h.symm
   |cons x a ih=>
    intro b ha hb h;cases b with
    |nil=>simp at h
    |cons y b=>
     simp only[List.map_cons,List.cons.injEq,Function.comp,tBe]at h;have h1:=congrArg UInt8.toNat h.1;have hx:=ha x zm;have hy:=hb y zm;simp[UInt8.toNat_ofNat,Nat.mod_eq_of_lt hx,Nat.mod_eq_of_lt hy]at h1;rw[h1,ih b (fun z hz=>ha z (by simp[hz])) (fun z hz=>hb z (by simp[hz])) h.2]
  exact key a b ha hb h
 rintro rfl;rfl
theorem qe6{c:Nat}(hr:Reads w B 1 A n (byv bs)):
 (convert 23 9 (.slice A n c)).run Tryz.prog w=.ok (.string (bstr bs)) w:=by
 have hln:=qb4 hr;subst hln;cases A with
 |none=>
  have:bs=[]:=by
   cases bs with
   |nil=>rfl
   |cons x l=>
    obtain⟨ad,e,-⟩:=hr.2 zm;cases e
  subst this;exact run_convert_bytes_nil w _ _ Tryz.underlying23 Tryz.underlying5 _ _ _ Tryz.underlying9
 |some ad=>
  cases bs with
  |nil=>
   obtain⟨b,o,s⟩:=ad;rw[run_convert_bytes_string w _ _ _ _ _ c Tryz.underlying23 Tryz.underlying5 Tryz.underlying9,run_bytesToString w _ _ _ [] (by simp[loadCells];rfl)];rfl
  |cons x l=>
   obtain⟨b,o,e,hb,hc⟩:=hr.mid zm zo;injection e with e;subst e;refine run_convert_bytes_arg w _ _ Tryz.underlying23 Tryz.underlying5 b o _ _ ((x::l).map fun b:Nat=>(b:Int)) zm (fun i hi=>?_) _ Tryz.underlying9;refine hc i _ ?_;unfold byv;rw[tBj,tB4,tBj,tA7 hi];rfl
section
open Go.Extern.Stop (cell)
theorem Tryz.tok_info:(Tryz.prog.info? 31).map (·.size)=some 34:=by kernel_rfl
theorem qe7(id:Nat)(l:List (Int × Nat))(tag:List Nat)(ht:tag.length=32):(qd7 id l tag).2.length≤60:=by
 unfold qd7;split
 · simp
 split
 · have:=qde l
   simp only[tA6,qaw];omega
 simp
theorem Tryz.cav_info:(Tryz.prog.info? 132).map (fun i=>(i.zero,i.size,i.bytes))=some (some (.agg #[.int .i64 0,.int .u32 0]),2,16):=by kernel_rfl
def OwnC (w:World)(base:Nat)(v:Value)(l:List (Int × Nat)):Prop:=w.ownsRow base 132 2 v l.length (cavv l)
theorem qe8(l:List (Int × Nat)):∀u∈cavv l,u.oneCell'=true:=by
 intro u hu;unfold cavv at hu;obtain⟨x,_,hx⟩:=List.mem_flatMap.1 hu;simp at hx;rcases hx with rfl|rfl<;>rfl
theorem qe9(a b:List (Int × Nat)):cavv (a++b)=cavv a++cavv b:=by simp[cavv]
theorem qea(l:List (Int × Nat)):(cavv l).length=l.length*2:=by
 unfold cavv;induction l with
 |nil=>rfl
 |cons y l ih=>simp only[List.flatMap_cons,tA6,ih,tBi];simp;omega
section
variable {w w' : World} {base : Nat} {v : Value} {l : List (Int × Nat)}
theorem OwnC.nil(w:World)(base:Nat):OwnC w base (.slice none 0 0) []:=World.ownsRow_nil ..
theorem OwnC.sl(h:OwnC w base v l):∃A n c,v=.slice A n c∧n=l.length∧n≤c∧c≤maxLen∧Reads w w.heap.size 2 A n (cavv l):=by
 obtain⟨A,c,h1,h2,h3,h4⟩:=qaf h;exact⟨A,_,c,h1,rfl,h2,h3,h4⟩
theorem OwnC.kept(h:OwnC w base v l)(hb:Zb w w'):OwnC w' base v l:=
 tB3 h ⟨hb.os,hb.tape,hb.output,hb.size,fun k hk _=>hb.block k hk⟩ (row:=none) (by cases v.ownBlock<;>simp)
theorem OwnC.alloc(h:OwnC w base v l)(o:Obj):OwnC (w.alloc o) base v l:=h.kept ((tA5 _ _).alloc (tA4 _) o)
theorem OwnC.mono(h:OwnC w base v l)(hb:base'≤base):OwnC w base' v l:=qdb h hb
theorem OwnC.made(w:World)(l:List (Int × Nat))(hc:l.length≤maxLen):OwnC (w.alloc (.cells (cavv l).toArray 132)) w.heap.size (.slice (some ⟨w.heap.size,0,none⟩) l.length l.length) l:=by
 exact World.ownsRow_lit (size:=2) (e:=132) w (cavv l).toArray l.length (tA4 _) hc (by simp[qea])
end
theorem qeb{ops:Array Oper}{rest:List Oper}(hgd:o.guard=none)(s x:Operand)
 (ho:o.op=.call {callee:=.builtin .append,args:=#[s,x],argTypes:=#[27,27]})
 (base:Nat)(v:Value)(l:List (Int × Nat))(hs:a.eval s=v)(hown:OwnC w base v l)(A:Option Addr)(m c:Nat)(news:List (Int × Nat))(hx:a.eval x=.slice A m c)(hr:Reads w w.heap.size 2 A m (cavv news))
 (hlen:l.length+m≤8796093022208)(hbase:base≤w.heap.size)
 (h:∀v' w',OwnC w' base v' (l++news)→Below base w w'→w.grownBy w' v.ownBlock→wpList Tryz.prog ops Q rest (a.put o.dst v') w'):wpList Tryz.prog ops Q (o::rest) a w:=by
 obtain⟨i0,hi0,hz0,hz1,hz2⟩:=info_parts Tryz.cav_info;have hm:news.length=m:=by have:=hr.1;rw[qea]at this;omega
 refine qa7 (P:=Tryz.prog) w hgd s x _ ho base 132 i0 _ 2 16 Tryz.underlying27 hi0 hz0 hz1 hz2 rfl zo v l.length (cavv l) hs hown w.heap.size A m c (cavv news) hx hr (qe8 _) (by simp only[maxLen];omega) zo hbase ?_;intro v' w' h1 h2 h3;refine h v' w' ?_ ?_ h2
 · unfold OwnC
   rw[qe9,tA6,hm];exact h1
 exact qae (tA5 _ _) hown h2 (tA4 _) hbase
theorem qec(w:World)(a b:List Nat)(ha:a.length=32)(hb:b.length=32)(ha':∀x∈a,x<256)(hb':∀x∈b,x<256):
 (binOp .eql 29 (.agg (byv a).toArray) (.agg (byv b).toArray)).run Tryz.prog w=.ok (.bool (a==b)) w:=by
 have e:∀l:List Nat,(∀x∈l,x<256)→byv l=(l.map UInt8.ofNat).map cell:=by
  intro l hl;unfold byv;rw[List.map_map];refine List.map_congr_left fun x hx=>?_
  have:=hl x hx;simp[cell,Function.comp,UInt8.toNat_ofNat,Nat.mod_eq_of_lt this]
 rw[e a ha',e b hb',run_eql_bytes w 29 5 32 Tryz.underlying29 Tryz.underlying5 (fun _=>by kernel_rfl) _ _ (by simpa using ha) (by simpa using hb)];congr 2
 rw[Bool.eq_iff_iff];simp only[beq_iff_eq];constructor
 ·
  intro h;have key:∀(a b:List Nat),(∀x∈a,x<256)→(∀x∈b,x<256)→a.map UInt8.ofNat=b.map UInt8.ofNat→a=b:=by
   intro a;induction a with
   |nil=>intro b _ _ h;simpa using h.symm
   |cons x a ih=>
    intro b ha hb h;cases b with
    |nil=>simp at h
    |cons y b=>
     simp only[List.map_cons,List.cons.injEq]at h;have h1:=congrArg UInt8.toNat h.1;have hx:=ha x zm;have hy:=hb y zm;simp[UInt8.toNat_ofNat,Nat.mod_eq_of_lt hx,Nat.mod_eq_of_lt hy]at h1;rw[h1,ih b (fun z hz=>ha z (by simp[hz])) (fun z hz=>hb z (by simp[hz])) h.2]
  exact key a b ha' hb' h
 rintro rfl;rfl
theorem qed(id:Nat)(s:Value)(hs:s.oneCell'=true)(tag:List Nat):∀u∈tokv id s tag,u.oneCell'=true:=by
 intro u hu;unfold tokv at hu;simp only[List.mem_cons]at hu;rcases hu with rfl|rfl|hu
 · rfl
 · exact hs
 exact qau _ u hu
theorem qee(id:Nat)(l:List (Int × Nat))(A:Option Addr)(n c:Nat)(tag:List Nat)(w:World)(hr:Reads w w.heap.size 2 A n (cavv l))(hn:n≤8796093022208)(ht:tag.length=32):
 Zc 156 #[.agg (tokv id (.slice A n c) tag).toArray] w fun e w'=>∃v,e=.returned (.agg (tokv id v tag).toArray)∧OwnC w' w.heap.size v l∧Zb w w':=by
 have hlen:=qdc id (.slice A n c) tag ht;have h1:(tokv id (.slice A n c) tag)[1]? =some (.slice A n c):=rfl;have hset:∀v,(tokv id (.slice A n c) tag).toArray.setIfInBounds 1 v=(tokv id v tag).toArray:=fun v=>by simp[tokv]
 obtain⟨L,hL⟩:=xeq (tokv id (.slice A n c) tag);rw[hL]at hlen h1 hset ⊢;obtain⟨HS,H1,A0⟩:=zh3 hset h1 hlen;clear hL hset h1 hlen;have t0:Blk (w.alloc (.cells L.toArray 31)) w.heap.size 31 L.toArray:=Blk.new w _ _;have hl1:(((w.alloc (.cells L.toArray 31)).alloc (.cells zLT 31)).alloc (.cells #[] 132)).heap.size=w.heap.size+3:=by simp
 have hr3:=((hr.laid (.cells L.toArray 31)).laid (.cells zLT 31)).laid (.cells #[] 132);have t3:=(t0.alloc (.cells zLT 31)).alloc (.cells #[] 132);have z3:=(Blk.new (w.alloc (.cells L.toArray 31)) 31 zLT).alloc (.cells #[] 132);rw[qar]at z3;have c1:=(t3.cell 1).trans (show L.toArray[1]? =some (.slice A n c) by simpa using H1.o);have hown0:OwnC (((w.alloc (.cells L.toArray 31)).alloc (.cells zLT 31)).alloc (.cells #[] 132)) (w.heap.size+2) (.slice (some ⟨w.heap.size+2,0,none⟩) 0 0) []:=by
  have:=OwnC.made ((w.alloc (.cells L.toArray 31)).alloc (.cells zLT 31)) [] (by simp[maxLen]);simp only[qar]at this;exact this
 go_enter Tryz.func156,Tryz.ntmps156
 go_wp2_with (at_builtin;refine qeb rfl _ _ rfl (w.heap.size+2) _ [] rfl hown0 A n c l rfl hr3 (by simp;omega) (by rw[hl1];omega) ?_)
 intro v1 w1 hown1 hb1 hg1;have B1:Zb w w1:=(qah (qah (qah (tA5 _ _) _) _) _).trans (hb1.mono zo);have t1:=t3.below hb1 zo;have z1:=z3.below hb1 zo;clear hr hr3 t3 z3 hown0 hl1 c1 t0 hb1;obtain⟨A1,n1,c1,rfl,hn1,hc1,hcm1,-⟩:=hown1.sl;have cc1:=(t1.cell 1).trans (show L.toArray[1]? =some (.slice A n c) by simpa using H1.o);have ff1:=t1.frozen 1;have hne:=qa3 hown1 t1 zdc;have hlt:=t1.lt;have t2:=t1.set_ 1 (.slice A1 n1 c1);rw[HS.o]at t2;have z2:=z1.far (p:=⟨w.heap.size,1,none⟩) zm (.slice A1 n1 c1);have B2:=B1.setCell (p:=⟨w.heap.size,1,none⟩) (tA4 _) (.slice A1 n1 c1);have hown2:OwnC _ (w.heap.size+2) _ l:=qal hown1 (p:=⟨w.heap.size,1,none⟩) hne (.slice A1 n1 c1);have hlen1:=qdc id (.slice A1 n1 c1) tag ht;have hone1:=qed id (.slice A1 n1 c1) rfl tag;obtain⟨M,hM⟩:=xeq (tokv id (.slice A1 n1 c1) tag);have HM:=zh1 hM;rw[hM]at t2 hlen1 hone1;obtain⟨A2,A3,HO,HI,Hn1⟩:=zh5 (qap t2 0 M zjq) hlen1 hone1 (zI 31 hlen1) hn1;clear hM hlen1 hone1 HS H1 hn1;go_wp2_with (first
  |(refine zld A2.o zu31 HI.o ?_)
  |(refine zst z2 HI.o (by simp[A3.o]) HO.o ?_))
 have z3:=z2.setRow M.toArray;have A4:=qap z3 0 M zjq;refine zrt A4 zu31 HI.o ⟨_,by rw[←HM.o],?_,below_setRow B2 zo _⟩;have:=(tB3 hown2 (qam _ (w.heap.size+1) M.toArray) (.inr (qa3 hown2 z2 zdc)));exact qdb this zo
theorem Blk.setCells {g:Nat}{t:TypeId}:∀(cs:List Value) (o:Nat) (w:World) (l:List Value),Blk w g t l.toArray→o+cs.length≤l.length→Blk (w.setCells g o cs) g t (l.take o++(cs++l.drop (o+cs.length))).toArray
 |[],o,w,l,h,_=>by simpa [World.setCells] using h
 |v::r,o,w,l,h,hl=>by
  have h1:=h.set_ o v;rw[List.setIfInBounds_toArray]at h1;have h2:=Blk.setCells r (o+1) _ _ h1 (by simp at hl ⊢;omega);rw[World.setCells];have ho:o<l.length:=by simp at hl;omega
  have e:(l.set o v).take (o+1)++(r++(l.set o v).drop (o+1+r.length))=l.take o++(v::r++l.drop (o+(v::r).length)):=by
   rw[List.take_succ_eq_append_getElem (by simpa using ho),List.take_set_of_le (tA4 o),List.getElem_set_self,List.drop_set_of_lt zo];simp[Nat.add_assoc,Nat.add_comm 1]
  rw[e]at h2;exact h2
theorem qef (g:Nat):∀(cs:List Value) (o:Nat) (w:World),w.grownBy (w.setCells g o cs) (some g)
 |[],_,w=>tB9 w _
 |v::r,o,w=>by
  have h1:=qab (tB9 w (some g)) (p:=⟨g,o,none⟩) (.inl rfl) v;have h2:=qef g r (o+1) (w.setCell ⟨g,o,none⟩ v);rw[World.setCells];exact⟨h2.os.trans h1.os,h2.tape.trans h1.tape,h2.output.trans h1.output,tB1 h1.size h2.size,fun i hi hne=>(h2.block i (tB0 hi h1.size) hne).trans (h1.block i hi hne)⟩
theorem qeg(hb:Below B w0 w)(hg:B≤g)(hB:B≤w.heap.size)(o:Nat)(cs:List Value):Below B w0 (w.setCells g o cs):=
 hb.grown (qef g cs o w) hB (fun k hk=>by injection hk with hk;omega)
theorem qeh{t:TypeId}{l:List Value}(h:Blk w g t l.toArray)(o n:Nat)(hn:o+n≤l.length):w.there g o n:=fun j hj=>by
 refine⟨?_,h.frozen _⟩;rw[h.cell];simp;omega
end
section
open Go.RowKit Go.ChangeShapes Go.WideShapes Go.ChangeAt Go.Deep
section
variable {H : Type} {enc : TypeId × Value → H} {W : World} {base : Nat} {held : Bool}
theorem qei{x:Int}(h:(Lit.int .u8 x).wf=true):((x.toNat:Nat):Int)=x∧x.toNat<256:=by
 have:=(Go.Lit.wf_int_iff _ _).1 h;rw[IntKind.min_u8,IntKind.max_u8]at this;omega
theorem qej{x:Int}(h:(Lit.int .u32 x).wf=true):((x.toNat:Nat):Int)=x∧x.toNat<4294967296:=by
 have:=(Go.Lit.wf_int_iff _ _).1 h;rw[IntKind.min_u32,IntKind.max_u32]at this;omega
theorem qek{x:Int}(h:(Lit.int .u64 x).wf=true):((x.toNat:Nat):Int)=x∧x.toNat<18446744073709551616:=by
 have:=(Go.Lit.wf_int_iff _ _).1 h;rw[IntKind.min_u64,IntKind.max_u64]at this;omega
theorem qel{x:Int}(h:(Lit.int .i64 x).wf=true): -9223372036854775808≤x∧x≤9223372036854775807:=by
 have:=(Go.Lit.wf_int_iff _ _).1 h;rw[IntKind.min_i64,IntKind.max_i64]at this;omega
theorem qem{zs:List Int}(h:∀z∈zs,(Lit.int .u8 z).wf=true):byv (zs.map Int.toNat)=zs.map (Value.int .u8)∧∀b∈zs.map Int.toNat,b<256:=by
 refine⟨?_,fun b hb=>?_⟩
 · unfold byv
   rw[List.map_map];exact List.map_congr_left fun z hz=>by simp only[Function.comp];rw[(qei (h z hz)).1]
 obtain⟨z,hz,rfl⟩:=List.mem_map.1 hb;exact(qei (h z hz)).2
theorem qen{x:DataW H × List MemPlace}(h:DataW.trod enc Tryz.prog W base (fun _=>true) held fuel 23 cs=some x):
 ∃(A:Option Addr) (c:Nat) (bs:List Nat),cs=[.slice A bs.length c]∧bs.length≤c∧c≤maxLen∧(∀b∈bs,b<256)∧Reads W W.heap.size 1 A bs.length (byv bs):=by
 rcases open_ints Tryz.underlying23 Tryz.underlying5 zk h with⟨hcs,_⟩|⟨a,l,c,zs,hcs,_,hl,hm,hz,_,hcell,hwz⟩
 · exact⟨none,0,[],hcs,tA4 _,by simp[maxLen],by simp,Reads.none_⟩
 have hz':zs.length=c:=by simpa using hz
 obtain⟨h1,h2⟩:=qem (zs:=zs.take l) fun z hz=>hwz z (tB7 hz)
 have hlen:((zs.take l).map Int.toNat).length=l:=by simp;omega
 refine⟨some a,c,(zs.take l).map Int.toNat,by rw[hlen];exact hcs,by omega,hm,h2,?_⟩;rw[h1,hlen];refine⟨by simp;omega,fun hn=>⟨a,rfl,?_,fun j u hu=>?_⟩⟩
 · have:=hcell 0 zo
   have hb:=World.block_lt_of_cell? _ _ this;rwa[qa1]at hb
 simp only[tBj,Option.map_eq_some_iff]at hu;obtain⟨y,hy,rfl⟩:=hu;rw[List.getElem?_take]at hy;split at hy
 · rename_i hj
   have:=hcell j zo;rw[this,tB4,hy];rfl
 cases hy
theorem qeo{x:DataW H × List MemPlace}(h:DataW.trod enc Tryz.prog W base (fun _=>true) held fuel 29 cs=some x):
 ∃tag:List Nat,cs=byv tag∧tag.length=32∧∀b∈tag,b<256:=by
 obtain⟨xs,m,-,-,hlen,hxl,hx⟩:=DataW.trod_array Tryz.underlying29 h;have c1:(Tryz.prog).cellsOf 5=1:=by kernel_rfl
 have c2:(Tryz.prog).cellsOf 29=32:=by kernel_rfl
 rw[c2]at hlen;have each:∀v∈cs,∃n:Int,v=.int .u8 n∧(Lit.int .u8 n).wf=true:=by
  intro v hv;obtain⟨i,hi,rfl⟩:=List.mem_iff_getElem.1 hv;have:=hx i zo;rw[c1,Nat.mul_one,List.drop_eq_getElem_cons hi]at this;simp only[List.take_succ_cons,List.take_zero]at this;cases hxi:xs[i]? with
  |none=>
   have h2:=(List.getElem?_eq_none_iff.1 hxi);omega
  |some y=>
   rw[hxi]at this;obtain⟨n,hn,-,hw⟩:=DataW.trod_int Tryz.underlying5 this;exact⟨n,by simpa using hn,hw⟩
 refine⟨cs.map fun v=>(intOf v).toNat,?_,by simp[hlen],fun b hb=>?_⟩
 ·
  unfold byv;rw[List.map_map];conv=>lhs;rw[←List.map_id cs]
  refine List.map_congr_left fun v hv=>?_
  obtain⟨n,rfl,hw⟩:=each v hv;simp[intOf,(qei hw).1]
 obtain⟨v,hv,rfl⟩:=List.mem_map.1 hb;obtain⟨n,rfl,hw⟩:=each v hv;simpa [intOf] using (qei hw).2
theorem qep{x:DataW H × List MemPlace}(h:DataW.trod enc Tryz.prog W base (fun _=>true) held fuel 27 cs=some x):
 ∃(A:Option Addr) (c:Nat) (l:List (Int × Nat)),cs=[.slice A l.length c]∧l.length≤c∧c≤maxLen∧(∀x∈l,x.2<4294967296)∧(∀x∈l,(Lit.int .i64 x.1).wf=true)∧Reads W W.heap.size 2 A l.length (cavv l)∧(∀M,(∀n∈x.1.weights Tryz.prog 27,n≤M)→c*16≤M):=by
 have hby:(Tryz.prog).bytesOf 132=16:=by kernel_rfl
 rcases open_slice_pairs Tryz.underlying27 Tryz.underlying132 zk rfl rfl zk zk h with⟨hcs,_⟩|⟨a,len,c,m,n,V0,V1,D0,D1,P0,P1,hcs,_,hl,hm,hmm,hx0,hel⟩
 · exact⟨none,0,[],hcs,tA4 _,by simp[maxLen],by simp,by simp,Reads.none_,fun M _=>by omega⟩
 have hmc:m=c:=by simpa using hmm
 have e0:∀i,i<len→∃k:Int,V0 i=.int .i64 k∧(Lit.int .i64 k).wf=true:=fun i hi=>by
  obtain⟨k,hk,-,hw⟩:=DataW.trod_int Tryz.underlying3 (hel i zo).2.2.1;exact⟨k,by simpa using hk,hw⟩
 have e1:∀i,i<len→∃k:Int,V1 i=.int .u32 k∧(Lit.int .u32 k).wf=true:=fun i hi=>by
  obtain⟨k,hk,-,hw⟩:=DataW.trod_int Tryz.underlying22 (hel i zo).2.2.2;exact⟨k,by simpa using hk,hw⟩
 obtain⟨L,hL⟩:=eqx ((List.range len).map fun i=>(intOf (V0 i),(intOf (V1 i)).toNat));have hlen:L.length=len:=by rw[hL];simp
 have hget:∀i,i<len→L[i]? =some (intOf (V0 i),(intOf (V1 i)).toNat):=fun i hi=>by rw[hL];simp[hi]
 have hv:∀i,i<len→V0 i=.int .i64 (intOf (V0 i))∧V1 i=.int .u32 ((intOf (V1 i)).toNat:Int):=fun i hi=>by
  obtain⟨k,hk,hw⟩:=e0 i hi;obtain⟨q,hq,hw2⟩:=e1 i hi;rw[hk,hq];simp[intOf,(qej hw2).1]
 refine⟨some a,c,L,by rw[hlen];exact hcs,by omega,hm,fun x hx=>?_,fun x hx=>?_,?_,?_⟩
 ·
  obtain⟨i,hi,rfl⟩:=List.mem_iff_getElem.1 hx;have:=hget i zo;rw[tA7 hi]at this;injection this with this;rw[this];obtain⟨q,hq,hw2⟩:=e1 i zo;simpa [hq,intOf] using (qej hw2).2
 ·
  obtain⟨i,hi,rfl⟩:=List.mem_iff_getElem.1 hx;have:=hget i zo;rw[tA7 hi]at this;injection this with this;rw[this];obtain⟨q,hq,hw2⟩:=e0 i zo;simpa [hq,intOf] using hw2
 ·
  rw[hlen];have hcl:(cavv L).length=len*2:=by
   have:∀l:List (Int × Nat),(cavv l).length=l.length*2:=by
    intro l;unfold cavv;induction l with
    |nil=>rfl
    |cons y l ih=>simp only[List.flatMap_cons,tA6,ih,tBi];simp;omega
   rw[this,hlen]
  refine⟨hcl,fun hn=>⟨a,rfl,?_,fun j u hu=>?_⟩⟩
  · have hb:=World.block_lt_of_cell? _ _ (hel 0 zo).1
    rwa[qa1]at hb
  have hj:j<len*2:=by
   rcases Nat.lt_or_ge j (cavv L).length with h|h
   · omega
   rw[List.getElem?_eq_none h]at hu;cases hu
  obtain⟨i,hi⟩:=eqx (j / 2);obtain⟨q0,q1⟩:=qdf L i _ (hget i zo);obtain⟨v0,v1⟩:=hv i zo;rcases Nat.mod_two_eq_zero_or_one j with h2|h2
  · have e:j=i*2:=zo
    rw[e]at hu ⊢;rw[q0]at hu;injection hu with hu;rw[(hel i zo).1,v0,←hu]
  have e:j=i*2+1:=zo;rw[e]at hu ⊢;rw[q1]at hu;injection hu with hu;rw[(hel i zo).2.1,v1,←hu]
 intro M hM;refine hM _ ?_;rw[hx0];unfold DataW.weights;rw[Tryz.underlying27];simp only[tBl,List.length_range,hby];rw[show len+(m - len)=c from by omega];exact List.mem_cons_self ..
theorem qeq(l:List Value)(a k:Nat):l.drop a=(l.drop a).take k++l.drop (a+k):=by
 have:=(List.take_append_drop k (l.drop a)).symm;rwa[List.drop_drop]at this
theorem qer{α:Type}{xs:List α}(h:i<xs.length):∃y,xs[i]? =some y:=⟨_,tA7 h⟩
theorem qes{x:DataW H × List MemPlace}(h:DataW.trod enc Tryz.prog W base (fun _=>true) held fuel 31 cs=some x):
 ∃(id:Nat) (A:Option Addr) (c:Nat) (l:List (Int × Nat)) (tag:List Nat),cs=tokv id (.slice A l.length c) tag∧id<4294967296∧l.length≤c∧c≤maxLen∧(∀x∈l,x.2<4294967296)∧(∀x∈l,(Lit.int .i64 x.1).wf=true)∧
  Reads W W.heap.size 2 A l.length (cavv l)∧tag.length=32∧(∀b∈tag,b<256)∧(∀M,(∀n∈x.1.weights Tryz.prog 31,n≤M)→c*16≤M):=by
 obtain⟨xs,n,-,hx0,hlen,hxl,hf⟩:=DataW.trod_struct Tryz.underlying31 h;have c1:(Tryz.prog).cellsOf 22=1:=by kernel_rfl
 have c2:(Tryz.prog).cellsOf 27=1:=by kernel_rfl
 have c3:(Tryz.prog).cellsOf 29=32:=by kernel_rfl
 have c4:(Tryz.prog).cellsOf 31=34:=by kernel_rfl
 rw[c4]at hlen;have hx:∀i,i<3→∃y,xs[i]? =some y:=fun i hi=>qer (by rw[hxl];exact hi)
 obtain⟨y0,h0⟩:=hx 0 zo;obtain⟨y1,h1⟩:=hx 1 zo;obtain⟨y2,h2⟩:=hx 2 zo;have g0:=(hf 0 _ rfl).trans h0;have g1:=(hf 1 _ rfl).trans h1;have g2:=(hf 2 _ rfl).trans h2;simp only[List.getElem_toArray,List.getElem_cons_zero,List.getElem_cons_succ]at g0 g1 g2;rw[c1]at g0;rw[c2]at g1;rw[c3]at g2;obtain⟨i,e0,-,w0⟩:=DataW.trod_int Tryz.underlying22 g0;obtain⟨A,c,l,e1,a1,a2,a3,a4,a5,a6⟩:=qep g1;obtain⟨tag,e2,b1,b2⟩:=qeo g2;refine⟨i.toNat,A,c,l,tag,?_,(qej w0).2,a1,a2,a3,a4,a5,b1,b2,fun M hM=>a6 M fun n hn=>hM n ?_⟩
 · have:cs=(cs.drop 0).take 1++((cs.drop 1).take 1++((cs.drop 2).take 32++cs.drop 34)):=by
    rw[←qeq cs 2 32,←qeq cs 1 1,←qeq cs 0 1];rfl
   rw[this,e0,e1,e2,List.drop_eq_nil_of_le zo];simp[tokv,(qej w0).1]
 rw[hx0];unfold DataW.weights;rw[Tryz.underlying31];exact DataW.weights_mem_each (j:=1) rfl (by rw[tBj,h1];rfl) n hn
end
end
section
open Go.RowKit Go.ChangeShapes Go.WideShapes Go.ChangeAt Go.Deep
section
variable {H : Type} {enc : TypeId × Value → H} {W : World} {base : Nat} {held : Bool}
theorem qet{x:DataW H × List MemPlace}(h:DataW.trod enc Tryz.prog W base (fun _=>true) held fuel 34 cs=some x):
 ∃(R:Req) (Ac:Option Addr) (cc:Nat) (Al:Option Addr) (cl:Nat),cs=reqv R (.slice Ac R.cavs.length cc) (.slice Al R.leaf.length cl)∧R.Good∧R.cavs.length≤cc∧cc≤maxLen∧R.leaf.length≤cl∧cl≤maxLen∧
  Reads W W.heap.size 2 Ac R.cavs.length (cavv R.cavs)∧Reads W W.heap.size 1 Al R.leaf.length (byv R.leaf)∧(∀M,(∀n∈x.1.weights Tryz.prog 34,n≤M)→cc*16≤M):=by
 obtain⟨xs,n,-,hx0,hlen,hxl,hf⟩:=DataW.trod_struct Tryz.underlying34 h;have c1:(Tryz.prog).cellsOf 3=1:=by kernel_rfl
 have c2:(Tryz.prog).cellsOf 31=34:=by kernel_rfl
 have c3:(Tryz.prog).cellsOf 22=1:=by kernel_rfl
 have c4:(Tryz.prog).cellsOf 32=1:=by kernel_rfl
 have c5:(Tryz.prog).cellsOf 23=1:=by kernel_rfl
 have c6:(Tryz.prog).cellsOf 34=48:=by kernel_rfl
 rw[c6]at hlen;have hx:∀i,i<15→∃y,xs[i]? =some y:=fun i hi=>qer (by rw[hxl];exact hi)
 obtain⟨y0,h0⟩:=hx 0 zo;obtain⟨y1,h1⟩:=hx 1 zo;obtain⟨y2,h2⟩:=hx 2 zo;obtain⟨y3,h3⟩:=hx 3 zo;obtain⟨y4,h4⟩:=hx 4 zo;obtain⟨y5,h5⟩:=hx 5 zo;obtain⟨y6,h6⟩:=hx 6 zo;obtain⟨y7,h7⟩:=hx 7 zo;obtain⟨y8,h8⟩:=hx 8 zo;obtain⟨y9,h9⟩:=hx 9 zo;obtain⟨y10,h10⟩:=hx 10 zo;obtain⟨y11,h11⟩:=hx 11 zo;obtain⟨y12,h12⟩:=hx 12 zo;obtain⟨y13,h13⟩:=hx 13 zo;obtain⟨y14,h14⟩:=hx 14 zo;have g0:=(hf 0 _ rfl).trans h0;have g1:=(hf 1 _ rfl).trans h1;have g2:=(hf 2 _ rfl).trans h2;have g3:=(hf 3 _ rfl).trans h3;have g4:=(hf 4 _ rfl).trans h4;have g5:=(hf 5 _ rfl).trans h5;have g6:=(hf 6 _ rfl).trans h6;have g7:=(hf 7 _ rfl).trans h7;have g8:=(hf 8 _ rfl).trans h8;have g9:=(hf 9 _ rfl).trans h9;have g10:=(hf 10 _ rfl).trans h10;have g11:=(hf 11 _ rfl).trans h11;have g12:=(hf 12 _ rfl).trans h12;have g13:=(hf 13 _ rfl).trans h13;have g14:=(hf 14 _ rfl).trans h14;simp only[List.getElem_toArray,List.getElem_cons_zero,List.getElem_cons_succ]at g0 g1 g2 g3 g4 g5 g6 g7 g8 g9 g10 g11 g12 g13 g14;rw[c1]at g0 g2 g3 g4 g5 g6;rw[c2]at g1;rw[c3]at g7 g10 g11 g12;rw[c4]at g8 g9 g13;rw[c5]at g14;obtain⟨op,e0,-,w0⟩:=DataW.trod_int Tryz.underlying3 g0;obtain⟨tid,Ac,cc,cavs,tag,e1,t0,t1,t2,t3,t4,t5,t6,t7,t8⟩:=qes g1;obtain⟨tree,e2,-,w2⟩:=DataW.trod_int Tryz.underlying3 g2;obtain⟨tenant,e3,-,w3⟩:=DataW.trod_int Tryz.underlying3 g3;obtain⟨role,e4,-,w4⟩:=DataW.trod_int Tryz.underlying3 g4;obtain⟨state,e5,-,w5⟩:=DataW.trod_int Tryz.underlying3 g5;obtain⟨weight,e6,-,w6⟩:=DataW.trod_int Tryz.underlying3 g6;obtain⟨id,e7,-,w7⟩:=DataW.trod_int Tryz.underlying22 g7;obtain⟨lo,e8,-,w8⟩:=DataW.trod_int Tryz.underlying32 g8;obtain⟨hi,e9,-,w9⟩:=DataW.trod_int Tryz.underlying32 g9;obtain⟨rate,e10,-,w10⟩:=DataW.trod_int Tryz.underlying22 g10;obtain⟨burst,e11,-,w11⟩:=DataW.trod_int Tryz.underlying22 g11;obtain⟨store,e12,-,w12⟩:=DataW.trod_int Tryz.underlying22 g12;obtain⟨expires,e13,-,w13⟩:=DataW.trod_int Tryz.underlying32 g13;obtain⟨Al,cl,leaf,e14,l1,l2,l3,l4⟩:=qen g14;refine⟨⟨op,tid,cavs,tag,tree,tenant,role,state,weight,id.toNat,lo.toNat,hi.toNat,rate.toNat,burst.toNat,store.toNat,expires.toNat,leaf⟩,Ac,cc,Al,cl,?_,?_,t1,t2,l1,l2,t5,l4,fun M hM=>t8 M fun n hn=>hM n ?_⟩
 · have:cs=(cs.drop 0).take 1++((cs.drop 1).take 34++((cs.drop 35).take 1++((cs.drop 36).take 1++((cs.drop 37).take 1++((cs.drop 38).take 1++((cs.drop 39).take 1++((cs.drop 40).take 1++((cs.drop 41).take 1++((cs.drop 42).take 1++((cs.drop 43).take 1++((cs.drop 44).take 1++((cs.drop 45).take 1++((cs.drop 46).take 1++((cs.drop 47).take 1++cs.drop 48)))))))))))))):=by
    rw[←qeq cs 47 1,←qeq cs 46 1,←qeq cs 45 1,←qeq cs 44 1,←qeq cs 43 1,←qeq cs 42 1,←qeq cs 41 1,←qeq cs 40 1,←qeq cs 39 1,←qeq cs 38 1,←qeq cs 37 1,←qeq cs 36 1,←qeq cs 35 1,←qeq cs 1 34,←qeq cs 0 1];rfl
   rw[this,e0,e1,e2,e3,e4,e5,e6,e7,e8,e9,e10,e11,e12,e13,e14,List.drop_eq_nil_of_le zo];simp[reqv,tokv,Req.rest,(qej w7).1,(qek w8).1,(qek w9).1,(qej w10).1,(qej w11).1,(qej w12).1,(qek w13).1]
 · exact⟨t6,t7,t0,t3,t4,w0,w2,w3,w4,w5,w6,(qej w7).2,(qek w8).2,(qek w9).2,(qej w10).2,(qej w11).2,(qej w12).2,(qek w13).2,l3⟩
 rw[hx0];unfold DataW.weights;rw[Tryz.underlying34];exact DataW.weights_mem_each (j:=1) rfl (by rw[tBj,h1];rfl) n hn
end
end
theorem qeu(hgd:o.guard=none)(d s:Operand)(dT sT:TypeId)
 (ho:o.op=.call {callee:=.builtin .copy,args:=#[d,s],argTypes:=#[dT,sT]})(elem:TypeId)(hu:P.underlying dT=some (.slice elem))(hsz:(P.info? elem).map (·.size)=some 1)
 (dp sp:Option Addr)(dLen dCap sLen sCap:Nat)(hd:a.eval d=.slice dp dLen dCap)(hs:a.eval s=.slice sp sLen sCap)
 (g off:Nat)(cur:List Value)(t:TypeId)(hg:w.heap[g]? =some (.cells cur.toArray t (0,0)))(cs:List Value)(hn:cs.length=Nat.min sLen dLen)
 (hpos:0<cs.length→dp=some ⟨g,off,none⟩∧∃ad,sp=some ad∧∀j v,cs[j]? =some v→w.cell? (ad.add j)=some v)
 (hfit:off+cs.length≤cur.length)(h1:∀v∈cs,v.oneCell'=true)(B:Nat)(w0:World)(hb:RowKit.Below B w0 w)(hBg:B≤g)
 (h:∀w',RowKit.Hid (w'.heap[g]? =some (.cells (splice cur off cs).toArray t (0,0)))→RowKit.Below B w0 w'→K (a.put o.dst (goInt cs.length)) w'):o.wp P a w K Q:=by
 have:=step_copy_splice (P:=P) (ops:=#[]) (o:=o) (a:=a) (w:=w) (K:=K) (Q:=Q) (E:=True) hgd d s dT sT ho elem hu hsz dp sp dLen dCap sLen sCap hd hs g off cur t hg cs hn hpos hfit h1 B w0 hb hBg h;rwa[if_pos (by simp[Region.wanted,hgd])]at this
theorem qev(rest:List Nat)(N:Nat):splice (byv (List.replicate N 0)) 0 (byv rest)=byv (rest++List.replicate (N - rest.length) 0):=by
 simp[splice,byv]
theorem qew{ops:Array Oper}{rest:List Oper}(hgd:o.guard=none)(d s:Operand)(dT sT:TypeId)
 (ho:o.op=.call {callee:=.builtin .copy,args:=#[d,s],argTypes:=#[dT,sT]})(elem:TypeId)(hu:P.underlying dT=some (.slice elem))(hsz:(P.info? elem).map (·.size)=some 1)
 (dp sp:Option Addr)(dLen dCap sLen sCap:Nat)(hd:a.eval d=.slice dp dLen dCap)(hs:a.eval s=.slice sp sLen sCap)
 (g off:Nat)(cur:List Value)(t:TypeId)(hg:w.heap[g]? =some (.cells cur.toArray t (0,0)))(cs:List Value)(hn:cs.length=Nat.min sLen dLen)
 (hpos:0<cs.length→dp=some ⟨g,off,none⟩∧∃ad,sp=some ad∧∀j v,cs[j]? =some v→w.cell? (ad.add j)=some v)
 (hfit:off+cs.length≤cur.length)(h1:∀v∈cs,v.oneCell'=true)
 (h:∀w',Hid (w'.heap[g]? =some (.cells (splice cur off cs).toArray t (0,0)))→w.grownBy w' (some g)→wpList P ops Q rest (a.put o.dst (goInt cs.length)) w'):
 wpList P ops Q (o::rest) a w:=by
 by_cases h0:cs.length=0
 · obtain rfl:cs=[]:=tB8 h0
   refine wpList_copy_nothing hgd d s dT sT ho elem hu hsz dp sp dLen dCap sLen sCap hd hs (by simpa using hn.symm) ?_;exact h w (show _=_ by simpa [splice] using hg) (tB9 _ _)
 obtain⟨rfl,ad,rfl,hsrc⟩:=hpos zo;refine wpList_copy_own hgd d s dT sT ho elem hu hsz g off dLen dCap ad sLen sCap hd hs cur.toArray t hg cs hn hsrc (by simpa using hfit) h1 ?_;exact h _ (show _=_ by simpa [splice] using setRow_heap w g _ _ t _ hg) (qam _ _ _)
theorem qex(d s:Operand)(dT sT:TypeId)
 (ho:o.op=.call {callee:=.builtin .copy,args:=#[d,s],argTypes:=#[dT,sT]})(elem:TypeId)(hu:P.underlying dT=some (.slice elem))(hsz:(P.info? elem).map (·.size)=some 1)
 (dp sp:Option Addr)(dLen dCap sLen sCap:Nat)(hd:a.eval d=.slice dp dLen dCap)(hs:a.eval s=.slice sp sLen sCap)
 (g off:Nat)(cur:List Value)(t:TypeId)(hg:w.heap[g]? =some (.cells cur.toArray t (0,0)))(cs:List Value)(hn:cs.length=Nat.min sLen dLen)
 (hpos:0<cs.length→dp=some ⟨g,off,none⟩∧∃ad,sp=some ad∧∀j v,cs[j]? =some v→w.cell? (ad.add j)=some v)
 (hfit:off+cs.length≤cur.length)(h1:∀v∈cs,v.oneCell'=true)
 (h:∀w',Hid (w'.heap[g]? =some (.cells (splice cur off cs).toArray t (0,0)))→w.grownBy w' (some g)→K (a.put o.dst (goInt cs.length)) w'):o.wp P a w K Q:=by
 by_cases h0:cs.length=0
 · obtain rfl:cs=[]:=tB8 h0
   have hrun:=run_copy_none (P:=P) w dT sT o.type elem dp sp dLen dCap sLen sCap hu hsz (by simpa using hn.symm);unfold Oper.wp;simp[execOp,ho,resolve,invoke,builtin,hd,hs,hrun,Result.andThen];exact h w (show _=_ by simpa [splice] using hg) (tB9 _ _)
 obtain⟨rfl,ad,rfl,hsrc⟩:=hpos zo;have hrun:=run_copy_row (P:=P) w dT sT o.type elem g off dLen dCap ad sLen sCap cur.toArray t cs hu hsz hg hn hsrc (by simpa using hfit) h1;unfold Oper.wp;simp[execOp,ho,resolve,invoke,builtin,hd,hs,hrun,Result.andThen];exact h _ (show _=_ by simpa [splice] using setRow_heap w g _ _ t _ hg) (qam _ _ _)
theorem qey(P Q:List Nat)(x v:Nat):(byv (P++x::Q)).toArray.setIfInBounds P.length (.int .u8 (v:Int))=(byv (P++v::Q)).toArray:=by
 simp[byv]
theorem qez{P Q:List Nat}{x:Nat}(h:P.length=i):(byv (P++x::Q)).toArray[i]? =some (.int .u8 (x:Int)):=by
 subst h;simp[byv]
def blocks (bs:List Nat)(s:St):Nat→St
 |0=>s
 |k+1=>mixed (bs.drop (64*k)) (blocks bs s k)
theorem qf0(bs:List Nat)(s:St)(h:s.ok):∀k,(blocks bs s k).ok
 |0=>h
 |k+1=>qca _ _
theorem qf1:qc1.ok:=by unfold St.ok qc1;decide
def qf3 (r:Nat):Nat:=if r+9>64 then 128 else 64
def qf4 (bs:List Nat)(k:Nat):List Nat:=
 let r:=bs.length % 64
 (bs.drop (bs.length - r)++128::List.replicate (qf3 r - r - 1 - k) 0)++(be (8*bs.length) k++List.replicate (128 - qf3 r) 0)
def qf5 (bs:List Nat):St:=blocks (qf4 bs 8) (blocks bs qc1 (bs.length / 64)) (qf3 (bs.length % 64) / 64)
def qf6 (s:St):List Nat:=(List.range 32).map fun i=>s.list.getD (i / 4) 0 / 2^(24 - 8*(i % 4)) % 256
def sha (bs:List Nat):List Nat:=qf6 (qf5 bs)
theorem qf7{l:List Nat}(h:i<l.length):(byv l).toArray[i]? =some (.int .u8 (l.getD i 0:Nat)):=by
 simp only[byv,tA3,tBj];rw[tB4,tA7 h];rfl
theorem qf8{t:TypeId}{l:List Nat}(h:Blk w g t (byv l).toArray)(hp:p≤l.length):Reads w w.heap.size 1 (some ⟨g,p,none⟩) (l.length - p) (byv (l.drop p)):=by
 refine⟨by simp[byv],fun _=>⟨_,rfl,h.lt,fun j u hu=>?_⟩⟩;have e:(⟨g,p,none⟩:Addr).add j=⟨g,p+j,none⟩:=by unfold Addr.add;split<;>simp_all
 rw[e,h.cell,←hu];simp[byv]
def qf9 (L:List Nat)(k:Nat):List Nat:=L.take k++List.replicate (L.length - k) 0
theorem qfa{L:List Nat}{v:Nat}(h:k<L.length)(hv:L.getD k 0=v):(byv (qf9 L k)).toArray.setIfInBounds k (.int .u8 (v:Int))=(byv (qf9 L (k+1))).toArray:=by
 unfold qf9;rw[show L.length - k=(L.length - (k+1))+1 by omega,List.replicate_succ];have e:=qey (L.take k) (List.replicate (L.length - (k+1)) 0) 0 v;rw[tBd,Nat.min_eq_left zo]at e;rw[e,List.take_add_one,tA7 h];rw[tB4,tA7 h]at hv;simp only[Option.getD_some]at hv;simp[hv]
theorem qfb(L:List Nat):qf9 L L.length=L:=by simp[qf9]
theorem qfc(st:St)(h:k<32):(qf6 st).getD k 0=st.list.getD (k / 4) 0 / 2^(24 - 8*(k % 4)) % 256:=by
 unfold qf6;rw[tB4,tBj,List.getElem?_range h];rfl
theorem qfd(r:Nat)(h:r<64):r+9≤qf3 r∧(qf3 r=64∨qf3 r=128):=by unfold qf3;split<;>omega
theorem qfe(N k:Nat):be N (k+1)=qav N k::be N k:=by
 unfold be;rw[List.range_succ_eq_map,List.map_cons,List.map_map];congr 1
 apply List.map_congr_left;intro j hj;have:=List.mem_range.1 hj;show qav N (k+1 - 1 - (j+1))=qav N (k - 1 - j);congr 1
 omega
theorem qff(bs:List Nat)(k:Nat)(hk:k<8):(byv (qf4 bs k)).toArray.setIfInBounds (qf3 (bs.length % 64) - 1 - k) (.int .u8 (qav (8*bs.length) k:Nat))=(byv (qf4 bs (k+1))).toArray:=by
 have hr:bs.length % 64<64:=Nat.mod_lt _ zdc;obtain⟨e1,e2⟩:=qfd _ hr;unfold qf4;dsimp only;have e:qf3 (bs.length % 64) - bs.length % 64 - 1 - k=(qf3 (bs.length % 64) - bs.length % 64 - 1 - (k+1))+1:=zo;rw[qfe,e,List.replicate_succ'];have h:=qey (bs.drop (bs.length - bs.length % 64)++128::List.replicate (qf3 (bs.length % 64) - bs.length % 64 - 1 - (k+1)) 0) (be (8*bs.length) k++List.replicate (128 - qf3 (bs.length % 64)) 0) 0 (qav (8*bs.length) k);have hl:(bs.drop (bs.length - bs.length % 64)++128::List.replicate (qf3 (bs.length % 64) - bs.length % 64 - 1 - (k+1)) 0).length=qf3 (bs.length % 64) - 1 - k:=by simp;omega
 rw[hl]at h;simpa using h
theorem qfg(bs:List Nat):qf4 bs 0=bs.drop (bs.length - bs.length % 64)++128::List.replicate (127 - bs.length % 64) 0:=by
 have hr:bs.length % 64<64:=Nat.mod_lt _ zdc;obtain⟨e1,e2⟩:=qfd _ hr;unfold qf4;have:be (8*bs.length) 0=[]:=rfl;simp only[this,List.nil_append,List.append_assoc,List.cons_append,List.replicate_append_replicate];congr 3
 omega
theorem qfh(bs:List Nat)(k:Nat)(hk:k≤8):(qf4 bs k).length=128:=by
 have hr:bs.length % 64<64:=Nat.mod_lt _ zdc;obtain⟨e1,e2⟩:=qfd _ hr;simp[qf4,qaw];omega
theorem qfi(bs:List Nat)(h:∀b∈bs,b<256)(k:Nat):∀b∈qf4 bs k,b<256:=by
 intro b hb;simp only[qf4,tBg,List.mem_cons,List.mem_replicate]at hb;rcases hb with(hb|rfl|⟨_,rfl⟩)|hb|⟨_,rfl⟩
 · exact h b (List.mem_of_mem_drop hb)
 · decide
 · decide
 · exact qaz _ _ b hb
 decide
theorem qfj(h:Tabs w)(hg:w.grownBy w' (some g))(h3:3≤g):Tabs w':=
 ⟨tB1 h.size hg.size,fun i hi=>(World.cell?_of_block (hg.block _ (by have:=h.size;show (1:Nat)<_;omega) (fun e=>by injection e with e;have e:(1:Nat)=g:=e;omega))).trans (h.start i hi),
  fun i hi=>(World.cell?_of_block (hg.block _ (by have:=h.size;show (2:Nat)<_;omega) (fun e=>by injection e with e;have e:(2:Nat)=g:=e;omega))).trans (h.words i hi)⟩
theorem qfk(n cc:Nat)(A:Option Addr)(bs:List Nat)(w:World)(hb2:∀b∈bs,b<256)(hr:Reads w w.heap.size 1 A n (byv bs))(hnc:n≤cc)(hn:n≤1152921504606846975)(ht:Tabs w):
 Zc 245 #[.slice A n cc] w fun e w'=>e=.returned (.agg (byv (sha bs)).toArray)∧Zb w w':=by
 have hlen:bs.length=n:=qb4 hr;obtain⟨m,hm⟩:=xeq (n / 64);have d1:Int.tdiv (n:Int) 64=(m:Int):=by rw[←hm,Int.tdiv_eq_ediv_of_nonneg zo];omega
 have d2:IntKind.i64.wrap (m:Int)=m:=tBb _ zo;obtain⟨p4,hp4⟩:=xeq (64*m);have d3:IntKind.i64.wrap ((m:Int)*64)=(p4:Int):=by rw[show ((m:Int)*64)=(p4:Int) by omega];exact tBb _ zo
 have A1:=zh1 hp4;have g0:∀i,i<8→w.cell? ⟨1,i,none⟩=qc1.vals[i]? :=ht.start;have c0:=g0 0 zo;have c1:=g0 1 zo;have c2:=g0 2 zo;have c3:=g0 3 zo;have c4:=g0 4 zo;have c5:=g0 5 zo;have c6:=g0 6 zo;have c7:=g0 7 zo;simp[St.vals,qc1]at c0 c1 c2 c3 c4 c5 c6 c7;have hlt2:1<w.heap.size:=by have:=ht.size;omega
 clear g0;obtain⟨Ht,Hr,HM,A0⟩:=zh4 ht hr hm hlen;have hW:∃x,x=(w.alloc (.cells zLD 29)).alloc (.cells #[.int .u32 1779033703,.int .u32 3144134277,.int .u32 1013904242,.int .u32 2773480762,.int .u32 1359893119,.int .u32 2600822924,.int .u32 528734635,.int .u32 1541459225] 209):=⟨_,rfl⟩;obtain⟨W1,hW1⟩:=hW;have Z1:Blk W1 w.heap.size 29 zLD:=by rw[hW1];exact(Blk.new w _ _).alloc _
 have S1:Blk W1 (w.heap.size+1) 209 qc1.vals:=by
  have h:=Blk.new (w.alloc (.cells zLD 29)) 209 qc1.vals;rw[qar]at h;rw[hW1];exact h
 have B1:Zb w W1:=by rw[hW1];exact qah (qah (tA5 _ _) _) _
 have L1:w.heap.size+1<W1.heap.size:=S1.lt;have A6:=zh1 hb2;clear ht hr hm hlen hp4 hb2;go_enter Tryz.func245,Tryz.ntmps245
 go_wp2_with fail
 rw[←hW1];obtain⟨AP,A8,A9,A3⟩:=zh4 hW1 Z1 S1 B1;clear hW1 Z1 S1 B1 c0 c1 c2 c3 c4 c5 c6 c7;go_loopw [5] (fun i wr=>∃k p:Nat,k≤m∧Hid (64*k=p)∧i=.int .i64 p∧Blk wr (w.heap.size+1) 209 (blocks bs qc1 k).vals∧W1.grownBy wr (some (w.heap.size+1))) (fun i _=>p4 - (intOf i).toNat)
 case atStart=>exact⟨0,0,by omega,rfl,rfl,A9.o,tB9 _ _⟩
 case round=>
  obtain⟨k,p,hk,hp,rfl,hst,hgr⟩:=hrel;by_cases hkm:k<m
  ·
   have ep:=hp.o;have e4:=A1.o;have em:=HM.o;have q1:(p:Int)<p4:=zo;have q2:p≤n:=zo;have q3:p<cc:=zo;have q4:cc≠p:=zo;have hr1:=((Hr.below A3.o).grown hgr zo (by intro g hg;injection hg with hg;omega)).cut (k:=p) (cap:=cc) q2 hnc;rw[if_neg zo,Nat.mul_one,show (byv bs).drop p=byv (bs.drop p) by simp[byv]]at hr1;have hT:=(Ht.below A3.o Ht.size);have hT1:=qfj hT hgr (by have:=Ht.size;omega);have hl1:(bs.drop p).length=n - p:=by rw[tBk,A0.o]
   have hst2:=hst;rw[St.vals]at hst2;have K:=qcg (w.heap.size+1) w.heap.size (n - p) (cc - p) _ (bs.drop p) _ wr (qf0 bs qc1 qf1 k) hl1 zo (fun b hb=>A6.o b (List.mem_of_mem_drop hb)) hst2 hr1 (by have:=hgr.size;omega) hT1;obtain⟨HK,Hgr⟩:=zh2 K hgr;clear ep e4 em hgr K hT hT1 hst hst2 hr1 hl1;go_wp2_with fail
   with_reducible refine HK.o.mono ?_
   rintro e w2 ⟨rfl,h1,h2⟩;have w1:IntKind.i64.wrap ((p:Int)+64)=(p+64:Nat):=by rw[show ((p:Int)+64)=((p+64:Nat):Int) by omega];exact tBb _ (by have:=hp.o;have:=A1.o;have:=HM.o;omega)
   go_wp2
   go_roundw
   case rel=>exact⟨k+1,p+64,by omega,(show 64*(k+1)=p+64 by have:=hp.o;omega),by go_num,by rw[blocks,hp.o];exact h1,qc7 Hgr.o h2⟩
   case measure=>simp[intOf];have:=hp.o;omega
  have hk':k=m:=zo;have q1:¬(p:Int)<p4:=by have:=hp.o;have:=A1.o;omega
  rw[hk']at hst;obtain⟨Hst,Hgr⟩:=zh2 hst hgr;clear hst hgr hk' hkm hk;obtain⟨W2,rfl⟩:=eqx wr;obtain⟨r,hrr⟩:=xeq (n - p4);have hr64:n % 64=r:=by have:=A1.o;have:=HM.o;omega
  have r64:r<64:=zo;have e4n:p4≤n:=by have:=A1.o;have:=HM.o;omega
  have HX:Reads W2 w.heap.size 1 (if cc=p4 then A else A.map (·.add p4)) r (byv (bs.drop p4)):=by
   have h:=((Hr.below A3.o).grown Hgr.o zo (by intro g hg;injection hg with hg;omega)).cut (k:=p4) (cap:=cc) e4n hnc;rw[hrr,Nat.mul_one,show (byv bs).drop p4=byv (bs.drop p4) by simp[byv]]at h;exact h
  have HX':=zh1 HX;obtain⟨rest,hrest⟩:=xeq (bs.drop p4);have lrest:rest.length=r:=by rw[←hrest,tBk,A0.o];exact hrr
  have W3a:Blk (W2.alloc (.cells Tryz.zeroCells360 360)) W2.heap.size 360 (byv (List.replicate 128 0)).toArray:=Blk.new W2 _ _;rw[hrest]at HX;obtain⟨A2,hA2⟩:∃x,(if cc=p4 then A else A.map (·.add p4))=x:=⟨_,rfl⟩;rw[hA2]at HX;have AA:=zh1 hA2;clear hA2;obtain⟨HXr,Hrest,Hlrest,HW3a,Hrr⟩:=zh5 HX hrest lrest W3a hrr;have L2:w.heap.size+1<W2.heap.size:=tB0 L1 Hgr.size;have A5:=zh1 L2;clear HX HX' hrest lrest W3a;go_wp2_with fail
  obtain⟨S,HS⟩:∃S:World→Prop,Hid (∀w',S w'):=⟨fun _=>True,fun _=>trivial⟩;refine zrs S 6 (zq 0 4 [(4,true),(5,false)]) (HS.o _) ?_;iterate 3 (refine zrb ?_)
  refine qbg rfl rfl ⟨.slice A2 r (cc - p4),fun w1 hS=>?_,?_⟩
  · rw[←AA.o]
    by_cases hcp:cc=p4
    · subst hcp
      go_simp
    go_simp
  refine zP ?_;refine zw ?_;refine qeu rfl (.tmp 27) (.tmp 30) 23 23 rfl 5 zk zk _ _ _ _ _ _ rfl rfl W2.heap.size 0 (byv (List.replicate 128 0)) 360 HW3a.o (byv rest) (by rw[qat,Hlrest.o];show r=min r 128;omega) (fun h0=>⟨rfl,?_⟩) (by rw[qat,qat,Hlrest.o,List.length_replicate];omega) (qau _) W2.heap.size W2 ((tA5 _ _).alloc (tA4 _) _).drew (tA4 _) ?_
  · obtain⟨ad,h1,h2,h3⟩:=HXr.o.2 (by rw[qat,Hlrest.o]at h0;exact h0)
    refine⟨ad,h1,fun j v hv=>?_⟩;rw[←h3 j v hv];exact World.cell?_alloc_lt W2 _ _ (by rw[qa1];omega)
  intro w3 HG3 hB3;refine⟨fun _=>HS.o w3,zput ?_⟩;rw[show (byv rest).length=r by rw[qat,Hlrest.o]];iterate 1 (refine zrb ?_)
  refine qbf ?_;have hT3:Blk w3 W2.heap.size 360 (byv (rest++List.replicate (128 - r) 0)).toArray:=by
   have h:=HG3.o;rw[qev,Hlrest.o]at h;exact h
  rw[show 128 - r=(127 - r)+1 by omega,List.replicate_succ]at hT3;have ct:=hT3.cell r;rw[qez (Hlrest.o)]at ct;have ft:=hT3.frozen r;have q128:(r:Int)<128:=zo;have A7:=zh1 hT3;clear hT3;go_upto_region 11 with(fail)
  obtain⟨W4,hW4⟩:=eqx (w3.setCell ⟨W2.heap.size,r,none⟩ (.int .u8 128));rw[←hW4];have hT4:Blk W4 W2.heap.size 360 (byv (qf4 bs 0)).toArray:=by
   have h:=A7.set_ r (.int .u8 (128:Nat));have e:=qey rest (List.replicate (127 - r) 0) 0 128;rw[Hlrest.o]at e;rw[e]at h;rw[hW4,qfg,A0.o,hr64,show n - r=p4 by have:=Hrr.o;omega,Hrest.o];exact h
  have hB4:Zb W2 W4:=by rw[hW4];exact hB3.setCell (tA4 _) _
  obtain⟨AB,A4⟩:=zh2 hT4 hB4;clear hT4 hB4 hW4 ct ft A7 hB3 HG3;go_upto_if 36 with(fail)
  obtain⟨E,hE⟩:=xeq (qf3 r);have eb:=qfd r r64;rw[hE]at eb;obtain⟨eb1,eb2⟩:=eb;have HE:=zh1 hE;clear hE;go_cut [8] from 27 (fun s8 wx=>s8=.int .i64 (E:Nat)∧wx=W4)
  case first=>
   go_wp2
   all_goals
    go_meet
    case rel=>
     refine⟨?_,rfl⟩;rw[←HE.o];unfold qf3;first|rw[if_pos zo];rfl|rw[if_neg zo];rfl
  case rest=>
   obtain⟨rfl,rfl⟩:=hcut;go_wp2_with fail
   go_loopw [37] (fun i wr=>∃k:Nat,k≤8∧i=.int .i64 k∧Blk wr W2.heap.size 360 (byv (qf4 bs k)).toArray∧Below W2.heap.size wc wr) (fun i _=>8 - (intOf i).toNat)
   case atStart=>exact⟨0,by omega,rfl,AB.o,tA5 _ _⟩
   case round=>
    obtain⟨k,hk,rfl,htk,hbk⟩:=hrel;by_cases hk8:k<8
    ·
     have qk8:(k:Int)<8:=zo;obtain⟨j,hj⟩:=xeq (E - 1 - k);have v1:IntKind.i64.wrap ((E:Int) - 1)=(E:Int) - 1:=tBb _ zo;have v2:IntKind.i64.wrap ((E:Int) - 1 - k)=(j:Int):=by rw[show ((E:Int) - 1 - k)=(j:Int) by omega];exact tBb _ zo
     have v3:IntKind.u64.wrap (n:Int)=n:=tBa _ zo;have v4:IntKind.u64.wrap ((n:Int)*8)=((n*8:Nat):Int):=by rw[show ((n:Int)*8)=((n*8:Nat):Int) by omega];exact tBa _ zo
     have v5:IntKind.i64.wrap (8*(k:Int))=((8*k:Nat):Int):=by rw[show (8*(k:Int))=((8*k:Nat):Int) by omega];exact tBb _ zo
     have qj:(j:Int)<128:=zo;have ct:=htk.cell j;rw[qf7 (by rw[qfh bs k zo];omega)]at ct;have ft:=htk.frozen j;obtain⟨Htk,Hbk,Hj⟩:=zh3 htk hbk hj;clear htk hbk hj;go_wp2
     go_roundw
     case rel=>
      refine⟨k+1,by omega,by go_num,?_,Hbk.setCell (tA4 _) _⟩;have e:((n:Int)*8 / 2^(8*k) % 256)=((qav (8*bs.length) k:Nat):Int):=by
       rw[A0.o];unfold qav;rw[show (256:Nat)^k=2^(8*k) by rw[Nat.pow_mul],Nat.mul_comm 8 n];push_cast
       rfl
      have e2:j=qf3 (bs.length % 64) - 1 - k:=by rw[A0.o,hr64,HE.o,Hj.o]
      rw[e,←qff bs k hk8,←e2];exact Htk.set_ j _
     case measure=>simp[intOf];omega
    have qk8:¬(k:Int)<8:=zo;have hk':k=8:=zo;rw[hk']at htk;obtain⟨W5,rfl⟩:=eqx wr;have hs5:Blk W5 (w.heap.size+1) 209 (blocks bs qc1 m).vals:=(Hst.below A4.o (tB0 (tB0 L1 Hgr.size) (tA4 _))).below hbk (tB0 L1 Hgr.size);have hT5:Tabs W5:=((qfj (Ht.below A3.o Ht.size) Hgr.o (by have:=Ht.size;omega)).below A4.o (by have:=Ht.size;have:=A5.o;omega)).below hbk (by have:=Ht.size;have:=A5.o;omega);obtain⟨st1,hst1⟩:=xeq (blocks bs qc1 m);have hok1:st1.ok:=hst1▸qf0 bs qc1 qf1 m;rw[hst1]at hs5;obtain⟨Hst1,Hok1,AC,AD,Ht5,Hb5⟩:=zh6 hst1 hok1 hs5 hT5 htk hbk;have AE:=A5.o;have gne:W2.heap.size≠w.heap.size+1:=zo;clear hs5 hT5 hst1 hok1 htk hbk hk' hk8;go_wp2_with fail
    go_loopw [10] (fun i wr=>∃q p:Nat,Hid (64*q=p)∧p≤E∧i=.int .i64 p∧Blk wr (w.heap.size+1) 209 (blocks (qf4 bs 8) st1 q).vals∧W5.grownBy wr (some (w.heap.size+1))) (fun i _=>E - (intOf i).toNat)
    case atStart=>exact⟨0,0,rfl,by omega,rfl,AC.o,tB9 _ _⟩
    case round=>
     obtain⟨q,p,hp,hpE,rfl,hsq,hgq⟩:=hrel;by_cases hqE:p<E
     ·
      have q1:(p:Int)<E:=zo;have hp64:p+64≤E:=by have:=hp.o;omega
      have p128:p≤128:=zo;have pz:0≤(p:Int):=zo;have p128':(p:Int)≤128:=zo;have hrd:=qf8 (Ht5.grown hgq (by intro e;injection e with e;exact gne e)) (p:=p) (by rw[qfh bs 8 zo];omega);rw[qfh bs 8 zo]at hrd;have hsq2:=hsq;rw[St.vals]at hsq2;have K:=qcg (w.heap.size+1) wr.heap.size (128 - p) (128 - p) _ ((qf4 bs 8).drop p) _ wr (qf0 (qf4 bs 8) st1 Hok1.o q) (by rw[tBk,qfh bs 8 zo]) zo (fun b hb=>qfi bs A6.o 8 b (List.mem_of_mem_drop hb)) hsq2 hrd (tA4 _) (qfj AD.o hgq (by have:=Ht.size;omega));obtain⟨HK,Hgq⟩:=zh2 K hgq;clear K hsq hsq2 hrd hgq;go_wp2_with fail
      refine HK.o.mono ?_;rintro e w2 ⟨rfl,h1,h2⟩;have w1:IntKind.i64.wrap ((p:Int)+64)=(p+64:Nat):=by rw[show ((p:Int)+64)=((p+64:Nat):Int) by omega];exact tBb _ zo
      go_wp2
      go_roundw
      case rel=>exact⟨q+1,p+64,(show 64*(q+1)=p+64 by have:=hp.o;omega),hp64,by go_num,by rw[blocks,hp.o];exact h1,qc7 Hgq.o h2⟩
      case measure=>simp[intOf];omega
     have q1:¬(p:Int)<E:=zo;have hq:q=qf3 (bs.length % 64) / 64:=by rw[A0.o,hr64,HE.o];have:=hp.o;omega
     have hsh:blocks (qf4 bs 8) st1 q=qf5 bs:=by
      unfold qf5;rw[←hq,A0.o,HM.o,Hst1.o]
     rw[hsh]at hsq;obtain⟨st,hst⟩:=xeq (qf5 bs);rw[hst]at hsq;obtain⟨W6,rfl⟩:=eqx wr;have hok:st.ok:=by rw[←hst];exact qf0 _ _ (qf0 _ _ qf1 _) _
     have hlist:=St.ok_list hok;have hZ6:Blk W6 w.heap.size 29 zLD:=(((A8.grown Hgr.o (by intro e;injection e with e;omega)).below A4.o zo).below Hb5.o zo).grown hgq (by intro e;injection e with e;omega);have hB6:Zb w W6:=(((A3.grown Hgr.o zo (by intro g hg;injection hg with hg;omega)).trans (A4.mono zo)).trans (Hb5.mono zo)).grown hgq (by have:=Hb5.size;have:=A4.size;omega) (by intro g hg;injection hg with hg;omega);obtain⟨AF,AG,AH,AI,AJ⟩:=zh5 hsq hZ6 hB6 hst hlist;have lW6:w.heap.size+1<W6.heap.size:=hsq.lt;have hD7:Blk (W6.alloc (.cells zLD 29)) W6.heap.size 29 (byv (qf9 (qf6 st) 0)).toArray:=by
      have h:=Blk.new W6 29 zLD;exact h
     have AK:=zh1 hD7;clear hsq hZ6 hB6 hst hlist hok hD7 hq hsh hgq;go_wp2_with fail
     go_loopw [62] (fun i wr=>∃k:Nat,k≤32∧i=.int .i64 k∧Blk wr W6.heap.size 29 (byv (qf9 (qf6 st) k)).toArray∧Zb W6 wr) (fun i _=>32 - (intOf i).toNat)
     case atStart=>exact⟨0,by omega,rfl,AK.o,(tA5 _ _).alloc (tA4 _) _⟩
     case round=>
      obtain⟨k,hk,rfl,hdk,hbk⟩:=hrel;by_cases hk32:k<32
      ·
       have qk:(k:Int)<32:=zo;obtain⟨a,ha⟩:=xeq (k / 4);obtain⟨b,hb⟩:=xeq (k % 4);obtain⟨s,hs⟩:=xeq (24 - 8*b);have u1:Int.tdiv (k:Int) 4=(a:Int):=by rw[Int.tdiv_eq_ediv_of_nonneg zo];omega
       have u2:Int.tmod (k:Int) 4=(b:Int):=by rw[Int.tmod_eq_emod_of_nonneg zo];omega
       have u3:IntKind.i64.wrap (a:Int)=a:=tBb _ zo;have u4:IntKind.i64.wrap (b:Int)=b:=tBb _ zo;have u5:IntKind.i64.wrap (8*(b:Int))=8*(b:Int):=tBb _ zo;have u6:IntKind.i64.wrap (24 - 8*(b:Int))=(s:Int):=by rw[show (24 - 8*(b:Int))=(s:Int) by omega];exact tBb _ zo
       have u7:(a:Int)<8:=zo;have cs:=(AF.below hbk lW6).cell a;rw[St.vals_list,qc2 (by simp[St.list];omega)]at cs;obtain⟨x,hx⟩:=xeq (st.list.getD a 0);rw[hx]at cs;have lx:x<4294967296:=hx▸AJ.getD a;have cd:=hdk.cell k;rw[qf7 (by simp[qf9,qf6];omega)]at cd;have fd:=hdk.frozen k;obtain⟨Hdk,Hbk,Hx,Ha,Hb,Hs⟩:=zh6 hdk hbk hx ha hb hs;clear hdk hbk hx ha hb hs;go_wp2
       go_roundw
       case rel=>
        refine⟨k+1,by omega,by go_num,?_,Hbk.setCell (tA4 _) _⟩;have s24:s≤24:=by have:=Hs.o;omega
        have e:((x:Int) / 2^min s 32 % 256)=((x / 2^s % 256:Nat):Int):=by
         rw[Nat.min_eq_left zo];push_cast
         rfl
        rw[e,←qfa (L:=qf6 st) (k:=k) (v:=x / 2^s % 256) (by simp[qf6];omega) (by rw[qfc st hk32,Ha.o,Hb.o,Hs.o,Hx.o])];exact Hdk.set_ k _
       case measure=>simp[intOf];omega
      have qk:¬(k:Int)<32:=zo;have hk':k=(qf6 st).length:=by simp[qf6];omega
      rw[hk',qfb]at hdk;have hV:(byv (qf6 st)).length=32:=by simp[byv,qf6]
      have hV1:=qau (qf6 st);obtain⟨V,hVV⟩:=xeq (byv (qf6 st));rw[hVV]at hdk hV hV1;have AL:=zh1 (qap hdk 0 V zjq);have z7:=AG.below hbk zo;obtain⟨HV,AM,AN,Hbk,HI⟩:=zh5 hV hV1 hVV hbk (zI 29 hV);clear hdk hV hV1 hVV hbk hk' hk32;go_wp2_with (first
       |(refine zld AL.o zu29 HI.o ?_)
       |(refine zst z7 HI.o (by simp[HV.o]) AM.o ?_))
      have z8:=z7.setRow V.toArray;have AO:=qap z8 0 V zjq;refine zrt AO zu29 HI.o ⟨?_,below_setRow (AH.trans (Hbk.mono zo)) (tA4 _) _⟩;rw[←AN.o,←AI.o];rfl
def cutW (width:Int):Nat:=if width<1∨32<width then 32 else width.toNat
theorem qfl(width:Int):1≤cutW width∧cutW width≤32:=by unfold cutW;split<;>omega
def cutD (d:List Nat)(w:Nat):List Nat:=d.take w++List.replicate (32 - w) 0
def sumH (w:Nat)(b:List Nat):List Nat:=cutD (sha b) w
def qfm (w:Nat)(b:List Nat):List Nat:=sumH w (0::b)
def qfn (w:Nat)(a b:List Nat):List Nat:=sumH w (1::(a.take w++b.take w))
def half (n:Nat):Nat:=2^Nat.log2 (n - 1)
theorem qfo(h:2≤n):1≤half n∧half n<n∧n≤2*half n:=by
 unfold half;have h1:=Nat.log2_self_le (n:=n - 1) zo;have h2:=@Nat.lt_log2_self (n - 1);have h3:0<2^Nat.log2 (n - 1):=Nat.pow_pos zdc;rw[Nat.pow_succ]at h2;omega
def qfp (w:Nat)(l:List (List Nat)):List Nat:=
 if h:l.length≤1 then(match l with|[]=>sumH w []|b::_=>qfm w b)
 else qfn w (qfp w (l.take (half l.length))) (qfp w (l.drop (half l.length)))
 termination_by l.length
 decreasing_by
 · have:=qfo (n:=l.length) zo;rw[tBd];omega
 have:=qfo (n:=l.length) zo;rw[tBk];omega
theorem qfq(w:Nat):qfp w []=sumH w []:=by rw[qfp];rfl
theorem qfr(w:Nat)(b:List Nat):qfp w [b]=qfm w b:=by rw[qfp];rfl
theorem qfs(w:Nat){l:List (List Nat)}(h:2≤l.length):qfp w l=qfn w (qfp w (l.take (half l.length))) (qfp w (l.drop (half l.length))):=by
 rw[qfp,dif_neg zo]
def qft (w:Nat)(l:List (List Nat))(i:Nat):List (List Nat):=
 if h:l.length≤1 then []
 else if i<half l.length then qft w (l.take (half l.length)) i++[qfp w (l.drop (half l.length))]
 else qft w (l.drop (half l.length)) (i - half l.length)++[qfp w (l.take (half l.length))]
 termination_by l.length
 decreasing_by
 · have:=qfo (n:=l.length) zo;rw[tBd];omega
 have:=qfo (n:=l.length) zo;rw[tBk];omega
theorem qfu(w:Nat){l:List (List Nat)}(i:Nat)(h:l.length≤1):qft w l i=[]:=by rw[qft,dif_pos h]
theorem qfv(w:Nat){l:List (List Nat)}(h:2≤l.length)(hi:i<half l.length):qft w l i=qft w (l.take (half l.length)) i++[qfp w (l.drop (half l.length))]:=by
 rw[qft,dif_neg zo,if_pos hi]
theorem qfw(w:Nat){l:List (List Nat)}(h:2≤l.length)(hi:¬i<half l.length):qft w l i=qft w (l.drop (half l.length)) (i - half l.length)++[qfp w (l.take (half l.length))]:=by
 rw[qft,dif_neg zo,if_neg hi]
def subH (w:Nat)(l:List (List Nat))(m:Nat)(whole:Bool):List (List Nat):=
 if h:l.length≤1∨m=l.length then(if whole then [] else [qfp w l])
 else if m≤half l.length then subH w (l.take (half l.length)) m whole++[qfp w (l.drop (half l.length))]
 else subH w (l.drop (half l.length)) (m - half l.length) false++[qfp w (l.take (half l.length))]
 termination_by l.length
 decreasing_by
 · have:=qfo (n:=l.length) zo;rw[tBd];omega
 have:=qfo (n:=l.length) zo;rw[tBk];omega
theorem qfx(w:Nat){l:List (List Nat)}(whole:Bool)(h:m=l.length):subH w l m whole=if whole then [] else [qfp w l]:=by rw[subH,dif_pos (.inr h)]
theorem qfy(w:Nat){l:List (List Nat)}(whole:Bool)(h:2≤l.length)(hm:m≠l.length)(hi:m≤half l.length):subH w l m whole=subH w (l.take (half l.length)) m whole++[qfp w (l.drop (half l.length))]:=by
 rw[subH,dif_neg zo,if_pos hi]
theorem qfz(w:Nat){l:List (List Nat)}(whole:Bool)(h:2≤l.length)(hm:m≠l.length)(hi:¬m≤half l.length):subH w l m whole=subH w (l.drop (half l.length)) (m - half l.length) false++[qfp w (l.take (half l.length))]:=by
 rw[subH,dif_neg zo,if_neg hi]
theorem qg0{d:List Nat}{w:Nat}(h:d.length=32)(hw:w≤32):(cutD d w).length=32:=by
 unfold cutD;rw[tA6,tBd,List.length_replicate];omega
theorem qg1{d:List Nat}{w:Nat}(h:∀x∈d,x<256):∀x∈cutD d w,x<256:=by
 intro x hx;rcases List.mem_append.1 hx with hx|hx
 · exact h x (tB7 hx)
 rw[(List.mem_replicate.1 hx).2];decide
abbrev RSt:=Nat × Option (Nat × Nat)
def qg2 (s:RSt)(a y:Nat):RSt:=match s.2 with
 |none=>(s.1,some (a,y))
 |some _=>s
def qg3 (bs:List Nat)(s:RSt)(n:Nat):RSt × List Nat:=match s.2 with
 |some _=>(s,[])
 |none=>if n≤bs.length - s.1 then((s.1+n,none),(bs.drop s.1).take n) else((s.1,some (bs.length,10)),[])
def num (l:List Nat):Nat:=l.foldl (fun n c=>n*256+c) 0
def rNum (bs:List Nat)(s:RSt)(k:Nat):RSt × Nat:=((qg3 bs s k).1,num (qg3 bs s k).2)
def rEnd (bs:List Nat)(s:RSt):Option (Nat × Nat):=match s.2 with
 |some x=>some x
 |none=>if s.1<bs.length then some (s.1,11) else none
def RNo (w:World)(B:Nat)(p:Option Addr):Option (Nat × Nat)→Prop
 |none=>p=none
 |some x=>∃h,p=some ⟨h,0,none⟩∧B≤h∧Blk w h 302 #[.int .i64 (x.1:Int),.int .i64 (x.2:Int)]
def Rd (w:World)(B g:Nat)(bs:List Nat)(s:RSt):Prop:=
 ∃A n c p,Blk w g 239 #[.slice A n c,.int .i64 (s.1:Int),.pointer p]∧B≤g∧OwnB w B (.slice A n c) bs∧n=bs.length∧n≤c∧s.1≤n∧n≤140737488355328∧RNo w B p s.2
theorem RNo.kept{p:Option Addr}{x:Option (Nat × Nat)}{row:Option Nat}(h:RNo w B p x)(hg:w.grownBy w' row)(hr:∀k cs,row=some k→¬Blk w k 302 cs):RNo w' B p x:=by
 cases x with
 |none=>exact h
 |some x=>
  obtain⟨k,e,hB,hk⟩:=h;exact⟨k,e,hB,hk.grown hg fun e=>hr k _ e.symm hk⟩
theorem Rd.kept{s:RSt}{t:TypeId}{cs:Array Value}(h:Rd w B g bs s)(hg:w.grownBy w' (some k))(hk:Blk w k t cs)(h1:t≠302)(h2:5≠t)(h3:g≠k):Rd w' B g bs s:=by
 obtain⟨A,n,c,p,hb,hB,ho,hn,hc,hs,hm,hp⟩:=h;refine⟨A,n,c,p,hb.grown hg (fun e=>h3 (by injection e)),hB,tB3 ho hg (.inr (qa3 ho hk h2)),hn,hc,hs,hm,hp.kept hg ?_⟩;rintro k' cs' e hk';injection e with e;subst e;exact hk.ne_ hk' h1 rfl
theorem Rd.below{s:RSt}(h:Rd w B g bs s)(hb:Zb w w'):Rd w' B g bs s:=by
 obtain⟨A,n,c,p,hg,hB,ho,hn,hc,hs,hm,hp⟩:=h;exact⟨A,n,c,p,hg.below hb hg.lt,hB,ho.kept hb,hn,hc,hs,hm,hp.kept (qad hb none) (fun _ _ e=>by cases e)⟩
theorem Rd.grown{s:RSt}{l:List (Int × Nat)}(h:Rd w B g bs s)(ho:OwnC w base v l)(hg:w.grownBy w' v.ownBlock):Rd w' B g bs s:=by
 rcases ho.2 with⟨rfl,_⟩|⟨q,cap,cur,rfl,_,hh,_⟩
 · exact h.below ⟨hg.os,hg.tape,hg.output,hg.size,fun k hk=>hg.block k hk (by simp[Value.ownBlock])⟩
 obtain⟨A,n,c,p,hgb,-⟩:=id h;exact h.kept (k:=q) (by simpa [Value.ownBlock] using hg) (show Blk w q 132 cur from hh) zdc zdc (hgb.ne_ (show Blk w q 132 cur from hh) zdc)
theorem Rd.lt{s:RSt}(h:Rd w B g bs s):g<w.heap.size:=by
 obtain⟨A,n,c,p,hg,-⟩:=h;exact hg.lt
theorem Rd.le{s:RSt}(h:Rd w B g bs s):B≤g:=by
 obtain⟨A,n,c,p,hg,hB,-⟩:=h;exact hB
theorem qg4(h:w.grownBy w' (some g))(hB:B≤g)(hg:g<w.heap.size):Below B w w':=
 ⟨h.os,h.tape,h.output,h.size,fun k hk=>h.block k zo (fun e=>by injection e;omega)⟩
theorem qg5(bs:List Nat)(A:Option Addr)(n c:Nat)(w:World)(hr:Reads w w.heap.size 1 A n (byv bs))(hn:n≤140737488355328):
 Zc 68 #[.slice A n c] w fun e w'=>∃g,e=.returned (.pointer (some ⟨g,0,none⟩))∧Rd w' w.heap.size g bs (0,none)∧Zb w w':=by
 have hl:=qb4 hr;go_enter Tryz.func68,Tryz.ntmps68
 go_wp2_with fail
 refine(qd0 A n c w.heap.size (byv bs) w hr (qau _) hn).mono ?_;rintro e w1 ⟨v,rfl,own1,b1⟩;obtain⟨A1,c1,rfl,hc1,-,-⟩:=qaf own1;go_wp2
 go_ret
 subst hl;exact⟨_,rfl,⟨A1,_,c1,none,Blk.new _ _ _,b1.size,OwnB.alloc own1 _,rfl,hc1,Nat.zero_le _,hn,rfl⟩,qah b1 _⟩
theorem qg6(B g:Nat)(bs:List Nat)(s:RSt)(a y:Nat)(w:World)(h:Rd w B g bs s)(hy:y≠0):
 Zc 149 #[.pointer (some ⟨g,0,none⟩),.int .i64 a,.int .i64 y] w fun e w'=>e=.returned (.tuple #[])∧Rd w' B g bs (qg2 s a y)∧w.grownBy w' (some g):=by
 obtain⟨s1,s2⟩:=s;obtain⟨A,n,c,p,hg,hB,ho,hn,hc,hs,hm,hp⟩:=h;have c2:=hg.cell 2;rw[show (#[Value.slice A n c,.int .i64 (s1:Int),.pointer p]:Array Value)[2]? =some (.pointer p) from rfl]at c2;have f2:=hg.frozen 2;have hy':¬(y:Int)=0:=zo;have hlt:=hg.lt;obtain⟨HG,HO⟩:=zh2 hg ho;clear hg ho;cases s2 with
 |none=>
  obtain rfl:p=none:=hp;go_enter Tryz.func149,Tryz.ntmps149
  go_wp2
  go_end0
  refine⟨rfl,⟨A,n,c,some ⟨w.heap.size,0,none⟩,?_,hB,?_,hn,hc,hs,hm,?_⟩,?_⟩
  · exact(HG.set_ 2 _).alloc _
  · exact(OwnB.far HO.o (p:=⟨g,2,none⟩) (OwnB.blk_ne HO.o HG.o zdc) _).alloc _
  · exact⟨_,rfl,by omega,by simpa using Blk.new (w.setCell ⟨g,2,none⟩ (.pointer (some ⟨w.heap.size,0,none⟩))) 302 #[.int .i64 (a:Int),.int .i64 (y:Int)]⟩
  exact qaa (qab (tB9 _ _) (.inl rfl) _) _
 |some x=>
  obtain⟨k,rfl,hk,hkb⟩:=hp;have HK:=zh1 hkb;clear hkb;go_enter Tryz.func149,Tryz.ntmps149
  go_wp2
  go_end0
  exact⟨rfl,⟨A,n,c,_,HG.o,hB,HO.o,hn,hc,hs,hm,⟨k,rfl,hk,HK.o⟩⟩,tB9 _ _⟩
theorem qg7(B g:Nat)(bs:List Nat)(s:RSt)(y:Nat)(w:World)(h:Rd w B g bs s)(hy:y≠0):
 Zc 72 #[.pointer (some ⟨g,0,none⟩),.int .i64 y] w fun e w'=>e=.returned (.tuple #[])∧Rd w' B g bs (qg2 s s.1 y)∧w.grownBy w' (some g):=by
 have h':=h;obtain⟨A,n,c,p,hg,-⟩:=h';have c1:=hg.cell 1;rw[show (#[Value.slice A n c,.int .i64 (s.1:Int),.pointer p]:Array Value)[1]? =some (.int .i64 (s.1:Int)) from rfl]at c1;have H:=zh1 h;clear h hg;go_enter Tryz.func72,Tryz.ntmps72
 go_wp2_with fail
 refine(qg6 B g bs s s.1 y w H.o hy).mono ?_;rintro e w1 ⟨rfl,h1,g1⟩;go_wp2
 go_end0
 exact⟨rfl,h1,g1⟩
theorem qg8(B g:Nat)(bs:List Nat)(s:RSt)(m:Nat)(w:World)(h:Rd w B g bs s)(hm1:m≤140737488355328):
 Zc 147 #[.pointer (some ⟨g,0,none⟩),.int .i64 m] w fun e w'=>∃A n c,e=.returned (.slice A n c)∧n≤c∧Reads w' w'.heap.size 1 A n (byv (qg3 bs s m).2)∧Rd w' B g bs (qg3 bs s m).1∧w.grownBy w' (some g):=by
 have h':=h;obtain⟨s1,s2⟩:=s;obtain⟨A,n,c,p,hg,hB,ho,hn,hc,hs,hm,hp⟩:=h';have c0:=hg.cell 0;have c1:=hg.cell 1;have c2:=hg.cell 2;have f1:=hg.frozen 1;rw[show (#[Value.slice A n c,.int .i64 (s1:Int),.pointer p]:Array Value)[0]? =some (.slice A n c) from rfl]at c0;rw[show (#[Value.slice A n c,.int .i64 (s1:Int),.pointer p]:Array Value)[1]? =some (.int .i64 (s1:Int)) from rfl]at c1;rw[show (#[Value.slice A n c,.int .i64 (s1:Int),.pointer p]:Array Value)[2]? =some (.pointer p) from rfl]at c2;obtain⟨H,HG,HO,HN,HP⟩:=zh5 h hg ho hn hp;clear hg ho h hn hp;dsimp only at hs;cases s2 with
 |some x=>
  obtain⟨k,rfl,hk,hkb⟩:=HP.o;clear hkb;go_enter Tryz.func147,Tryz.ntmps147
  go_wp2
  go_ret
  exact⟨none,0,0,rfl,tA4 _,Reads.none_,H.o,tB9 _ _⟩
 |none=>
  obtain rfl:p=none:=HP.o;by_cases hmn:m≤n - s1
  ·
   have q1:¬(m:Int)>n - s1:=zo;have hr:qg3 bs (s1,none) m=((s1+m,none),(bs.drop s1).take m):=by
    show (if m≤bs.length - s1 then _ else _)=_;rw[←HN.o,if_pos hmn]
   have HR:=zh1 hr;have q2:(s1:Int)+m≤n:=zo;clear hr;go_enter Tryz.func147,Tryz.ntmps147
   go_wp2
   obtain⟨S,HS⟩:=zS fun w'=>w'.cell? ⟨g,0,none⟩=some (.slice A n c)∧w'.cell? ⟨g,1,none⟩=some (.int .i64 (s1:Int))
   refine zrs S 12 (zq 0 12 []) ((HS.o _).mpr ⟨c0,c1⟩) ?_;repeat(refine zrt0 ?_)
   refine qbf ?_;go_upto_region 7 with(fail)
   obtain⟨W1,hW1⟩:=eqx (w.setCell ⟨g,1,none⟩ (.int .i64 ((s1:Int)+m)));have hd:(w.setCell ⟨g,1,none⟩ (.int .i64 ((s1:Int)+m))).drew=W1.drew:=by rw[hW1]
   rw[hd];have hg1:=HG.set_ 1 (.int .i64 ((s1:Int)+m));rw[←hW1]at hg1;have k0:W1.cell? ⟨g,0,none⟩=some (.slice A n c):=hg1.cell 0;have k1:W1.cell? ⟨g,1,none⟩=some (.int .i64 ((s1:Int)+m)):=hg1.cell 1;have e1:(s1:Int)+m - m=s1:=zo;clear c0 c1 c2 f1 HS;obtain⟨S',HS⟩:∃S:World→Prop,Hid (∀w',S w'=(w'.cell? ⟨g,0,none⟩=some (.slice A n c)∧w'.cell? ⟨g,1,none⟩=some (.int .i64 ((s1:Int)+m)))):=⟨_,fun _=>rfl⟩;refine zrs S' 16 (zq 0 16 []) ((HS.o _).mpr ⟨k0,k1⟩) ?_;repeat(refine zrt0 ?_)
   obtain⟨A2,hA2⟩:∃A2,(if c=s1 then A else Option.map (fun x=>x.add s1) A)=A2:=⟨_,rfl⟩;obtain⟨C2,hC2⟩:=xeq (c - s1);refine qbg rfl rfl ⟨.slice A2 m C2,fun w1 hS=>?_,?_⟩
   · rw[HS.o]at hS
     go_split_ands
     go_simp;rw[if_pos ⟨by omega,by omega⟩,if_pos zo,show ((s1:Int)+m).toNat - s1=m by omega]
   obtain⟨A0,A1⟩:=zh2 hA2 hC2;clear hA2 hC2;simp only[Act.put,tA0,tA1,tA2];repeat(refine zrt0 ?_)
   refine qbf ?_;go_wp2
   go_ret
   have own1:OwnB W1 B (.slice A n c) bs:=by
    rw[hW1];exact OwnB.far HO.o (p:=⟨g,1,none⟩) (OwnB.blk_ne HO.o HG.o zdc) _
   obtain⟨A',c',e,-,-,rd⟩:=OwnB.slice own1;rw[←HN.o]at e rd;injection e with e _ _;subst e;have rd2:=(rd.cut (k:=s1) (cap:=c) hs hc).pre (k:=m) zo;rw[Nat.mul_one]at rd2;rw[A0.o]at rd2;refine⟨A2,m,C2,rfl,by have:=A1.o;omega,?_,?_,?_⟩
   · rw[HR.o,show byv ((bs.drop s1).take m)=((byv bs).drop s1).take m by simp[byv]]
     exact rd2
   · rw[HR.o]
     exact⟨A,n,c,none,hg1,hB,own1,HN.o,hc,by dsimp only;omega,hm,rfl⟩
   rw[hW1];exact qa9 (qa9 (qab (g:=g) (p:=⟨g,1,none⟩) (tB9 w _) (.inl rfl) _))
  have q1:(m:Int)>n - s1:=zo;have hr:qg3 bs (s1,none) m=((s1,some (n,10)),[]):=by
   show (if m≤bs.length - s1 then _ else _)=_;rw[←HN.o,if_neg hmn]
  have HR:=zh1 hr;clear hr;go_enter Tryz.func147,Tryz.ntmps147
  go_wp2
  obtain⟨S,HS⟩:=zS fun w'=>w'.cell? ⟨g,0,none⟩=some (.slice A n c)∧w'.cell? ⟨g,1,none⟩=some (.int .i64 (s1:Int))
  refine zrs S 12 (zq 0 12 []) ((HS.o _).mpr ⟨c0,c1⟩) ?_;repeat(refine zrt0 ?_)
  refine qbf ?_;go_wp2_with fail
  refine(qg6 B g bs (s1,none) n 10 w.drew H.o zdc).mono ?_;rintro _ w1 ⟨rfl,h1,g1⟩;go_wp2
  go_ret
  exact⟨none,0,0,rfl,tA4 _,by rw[HR.o];exact Reads.none_,by rw[HR.o];exact h1,⟨g1.os,g1.tape,g1.output,g1.size,g1.block⟩⟩
theorem qg9(l:List Nat)(c:Nat):num (l++[c])=num l*256+c:=by simp[num]
theorem qga(l:List Nat)(h:∀x∈l,x<256):num l<256^l.length:=by
 have key:∀k,num (l.take k)<256^(l.take k).length:=by
  intro k;induction k with
  |zero=>simp[num]
  |succ k ih=>
   by_cases hk:k<l.length
   · rw[List.take_add_one,tA7 hk,Option.toList_some,qg9,tA6]
     have:=h _ (List.getElem_mem hk);rw[List.length_singleton,Nat.pow_succ];omega
   rw[tB5 zo]at ih ⊢;exact ih
 simpa [List.take_length] using key l.length
theorem or64(n c:Nat)(hn:n<72057594037927936)(hc:c<256):bits .or .u64 ((n:Int)*256) (c:Int)=((n*256+c:Nat):Int):=by
 have e:n*256+c=(n*256)|||c:=by
  have:=Nat.two_pow_add_eq_or_of_lt (i:=8) (b:=c) (by simpa using hc) n;rw[Nat.mul_comm];exact this
 have h1:(n*256:Nat)<2^64:=zo;have h2:((n*256)|||c)<2^64:=Nat.or_lt_two_pow h1 zo;rw[e,show ((n:Int)*256)=((n*256:Nat):Int) by push_cast;rfl];show IntKind.u64.wrap ((BitVec.ofInt 64 ((n*256:Nat):Int)|||BitVec.ofInt 64 (c:Int)).toNat:Int)=_;rw[BitVec.toNat_or,BitVec.ofInt_natCast,BitVec.ofInt_natCast,BitVec.toNat_ofNat,BitVec.toNat_ofNat,Nat.mod_eq_of_lt h1,Nat.mod_eq_of_lt (show c<2^64 by omega),IntKind.wrap_u64];omega
theorem qgb(bs:List Nat)(s:RSt)(m:Nat):(qg3 bs s m).2.length≤m:=by
 unfold qg3;split
 · simp
 split
 · simp;omega
 simp
theorem qgc(bs:List Nat)(s:RSt)(m:Nat)(h:∀x∈bs,x<256):∀x∈(qg3 bs s m).2,x<256:=by
 unfold qg3;split
 · simp
 split
 · intro x hx
   exact h x (List.mem_of_mem_drop (tB7 hx))
 simp
theorem qgd(bs:List Nat)(s:RSt)(m:Nat)(h:∀x∈bs,x<256):(rNum bs s m).2<256^m:=
 tB0 (qga _ (qgc bs s m h)) (Nat.pow_le_pow_right zo (qgb bs s m))
theorem qge(B g:Nat)(bs:List Nat)(s:RSt)(k:Int)(w:World)(h:Rd w B g bs s)(hb:∀x∈bs,x<256):
 Zc 69 #[.pointer (some ⟨g,0,none⟩),.int .i64 k] w fun e w'=>e=.returned (.int .u64 (rNum bs s (qb0 k)).2)∧Rd w' B g bs (rNum bs s (qb0 k)).1∧w.grownBy w' (some g):=by
 obtain⟨hs1,hs8⟩:=qb1 k;go_enter Tryz.func69,Tryz.ntmps69
 go_wp2_with fail
 refine zca (qcx _ _) ?_;obtain⟨z,hz⟩:=xeq (qb0 k);rw[hz]at hs1 hs8 ⊢;have HZ:=zh1 hz;clear hz;go_wp2_with fail
 refine(qg8 B g bs s z w h zo).mono ?_;rintro e w1 ⟨A,n,c,rfl,hnc,rd,h1,g1⟩;have hlt:=qgc bs s z hb;have hle:=qgb bs s z;have HX:Hid (rNum bs s z=((qg3 bs s z).1,num (qg3 bs s z).2)):=rfl;obtain⟨T,hT⟩:=xeq ((qg3 bs s z).2);obtain⟨s',hs'⟩:=xeq ((qg3 bs s z).1);rw[hT]at rd hlt hle HX;rw[hs']at h1 HX;have hl:=qb4 rd;have hn8:n≤8:=zo;obtain⟨A1,H1,G1,HL⟩:=zh4 rd h1 g1 hl;clear rd h1 g1 hT hs' h hl;go_wp2
 obtain⟨wo,rfl⟩:=eqx w1;go_loopw [5,13] (fun v i wr=>∃j:Nat,j≤n∧i=.int .i64 j∧v=.int .u64 (num (T.take j):Nat)∧wr=wo) (fun _ i _=>n - (intOf i).toNat)
 case atStart=>exact⟨0,by omega,rfl,rfl,rfl⟩
 case round=>
  obtain⟨j,hj,rfl,rfl,rfl⟩:=hrel;by_cases hjn:j<n
  ·
   have qk:(j:Int)<n:=zo;obtain⟨x,hx⟩:∃x,T[j]? =some x:=⟨_,tA7 (by rw[HL.o];exact hjn)⟩;obtain⟨gb,go,hA,hgb,hrd⟩:=A1.mid zo zo;have m0:=hrd j (.int .u8 x) (by simp[byv,hx]);subst hA;have hx256:x<256:=hlt x (tB2 hx);have hxx:IntKind.u64.wrap (x:Int)=x:=tBa _ zo;have hnl:=qga (T.take j) (fun y hy=>hlt y (tB7 hy));have hpow:256^(T.take j).length≤256^7:=Nat.pow_le_pow_right zo (by rw[tBd];have:=HL.o;omega);have hnew:num (T.take (j+1))=num (T.take j)*256+x:=by rw[List.take_add_one,hx];exact qg9 _ _
   obtain⟨y,hy⟩:=xeq (num (T.take j));rw[hy]at hnl hnew ⊢;have hy56:y<72057594037927936:=zo;have hor:=or64 y x hy56 hx256;have A0:=zh1 hnew;clear hnl hpow hnew hy hrd hx;have HJ:=zh1 hjn;go_wp2
   go_roundw
   case rel=>exact⟨j+1,HJ.o,by go_num,by rw[A0.o];push_cast;rfl,by first|rfl|trivial⟩
   case measure=>have:=HJ.o;simp[intOf];omega
  have qk:¬(j:Int)<n:=zo;rw[tB5 (by rw[HL.o];omega)];go_wp2
  go_ret
  exact⟨by rw[HZ.o,HX.o];rfl,by rw[HZ.o,HX.o];exact H1.o,G1.o⟩
def rDig (bs:List Nat)(s:RSt):RSt × List Nat:=((qg3 bs s 32).1,(qg3 bs s 32).2++List.replicate (32 - (qg3 bs s 32).2.length) 0)
theorem qgf(bs:List Nat)(s:RSt):(rDig bs s).2.length=32:=by
 have:=qgb bs s 32;simp[rDig];omega
theorem qgg(bs:List Nat)(s:RSt)(h:∀x∈bs,x<256):∀x∈(rDig bs s).2,x<256:=by
 intro x hx;simp only[rDig,tBg,List.mem_replicate]at hx;rcases hx with hx|⟨-,rfl⟩
 · exact qgc bs s 32 h x hx
 omega
theorem qgh(B g:Nat)(bs:List Nat)(s:RSt)(w:World)(h:Rd w B g bs s):
 Zc 71 #[.pointer (some ⟨g,0,none⟩)] w fun e w'=>e=.returned (.agg (byv (rDig bs s).2).toArray)∧Rd w' B g bs (rDig bs s).1∧w.grownBy w' (some g):=by
 have hX:rDig bs s=((qg3 bs s 32).1,(qg3 bs s 32).2++List.replicate (32 - (qg3 bs s 32).2.length) 0):=rfl;have hle:=qgb bs s 32;have T2:=fun w h=>qg8 B g bs s 32 w h zo
 obtain⟨T,hT⟩:=xeq ((qg3 bs s 32).2);obtain⟨s',hs'⟩:=xeq ((qg3 bs s 32).1);rw[hT]at hle;rw[hT,hs']at hX;simp only[hT,hs']at T2;obtain⟨HX,A0,H⟩:=zh3 hX T2 h;have hlt:=h.lt;clear hX T2 hT hs' h;obtain⟨W0,hW0⟩:=eqx ((w.alloc (.cells zLD 29)).alloc (.cells zLD 29));have r0:=zNb hW0;have d0:=zNc hW0;have b0:=zMb hW0;obtain⟨R0,D0,B0,A1⟩:=zh4 r0 d0 b0 hW0;clear r0 d0 b0 hW0;go_enter Tryz.func71,Tryz.ntmps71
 go_upto_region 2 with(fail)
 rw[←A1.o];obtain⟨S,HS⟩:∃S:World→Prop,Hid (∀w',S w'):=⟨fun _=>True,fun _=>trivial⟩;refine zrs S 3 [(0,false),(1,false),(2,true),(3,true)] (HS.o _) ?_;iterate 2 (refine zrb ?_)
 refine zw ?_;go_simp;refine(A0.o W0.drew (H.below B0.drew)).mono ?_;rintro e w1 ⟨A,n,c,rfl,hnc,rd,h1,g1⟩;refine⟨HS.o _,zput ?_⟩;have hl:=qb4 rd;have d1:=D0.grown (w:=W0.drew) g1 (by simp;omega);have r1:=R0.grown (w:=W0.drew) g1 (by simp;omega);refine zw ?_;refine qex (.tmp 4) (.tmp 6) 23 23 rfl 5 zk zk _ _ _ _ _ _ rfl rfl (w.heap.size+1) 0 (byv (List.replicate 32 0)) 29 d1 (byv T) (by rw[qat,hl];show n=min n 32;omega) (fun h0=>⟨rfl,?_⟩) (by rw[qat,qat,List.length_replicate];omega) (qau _) ?_
 · obtain⟨ad,e,-,hc⟩:=rd.2 (by rw[qat]at h0;omega)
   exact⟨ad,e,hc⟩
 intro w2 HG2 g2;rw[show (byv T).length=n by rw[qat,hl]];refine⟨fun _=>HS.o _,zput ?_⟩;refine qbf ?_;have d2:Blk w2 (w.heap.size+1) 29 (byv (T++List.replicate (32 - T.length) 0)).toArray:=by
  have h:=HG2.o;rw[qev]at h;exact h
 have r2:=r1.grown g2 zm;have h2:Rd w2 B g bs s':=h1.kept g2 d1 zdc zdc zo;obtain⟨D,hD⟩:=xeq (T++List.replicate (32 - T.length) 0);have lD:(byv D).length=32:=by rw[qat,←hD];simp;omega
 have oD:=qau D;rw[hD]at d2 HX;obtain⟨A2,HI,HI',R2,D2,H2,G1,G2⟩:=zh8 (qap d2 0 (byv D) zjq) (show (Tryz.prog.info? 29).map (·.size)=some (byv D).length by rw[lD];exact Tryz.dig_info) (show (Tryz.prog.info? 29).map (·.size)=some (byv D).toArray.size by rw[tB6,lD];exact Tryz.dig_info) r2 d2 h2 g1 g2;obtain⟨LD,OD⟩:=zh2 lD oD;clear r2 d2 h2 g1 g2 d1 r1 lD oD rd h1 hD HG2;go_wp2_with (first
  |(refine zld A2.o zu29 HI.o ?_)
  |(refine wpList_store_row rfl 29 (.tmp 2) (.tmp 8) rfl w.heap.size (byv D).toArray rfl rfl 29 _ R2.o HI'.o (by simp[LD.o]) (by simpa using OD.o) ?_))
 have z8:=R2.setRow (byv D).toArray;have A3:=qap z8 0 (byv D) zjq;refine bodyPost_ret (v:=.agg (byv D).toArray) (qao rfl rfl (run_loadVar_mid _ _ 0 _ (byv D) _ A3 Tryz.underlying29 rfl (by simpa using HI.o))) rfl ⟨by rw[HX.o],?_,?_⟩
 · rw[HX.o]
   exact H2.kept (qam _ _ _) R2.o zdc zdc zo
 have q1:=qac (qad B0.drew (some g)) (row:=some g) G1.o zm;have q2:=qac q1 G2.o zm;exact qac q2 (qam w2 w.heap.size _) zm
def RErr (w:World)(B:Nat)(v:Value):Option (Nat × Nat)→Prop
 |none=>v=.nilIface
 |some x=>∃h,v=.iface 237 (.pointer (some ⟨h,0,none⟩))∧B≤h∧Blk w h 302 #[.int .i64 (x.1:Int),.int .i64 (x.2:Int)]
theorem qgi(B g:Nat)(bs:List Nat)(s:RSt)(w:World)(h:Rd w B g bs s):
 Zc 151 #[.pointer (some ⟨g,0,none⟩)] w fun e w'=>∃v,e=.returned v∧RErr w' w.heap.size v (rEnd bs s)∧Zb w w':=by
 obtain⟨s1,s2⟩:=s;obtain⟨A,n,c,p,hg,hB,ho,hn,hc,hs,hm,hp⟩:=h;have c0:=hg.cell 0;have c1:=hg.cell 1;have c2:=hg.cell 2;rw[show (#[Value.slice A n c,.int .i64 (s1:Int),.pointer p]:Array Value)[0]? =some (.slice A n c) from rfl]at c0;rw[show (#[Value.slice A n c,.int .i64 (s1:Int),.pointer p]:Array Value)[1]? =some (.int .i64 (s1:Int)) from rfl]at c1;rw[show (#[Value.slice A n c,.int .i64 (s1:Int),.pointer p]:Array Value)[2]? =some (.pointer p) from rfl]at c2;dsimp only at hs;have hlt:=hg.lt;cases s2 with
 |some x=>
  obtain⟨a,y⟩:=x;obtain⟨k,rfl,hk,hkb⟩:=hp;have k0:=hkb.cell 0;have k1:=hkb.cell 1;rw[show (#[Value.int .i64 (a:Int),.int .i64 (y:Int)]:Array Value)[0]? =some (.int .i64 (a:Int)) from rfl]at k0;rw[show (#[Value.int .i64 (a:Int),.int .i64 (y:Int)]:Array Value)[1]? =some (.int .i64 (y:Int)) from rfl]at k1;have hklt:=hkb.lt;clear hkb hg ho;go_enter Tryz.func151,Tryz.ntmps151
  go_wp2
  obtain⟨S,HS⟩:=zS fun w'=>w'.cell? ⟨g,2,none⟩=some (.pointer (some ⟨k,0,none⟩))∧w'.cell? ⟨k,0,none⟩=some (.int .i64 (a:Int))∧w'.cell? ⟨k,1,none⟩=some (.int .i64 (y:Int))
  refine zrs S 18 (zq 0 15 [(15,true),(16,false),(17,false)]) ((HS.o _).mpr ⟨c2,k0,k1⟩) ?_;repeat(refine zrt0 ?_)
  refine zw ?_;go_simp;refine⟨(HS.o _).mpr ⟨qaj c2 _,qaj k0 _,qaj k1 _⟩,zput ?_⟩;repeat(refine zrt0 ?_)
  refine qbf ?_;go_wp2
  go_ret
  exact⟨_,rfl,⟨_,rfl,tA4 _,Blk.new _ _ _⟩,qah (tA5 _ _).drew _⟩
 |none=>
  obtain rfl:p=none:=hp;by_cases hlt2:s1<n
  ·
   have q:(s1:Int)<n:=zo;have HE:Hid (rEnd bs (s1,none)=some (s1,11)):=by
    show (if s1<bs.length then _ else _)=_;rw[←hn,if_pos hlt2]
   clear hg ho hn;go_enter Tryz.func151,Tryz.ntmps151
   go_wp2
   obtain⟨S,HS⟩:=zS fun w'=>w'.cell? ⟨g,0,none⟩=some (.slice A n c)∧w'.cell? ⟨g,1,none⟩=some (.int .i64 (s1:Int))
   refine zrs S 11 (zq 0 11 []) ((HS.o _).mpr ⟨c0,c1⟩) ?_;repeat(refine zrt0 ?_)
   refine qbf ?_;go_wp2
   go_ret
   exact⟨_,rfl,by rw[HE.o];exact⟨_,rfl,tA4 _,Blk.new _ _ _⟩,qah (tA5 _ _).drew _⟩
  have q:¬(s1:Int)<n:=zo;have HE:Hid (rEnd bs (s1,none)=none):=by
   show (if s1<bs.length then _ else _)=_;rw[←hn,if_neg hlt2]
  clear hg ho hn;go_enter Tryz.func151,Tryz.ntmps151
  go_wp2
  obtain⟨S,HS⟩:=zS fun w'=>w'.cell? ⟨g,0,none⟩=some (.slice A n c)∧w'.cell? ⟨g,1,none⟩=some (.int .i64 (s1:Int))
  refine zrs S 11 (zq 0 11 []) ((HS.o _).mpr ⟨c0,c1⟩) ?_;repeat(refine zrt0 ?_)
  refine qbf ?_;go_wp2
  go_ret
  exact⟨_,rfl,by rw[HE.o];rfl,(tA5 _ _).drew⟩
end Go.Proofs.YthomgopipiomhaaGreatDoor

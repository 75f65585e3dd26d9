/-
  Lemmas for ModelNumbers, shortened by program.
-/
import Derived.Test.YthomgopipiomhaaGreatDoorBMN04
namespace Go.Proofs.YthomgopipiomhaaGreatDoor
set_option linter.unusedVariables false
set_option linter.unusedSimpArgs false
set_option maxRecDepth 100000
set_option maxHeartbeats 32000000
section
open Go.RowKit
structure Req where
 op:Int
 tid:Nat
 cavs:List (Int × Nat)
 tag:List Nat
 tree:Int
 tenant:Int
 role:Int
 state:Int
 weight:Int
 id:Nat
 lo:Nat
 hi:Nat
 rate:Nat
 burst:Nat
 store:Nat
 expires:Nat
 leaf:List Nat
structure Req.Good (R:Req):Prop where
 tag:R.tag.length=32
 tagb:∀b∈R.tag,b<256
 tid:R.tid<4294967296
 cavn:∀x∈R.cavs,x.2<4294967296
 cavk:∀x∈R.cavs,(Lit.int .i64 x.1).wf=true
 op:(Lit.int .i64 R.op).wf=true
 tree:(Lit.int .i64 R.tree).wf=true
 tenant:(Lit.int .i64 R.tenant).wf=true
 role:(Lit.int .i64 R.role).wf=true
 state:(Lit.int .i64 R.state).wf=true
 weight:(Lit.int .i64 R.weight).wf=true
 id:R.id<4294967296
 lo:R.lo<18446744073709551616
 hi:R.hi<18446744073709551616
 rate:R.rate<4294967296
 burst:R.burst<4294967296
 store:R.store<4294967296
 expires:R.expires<18446744073709551616
 leafb:∀b∈R.leaf,b<256
def Req.rest (R:Req)(leafv:Value):List Value:=
 [.int .i64 R.tree,.int .i64 R.tenant,.int .i64 R.role,.int .i64 R.state,.int .i64 R.weight,.int .u32 (R.id:Int),.int .u64 (R.lo:Int),.int .u64 (R.hi:Int),.int .u32 (R.rate:Int),.int .u32 (R.burst:Int),.int .u32 (R.store:Int),.int .u64 (R.expires:Int),leafv]
def reqv (R:Req)(cav leafv:Value):List Value:=(Value.int .i64 R.op::tokv R.tid cav R.tag)++R.rest leafv
theorem qgu (R:Req)(cav leafv:Value)(ht:R.tag.length=32)(k:Nat):(reqv R cav leafv)[35+k]? =(R.rest leafv)[k]? :=by
 have h:(Value.int .i64 R.op::tokv R.tid cav R.tag).length=35:=by rw[List.length_cons,qer _ _ _ ht]
 unfold reqv;rw[List.getElem?_append_right (by omega),h];congr 1
 omega
abbrev Fld:=Nat × Nat × Nat
def qgv (op:Int):Bool:=decide (1≤op∧op≤9)
def fieldsOf (op:Int):Option (List Fld):=
 if op=1 then some [(1,1,35),(0,0,0)]
 else if op=2∨op=9 then some [(1,1,35)]
 else if op=3 then some [(1,1,35),(8,3,41)]
 else if op=4∨op=5 then some [(1,1,35),(8,3,41),(8,3,42)]
 else if op=6 then some [(1,1,35),(1,1,36),(1,1,39)]
 else if op=8 then some [(1,1,35),(1,1,39)]
 else if op=7 then some [(1,1,35),(1,1,38)]
 else if op=10 then some [(1,1,36),(1,1,37),(8,3,46)]
 else if op=11 then some [(4,2,40)]
 else if op=12 then some [(1,1,36),(4,2,43),(4,2,44),(4,2,45)]
 else none
def fldv (g:Nat)(f:Fld):List Value:=
 if f.2.1=1 then [.int .i64 (f.1:Int),.pointer (some ⟨g,f.2.2,none⟩),.pointer none,.pointer none]
 else if f.2.1=2 then [.int .i64 (f.1:Int),.pointer none,.pointer (some ⟨g,f.2.2,none⟩),.pointer none]
 else if f.2.1=3 then [.int .i64 (f.1:Int),.pointer none,.pointer none,.pointer (some ⟨g,f.2.2,none⟩)]
 else [.int .i64 (f.1:Int),.pointer none,.pointer none,.pointer none]
def qgw (g:Nat)(l:List Fld):List Value:=l.flatMap (fldv g)
theorem Tryz.fld_info:(Tryz.prog.info? 252).map (fun i=>(i.zero,i.size,i.bytes))=some (some (.agg #[.int .i64 0,.pointer none,.pointer none,.pointer none]),4,32):=by kernel_rfl
theorem qgx (op:Int)(w:World):
 Calls Tryz.prog 133 #[.int .i64 op] w fun e w'=>e=.returned (.bool (qgv op))∧w=w':=by
 go_enter Tryz.func133,Tryz.ntmps133
 go_wp2
 all_goals
  go_ret
  exact⟨qen (by simp_all [qgv];try omega),rfl⟩
def Lst (w:World)(B L g:Nat)(l:List Fld):Prop:=∃v,Blk w L 244 #[v]∧B≤L∧w.ownsRow B 252 4 v l.length (qgw g l)
theorem qgy {w1:World}{B L g n c:Nat}{v:Value}{A:Option Addr}{l:List Fld}(hg:Blk w1 L 244 #[v])(hB:B≤L)(hn:l.length=n)(hown:w1.ownsRow B 252 4 (.slice A n c) n (qgw g l)):Lst (w1.setCell ⟨L,0,none⟩ (.slice A n c)) B L g l:=by
 subst hn;exact⟨.slice A l.length c,by simpa using hg.set_ 0 (.slice A l.length c),hB,qal hown (p:=⟨L,0,none⟩) (qa3 hown hg (by decide)) _⟩
theorem qgz (B L g off:Nat)(l:List Fld)(w:World)(h:Lst w B L g l)(hl:l.length≤100):
 Calls Tryz.prog 194 #[.pointer (some ⟨g,off,none⟩),.pointer (some ⟨L,0,none⟩)] w fun e w'=>e=.returned (.tuple #[])∧Lst w' B L g (l++[(1,1,off)])∧Below B w w':=by
 obtain⟨i0,hi0,hz0,hz1,hz2⟩:=info_parts Tryz.fld_info;obtain⟨v,hL,hBL,hown⟩:=h;have hc:=hL.cell 0;have hf:=hL.frozen 0;simp at hc;have hlt:=hL.lt;go_enter Tryz.func194,Tryz.ntmps194
 go_wp2_with (at_builtin;refine qa7 _ rfl (.tmp 3) (.tmp 6) _ rfl B 252 i0 _ 4 32 Tryz.underlying244 hi0 hz0 hz1 hz2 rfl (by omega) v l.length (qgw g l) rfl (hown.alloc _) (w.heap.size+1) _ 1 1 [.int .i64 1,.pointer (some ⟨g,off,none⟩),.pointer none,.pointer none] rfl (Reads.new w _ _ 4 1 rfl) (by simp[Value.oneCell']) (by simp only[maxLen];omega) (by omega) (by simp;omega) ?_)
 intro v1 w1 hown1 hg1 hat1;have hgw:=(hL.alloc (.cells #[.int .i64 1,.pointer (some ⟨g,off,none⟩),.pointer none,.pointer none] 252)).grown hg1 (Ne.symm (qa3 hown hL (by decide)));have hb1:=qae ((tA5 B w).alloc (by omega) (.cells #[.int .i64 1,.pointer (some ⟨g,off,none⟩),.pointer none,.pointer none] 252)) (hown.alloc _) hg1 (tA4 _) (by simp;omega);obtain⟨A1,c1,rfl,-,-,-⟩:=qaf hown1;have hc1:=hgw.cell 0;have hf1:=hgw.frozen 0;simp at hc1;obtain⟨HL,HB⟩:=zh2 (qgy hgw hBL (l:=l++[(1,1,off)]) (n:=l.length+1) (by simp) (by simpa [qgw,fldv] using hown1)) (hb1.setCell (p:=⟨L,0,none⟩) hBL (.slice A1 (l.length+1) c1));clear hb1 hown1 hgw hat1 hg1 hown hL hc hf;go_wp2
 go_end0
 exact⟨rfl,HL.out,HB.out⟩
theorem qh0 (B L g off:Nat)(l:List Fld)(w:World)(h:Lst w B L g l)(hl:l.length≤100):
 Calls Tryz.prog 195 #[.pointer (some ⟨g,off,none⟩),.pointer (some ⟨L,0,none⟩)] w fun e w'=>e=.returned (.tuple #[])∧Lst w' B L g (l++[(4,2,off)])∧Below B w w':=by
 obtain⟨i0,hi0,hz0,hz1,hz2⟩:=info_parts Tryz.fld_info;obtain⟨v,hL,hBL,hown⟩:=h;have hc:=hL.cell 0;have hf:=hL.frozen 0;simp at hc;have hlt:=hL.lt;go_enter Tryz.func195,Tryz.ntmps195
 go_wp2_with (at_builtin;refine qa7 _ rfl (.tmp 3) (.tmp 6) _ rfl B 252 i0 _ 4 32 Tryz.underlying244 hi0 hz0 hz1 hz2 rfl (by omega) v l.length (qgw g l) rfl (hown.alloc _) (w.heap.size+1) _ 1 1 [.int .i64 4,.pointer none,.pointer (some ⟨g,off,none⟩),.pointer none] rfl (Reads.new w _ _ 4 1 rfl) (by simp[Value.oneCell']) (by simp only[maxLen];omega) (by omega) (by simp;omega) ?_)
 intro v1 w1 hown1 hg1 hat1;have hgw:=(hL.alloc (.cells #[.int .i64 4,.pointer none,.pointer (some ⟨g,off,none⟩),.pointer none] 252)).grown hg1 (Ne.symm (qa3 hown hL (by decide)));have hb1:=qae ((tA5 B w).alloc (by omega) (.cells #[.int .i64 4,.pointer none,.pointer (some ⟨g,off,none⟩),.pointer none] 252)) (hown.alloc _) hg1 (tA4 _) (by simp;omega);obtain⟨A1,c1,rfl,-,-,-⟩:=qaf hown1;have hc1:=hgw.cell 0;have hf1:=hgw.frozen 0;simp at hc1;obtain⟨HL,HB⟩:=zh2 (qgy hgw hBL (l:=l++[(4,2,off)]) (n:=l.length+1) (by simp) (by simpa [qgw,fldv] using hown1)) (hb1.setCell (p:=⟨L,0,none⟩) hBL (.slice A1 (l.length+1) c1));clear hb1 hown1 hgw hat1 hg1 hown hL hc hf;go_wp2
 go_end0
 exact⟨rfl,HL.out,HB.out⟩
theorem qh1 (B L g off:Nat)(l:List Fld)(w:World)(h:Lst w B L g l)(hl:l.length≤100):
 Calls Tryz.prog 196 #[.pointer (some ⟨g,off,none⟩),.pointer (some ⟨L,0,none⟩)] w fun e w'=>e=.returned (.tuple #[])∧Lst w' B L g (l++[(8,3,off)])∧Below B w w':=by
 obtain⟨i0,hi0,hz0,hz1,hz2⟩:=info_parts Tryz.fld_info;obtain⟨v,hL,hBL,hown⟩:=h;have hc:=hL.cell 0;have hf:=hL.frozen 0;simp at hc;have hlt:=hL.lt;go_enter Tryz.func196,Tryz.ntmps196
 go_wp2_with (at_builtin;refine qa7 _ rfl (.tmp 3) (.tmp 6) _ rfl B 252 i0 _ 4 32 Tryz.underlying244 hi0 hz0 hz1 hz2 rfl (by omega) v l.length (qgw g l) rfl (hown.alloc _) (w.heap.size+1) _ 1 1 [.int .i64 8,.pointer none,.pointer none,.pointer (some ⟨g,off,none⟩)] rfl (Reads.new w _ _ 4 1 rfl) (by simp[Value.oneCell']) (by simp only[maxLen];omega) (by omega) (by simp;omega) ?_)
 intro v1 w1 hown1 hg1 hat1;have hgw:=(hL.alloc (.cells #[.int .i64 8,.pointer none,.pointer none,.pointer (some ⟨g,off,none⟩)] 252)).grown hg1 (Ne.symm (qa3 hown hL (by decide)));have hb1:=qae ((tA5 B w).alloc (by omega) (.cells #[.int .i64 8,.pointer none,.pointer none,.pointer (some ⟨g,off,none⟩)] 252)) (hown.alloc _) hg1 (tA4 _) (by simp;omega);obtain⟨A1,c1,rfl,-,-,-⟩:=qaf hown1;have hc1:=hgw.cell 0;have hf1:=hgw.frozen 0;simp at hc1;obtain⟨HL,HB⟩:=zh2 (qgy hgw hBL (l:=l++[(8,3,off)]) (n:=l.length+1) (by simp) (by simpa [qgw,fldv] using hown1)) (hb1.setCell (p:=⟨L,0,none⟩) hBL (.slice A1 (l.length+1) c1));clear hb1 hown1 hgw hat1 hg1 hown hL hc hf;go_wp2
 go_end0
 exact⟨rfl,HL.out,HB.out⟩
def Gat (W w:World)(g:Nat)(D:Array Value)(l:List Fld):Prop:=g<W.heap.size∧Blk w g 34 D∧Lst w W.heap.size W.heap.size g l∧Below W.heap.size W w
theorem qh2 (W:World)(g:Nat)(D:Array Value)(off:Nat)(l:List Fld)(w:World)(h:Gat W w g D l)(hl:l.length≤100):
 Calls Tryz.prog 194 #[.pointer (some ⟨g,off,none⟩),.pointer (some ⟨W.heap.size,0,none⟩)] w fun e w'=>e=.returned (.tuple #[])∧Gat W w' g D (l++[(1,1,off)]):=by
 refine(qgz _ _ _ off l w h.2.2.1 hl).mono ?_;rintro e w' ⟨rfl,h1,h2⟩;exact⟨rfl,h.1,h.2.1.below h2 h.1,h1,h.2.2.2.trans h2⟩
theorem qh3 (W:World)(g:Nat)(D:Array Value)(off:Nat)(l:List Fld)(w:World)(h:Gat W w g D l)(hl:l.length≤100):
 Calls Tryz.prog 195 #[.pointer (some ⟨g,off,none⟩),.pointer (some ⟨W.heap.size,0,none⟩)] w fun e w'=>e=.returned (.tuple #[])∧Gat W w' g D (l++[(4,2,off)]):=by
 refine(qh0 _ _ _ off l w h.2.2.1 hl).mono ?_;rintro e w' ⟨rfl,h1,h2⟩;exact⟨rfl,h.1,h.2.1.below h2 h.1,h1,h.2.2.2.trans h2⟩
theorem qh4 (W:World)(g:Nat)(D:Array Value)(off:Nat)(l:List Fld)(w:World)(h:Gat W w g D l)(hl:l.length≤100):
 Calls Tryz.prog 196 #[.pointer (some ⟨g,off,none⟩),.pointer (some ⟨W.heap.size,0,none⟩)] w fun e w'=>e=.returned (.tuple #[])∧Gat W w' g D (l++[(8,3,off)]):=by
 refine(qh1 _ _ _ off l w h.2.2.1 hl).mono ?_;rintro e w' ⟨rfl,h1,h2⟩;exact⟨rfl,h.1,h.2.1.below h2 h.1,h1,h.2.2.2.trans h2⟩
theorem qh5 (w:World)(g:Nat)(D:Array Value)(hg:Blk w g 34 D):Gat w (w.alloc (.cells #[.slice none 0 0] 244)) g D []:=
 ⟨hg.lt,hg.alloc _,⟨_,Blk.new _ _ _,tA4 _,World.ownsRow_nil ..⟩,(tA5 _ _).alloc (tA4 _) _⟩
theorem qh6 {W w:World}{g:Nat}{D:Array Value}{l:List Fld}(h:Gat W w g D l){v:Value}(h0:D[0]? =some v):w.cell? ⟨g,0,none⟩=some v:=(h.2.1.cell 0).trans h0
theorem qh7 {W w:World}{g:Nat}{D:Array Value}{l:List Fld}(h:Gat W w g D l):∃v,w.cell? ⟨W.heap.size,0,none⟩=some v∧w.ownsRow W.heap.size 252 4 v l.length (qgw g l)∧Below W.heap.size W w:=by
 obtain⟨-,-,⟨v,hb,-,ho⟩,hbl⟩:=h;exact⟨v,by simpa using hb.cell 0,ho,hbl⟩
theorem qh8 (g:Nat)(D:Array Value)(w:World)(hg:Blk w g 34 D)(h0:D[0]? =some (.int .i64 1)):
 Calls Tryz.prog 152 #[.pointer (some ⟨g,0,none⟩)] w fun e w'=>∃v,e=.returned (.tuple #[v,.bool true])∧w'.ownsRow w.heap.size 252 4 v 2 (qgw g [(1,1,35),(0,0,0)])∧Below w.heap.size w w':=by
 have hmf:∀(fn:Fn) (first cap:Array Value) (w:World),(Instr.makeFunc fn first cap).run Tryz.prog w=.ok (.func fn first cap) w:=fun _ _ _ _=>rfl
 have HG:=zh1 (qh5 w g D hg);have hc:=qh6 HG.out h0;have ht:qgv 1=true:=rfl;go_enter Tryz.func152,Tryz.ntmps152
 go_wp2_with fail
 refine(qgx _ _).mono ?_;rintro e w1 ⟨rfl,rfl⟩;go_wp2_with fail
 refine(qh2 _ _ _ _ _ _ HG.out (by simp)).mono ?_;rintro e w1 ⟨rfl,hG1⟩;have hc:=qh6 hG1 h0;clear HG;obtain⟨i0,hi0,hz0,hz1,hz2⟩:=info_parts Tryz.fld_info;obtain⟨hgs,-,⟨v,hL,hBL,hown⟩,hB⟩:=hG1;have hcL:=hL.cell 0;have hfL:=hL.frozen 0;simp at hcL;have hlt:=hL.lt;go_wp2_with (at_builtin;refine qa7 _ rfl (.tmp 47) (.tmp 49) _ rfl w.heap.size 252 i0 _ 4 32 Tryz.underlying244 hi0 hz0 hz1 hz2 rfl (by omega) v 1 (qgw g [(1,1,35)]) rfl (hown.alloc _) (w1.heap.size+1) _ 1 1 [.int .i64 0,.pointer none,.pointer none,.pointer none] rfl (Reads.new w1 _ _ 4 1 rfl) (by simp[Value.oneCell']) (by simp only[maxLen];omega) (by omega) (by simp;omega) ?_)
 intro v1 w2 hown1 hg1 hat1;have hgw:=(hL.alloc (.cells #[.int .i64 0,.pointer none,.pointer none,.pointer none] 252)).grown hg1 (Ne.symm (qa3 hown hL (by decide)));have hb1:=qae (hB.alloc (by omega) (.cells #[.int .i64 0,.pointer none,.pointer none,.pointer none] 252)) (hown.alloc _) hg1 (tA4 _) (by simp;omega);obtain⟨A1,c1,rfl,-,-,-⟩:=qaf hown1;have hc1:=hgw.cell 0;have hf1:=hgw.frozen 0;simp at hc1;obtain⟨HL,HB⟩:=zh2 (qgy hgw hBL (l:=[(1,1,35),(0,0,0)]) (n:=2) rfl (by simpa [qgw,fldv] using hown1)) (hb1.setCell (p:=⟨w.heap.size,0,none⟩) hBL (.slice A1 2 c1));clear hb1 hown1 hgw hat1 hg1 hown hL hcL hfL;obtain⟨x,hx,-,ho⟩:=HL.out;have h2:(w2.setCell ⟨w.heap.size,0,none⟩ (Value.slice A1 2 c1)).cell? ⟨w.heap.size,0,none⟩=some (Value.slice A1 2 c1):=World.cell?_setCell_same _ _ _ hc1;have hxe:x=Value.slice A1 2 c1:=by
  have h1:=hx.cell 0;rw[h2]at h1;simpa using h1.symm
 subst hxe;have HO:=zh1 ho;clear ho hx HL;go_wp2
 go_ret2
 exact⟨_,rfl,HO.out,HB.out⟩
theorem qh9 (g:Nat)(D:Array Value)(w:World)(hg:Blk w g 34 D)(h0:D[0]? =some (.int .i64 2)):
 Calls Tryz.prog 152 #[.pointer (some ⟨g,0,none⟩)] w fun e w'=>∃v,e=.returned (.tuple #[v,.bool true])∧w'.ownsRow w.heap.size 252 4 v 1 (qgw g [(1,1,35)])∧Below w.heap.size w w':=by
 have hmf:∀(fn:Fn) (first cap:Array Value) (w:World),(Instr.makeFunc fn first cap).run Tryz.prog w=.ok (.func fn first cap) w:=fun _ _ _ _=>rfl
 have HG:=zh1 (qh5 w g D hg);have hc:=qh6 HG.out h0;have ht:qgv 2=true:=rfl;go_enter Tryz.func152,Tryz.ntmps152
 go_wp2_with fail
 refine(qgx _ _).mono ?_;rintro e w1 ⟨rfl,rfl⟩;go_wp2_with fail
 refine(qh2 _ _ _ _ _ _ HG.out (by simp)).mono ?_;rintro e w1 ⟨rfl,hG1⟩;clear HG hc;have hc:=qh6 hG1 h0;obtain⟨v,hv,ho,hb⟩:=qh7 hG1;obtain⟨HO,HB⟩:=zh2 ho hb;clear ho hb hG1;go_wp2
 go_ret2
 exact⟨v,rfl,HO.out,HB.out⟩
theorem qha (g:Nat)(D:Array Value)(w:World)(hg:Blk w g 34 D)(h0:D[0]? =some (.int .i64 3)):
 Calls Tryz.prog 152 #[.pointer (some ⟨g,0,none⟩)] w fun e w'=>∃v,e=.returned (.tuple #[v,.bool true])∧w'.ownsRow w.heap.size 252 4 v 2 (qgw g [(1,1,35),(8,3,41)])∧Below w.heap.size w w':=by
 have hmf:∀(fn:Fn) (first cap:Array Value) (w:World),(Instr.makeFunc fn first cap).run Tryz.prog w=.ok (.func fn first cap) w:=fun _ _ _ _=>rfl
 have HG:=zh1 (qh5 w g D hg);have hc:=qh6 HG.out h0;have ht:qgv 3=true:=rfl;go_enter Tryz.func152,Tryz.ntmps152
 go_wp2_with fail
 refine(qgx _ _).mono ?_;rintro e w1 ⟨rfl,rfl⟩;go_wp2_with fail
 refine(qh2 _ _ _ _ _ _ HG.out (by simp)).mono ?_;rintro e w1 ⟨rfl,hG1⟩;clear HG hc;have hc:=qh6 hG1 h0;have HG:=zh1 hG1;clear hG1;go_wp2_with fail
 refine(qh4 _ _ _ _ _ _ HG.out (by simp)).mono ?_;rintro e w1 ⟨rfl,hG1⟩;clear HG hc;have hc:=qh6 hG1 h0;obtain⟨v,hv,ho,hb⟩:=qh7 hG1;obtain⟨HO,HB⟩:=zh2 ho hb;clear ho hb hG1;go_wp2
 go_ret2
 exact⟨v,rfl,HO.out,HB.out⟩
theorem qhb (g:Nat)(D:Array Value)(w:World)(hg:Blk w g 34 D)(h0:D[0]? =some (.int .i64 4)):
 Calls Tryz.prog 152 #[.pointer (some ⟨g,0,none⟩)] w fun e w'=>∃v,e=.returned (.tuple #[v,.bool true])∧w'.ownsRow w.heap.size 252 4 v 3 (qgw g [(1,1,35),(8,3,41),(8,3,42)])∧Below w.heap.size w w':=by
 have hmf:∀(fn:Fn) (first cap:Array Value) (w:World),(Instr.makeFunc fn first cap).run Tryz.prog w=.ok (.func fn first cap) w:=fun _ _ _ _=>rfl
 have HG:=zh1 (qh5 w g D hg);have hc:=qh6 HG.out h0;have ht:qgv 4=true:=rfl;go_enter Tryz.func152,Tryz.ntmps152
 go_wp2_with fail
 refine(qgx _ _).mono ?_;rintro e w1 ⟨rfl,rfl⟩;go_wp2_with fail
 refine(qh2 _ _ _ _ _ _ HG.out (by simp)).mono ?_;rintro e w1 ⟨rfl,hG1⟩;clear HG hc;have hc:=qh6 hG1 h0;have HG:=zh1 hG1;clear hG1;go_wp2_with fail
 refine(qh4 _ _ _ _ _ _ HG.out (by simp)).mono ?_;rintro e w1 ⟨rfl,hG1⟩;clear HG hc;have hc:=qh6 hG1 h0;have HG:=zh1 hG1;clear hG1;go_wp2_with fail
 refine(qh4 _ _ _ _ _ _ HG.out (by simp)).mono ?_;rintro e w1 ⟨rfl,hG1⟩;clear HG hc;have hc:=qh6 hG1 h0;obtain⟨v,hv,ho,hb⟩:=qh7 hG1;obtain⟨HO,HB⟩:=zh2 ho hb;clear ho hb hG1;go_wp2
 go_ret2
 exact⟨v,rfl,HO.out,HB.out⟩
theorem qhc (g:Nat)(D:Array Value)(w:World)(hg:Blk w g 34 D)(h0:D[0]? =some (.int .i64 5)):
 Calls Tryz.prog 152 #[.pointer (some ⟨g,0,none⟩)] w fun e w'=>∃v,e=.returned (.tuple #[v,.bool true])∧w'.ownsRow w.heap.size 252 4 v 3 (qgw g [(1,1,35),(8,3,41),(8,3,42)])∧Below w.heap.size w w':=by
 have hmf:∀(fn:Fn) (first cap:Array Value) (w:World),(Instr.makeFunc fn first cap).run Tryz.prog w=.ok (.func fn first cap) w:=fun _ _ _ _=>rfl
 have HG:=zh1 (qh5 w g D hg);have hc:=qh6 HG.out h0;have ht:qgv 5=true:=rfl;go_enter Tryz.func152,Tryz.ntmps152
 go_wp2_with fail
 refine(qgx _ _).mono ?_;rintro e w1 ⟨rfl,rfl⟩;go_wp2_with fail
 refine(qh2 _ _ _ _ _ _ HG.out (by simp)).mono ?_;rintro e w1 ⟨rfl,hG1⟩;clear HG hc;have hc:=qh6 hG1 h0;have HG:=zh1 hG1;clear hG1;go_wp2_with fail
 refine(qh4 _ _ _ _ _ _ HG.out (by simp)).mono ?_;rintro e w1 ⟨rfl,hG1⟩;clear HG hc;have hc:=qh6 hG1 h0;have HG:=zh1 hG1;clear hG1;go_wp2_with fail
 refine(qh4 _ _ _ _ _ _ HG.out (by simp)).mono ?_;rintro e w1 ⟨rfl,hG1⟩;clear HG hc;have hc:=qh6 hG1 h0;obtain⟨v,hv,ho,hb⟩:=qh7 hG1;obtain⟨HO,HB⟩:=zh2 ho hb;clear ho hb hG1;go_wp2
 go_ret2
 exact⟨v,rfl,HO.out,HB.out⟩
theorem qhd (g:Nat)(D:Array Value)(w:World)(hg:Blk w g 34 D)(h0:D[0]? =some (.int .i64 6)):
 Calls Tryz.prog 152 #[.pointer (some ⟨g,0,none⟩)] w fun e w'=>∃v,e=.returned (.tuple #[v,.bool true])∧w'.ownsRow w.heap.size 252 4 v 3 (qgw g [(1,1,35),(1,1,36),(1,1,39)])∧Below w.heap.size w w':=by
 have hmf:∀(fn:Fn) (first cap:Array Value) (w:World),(Instr.makeFunc fn first cap).run Tryz.prog w=.ok (.func fn first cap) w:=fun _ _ _ _=>rfl
 have HG:=zh1 (qh5 w g D hg);have hc:=qh6 HG.out h0;have ht:qgv 6=true:=rfl;go_enter Tryz.func152,Tryz.ntmps152
 go_wp2_with fail
 refine(qgx _ _).mono ?_;rintro e w1 ⟨rfl,rfl⟩;go_wp2_with fail
 refine(qh2 _ _ _ _ _ _ HG.out (by simp)).mono ?_;rintro e w1 ⟨rfl,hG1⟩;clear HG hc;have hc:=qh6 hG1 h0;have HG:=zh1 hG1;clear hG1;go_wp2_with fail
 refine(qh2 _ _ _ _ _ _ HG.out (by simp)).mono ?_;rintro e w1 ⟨rfl,hG1⟩;clear HG hc;have hc:=qh6 hG1 h0;have HG:=zh1 hG1;clear hG1;go_wp2_with fail
 refine(qh2 _ _ _ _ _ _ HG.out (by simp)).mono ?_;rintro e w1 ⟨rfl,hG1⟩;clear HG hc;have hc:=qh6 hG1 h0;obtain⟨v,hv,ho,hb⟩:=qh7 hG1;obtain⟨HO,HB⟩:=zh2 ho hb;clear ho hb hG1;go_wp2
 go_ret2
 exact⟨v,rfl,HO.out,HB.out⟩
theorem qhe (g:Nat)(D:Array Value)(w:World)(hg:Blk w g 34 D)(h0:D[0]? =some (.int .i64 7)):
 Calls Tryz.prog 152 #[.pointer (some ⟨g,0,none⟩)] w fun e w'=>∃v,e=.returned (.tuple #[v,.bool true])∧w'.ownsRow w.heap.size 252 4 v 2 (qgw g [(1,1,35),(1,1,38)])∧Below w.heap.size w w':=by
 have hmf:∀(fn:Fn) (first cap:Array Value) (w:World),(Instr.makeFunc fn first cap).run Tryz.prog w=.ok (.func fn first cap) w:=fun _ _ _ _=>rfl
 have HG:=zh1 (qh5 w g D hg);have hc:=qh6 HG.out h0;have ht:qgv 7=true:=rfl;go_enter Tryz.func152,Tryz.ntmps152
 go_wp2_with fail
 refine(qgx _ _).mono ?_;rintro e w1 ⟨rfl,rfl⟩;go_wp2_with fail
 refine(qh2 _ _ _ _ _ _ HG.out (by simp)).mono ?_;rintro e w1 ⟨rfl,hG1⟩;clear HG hc;have hc:=qh6 hG1 h0;have HG:=zh1 hG1;clear hG1;go_wp2_with fail
 refine(qh2 _ _ _ _ _ _ HG.out (by simp)).mono ?_;rintro e w1 ⟨rfl,hG1⟩;clear HG hc;have hc:=qh6 hG1 h0;obtain⟨v,hv,ho,hb⟩:=qh7 hG1;obtain⟨HO,HB⟩:=zh2 ho hb;clear ho hb hG1;go_wp2
 go_ret2
 exact⟨v,rfl,HO.out,HB.out⟩
theorem qhf (g:Nat)(D:Array Value)(w:World)(hg:Blk w g 34 D)(h0:D[0]? =some (.int .i64 8)):
 Calls Tryz.prog 152 #[.pointer (some ⟨g,0,none⟩)] w fun e w'=>∃v,e=.returned (.tuple #[v,.bool true])∧w'.ownsRow w.heap.size 252 4 v 2 (qgw g [(1,1,35),(1,1,39)])∧Below w.heap.size w w':=by
 have hmf:∀(fn:Fn) (first cap:Array Value) (w:World),(Instr.makeFunc fn first cap).run Tryz.prog w=.ok (.func fn first cap) w:=fun _ _ _ _=>rfl
 have HG:=zh1 (qh5 w g D hg);have hc:=qh6 HG.out h0;have ht:qgv 8=true:=rfl;go_enter Tryz.func152,Tryz.ntmps152
 go_wp2_with fail
 refine(qgx _ _).mono ?_;rintro e w1 ⟨rfl,rfl⟩;go_wp2_with fail
 refine(qh2 _ _ _ _ _ _ HG.out (by simp)).mono ?_;rintro e w1 ⟨rfl,hG1⟩;clear HG hc;have hc:=qh6 hG1 h0;have HG:=zh1 hG1;clear hG1;go_wp2_with fail
 refine(qh2 _ _ _ _ _ _ HG.out (by simp)).mono ?_;rintro e w1 ⟨rfl,hG1⟩;clear HG hc;have hc:=qh6 hG1 h0;obtain⟨v,hv,ho,hb⟩:=qh7 hG1;obtain⟨HO,HB⟩:=zh2 ho hb;clear ho hb hG1;go_wp2
 go_ret2
 exact⟨v,rfl,HO.out,HB.out⟩
theorem qhg (g:Nat)(D:Array Value)(w:World)(hg:Blk w g 34 D)(h0:D[0]? =some (.int .i64 9)):
 Calls Tryz.prog 152 #[.pointer (some ⟨g,0,none⟩)] w fun e w'=>∃v,e=.returned (.tuple #[v,.bool true])∧w'.ownsRow w.heap.size 252 4 v 1 (qgw g [(1,1,35)])∧Below w.heap.size w w':=by
 have hmf:∀(fn:Fn) (first cap:Array Value) (w:World),(Instr.makeFunc fn first cap).run Tryz.prog w=.ok (.func fn first cap) w:=fun _ _ _ _=>rfl
 have HG:=zh1 (qh5 w g D hg);have hc:=qh6 HG.out h0;have ht:qgv 9=true:=rfl;go_enter Tryz.func152,Tryz.ntmps152
 go_wp2_with fail
 refine(qgx _ _).mono ?_;rintro e w1 ⟨rfl,rfl⟩;go_wp2_with fail
 refine(qh2 _ _ _ _ _ _ HG.out (by simp)).mono ?_;rintro e w1 ⟨rfl,hG1⟩;clear HG hc;have hc:=qh6 hG1 h0;obtain⟨v,hv,ho,hb⟩:=qh7 hG1;obtain⟨HO,HB⟩:=zh2 ho hb;clear ho hb hG1;go_wp2
 go_ret2
 exact⟨v,rfl,HO.out,HB.out⟩
theorem qhh (g:Nat)(D:Array Value)(w:World)(hg:Blk w g 34 D)(h0:D[0]? =some (.int .i64 10)):
 Calls Tryz.prog 152 #[.pointer (some ⟨g,0,none⟩)] w fun e w'=>∃v,e=.returned (.tuple #[v,.bool true])∧w'.ownsRow w.heap.size 252 4 v 3 (qgw g [(1,1,36),(1,1,37),(8,3,46)])∧Below w.heap.size w w':=by
 have hmf:∀(fn:Fn) (first cap:Array Value) (w:World),(Instr.makeFunc fn first cap).run Tryz.prog w=.ok (.func fn first cap) w:=fun _ _ _ _=>rfl
 have HG:=zh1 (qh5 w g D hg);have hc:=qh6 HG.out h0;have ht:qgv 10=false:=rfl;go_enter Tryz.func152,Tryz.ntmps152
 go_wp2_with fail
 refine(qgx _ _).mono ?_;rintro e w1 ⟨rfl,rfl⟩;go_wp2_with fail
 refine(qh2 _ _ _ _ _ _ HG.out (by simp)).mono ?_;rintro e w1 ⟨rfl,hG1⟩;clear HG hc;have hc:=qh6 hG1 h0;have HG:=zh1 hG1;clear hG1;go_wp2_with fail
 refine(qh2 _ _ _ _ _ _ HG.out (by simp)).mono ?_;rintro e w1 ⟨rfl,hG1⟩;clear HG hc;have hc:=qh6 hG1 h0;have HG:=zh1 hG1;clear hG1;go_wp2_with fail
 refine(qh4 _ _ _ _ _ _ HG.out (by simp)).mono ?_;rintro e w1 ⟨rfl,hG1⟩;clear HG hc;have hc:=qh6 hG1 h0;obtain⟨v,hv,ho,hb⟩:=qh7 hG1;obtain⟨HO,HB⟩:=zh2 ho hb;clear ho hb hG1;go_wp2
 go_ret2
 exact⟨v,rfl,HO.out,HB.out⟩
theorem qhi (g:Nat)(D:Array Value)(w:World)(hg:Blk w g 34 D)(h0:D[0]? =some (.int .i64 11)):
 Calls Tryz.prog 152 #[.pointer (some ⟨g,0,none⟩)] w fun e w'=>∃v,e=.returned (.tuple #[v,.bool true])∧w'.ownsRow w.heap.size 252 4 v 1 (qgw g [(4,2,40)])∧Below w.heap.size w w':=by
 have hmf:∀(fn:Fn) (first cap:Array Value) (w:World),(Instr.makeFunc fn first cap).run Tryz.prog w=.ok (.func fn first cap) w:=fun _ _ _ _=>rfl
 have HG:=zh1 (qh5 w g D hg);have hc:=qh6 HG.out h0;have ht:qgv 11=false:=rfl;go_enter Tryz.func152,Tryz.ntmps152
 go_wp2_with fail
 refine(qgx _ _).mono ?_;rintro e w1 ⟨rfl,rfl⟩;go_wp2_with fail
 refine(qh3 _ _ _ _ _ _ HG.out (by simp)).mono ?_;rintro e w1 ⟨rfl,hG1⟩;clear HG hc;have hc:=qh6 hG1 h0;obtain⟨v,hv,ho,hb⟩:=qh7 hG1;obtain⟨HO,HB⟩:=zh2 ho hb;clear ho hb hG1;go_wp2
 go_ret2
 exact⟨v,rfl,HO.out,HB.out⟩
theorem qhj (g:Nat)(D:Array Value)(w:World)(hg:Blk w g 34 D)(h0:D[0]? =some (.int .i64 12)):
 Calls Tryz.prog 152 #[.pointer (some ⟨g,0,none⟩)] w fun e w'=>∃v,e=.returned (.tuple #[v,.bool true])∧w'.ownsRow w.heap.size 252 4 v 4 (qgw g [(1,1,36),(4,2,43),(4,2,44),(4,2,45)])∧Below w.heap.size w w':=by
 have hmf:∀(fn:Fn) (first cap:Array Value) (w:World),(Instr.makeFunc fn first cap).run Tryz.prog w=.ok (.func fn first cap) w:=fun _ _ _ _=>rfl
 have HG:=zh1 (qh5 w g D hg);have hc:=qh6 HG.out h0;have ht:qgv 12=false:=rfl;go_enter Tryz.func152,Tryz.ntmps152
 go_wp2_with fail
 refine(qgx _ _).mono ?_;rintro e w1 ⟨rfl,rfl⟩;go_wp2_with fail
 refine(qh2 _ _ _ _ _ _ HG.out (by simp)).mono ?_;rintro e w1 ⟨rfl,hG1⟩;clear HG hc;have hc:=qh6 hG1 h0;have HG:=zh1 hG1;clear hG1;go_wp2_with fail
 refine(qh3 _ _ _ _ _ _ HG.out (by simp)).mono ?_;rintro e w1 ⟨rfl,hG1⟩;clear HG hc;have hc:=qh6 hG1 h0;have HG:=zh1 hG1;clear hG1;go_wp2_with fail
 refine(qh3 _ _ _ _ _ _ HG.out (by simp)).mono ?_;rintro e w1 ⟨rfl,hG1⟩;clear HG hc;have hc:=qh6 hG1 h0;have HG:=zh1 hG1;clear hG1;go_wp2_with fail
 refine(qh3 _ _ _ _ _ _ HG.out (by simp)).mono ?_;rintro e w1 ⟨rfl,hG1⟩;clear HG hc;have hc:=qh6 hG1 h0;obtain⟨v,hv,ho,hb⟩:=qh7 hG1;obtain⟨HO,HB⟩:=zh2 ho hb;clear ho hb hG1;go_wp2
 go_ret2
 exact⟨v,rfl,HO.out,HB.out⟩
theorem qhk (g:Nat)(D:Array Value)(op:Int)(w:World)(hg:Blk w g 34 D)(h0:D[0]? =some (.int .i64 op))(h1:op≠1)(h2:op≠2)(h3:op≠3)(h4:op≠4)(h5:op≠5)(h6:op≠6)(h7:op≠7)(h8:op≠8)(h9:op≠9)(h10:op≠10)(h11:op≠11)(h12:op≠12):
 Calls Tryz.prog 152 #[.pointer (some ⟨g,0,none⟩)] w fun e w'=>e=.returned (.tuple #[.slice none 0 0,.bool false])∧Below w.heap.size w w':=by
 have hmf:∀(fn:Fn) (first cap:Array Value) (w:World),(Instr.makeFunc fn first cap).run Tryz.prog w=.ok (.func fn first cap) w:=fun _ _ _ _=>rfl
 have HG:=zh1 (qh5 w g D hg);have hc:=qh6 HG.out h0;have ht:qgv op=false:=by simp only[qgv,decide_eq_false_iff_not];omega
 go_enter Tryz.func152,Tryz.ntmps152
 go_wp2_with fail
 refine(qgx _ _).mono ?_;rintro e w1 ⟨rfl,rfl⟩;go_wp2
 go_ret2
 exact⟨rfl,HG.out.2.2.2⟩
theorem qhl (g:Nat)(D:Array Value)(op:Int)(w:World)(hg:Blk w g 34 D)(h0:D[0]? =some (.int .i64 op)):
 Calls Tryz.prog 152 #[.pointer (some ⟨g,0,none⟩)] w fun e w'=>∃v,e=.returned (.tuple #[v,.bool (fieldsOf op).isSome])∧w'.ownsRow w.heap.size 252 4 v ((fieldsOf op).getD []).length (qgw g ((fieldsOf op).getD []))∧Below w.heap.size w w':=by
 by_cases h1:op=1
 · subst h1
   exact qh8 g D w hg h0
 by_cases h2:op=2
 · subst h2
   exact qh9 g D w hg h0
 by_cases h3:op=3
 · subst h3
   exact qha g D w hg h0
 by_cases h4:op=4
 · subst h4
   exact qhb g D w hg h0
 by_cases h5:op=5
 · subst h5
   exact qhc g D w hg h0
 by_cases h6:op=6
 · subst h6
   exact qhd g D w hg h0
 by_cases h7:op=7
 · subst h7
   exact qhe g D w hg h0
 by_cases h8:op=8
 · subst h8
   exact qhf g D w hg h0
 by_cases h9:op=9
 · subst h9
   exact qhg g D w hg h0
 by_cases h10:op=10
 · subst h10
   exact qhh g D w hg h0
 by_cases h11:op=11
 · subst h11
   exact qhi g D w hg h0
 by_cases h12:op=12
 · subst h12
   exact qhj g D w hg h0
 have hn:fieldsOf op=none:=by simp[fieldsOf,h1,h2,h3,h4,h5,h6,h7,h8,h9,h10,h11,h12]
 rw[hn];refine(qhk g D op w hg h0 h1 h2 h3 h4 h5 h6 h7 h8 h9 h10 h11 h12).mono ?_;rintro e w' ⟨rfl,hb⟩;exact⟨_,rfl,World.ownsRow_nil ..,hb⟩
end
section
open Go.RowKit
theorem qhm (v:Int)(w:World):
 Calls Tryz.prog 154 #[.int .i64 v] w fun e w'=>e=.returned (.bool (decide (0≤v∧v≤255)))∧w=w':=by
 by_cases h0:0≤v
 ·
  by_cases h1:v≤255
  · go_enter Tryz.func154,Tryz.ntmps154
    go_wp2
    go_ret
    exact⟨qen (by simp[h0,h1]),rfl⟩
  go_enter Tryz.func154,Tryz.ntmps154
  go_wp2
  go_ret
  exact⟨qen (by simp[h0,h1]),rfl⟩
 go_enter Tryz.func154,Tryz.ntmps154
 go_wp2
 go_ret
 exact⟨qen (by simp;omega),rfl⟩
def Req.num (R:Req)(o:Nat):Int:=
 match o with
 |35=>R.tree|36=>R.tenant|37=>R.role|38=>R.state|39=>R.weight|40=>R.id|41=>R.lo|42=>R.hi|43=>R.rate|44=>R.burst|45=>R.store|46=>R.expires|_=>0
def qhn (R:Req)(f:Fld):Nat:=
 if f.2.1=1 then(if 0≤R.num f.2.2∧R.num f.2.2≤255 then 0 else 1)
 else if f.2.1=2∨f.2.1=3 then 0
 else if 256<R.leaf.length then 3 else 0
def fldB (R:Req)(f:Fld):List Nat:=
 if f.2.1=1∨f.2.1=2∨f.2.1=3 then be (R.num f.2.2).toNat f.1 else txt R.leaf
def qho (R:Req):List Fld→List Nat→Nat × List Nat
 |[],acc=>(0,acc)
 |f::l,acc=>if qhn R f=0 then qho R l (acc++fldB R f) else(qhn R f,[])
def qhp (R:Req):Nat × List Nat:=
 match fieldsOf R.op with
 |none=>(1,[])
 |some l=>qho R l (be R.op.toNat 1)
theorem qhq (R:Req)(l:List Fld)(k:Nat)(acc:List Nat)(h:∀f∈l.take k,qhn R f=0):qho R l acc=qho R (l.drop k) (acc++(l.take k).flatMap (fldB R)):=by
 induction l generalizing k acc with
 |nil=>simp[qho]
 |cons f l ih=>
  cases k with
  |zero=>simp
  |succ k=>
   rw[List.take_succ_cons]at h;rw[qho,if_pos (h f (by simp)),ih k _ (fun x hx=>h x (by simp[hx]))];simp
theorem qhr (R:Req)(l:List Fld)(k:Nat)(f:Fld)(acc:List Nat)(h:∀f∈l.take k,qhn R f=0)(hk:l[k]? =some f)(hf:qhn R f≠0):qho R l acc=(qhn R f,[]):=by
 rw[qhq R l k acc h];have hlt:k<l.length:=by
  rcases Nat.lt_or_ge k l.length with h|h
  · exact h
  rw[List.getElem?_eq_none h]at hk;cases hk
 rw[List.drop_eq_getElem_cons hlt];have:l[k]=f:=by rw[tA7 hlt]at hk;simpa using hk
 rw[this,qho,if_neg hf]
theorem qhs (g:Nat)(l:List Fld)(k:Nat)(f:Fld)(h:l[k]? =some f)(j:Nat)(hj:j<4):(qgw g l)[k*4+j]? =(fldv g f)[j]? :=by
 have h4:∀f,(fldv g f).length=4:=by intro f;unfold fldv;split<;>(try split)<;>(try split)<;>rfl
 unfold qgw;induction l generalizing k with
 |nil=>simp at h
 |cons y l ih=>
  rw[List.flatMap_cons];cases k with
  |zero=>simp at h;subst h;rw[List.getElem?_append_left (by rw[h4];omega)];simp
  |succ k=>
   rw[List.getElem?_append_right (by rw[h4];omega),h4,←ih k (by simpa using h)];congr 1
   omega
def IsFld (f:Fld):Prop:=f=(1,1,35)∨f=(1,1,36)∨f=(1,1,37)∨f=(1,1,38)∨f=(1,1,39)∨f=(4,2,40)∨f=(8,3,41)∨f=(8,3,42)∨f=(4,2,43)∨f=(4,2,44)∨f=(4,2,45)∨f=(8,3,46)∨f=(0,0,0)
theorem qht (op:Int)(l:List Fld)(hl:fieldsOf op=some l)(f:Fld)(hf:f∈l):IsFld f:=by
 unfold fieldsOf at hl;repeat' split at hl
 all_goals simp only[Option.some.injEq,reduceCtorEq]at hl
 all_goals subst hl
 all_goals simp only[List.mem_cons,List.not_mem_nil,or_false]at hf
 all_goals unfold IsFld
 all_goals first|(rcases hf with rfl|rfl|rfl|rfl<;>simp)|(rcases hf with rfl|rfl|rfl<;>simp)|(rcases hf with rfl|rfl<;>simp)|(subst hf;simp)
theorem qhu (R:Req)(cav leafv:Value)(ht:R.tag.length=32)(op:Int)(l:List Fld)(hl:fieldsOf op=some l)(f:Fld)(hf:f∈l):
 (f.2.1=1∧f.1=1∧(reqv R cav leafv)[f.2.2]? =some (.int .i64 (R.num f.2.2)))∨(f.2.1=2∧f.1=4∧0≤R.num f.2.2∧(reqv R cav leafv)[f.2.2]? =some (.int .u32 (R.num f.2.2)))∨(f.2.1=3∧f.1=8∧0≤R.num f.2.2∧(reqv R cav leafv)[f.2.2]? =some (.int .u64 (R.num f.2.2)))∨f=(0,0,0):=by
 have hr:=qgu R cav leafv ht;have q:∀o k,o=35+k→(reqv R cav leafv)[o]? =(R.rest leafv)[k]? :=fun o k e=>by rw[e];exact hr k
 have h:=qht op l hl f hf;clear hf hl;unfold IsFld at h;focus
  rcases h with rfl|rfl|rfl|rfl|rfl|rfl|rfl|rfl|rfl|rfl|rfl|rfl|rfl
  · exact .inl ⟨rfl,rfl,q 35 0 rfl⟩
  · exact .inl ⟨rfl,rfl,q 36 1 rfl⟩
  · exact .inl ⟨rfl,rfl,q 37 2 rfl⟩
  · exact .inl ⟨rfl,rfl,q 38 3 rfl⟩
  · exact .inl ⟨rfl,rfl,q 39 4 rfl⟩
  · exact .inr (.inl ⟨rfl,rfl,Int.natCast_nonneg _,q 40 5 rfl⟩)
  · exact .inr (.inr (.inl ⟨rfl,rfl,Int.natCast_nonneg _,q 41 6 rfl⟩))
  · exact .inr (.inr (.inl ⟨rfl,rfl,Int.natCast_nonneg _,q 42 7 rfl⟩))
  · exact .inr (.inl ⟨rfl,rfl,Int.natCast_nonneg _,q 43 8 rfl⟩)
  · exact .inr (.inl ⟨rfl,rfl,Int.natCast_nonneg _,q 44 9 rfl⟩)
  · exact .inr (.inl ⟨rfl,rfl,Int.natCast_nonneg _,q 45 10 rfl⟩)
  · exact .inr (.inr (.inl ⟨rfl,rfl,Int.natCast_nonneg _,q 46 11 rfl⟩))
  exact .inr (.inr (.inr rfl))
theorem qhv (op:Int)(l:List Fld)(hl:fieldsOf op=some l):1≤op∧op≤12∧l.length≤4:=by
 unfold fieldsOf at hl;repeat' split at hl
 all_goals simp only[Option.some.injEq,reduceCtorEq]at hl
 all_goals (subst hl;refine⟨?_,?_,?_⟩<;>first|omega|simp)
theorem Wri.drew {w:World}{B g:Nat}{bs:List Nat}(h:Wri w B g bs):Wri w.drew B g bs:=h.kept_call ((tA5 _ _).drew)
theorem Wri.lt {w:World}{B g:Nat}{bs:List Nat}(h:Wri w B g bs):g<w.heap.size:=by
 obtain⟨v,h,-,-⟩:=h;exact h.lt
theorem qhw (R:Req)(l:List Fld)(k:Nat)(f:Fld)(hx:l[k]? =some f)(hall:∀f∈l.take k,qhn R f=0)(hf:qhn R f=0){bs:List Nat}(hb:fldB R f=bs)(acc:List Nat):
 (∀f∈l.take (k+1),qhn R f=0)∧acc++(l.take (k+1)).flatMap (fldB R)=acc++(l.take k).flatMap (fldB R)++bs:=by
 rw[List.take_add_one,hx];refine⟨fun y hy=>?_,by simp[hb]⟩;rcases List.mem_append.1 hy with h|h
 · exact hall y h
 simp at h;rw[h];exact hf
theorem qhx (R:Req)(f:Fld)(h:IsFld f):(fldB R f).length≤65540:=by
 have ht:(txt R.leaf).length≤65540:=by
  unfold txt;rw[tA6,qaw,List.length_take];omega
 have hb:∀a s,s≤8→(be a s).length≤65540:=fun a s h=>by rw[qaw];omega
 unfold IsFld at h;rcases h with rfl|rfl|rfl|rfl|rfl|rfl|rfl|rfl|rfl|rfl|rfl|rfl|rfl<;>unfold fldB<;>simp<;>first|exact ht|exact hb _ _ (by omega)
theorem qhy (R:Req)(n:Nat)(l:List Fld)(h:∀f∈l,IsFld f)(hl:l.length≤4)(k:Nat):(be n 1++(l.take k).flatMap (fldB R)).length≤4294967296:=by
 have key:∀l:List Fld,(∀f∈l,IsFld f)→(l.flatMap (fldB R)).length≤65540*l.length:=by
  intro l;induction l with
  |nil=>intro _;simp
  |cons f l ih=>
   intro h;rw[List.flatMap_cons,tA6,List.length_cons];have h1:=qhx R f (h f (by simp));have h2:=ih fun g hg=>h g (by simp[hg])
   omega
 have h1:=key (l.take k) fun f hf=>h f (List.mem_of_mem_take hf)
 have h2:(l.take k).length≤l.length:=by rw[List.length_take];omega
 rw[tA6,qaw];omega
structure Req.Fit (R:Req):Prop where
 tag:R.tag.length=32
 num:∀o,R.num o<18446744073709551616
theorem qhz (R:Req)(cav:Value)(Al:Option Addr)(cl:Nat)(w:World)(hR:R.Fit)(hleaf:Reads w w.heap.size 1 Al R.leaf.length (byv R.leaf))(hlc:R.leaf.length≤cl)(hc:cl≤maxLen):
 Calls Tryz.prog 141 #[.agg (reqv R cav (.slice Al R.leaf.length cl)).toArray] w fun e w'=>∃v,e=.returned (.tuple #[v,.int .i64 ((qhp R).1:Int)])∧w'.ownsRow w.heap.size 5 1 v (qhp R).2.length (byv (qhp R).2)∧Below w.heap.size w w':=by
 unfold maxLen at hc;have hfc:=qhu R cav (.slice Al R.leaf.length cl) hR.tag R.op;have hd47:=qgu R cav (.slice Al R.leaf.length cl) hR.tag 12;have hd0:(reqv R cav (.slice Al R.leaf.length cl))[0]? =some (.int .i64 R.op):=rfl;rw[show (R.rest (.slice Al R.leaf.length cl))[12]? =some (.slice Al R.leaf.length cl) from rfl]at hd47;obtain⟨D,hD⟩:=xeq ((reqv R cav (.slice Al R.leaf.length cl)).toArray);have hat:∀i,(reqv R cav (.slice Al R.leaf.length cl))[i]? =D[i]? :=fun i=>by rw[←hD];exact List.getElem?_toArray.symm
 rw[hat]at hd47 hd0;simp only[hat]at hfc;rw[hD];have A1:=zh1 hfc;clear hfc hat hD;have e1:qb0 1=1:=rfl;have e4:qb0 4=4:=rfl;have e8:qb0 8=8:=rfl;go_enter Tryz.func141,Tryz.ntmps141
 go_wp2_with fail
 have t0:Blk (w.alloc (.cells D 34)) w.heap.size 34 D:=Blk.new w _ D;refine(qhl w.heap.size D R.op _ t0 hd0).mono ?_;rintro e w1 ⟨v,rfl,hown,hb1⟩;have B1:=qag (qah (tA5 w.heap.size w) (.cells D 34)) hb1;have t1:=t0.below hb1 t0.lt;have hz0:(w.alloc (.cells D 34)).heap.size=w.heap.size+1:=by simp
 rw[hz0]at hb1;have hlf1:=(hleaf.alloc (tA4 _) (.cells D 34)).below (hb1.mono (Nat.le_succ _));obtain⟨o,ho⟩:=xeq (fieldsOf R.op);rw[ho]at hown ⊢;cases o with
 |none=>
  have H:Hid (qhp R=(1,[])):=by unfold Hid qhp;rw[ho]
  go_wp2
  go_ret2
  exact⟨_,by rw[H.out];rfl,by rw[H.out];exact World.ownsRow_nil ..,B1⟩
 |some l=>
  have H:Hid (qhp R=qho R l (be R.op.toNat 1)):=by unfold Hid qhp;rw[ho]
  obtain⟨o1,o2,hl4⟩:=qhv R.op l ho;simp only[Option.getD_some,Option.isSome_some]at hown ⊢;obtain⟨A,c,rfl,hnc,hcm,hr1⟩:=qaf hown;go_wp2_with fail
  refine(qee _).mono ?_;rintro e w2 ⟨rfl,hw2,hb2⟩;obtain⟨W,hW⟩:=xeq w1.heap.size;rw[hW]at hw2 hr1;have hWl:w.heap.size<W:=by have:=t1.lt;omega
  have hb2':Below W w1 w2:=by rw[←hW];exact hb2
  rw[hW];have B2:=B1.trans (hb2'.mono (by omega));have t2:=t1.below hb2' hWl;have hr2:=hr1.below hb2';have hlf2:=hlf1.below (hb2'.mono (by omega));clear hb2 hb2' t0 t1 hb1 hown hr1 hlf1 hleaf;obtain⟨n,hn⟩:∃n:Nat,R.op=(n:Int):=⟨R.op.toNat,by omega⟩;have hn':R.op.toNat=n:=by omega
  rw[hn']at H;rw[hn]at o1 o2 hd0;have c0:=t2.cell 0;rw[hd0]at c0;go_wp2_with fail
  refine(qed W W n 1 [] _ hw2 (by omega) (by simp)).mono ?_;rintro e w3 ⟨rfl,hw3,hb3,-⟩;rw[e1,List.nil_append]at hw3;have B3:=B2.trans (hb3.mono (by omega));have t3:=t2.below hb3 hWl;have hr3:=hr2.below hb3;have hlf3:=hlf2.below (hb3.mono (by omega));clear hw2 hb3 t2 hr2 hlf2 c0 B2;go_wp2
  go_loopw [23] (fun i wr=>∃k:Nat,k≤l.length∧i=.int .i64 k∧(∀f∈l.take k,qhn R f=0)∧Wri wr W W (be n 1++(l.take k).flatMap (fldB R))∧Below W w3 wr) (fun i _=>l.length - (intOf i).toNat)
  case atStart=>exact⟨0,by omega,rfl,by simp,by simpa using hw3,tA5 _ _⟩
  case round=>
   obtain⟨k,hk,rfl,hall,hwr,hbr⟩:=hrel;have tr:=t3.below hbr hWl;have hrr:=hr3.below hbr;have hlr:=hlf3.below (hbr.mono (by omega));have Hall:=zh1 hall;clear hall t3 hr3 hw3 hlf3;have A0:=zh1 (qhy R n l (fun f hf=>qht R.op l ho f hf) hl4);by_cases hlt:k<l.length
   ·
    have hx:l[k]? =some l[k]:=tA7 hlt;obtain⟨f,hfe⟩:=xeq (l[k]);rw[hfe]at hx;clear hfe;have q:=qhs w.heap.size l k f hx;have hF:=A1.out l ho f (List.mem_of_getElem? hx);obtain⟨b,o,rfl,hab,hcell⟩:=hrr.mid (by omega) (by omega);obtain⟨Hx,Ho⟩:=zh2 hx ho;clear hx ho hrr;rcases hF with⟨f1,f2,f3⟩|⟨f1,f2,f3,f4⟩|⟨f1,f2,f3,f4⟩|rfl
    ·
     have m0:=hcell (k*4+0) _ ((q 0 (by omega)).trans (by unfold fldv;rw[if_pos f1];rfl));have m1:=hcell (k*4+1) _ ((q 1 (by omega)).trans (by unfold fldv;rw[if_pos f1];rfl));have m2:=hcell (k*4+2) _ ((q 2 (by omega)).trans (by unfold fldv;rw[if_pos f1];rfl));have m3:=hcell (k*4+3) _ ((q 3 (by omega)).trans (by unfold fldv;rw[if_pos f1];rfl));clear q hcell;rw[f2]at m0;simp only[←Nat.add_assoc,Nat.add_zero]at m0 m1 m2 m3;obtain⟨g,q,x⟩:=f;simp only at f1 f2 f3 m0 m1 m2 m3;subst f1 f2;have cx:=tr.cell x;rw[f3]at cx;have hgl:=tr.lt;go_wp2_with fail
     refine(qhm _ _).mono ?_;rintro e w4 ⟨rfl,rfl⟩;by_cases hb:0≤R.num x∧R.num x≤255
     ·
      obtain⟨m,hm⟩:∃m:Nat,R.num x=(m:Int):=⟨(R.num x).toNat,by omega⟩;have Hst:Hid ((∀f∈l.take (k+1),qhn R f=0)∧be n 1++(l.take (k+1)).flatMap (fldB R)=be n 1++(l.take k).flatMap (fldB R)++be m 1):=by
       refine qhw R l k _ Hx.out Hall.out ?_ ?_ _
       · simp[qhn,hb]
       simp[fldB,hm]
      rw[hm]at hb cx;rw[hm,decide_eq_true hb];go_wp2_with fail
      have hwa:=(hwr.kept_call ((tA5 _ _).alloc (tA4 _) (.cells #[.int .i64 1,.pointer (some ⟨w.heap.size,x,none⟩),.pointer none,.pointer none] 252))).drew;have hsz:W≤wr.heap.size:=by have:=hbr.size;have:=hwr.lt;omega
      obtain⟨S,HS⟩:∃S:World→Prop,Hid (∀w',S w'=(w'.cell? ⟨wr.heap.size,0,none⟩=some (.int .i64 1)∧w'.cell? ⟨wr.heap.size,1,none⟩=some (.pointer (some ⟨w.heap.size,x,none⟩))∧w'.cell? ⟨w.heap.size,x,none⟩=some (.int .i64 (m:Int)))):=⟨_,fun _=>rfl⟩;refine zrs S 8 [(0,false),(1,false),(2,false),(3,false),(4,false),(5,false),(6,false),(7,false),(8,true)] ((HS.out _).mpr ⟨qak wr _ _ 0,qak wr _ _ 1,qaj cx _⟩) ?_;repeat(refine zrd rfl rfl (fun w1 hS=>by rw[HS.out]at hS;go_split_ands;go_simp;(try go_bits);try rfl) ?_;simp only[Act.put,tA0,tA1,tA2])
      refine qbj rfl rfl ?_;go_simp;refine(qed W W m 1 _ _ hwa (by omega) (A0.out k)).mono ?_;rintro e w5 ⟨rfl,hw5,hb5,-⟩;rw[e1,←Hst.out.2]at hw5;obtain⟨HW,HB⟩:=zh2 hw5 ((hbr.alloc hsz (.cells #[.int .i64 1,.pointer (some ⟨w.heap.size,x,none⟩),.pointer none,.pointer none] 252)).drew.trans hb5);clear hw5 hb5 hwr hbr tr hwa HS m0 m1 m2 m3 cx;go_simp;refine qbg ?_;go_wp2
      go_roundw
      case rel=>exact⟨k+1,by omega,by go_num,Hst.out.1,HW.out,HB.out⟩
      case measure=>simp[intOf];omega
     have Hst:Hid (qhp R=(1,[])):=by
      unfold Hid;rw[H.out,qhr R l k _ _ Hall.out Hx.out]
      · simp[qhn,hb]
      simp[qhn,hb]
     rw[decide_eq_false hb];have HB:=zh1 ((B3.trans (hbr.mono (by omega))).alloc (by have:=hbr.size;omega) (.cells #[.int .i64 1,.pointer (some ⟨w.heap.size,x,none⟩),.pointer none,.pointer none] 252));go_wp2
     go_ret2
     exact⟨_,by rw[Hst.out];rfl,by rw[Hst.out];exact World.ownsRow_nil ..,HB.out⟩
    ·
     obtain⟨g,q0,x⟩:=f;simp only at f1 f2 f3 f4;subst f1 f2;have m0:=hcell (k*4+0) _ ((q 0 (by omega)).trans rfl);have m1:=hcell (k*4+1) _ ((q 1 (by omega)).trans rfl);have m2:=hcell (k*4+2) _ ((q 2 (by omega)).trans rfl);have m3:=hcell (k*4+3) _ ((q 3 (by omega)).trans rfl);clear q hcell;simp only[←Nat.add_assoc,Nat.add_zero]at m0 m1 m2 m3;have cx:=tr.cell x;rw[f4]at cx;have hgl:=tr.lt;obtain⟨m,hm⟩:∃m:Nat,R.num x=(m:Int):=⟨(R.num x).toNat,by omega⟩;have hm64:=hR.num x;have Hst:Hid ((∀f∈l.take (k+1),qhn R f=0)∧be n 1++(l.take (k+1)).flatMap (fldB R)=be n 1++(l.take k).flatMap (fldB R)++be m 4):=by
      refine qhw R l k _ Hx.out Hall.out ?_ ?_ _
      · simp[qhn]
      simp[fldB,hm]
     rw[hm]at cx hm64;go_wp2_with fail
     have hwa:=(hwr.kept_call ((tA5 _ _).alloc (tA4 _) (.cells #[.int .i64 4,.pointer none,.pointer (some ⟨w.heap.size,x,none⟩),.pointer none] 252))).drew;have hsz:W≤wr.heap.size:=by have:=hbr.size;have:=hwr.lt;omega
     obtain⟨S,HS⟩:∃S:World→Prop,Hid (∀w',S w'=(w'.cell? ⟨wr.heap.size,0,none⟩=some (.int .i64 4)∧w'.cell? ⟨wr.heap.size,2,none⟩=some (.pointer (some ⟨w.heap.size,x,none⟩))∧w'.cell? ⟨w.heap.size,x,none⟩=some (.int .u32 (m:Int)))):=⟨_,fun _=>rfl⟩;refine zrs S 8 [(0,false),(1,false),(2,false),(3,false),(4,false),(5,false),(6,false),(7,false),(8,true)] ((HS.out _).mpr ⟨qak wr _ _ 0,qak wr _ _ 2,qaj cx _⟩) ?_;repeat(refine zrd rfl rfl (fun w1 hS=>by rw[HS.out]at hS;go_split_ands;go_simp;(try go_bits);try rfl) ?_;simp only[Act.put,tA0,tA1,tA2])
     refine qbj rfl rfl ?_;go_simp;refine(qed W W m 4 _ _ hwa (by omega) (A0.out k)).mono ?_;rintro e w5 ⟨rfl,hw5,hb5,-⟩;rw[e4,←Hst.out.2]at hw5;obtain⟨HW,HB⟩:=zh2 hw5 ((hbr.alloc hsz (.cells #[.int .i64 4,.pointer none,.pointer (some ⟨w.heap.size,x,none⟩),.pointer none] 252)).drew.trans hb5);clear hw5 hb5 hwr hbr tr hwa HS m0 m1 m2 m3 cx;go_simp;refine qbg ?_;go_wp2
     go_roundw
     case rel=>exact⟨k+1,by omega,by go_num,Hst.out.1,HW.out,HB.out⟩
     case measure=>simp[intOf];omega
    ·
     obtain⟨g,q0,x⟩:=f;simp only at f1 f2 f3 f4;subst f1 f2;have m0:=hcell (k*4+0) _ ((q 0 (by omega)).trans rfl);have m1:=hcell (k*4+1) _ ((q 1 (by omega)).trans rfl);have m2:=hcell (k*4+2) _ ((q 2 (by omega)).trans rfl);have m3:=hcell (k*4+3) _ ((q 3 (by omega)).trans rfl);clear q hcell;simp only[←Nat.add_assoc,Nat.add_zero]at m0 m1 m2 m3;have cx:=tr.cell x;rw[f4]at cx;have hgl:=tr.lt;obtain⟨m,hm⟩:∃m:Nat,R.num x=(m:Int):=⟨(R.num x).toNat,by omega⟩;have hm64:=hR.num x;have Hst:Hid ((∀f∈l.take (k+1),qhn R f=0)∧be n 1++(l.take (k+1)).flatMap (fldB R)=be n 1++(l.take k).flatMap (fldB R)++be m 8):=by
      refine qhw R l k _ Hx.out Hall.out ?_ ?_ _
      · simp[qhn]
      simp[fldB,hm]
     rw[hm]at cx hm64;go_wp2_with fail
     have hwa:=(hwr.kept_call ((tA5 _ _).alloc (tA4 _) (.cells #[.int .i64 8,.pointer none,.pointer none,.pointer (some ⟨w.heap.size,x,none⟩)] 252))).drew;have hsz:W≤wr.heap.size:=by have:=hbr.size;have:=hwr.lt;omega
     obtain⟨S,HS⟩:∃S:World→Prop,Hid (∀w',S w'=(w'.cell? ⟨wr.heap.size,0,none⟩=some (.int .i64 8)∧w'.cell? ⟨wr.heap.size,3,none⟩=some (.pointer (some ⟨w.heap.size,x,none⟩))∧w'.cell? ⟨w.heap.size,x,none⟩=some (.int .u64 (m:Int)))):=⟨_,fun _=>rfl⟩;refine zrs S 7 [(0,false),(1,false),(2,false),(3,false),(4,false),(5,false),(6,false),(7,true)] ((HS.out _).mpr ⟨qak wr _ _ 0,qak wr _ _ 3,qaj cx _⟩) ?_;repeat(refine zrd rfl rfl (fun w1 hS=>by rw[HS.out]at hS;go_split_ands;go_simp;(try go_bits);try rfl) ?_;simp only[Act.put,tA0,tA1,tA2])
     refine qbj rfl rfl ?_;go_simp;refine(qed W W m 8 _ _ hwa (by omega) (A0.out k)).mono ?_;rintro e w5 ⟨rfl,hw5,hb5,-⟩;rw[e8,←Hst.out.2]at hw5;obtain⟨HW,HB⟩:=zh2 hw5 ((hbr.alloc hsz (.cells #[.int .i64 8,.pointer none,.pointer none,.pointer (some ⟨w.heap.size,x,none⟩)] 252)).drew.trans hb5);clear hw5 hb5 hwr hbr tr hwa HS m0 m1 m2 m3 cx;go_simp;refine qbg ?_;go_wp2
     go_roundw
     case rel=>exact⟨k+1,by omega,by go_num,Hst.out.1,HW.out,HB.out⟩
     case measure=>simp[intOf];omega
    have m0:=hcell (k*4+0) _ ((q 0 (by omega)).trans rfl);have m1:=hcell (k*4+1) _ ((q 1 (by omega)).trans rfl);have m2:=hcell (k*4+2) _ ((q 2 (by omega)).trans rfl);have m3:=hcell (k*4+3) _ ((q 3 (by omega)).trans rfl);clear q hcell;simp only[←Nat.add_assoc,Nat.add_zero]at m0 m1 m2 m3;have cx:=tr.cell 47;rw[show D[47]? =some (.slice Al R.leaf.length cl) from hd47]at cx;have hgl:=tr.lt;have hsz:W≤wr.heap.size:=by have:=hbr.size;have:=hwr.lt;omega
    by_cases hb:256<R.leaf.length
    ·
     have Hst:Hid (qhp R=(3,[])):=by
      unfold Hid;rw[H.out,qhr R l k _ _ Hall.out Hx.out]
      · simp[qhn,hb]
      simp[qhn,hb]
     have HB:=zh1 ((B3.trans (hbr.mono (by omega))).alloc (by omega) (.cells #[.int .i64 0,.pointer none,.pointer none,.pointer none] 252));go_wp2
     go_ret2
     exact⟨_,by rw[Hst.out];rfl,by rw[Hst.out];exact World.ownsRow_nil ..,HB.out⟩
    have Hst:Hid ((∀f∈l.take (k+1),qhn R f=0)∧be n 1++(l.take (k+1)).flatMap (fldB R)=be n 1++(l.take k).flatMap (fldB R)++txt R.leaf):=by
     refine qhw R l k _ Hx.out Hall.out ?_ ?_ _
     · simp[qhn,hb]
     simp[fldB]
    go_wp2_with fail
    have hwa:=hwr.kept_call ((tA5 _ _).alloc (tA4 _) (.cells #[.int .i64 0,.pointer none,.pointer none,.pointer none] 252));have hla:=(hlr.alloc (by omega) (.cells #[.int .i64 0,.pointer none,.pointer none,.pointer none] 252)).more (show w.heap.size≤W by omega);refine(qei W W _ R.leaf Al R.leaf.length cl _ hwa (A0.out k) hla hlc hc).mono ?_;rintro e w5 ⟨rfl,hw5,hb5,-⟩;rw[←Hst.out.2]at hw5;obtain⟨HW,HB⟩:=zh2 hw5 ((hbr.alloc hsz (.cells #[.int .i64 0,.pointer none,.pointer none,.pointer none] 252)).trans hb5);clear hw5 hb5 hwr hbr tr hwa m0 m1 m2 m3 cx hla;go_wp2
    go_roundw
    case rel=>exact⟨k+1,by omega,by go_num,Hst.out.1,HW.out,HB.out⟩
    case measure=>simp[intOf];omega
   obtain rfl:k=l.length:=by omega
   have Hst:Hid (qhp R=(0,be n 1++(l.take l.length).flatMap (fldB R))):=by
    unfold Hid;rw[H.out,qhq R l l.length _ Hall.out,List.drop_length];rfl
   go_wp2_with fail
   refine(qeg W W _ _ hwr (by have:=A0.out l.length;omega)).mono ?_;rintro e w6 ⟨v,rfl,hown6,hb6⟩;have hsz:W≤wr.heap.size:=by have:=hbr.size;have:=hwr.lt;omega
   obtain⟨HO,HB⟩:=zh2 (qeq hown6 (show w.heap.size≤wr.heap.size by omega)) ((B3.trans (hbr.mono (by omega))).trans (hb6.mono (by omega)));clear hown6 hb6 hwr hbr tr;go_wp2
   go_ret2
   exact⟨v,by rw[Hst.out];rfl,by rw[Hst.out];exact HO.out,HB.out⟩
end
section
open Go.RowKit
def req0 (T:Tok)(op:Int):Req:=⟨op,T.1,T.2.1,T.2.2,0,0,0,0,0,0,0,0,0,0,0,0,[]⟩
def Req.put (R:Req)(o n:Nat):Req:=
 match o with
 |35=>{R with tree:=n}|36=>{R with tenant:=n}|37=>{R with role:=n}|38=>{R with state:=n}|39=>{R with weight:=n}|40=>{R with id:=n}
 |41=>{R with lo:=n}|42=>{R with hi:=n}|43=>{R with rate:=n}|44=>{R with burst:=n}|45=>{R with store:=n}|46=>{R with expires:=n}|_=>R
def qi0 (bs:List Nat):List Fld→RSt→Req→RSt × Req
 |[],s,R=>(s,R)
 |f::l,s,R=>
  if f.2.1=0 then qi0 bs l (qgi bs s 256).1 {R with leaf:=(qgi bs s 256).2}
  else qi0 bs l (rNum bs s f.1).1 (R.put f.2.2 (rNum bs s f.1).2)
def qi1 (bs:List Nat):RSt:=
 if (qg4 (qgi bs (0,none) 77).2).1=none then(qgi bs (0,none) 77).1 else qf6 (qgi bs (0,none) 77).1 (qgi bs (0,none) 77).1.1 12
def reqT (bs:List Nat):Tok:=(qg4 (qgi bs (0,none) 77).2).2
def qi2 (bs:List Nat):RSt × Req:=
 match fieldsOf ((rNum bs (qi1 bs) 1).2:Int) with
 |none=>(qf6 (rNum bs (qi1 bs) 1).1 (rNum bs (qi1 bs) 1).1.1 12,req0 (reqT bs) ((rNum bs (qi1 bs) 1).2:Int))
 |some l=>qi0 bs l (rNum bs (qi1 bs) 1).1 (req0 (reqT bs) ((rNum bs (qi1 bs) 1).2:Int))
def qi3:Req:=req0 qft 0
def qi4 (bs:List Nat):Option (Nat × Nat) × Req:=match rEnd bs (qi2 bs).1 with
 |none=>(none,(qi2 bs).2)
 |some x=>(some x,qi3)
theorem qi5 (bs:List Nat)(s:RSt)(m:Nat)(h:∀x∈bs,x<256):(qgi bs s m).2.length≤65535:=by
 have h1:=qff bs (if (rNum bs s 2).1.2=none∧m<(rNum bs s 2).2 then(s.1,some (s.1,3)) else(rNum bs s 2).1) (rNum bs s 2).2;have h2:=qfh bs s 2 h;have e:(256:Nat)^2=65536:=by decide
 rw[e]at h2;unfold qgi;omega
theorem qi6 (bs:List Nat)(s7:RSt)(k:Nat)(h:rNum bs (qi1 bs) 1=(s7,k)):
 qi2 bs=qi0 bs ((fieldsOf (k:Int)).getD []) (if (fieldsOf (k:Int)).isSome then s7 else qf6 s7 s7.1 12) (req0 (reqT bs) (k:Int)):=by
 unfold qi2;rw[h];cases hf:fieldsOf (k:Int) with
 |none=>simp only[hf];rfl
 |some l=>simp only[hf];rfl
theorem qi7 (T:Tok)(cav lv:Value)(k:Nat):(reqv (req0 T 0) cav lv).toArray.setIfInBounds 0 (.int .i64 (k:Int))=(reqv (req0 T (k:Int)) cav lv).toArray:=by
 simp[reqv,req0,Req.rest]
structure Req.Fine (R:Req):Prop where
 tag:R.tag.length=32
 tagb:∀b∈R.tag,b<256
 tid:R.tid<4294967296
 cavn:∀x∈R.cavs,x.2<4294967296
 cavl:R.cavs.length≤4
 leafb:∀b∈R.leaf,b<256
 leafl:R.leaf.length≤65535
def fldN (f:Fld)(n:Nat):Value:=if f.2.1=1 then .int .i64 (n:Int) else if f.2.1=2 then .int .u32 (n:Int) else .int .u64 (n:Int)
theorem qi8 (R:Req)(cav leafv:Value)(ht:R.tag.length=32)(k:Nat)(v:Value):(reqv R cav leafv).toArray.setIfInBounds (35+k) v=((Value.int .i64 R.op::tokv R.tid cav R.tag)++(R.rest leafv).set k v).toArray:=by
 have h:(Value.int .i64 R.op::tokv R.tid cav R.tag).length=35:=by rw[List.length_cons,qer _ _ _ ht]
 unfold reqv;rw[List.setIfInBounds_toArray,List.set_append_right _ _ (by omega),h];rw[show 35+k - 35=k by omega]
theorem qi9 (R:Req)(cav leafv:Value)(ht:R.tag.length=32)(f:Fld)(hf:IsFld f)(h0:f.2.1≠0)(n:Nat):
 (reqv R cav leafv).toArray.setIfInBounds f.2.2 (fldN f n)=(reqv (R.put f.2.2 n) cav leafv).toArray:=by
 have q:=qi8 R cav leafv ht;unfold IsFld at hf;rcases hf with rfl|rfl|rfl|rfl|rfl|rfl|rfl|rfl|rfl|rfl|rfl|rfl|rfl
 · exact(q 0 _).trans rfl
 · exact(q 1 _).trans rfl
 · exact(q 2 _).trans rfl
 · exact(q 3 _).trans rfl
 · exact(q 4 _).trans rfl
 · exact(q 5 _).trans rfl
 · exact(q 6 _).trans rfl
 · exact(q 7 _).trans rfl
 · exact(q 8 _).trans rfl
 · exact(q 9 _).trans rfl
 · exact(q 10 _).trans rfl
 · exact(q 11 _).trans rfl
 exact absurd rfl h0
theorem qia {f:Fld}(hf:IsFld f):(f.2.1=1∧f.1=1)∨(f.2.1=2∧f.1=4)∨(f.2.1=3∧f.1=8)∨f=(0,0,0):=by
 unfold IsFld at hf;rcases hf with rfl|rfl|rfl|rfl|rfl|rfl|rfl|rfl|rfl|rfl|rfl|rfl|rfl<;>simp
theorem qib (R:Req)(cav leafv:Value)(ht:R.tag.length=32)(f:Fld)(hf:IsFld f)(h0:f.2.1≠0):∃v,(reqv R cav leafv)[f.2.2]? =some v:=by
 have q:=qgu R cav leafv ht;unfold IsFld at hf;rcases hf with rfl|rfl|rfl|rfl|rfl|rfl|rfl|rfl|rfl|rfl|rfl|rfl|rfl
 · exact⟨_,(q 0).trans rfl⟩
 · exact⟨_,(q 1).trans rfl⟩
 · exact⟨_,(q 2).trans rfl⟩
 · exact⟨_,(q 3).trans rfl⟩
 · exact⟨_,(q 4).trans rfl⟩
 · exact⟨_,(q 5).trans rfl⟩
 · exact⟨_,(q 6).trans rfl⟩
 · exact⟨_,(q 7).trans rfl⟩
 · exact⟨_,(q 8).trans rfl⟩
 · exact⟨_,(q 9).trans rfl⟩
 · exact⟨_,(q 10).trans rfl⟩
 · exact⟨_,(q 11).trans rfl⟩
 exact absurd rfl h0
theorem qic (bs:List Nat)(l:List Fld)(j:Nat)(f:Fld)(s:RSt)(R:Req)(X:RSt × Req)(h:qi0 bs (l.drop j) s R=X)(hj:l[j]? =some f)(h0:f.2.1≠0):
 qi0 bs (l.drop (j+1)) (rNum bs s f.1).1 (R.put f.2.2 (rNum bs s f.1).2)=X:=by
 obtain⟨hlt,e⟩:=List.getElem?_eq_some_iff.1 hj;rw[List.drop_eq_getElem_cons hlt,e]at h;rw[←h];show _=qi0 bs (f::l.drop (j+1)) s R;rw[qi0,if_neg h0]
theorem qid (bs:List Nat)(l:List Fld)(j:Nat)(f:Fld)(s:RSt)(R:Req)(X:RSt × Req)(h:qi0 bs (l.drop j) s R=X)(hj:l[j]? =some f)(h0:f.2.1=0):
 qi0 bs (l.drop (j+1)) (qgi bs s 256).1 {R with leaf:=(qgi bs s 256).2}=X:=by
 obtain⟨hlt,e⟩:=List.getElem?_eq_some_iff.1 hj;rw[List.drop_eq_getElem_cons hlt,e]at h;rw[←h];show _=qi0 bs (f::l.drop (j+1)) s R;rw[qi0,if_pos h0]
theorem qie (R:Req)(cav leafv v:Value)(l:List Nat)(ht:R.tag.length=32):(reqv R cav leafv).toArray.setIfInBounds 47 v=(reqv {R with leaf:=l} cav v).toArray:=
 (qi8 R cav leafv ht 12 v).trans rfl
theorem qif (R:Req)(o n:Nat):(R.put o n).tid=R.tid∧(R.put o n).cavs=R.cavs∧(R.put o n).tag=R.tag∧(R.put o n).leaf=R.leaf∧(R.put o n).op=R.op:=by
 unfold Req.put;split<;>exact⟨rfl,rfl,rfl,rfl,rfl⟩
theorem Req.Fine.put {R:Req}(h:R.Fine)(o n:Nat):(R.put o n).Fine:=by
 obtain⟨h1,h2,h3,h4,-⟩:=qif R o n;exact⟨by rw[h3];exact h.tag,by rw[h3];exact h.tagb,by rw[h1];exact h.tid,by rw[h2];exact h.cavn,by rw[h2];exact h.cavl,by rw[h4];exact h.leafb,by rw[h4];exact h.leafl⟩
end
section
open Go.RowKit
structure Hd where
 tree:Int
 epoch:Int
 size:Nat
 clock:Nat
 root:List Nat
 tag:List Nat
 deriving DecidableEq
def Hd.zero:Hd:=⟨0,0,0,0,List.replicate 32 0,List.replicate 32 0⟩
def hdv (h:Hd):List Value:=.int .i64 h.tree::.int .i64 h.epoch::.int .u64 (h.size:Int)::.int .u64 (h.clock:Int)::(byv h.root++byv h.tag)
def hdB (h:Hd):List Nat:=be h.tree.toNat 1++(be h.epoch.toNat 4++(be h.size 8++(be h.clock 8++(h.root++h.tag))))
structure Hd.Ok (h:Hd):Prop where
 size:h.size<18446744073709551616
 clock:h.clock<18446744073709551616
 rootl:h.root.length=32
 rootb:∀x∈h.root,x<256
 tagl:h.tag.length=32
 tagb:∀x∈h.tag,x<256
structure Rsp where
 why:Int
 n:Nat
 bytes:List Nat
 hashes:List (List Nat)
 hd:Hd
 tok:Tok
def rspv (R:Rsp)(bv hv cav:Value):List Value:=.int .i64 R.why::.int .u64 (R.n:Int)::bv::hv::(hdv R.hd++tokv R.tok.1 cav R.tok.2.2)
structure Rsp.Ok (R:Rsp):Prop where
 n:R.n<18446744073709551616
 bytes:∀x∈R.bytes,x<256
 hashes:∀d∈R.hashes,d.length=32∧∀x∈d,x<256
 hd:R.hd.Ok
 tok:R.tok.Ok
theorem qig:qft.Ok:=⟨by decide,fun c hc=>(nomatch hc),by simp[qft],by intro x hx;simp[qft]at hx;omega⟩
theorem Hd.zero_Ok:Hd.zero.Ok:=⟨by decide,by decide,by simp[Hd.zero],by intro x hx;simp[Hd.zero]at hx;omega,by simp[Hd.zero],by intro x hx;simp[Hd.zero]at hx;omega⟩
def qih:Rsp:=⟨0,0,[],[],Hd.zero,qft⟩
def tokR (t:Tok):Nat × List Nat:=qem t.1 t.2.1 t.2.2
def flagsOf (R:Rsp):Nat:=(if R.hd=Hd.zero then 0 else 1)+(if R.tok=qft then 0 else 2)
def ansB (R:Rsp):List Nat:=
 be R.why.toNat 1++(be R.n 8++(txt R.bytes++(be R.hashes.length 1++(R.hashes.flatten++(be (flagsOf R) 1++((if R.hd=Hd.zero then [] else hdB R.hd)++(if R.tok=qft then [] else txt (tokR R.tok).2)))))))
def Rsp.fits (R:Rsp):Bool:=decide (0≤R.why∧R.why≤255)&&decide (0≤R.hd.tree∧R.hd.tree≤255)&&decide (0≤R.hd.epoch∧R.hd.epoch≤2147483647)
def qii (R:Rsp):Nat × List Nat:=
 if 255<R.hashes.length∨(tokR R.tok).1=4 then(4,[])
 else if 65536≤R.bytes.length then(3,[])
 else if R.fits=true∧(tokR R.tok).1=0 then(0,ansB R) else(1,[])
def qij (bs:List Nat):Nat→RSt→List (List Nat)→RSt × List (List Nat)
 |0,s,l=>(s,l)
 |k+1,s,l=>qij bs k (rDig bs s).1 (l++[(rDig bs s).2])
def rh1 (bs:List Nat)(s:RSt):=rNum bs s 1
def rh2 (bs:List Nat)(s:RSt):=rNum bs (rh1 bs s).1 4
def rh3 (bs:List Nat)(s:RSt):RSt:=if 2147483647<(rh2 bs s).2 then qf6 (rh2 bs s).1 (rh2 bs s).1.1 12 else(rh2 bs s).1
def rh4 (bs:List Nat)(s:RSt):=rNum bs (rh3 bs s) 8
def rh5 (bs:List Nat)(s:RSt):=rNum bs (rh4 bs s).1 8
def rh6 (bs:List Nat)(s:RSt):=rDig bs (rh5 bs s).1
def rh7 (bs:List Nat)(s:RSt):=rDig bs (rh6 bs s).1
def rhH (bs:List Nat)(s:RSt):Hd:=⟨((rh1 bs s).2:Int),((rh2 bs s).2:Int),(rh4 bs s).2,(rh5 bs s).2,(rh6 bs s).2,(rh7 bs s).2⟩
def qik (bs:List Nat)(s:RSt):RSt × Hd:=(if rhH bs s=Hd.zero then qf6 (rh7 bs s).1 (rh7 bs s).1.1 12 else(rh7 bs s).1,rhH bs s)
def qil (bs:List Nat)(s:RSt):RSt × Tok:=
 (if (qg4 (qgi bs s 65536).2).1=none∧(qg4 (qgi bs s 65536).2).2≠qft then(qgi bs s 65536).1 else qf6 (qgi bs s 65536).1 (qgi bs s 65536).1.1 12,(qg4 (qgi bs s 65536).2).2)
def rp1 (bs:List Nat):=rNum bs (0,none) 1
def rp2 (bs:List Nat):=rNum bs (rp1 bs).1 8
def rp3 (bs:List Nat):=qgi bs (rp2 bs).1 65536
def rp4 (bs:List Nat):=rNum bs (rp3 bs).1 1
def rp5 (bs:List Nat):=qij bs (rp4 bs).2 (rp4 bs).1 []
def rp6 (bs:List Nat):=rNum bs (rp5 bs).1 1
def rp7 (bs:List Nat):RSt:=if 3<(rp6 bs).2 then qf6 (rp6 bs).1 (rp6 bs).1.1 12 else(rp6 bs).1
def rp8 (bs:List Nat):RSt × Hd:=if (rp6 bs).2 % 2=1 then qik bs (rp7 bs) else(rp7 bs,Hd.zero)
def rp9 (bs:List Nat):RSt × Tok:=if (rp6 bs).2 / 2 % 2=1 then qil bs (rp8 bs).1 else((rp8 bs).1,qft)
def rpR (bs:List Nat):Rsp:=⟨((rp1 bs).2:Int),(rp2 bs).2,(rp3 bs).2,(rp5 bs).2,(rp8 bs).2,(rp9 bs).2⟩
def qim (bs:List Nat):Option (Nat × Nat) × Rsp:=match rEnd bs (rp9 bs).1 with
 |none=>(none,rpR bs)
 |some x=>(some x,qih)
theorem qin (bs:List Nat)(hb:∀x∈bs,x<256):∀(k:Nat) (s:RSt) (l:List (List Nat)),(∀d∈l,d.length=32∧∀x∈d,x<256)→(∀d∈(qij bs k s l).2,d.length=32∧∀x∈d,x<256)∧(qij bs k s l).2.length=l.length+k
 |0,s,l,h=>⟨h,rfl⟩
 |k+1,s,l,h=>by
  unfold qij;have ih:=qin bs hb k (rDig bs s).1 (l++[(rDig bs s).2]) (by
   intro d hd;rcases List.mem_append.1 hd with hd|hd
   · exact h d hd
   obtain rfl:=List.mem_singleton.1 hd;exact⟨qfj bs s,qfk bs s hb⟩)
  refine⟨ih.1,ih.2.trans ?_⟩;simp;omega
theorem qio (bs:List Nat)(hb:∀x∈bs,x<256)(s:RSt):(rhH bs s).Ok:=
 ⟨Nat.lt_of_lt_of_eq (qfh bs _ 8 hb) (by decide),Nat.lt_of_lt_of_eq (qfh bs _ 8 hb) (by decide),qfj _ _,qfk _ _ hb,qfj _ _,qfk _ _ hb⟩
theorem qip (bs:List Nat)(hb:∀x∈bs,x<256):(rpR bs).Ok:=by
 refine⟨Nat.lt_of_lt_of_eq (qfh bs _ 8 hb) (by decide),qgj bs _ _ hb,(qin bs hb _ _ [] (fun d hd=>by cases hd)).1,?_,?_⟩
 · show (rp8 bs).2.Ok
   unfold rp8;split
   · exact qio bs hb _
   exact Hd.zero_Ok
 show (rp9 bs).2.Ok;unfold rp9;split
 · exact(qgt _ (qgj bs _ _ hb)).1
 exact qig
theorem qiq:qih.Ok:=⟨by decide,fun x hx=>(nomatch hx),fun x hx=>(nomatch hx),Hd.zero_Ok,qig⟩
end
section
open Go.RowKit
def qir (R:Req):Nat × List Nat:=
 if (qhp R).1=0 then(if (qem R.tid R.cavs R.tag).1=0 then(0,txt (qem R.tid R.cavs R.tag).2++(qhp R).2) else((qem R.tid R.cavs R.tag).1,[]))
 else((qhp R).1,[])
theorem Tryz.req_info:(Tryz.prog.info? 34).map (·.size)=some 48:=by kernel_rfl
theorem qis (R:Req)(cav leafv:Value)(ht:R.tag.length=32):(reqv R cav leafv).length=48:=by
 unfold reqv;rw[tA6,List.length_cons,qer _ _ _ ht];rfl
theorem qit (R:Req)(cav leafv:Value):∀j u,(tokv R.tid cav R.tag)[j]? =some u→(reqv R cav leafv)[1+j]? =some u:=by
 intro j u h;have hl:j<(tokv R.tid cav R.tag).length:=by
  rcases Nat.lt_or_ge j (tokv R.tid cav R.tag).length with h1|h1
  · exact h1
  rw[List.getElem?_eq_none h1]at h;cases h
 unfold reqv;rw[List.getElem?_append_left (by simp;omega),show 1+j=j+1 from by omega,List.getElem?_cons_succ];exact h
theorem qiu (R:Req):(qhp R).2.length≤4294967296:=by
 have hg:∀l acc,(qho R l acc).2=[]∨((qho R l acc).2=acc++l.flatMap (fldB R)∧(qho R l acc).1=0):=by
  intro l;induction l with
  |nil=>intro acc;right;simp[qho]
  |cons f l ih=>
   intro acc;rw[qho];split
   · rcases ih (acc++fldB R f) with h|⟨h,h0⟩
     · exact .inl h
     exact .inr ⟨by rw[h];simp,h0⟩
   exact .inl rfl
 unfold qhp;cases ho:fieldsOf R.op with
 |none=>simp
 |some l=>
  simp only;rcases hg l (be R.op.toNat 1) with h|⟨h,-⟩
  · rw[h];simp
  have:=qhy R R.op.toNat l (fun f hf=>qht R.op l ho f hf) (qhv R.op l ho).2.2 l.length;rw[List.take_length]at this;rw[h];exact this
theorem qiv (l:List Nat):(txt l).length≤2+l.length:=by
 unfold txt;rw[tA6,qaw,List.length_take];omega
theorem qiw (R:Req)(Ac:Option Addr)(cc:Nat)(Al:Option Addr)(cl:Nat)(w:World)(hR:R.Fit)(hleaf:Reads w w.heap.size 1 Al R.leaf.length (byv R.leaf))(hlc:R.leaf.length≤cl)(hc:cl≤maxLen)
 (hcav:Reads w w.heap.size 2 Ac R.cavs.length (cavv R.cavs))(hcc:R.cavs.length≤cc)(hcm:cc≤maxLen)(hid:R.tid<4294967296)(hln:∀x∈R.cavs,x.2<4294967296):
 Calls Tryz.prog 124 #[.agg (reqv R (.slice Ac R.cavs.length cc) (.slice Al R.leaf.length cl)).toArray] w fun e w'=>∃v,e=.returned (.tuple #[v,.int .i64 ((qir R).1:Int)])∧OwnB w' w.heap.size v (qir R).2∧Below w.heap.size w w':=by
 have hbody:=fun w' h=>qhz R (.slice Ac R.cavs.length cc) Al cl w' hR h hlc hc
 have htok:=fun w' h=>qev R.tid R.cavs Ac cc R.tag w' h hcc hcm hid hln hR.tag
 have hrt:=qit R (.slice Ac R.cavs.length cc) (.slice Al R.leaf.length cl);have hlen:=qis R (.slice Ac R.cavs.length cc) (.slice Al R.leaf.length cl) hR.tag;have hlen2:=qer R.tid (.slice Ac R.cavs.length cc) R.tag hR.tag;obtain⟨L,hL⟩:=xeq (reqv R (.slice Ac R.cavs.length cc) (.slice Al R.leaf.length cl));obtain⟨T,hT⟩:=xeq (tokv R.tid (.slice Ac R.cavs.length cc) R.tag);rw[hL]at hrt hlen ⊢;rw[hT]at hrt hlen2;simp only[hL]at hbody;simp only[hT]at htok;have hi1:(Tryz.prog.info? 34).map (·.size)=some L.length:=by rw[hlen];exact Tryz.req_info
 have hi2:(Tryz.prog.info? 31).map (·.size)=some T.length:=by rw[hlen2];exact Tryz.tok_info
 obtain⟨A3,A4,HB,HT,A5⟩:=zh5 hi1 hi2 hbody htok hrt;clear hi1 hi2 hL hT hlen hlen2 hbody htok hrt;have t0:Blk (w.alloc (.cells L.toArray 34)) w.heap.size 34 L.toArray:=Blk.new w _ _;have hrg:=qap t0 0 L (fun j u h=>by simpa using h);have A0:=zh1 hrg;clear hrg;go_enter Tryz.func124,Tryz.ntmps124
 go_wp2_with (refine wpList_load_mid rfl 34 (.tmp 1) rfl w.heap.size 0 rfl L _ A0.out Tryz.underlying34 rfl A3.out ?_)
 refine(HB.out _ (hleaf.laid _)).mono ?_;rintro e w1 ⟨v1,rfl,hown1,hb1⟩;simp only[qar]at hown1 hb1;have hown1:OwnB w1 (w.heap.size+1) v1 (qhp R).2:=hown1;have B1:Below w.heap.size w w1:=((tA5 _ _).alloc (tA4 _) _).trans (hb1.mono (by omega));have t1:=t0.below hb1 (by omega);have hcav1:=hcav.call B1;clear hb1 A0 hcav hleaf t0;obtain⟨bw,hbw⟩:=xeq ((qhp R).1);obtain⟨bb,hbb⟩:=xeq ((qhp R).2);rw[hbw];rw[hbb]at hown1;have hbl:=qiu R;rw[hbb]at hbl;obtain⟨A1,A6⟩:=zh2 hbw hbb;clear hbw hbb;by_cases h0:bw=0
 ·
  subst h0;have hrg:=qap t1 1 T A5.out;have A0:=zh1 hrg;clear hrg;go_wp2_with (refine wpList_load_mid rfl 31 (.tmp 17) rfl w.heap.size 1 rfl T _ A0.out Tryz.underlying31 rfl A4.out ?_)
  refine(HT.out _ hcav1).mono ?_;rintro e w2 ⟨v2,rfl,hown2,hb2⟩;have hown2:OwnB w2 w1.heap.size v2 (qem R.tid R.cavs R.tag).2:=hown2;have B2:=B1.trans (hb2.mono B1.size);have hownb:=hown1.kept hb2;have htl:=qew R.tid R.cavs R.tag hR.tag;obtain⟨tw,htw⟩:=xeq ((qem R.tid R.cavs R.tag).1);obtain⟨tb,htb⟩:=xeq ((qem R.tid R.cavs R.tag).2);rw[htw];rw[htb]at hown2 htl;obtain⟨A2,A7⟩:=zh2 htw htb;clear htw htb A0 hown1 hcav1 hb2;by_cases h1:tw=0
  ·
   subst h1;obtain⟨At,nt,ct,rfl,ht1,ht2,hrt⟩:=hown2.sl;obtain⟨Ab,nb,cb,rfl,hb1,hb2,hrb⟩:=hownb.sl;have H:Hid (qir R=(0,txt tb++bb)):=by
    unfold Hid qir;rw[if_pos A1.out,if_pos A2.out,A7.out,A6.out]
   go_wp2_with fail
   refine(qee _).mono ?_;rintro e w3 ⟨rfl,hw3,hb3⟩;have B3:=B2.trans (hb3.mono B2.size);have hrt3:=hrt.call hb3;have hrb3:=hrb.call hb3;go_wp2_with fail
   refine(qei _ _ [] tb At nt ct _ hw3 (by simp) (hrt.below hb3) ht1 ht2).mono ?_;rintro e w4 ⟨rfl,hw4,hb4,-⟩;have hrb4:=(hrb.below (hb3.trans hb4));have B4:=B3.trans (hb4.mono B2.size);rw[List.nil_append]at hw4;go_wp2_with fail
   have htx:=qiv tb;refine(qeg _ _ _ _ hw4 (by omega)).mono ?_;rintro e w5 ⟨v5,rfl,hown5,hb5⟩;have hown5:OwnB w5 w4.heap.size v5 (txt tb):=hown5;have hrb5:=(hrb4.more (show w2.heap.size≤w4.heap.size from by have:=hb4.size;have:=hb3.size;omega)).call hb5;have B5:=B4.trans (hb5.mono B4.size);have hbl5:=qb5 hrb5;clear hw4 hw3 hrb4 hrb3 hrt3 hrb hrt hown2 hownb;go_wp2_with (at_builtin;refine qcx rfl (.tmp 30) (.tmp 31) rfl w4.heap.size _ _ rfl hown5 Ab nb cb bb rfl hrb5 (by omega) hb5.size ?_)
   intro v6 w6 hown6 hb6 hg6;obtain⟨HO,A8⟩:=zh2 (hown6.mono B4.size) (B5.trans (hb6.mono B4.size));clear hown6 hb6 hg6 hown5 hrb5 hb5 hb4 hb3;go_wp2
   go_ret2
   exact⟨_,by rw[H.out];rfl,by rw[H.out];exact HO.out,A8.out⟩
  have H:Hid (qir R=(tw,[])):=by
   unfold Hid qir;rw[if_pos A1.out,A2.out,if_neg h1]
  have hn:((tw:Int)==0)=false:=by simpa using h1
  have hn2:((tw:Int) != 0)=true:=by simpa using h1
  go_wp2
  go_ret2
  exact⟨_,by rw[H.out];rfl,by rw[H.out];exact OwnB.nil _ _,B2⟩
 have H:Hid (qir R=(bw,[])):=by
  unfold Hid qir;rw[A1.out,if_neg h0]
 have hn:((bw:Int)==0)=false:=by simpa using h0
 have hn2:((bw:Int) != 0)=true:=by simpa using h0
 go_wp2
 go_ret2
 exact⟨_,by rw[H.out];rfl,by rw[H.out];exact OwnB.nil _ _,B1⟩
end
end Go.Proofs.YthomgopipiomhaaGreatDoor

/- Lemmas. -/
import Derived.Test.YthomgopipiomhaaGreatDoorBMR05
import Derived.Test.YthomgopipiomhaaGreatDoorBMR08
import Derived.Lib.SmallJoins
namespace Go.Proofs.YthomgopipiomhaaGreatDoor
open Go.RowKit
set_option linter.unusedVariables false
set_option linter.unusedSimpArgs false
set_option maxRecDepth 100000
set_option maxHeartbeats 32000000
variable {sz by_ k g size B tg rg gg dg n gw tb id base b m gp:Nat}{e:TypeId}{xs:List Value}{col:Col}{w w1 w2 W w' w4 w0:World}{A:Option Addr}{css:List (List Value)}{L:Loc}{s:Sta}{c:Cfg}{R:Req}{bs:List Nat}{x n0 n1 n2 n3 n4:Int}{T v21 v25 v6:Value}{Q:Exit→Act→World→Prop}{a:Act}{o:Oper}{rest:List Oper}
theorem xb6(z:List Value)(n sz:Nat)(hz:z.length=sz)(h0:0<sz):madeCells z.toArray (n*sz)=(List.replicate n z).flatten.toArray:=by
 apply Array.ext';apply List.ext_getElem?;intro i;by_cases hi:i<n*sz
 ·
  have hq:i / sz<n:=Nat.div_lt_of_lt_mul (by rwa[Nat.mul_comm]at hi);have hr:i % sz<sz:=Nat.mod_lt _ h0;have e:=qnw (sz:=sz) (L:=List.replicate n z) (n:=i / sz) (j:=i % sz) (c:=z) (fun c hc=>by rw[List.eq_of_mem_replicate hc];exact hz) (by rw[List.getElem?_replicate,if_pos hq]) hr;rw[Nat.div_add_mod' i sz]at e;have e2:(madeCells z.toArray (n*sz)).toList[i]? =some (z.toArray[i % z.toArray.size]!):=by
   simp[madeCells,hi]
  rw[e2];show _=(List.replicate n z).flatten[i]?;rw[e,tB6,hz,List.getElem!_toArray,List.getElem!_eq_getElem?_getD];rw[tA7 zo];rfl
 have e1:(madeCells z.toArray (n*sz)).toList.length=n*sz:=by rw[Array.length_toList,size_madeCells]
 have e2:(List.replicate n z).flatten.length=n*sz:=by rw[qnx (sz:=sz) (fun c hc=>by rw[List.eq_of_mem_replicate hc];exact hz),List.length_replicate]
 rw[List.getElem?_eq_none zo];exact(List.getElem?_eq_none (by show (List.replicate n z).flatten.length≤i;omega)).symm
theorem xb7:((Tryz.prog.info? 92).bind fun i=>i.zero.map fun z=>(z.cells,i.size,i.bytes))=some ((tenv Ten.zero).toArray,6,24):=by kernel_rfl
theorem xb8:((Tryz.prog.info? 74).bind fun i=>i.zero.map fun z=>(z.cells,i.size,i.bytes))=some ((trev Tre.zero (.slice none 0 0) (.slice none 0 0) (.slice none 0 0)).toArray,75,200):=by kernel_rfl
theorem xb9{C:Array Value}(h:((Tryz.prog.info? e).bind fun i=>i.zero.map fun z=>(z.cells,i.size,i.bytes))=some (C,sz,by_)):∃i z,Tryz.prog.info? e=some i∧i.zero=some z∧z.cells=C∧i.size=sz∧i.bytes=by_:=by
 rcases h1:Tryz.prog.info? e with _|i
 · rw[h1]at h;cases h
 rcases h2:i.zero with _|z
 · rw[h1]at h;simp[h2]at h
 rw[h1]at h;simp[h2]at h;exact⟨i,z,rfl,h2,h.1,h.2.1,h.2.2⟩
def zTen:List Value:=(List.replicate 16 (tenv Ten.zero)).flatten
def zTre:List Value:=(List.replicate 16 (trev Tre.zero (.slice none 0 0) (.slice none 0 0) (.slice none 0 0))).flatten
theorem xba:(trev Tre.zero (.slice none 0 0) (.slice none 0 0) (.slice none 0 0)).length=75:=by decide
theorem xbb(w:World):(Instr.makeSlice 45 (.int .i64 16) (.int .i64 16)).run Tryz.prog w=.ok (.slice (some ⟨w.heap.size,0,none⟩) 16 16) (w.alloc (.cells zTen.toArray 92)):=by
 obtain⟨i,z,hi,hz,hc,hs,hb⟩:=xb9 xb7;have h:=run_make (P:=Tryz.prog) w 45 92 i z Tryz.underlying45 hi hz .i64 .i64 16 16 zdc zdc (by rw[hb];decide) zdc;rw[h,hc,hs,show (16:Int).toNat=16 from rfl,xb6 _ 16 6 rfl zdc];rfl
theorem xbc(w:World):(Instr.makeSlice 46 (.int .i64 16) (.int .i64 16)).run Tryz.prog w=.ok (.slice (some ⟨w.heap.size,0,none⟩) 16 16) (w.alloc (.cells zTre.toArray 74)):=by
 obtain⟨i,z,hi,hz,hc,hs,hb⟩:=xb9 xb8;have h:=run_make (P:=Tryz.prog) w 46 74 i z Tryz.underlying46 hi hz .i64 .i64 16 16 zdc zdc (by rw[hb];decide) zdc;rw[h,hc,hs,show (16:Int).toNat=16 from rfl,xb6 _ 16 75 xba zdc];rfl
def tre0 (h:Hd):Tre:={Tre.zero with state:=1,weight:=1,draws:=[0],hd:=h}
def ten0:Ten:=⟨true,1048576,1048576,1048576,32768,0⟩
def newH (h:Hd):Sta:=⟨0,0,0,ten0::List.replicate 15 Ten.zero,tre0 h::List.replicate 15 Tre.zero,[⟨0,4,18446744073709551615,false⟩]⟩
theorem xbd(c:Cfg):newS c=newH (pubT c 0 0 (tre0 Hd.zero)):=rfl
theorem xbe:(newH Hd.zero).Ok:={
 clock:=by decide
 draw:=by decide
 lane:=by decide
 tensn:=rfl
 tresn:=rfl
 grasn:=by decide
 tens:=fun x hx=>by
  rcases List.mem_cons.1 hx with rfl|h
  · exact⟨by decide,by decide,by decide,by decide,by decide⟩
  rw[List.eq_of_mem_replicate h];exact Ten.zero_ok
 tres:=fun x hx=>by
  rcases List.mem_cons.1 hx with rfl|h
  · exact {Tre.zero_ok with state:=by show (0:Int)≤1∧(1:Int)≤4;decide,weight:=by show (0:Int)≤1∧(1:Int)≤4;decide,live:=fun _=>⟨by show (1:Int)≤1;decide,by simp[tre0]⟩,draws:=by simp[tre0],drawb:=fun x hx=>by obtain rfl:=List.mem_singleton.1 hx;decide}
  rw[List.eq_of_mem_replicate h];exact Tre.zero_ok
 gras:=fun x hx=>by
  obtain rfl:=List.mem_singleton.1 hx;exact⟨by decide,by decide,by decide⟩
 owner:=rfl
 first:=⟨_,rfl,rfl,rfl⟩}
def z75:List Value:=trev Tre.zero (.slice none 0 0) (.slice none 0 0) (.slice none 0 0)
def cssH (dg:Nat)(h:Hd):List (List Value):=trev (tre0 h) (.slice (some ⟨dg,0,none⟩) 1 1) (.slice none 0 0) (.slice none 0 0)::List.replicate 15 z75
theorem xbf(dg:Nat){h:Hd}(ho:h.Ok):∀c∈cssH dg h,c.length=75:=by
 intro c hc;rcases List.mem_cons.1 hc with rfl|hc
 · exact qo3 _ _ _ ho
 rw[List.eq_of_mem_replicate hc];exact xba
theorem xbg(z r cs:List Value)(h:cs.length=z.length):over (z++r) 0 cs=cs++r:=by
 unfold over;rw[List.take_zero,List.nil_append,Nat.zero_add,h,List.drop_left]
theorem xbh(h:Hd):over zTen 0 (tenv ten0)=(newH h).tens.flatMap tenv:=by
 have e:zTen=tenv Ten.zero++(List.replicate 15 (tenv Ten.zero)).flatten:=rfl;rw[e];exact(xbg (tenv Ten.zero) _ (tenv ten0) rfl).trans rfl
theorem xbi(dg:Nat):over zTre 0 (trev (tre0 Hd.zero) (.slice (some ⟨dg,0,none⟩) 1 1) (.slice none 0 0) (.slice none 0 0))=(cssH dg Hd.zero).flatten:=by
 have e:zTre=z75++(List.replicate 15 z75).flatten:=rfl;rw[e];exact(xbg z75 _ (trev (tre0 Hd.zero) (.slice (some ⟨dg,0,none⟩) 1 1) (.slice none 0 0) (.slice none 0 0)) ((qo3 _ _ _ Hd.zero_Ok).trans xba.symm)).trans rfl
theorem xbj(dg:Nat){h:Hd}(ho:h.Ok):over (cssH dg Hd.zero).flatten 7 (hdv h)=(cssH dg h).flatten:=by
 have e:=qny (sz:=75) (L:=cssH dg Hd.zero) (n:=0) (j:=7) (hdv h) (xbf dg Hd.zero_Ok) (by simp[cssH]) (by rw[qo2 ho];decide);rw[show 0*75+7=7 from rfl]at e;rw[e];unfold cssH;rw[List.modify_zero_cons,qq2 _ _ _ _ _ Hd.zero_Ok ho];rfl
theorem xbk{c:Nat}(h:Blk w g e xs.toArray)(hc:col g=k)(hl:xs.length=c*size)(hm:c≤maxLen):TopAt w col k e g c size c xs:=
 ⟨hc,[],by rw[List.append_nil];exact h,hl,tA4 _,hm,by simpa using hl⟩
theorem xbl{h:Hd}(ho:h.Ok)(ht:Blk w tg 92 ((newH h).tens.flatMap tenv).toArray)(hr:Blk w rg 74 (cssH dg h).flatten.toArray)
 (hg:Blk w gg 66 #[.int .i64 0,.int .i64 4,.int .u64 18446744073709551615,.bool false])(hd:Blk w dg 22 #[.int .u32 0])(h1:B≤tg)(h2:B≤rg)(h3:B≤gg)(h4:B≤dg):
 ∃col,StAt 92 74 66 w col 2 ⟨tg,16,rg,16,gg,1,none,0,0⟩ (cssH dg h) (newH h)∧∀b,col b≠0→B≤b∧b<w.heap.size:=by
 have n1:tg≠rg:=ht.ne_ hr zdc;have n2:tg≠gg:=ht.ne_ hg zdc;have n3:rg≠gg:=hr.ne_ hg zdc;have n4:tg≠dg:=ht.ne_ hd zdc;have n5:rg≠dg:=hr.ne_ hd zdc;have n6:gg≠dg:=hg.ne_ hd zdc;have z1:(fun b=>if b=tg then 2 else if b=rg then 3 else if b=gg then 4 else if b=dg then 10 else 0:Col) tg=2:=by simp
 have z2:(fun b=>if b=tg then 2 else if b=rg then 3 else if b=gg then 4 else if b=dg then 10 else 0:Col) rg=3:=by simp[n1.symm]
 have z3:(fun b=>if b=tg then 2 else if b=rg then 3 else if b=gg then 4 else if b=dg then 10 else 0:Col) gg=4:=by simp[n2.symm,n3.symm]
 have z4:(fun b=>if b=tg then 2 else if b=rg then 3 else if b=gg then 4 else if b=dg then 10 else 0:Col) dg=10:=by simp[n4.symm,n5.symm,n6.symm]
 have l1:=ht.lt;have l2:=hr.lt;have l3:=hg.lt;have l4:=hd.lt;refine⟨fun b=>if b=tg then 2 else if b=rg then 3 else if b=gg then 4 else if b=dg then 10 else 0,⟨xbk ht z1 (by rw[qo6];rfl) (by simp[maxLen]),xbk hr z2 (by rw[qnx (xbf dg ho)];rfl) (by simp[maxLen]),xbk (c:=1) hg z3 rfl (by simp[maxLen]),?_⟩,?_⟩
 ·
  refine⟨rfl,fun i t hi=>?_⟩;match i,hi with
  |0,hi=>
   injection hi with hi;subst hi;refine⟨_,rfl,_,_,_,rfl,⟨rfl,.inr ⟨dg,0,1,[.int .u32 0],rfl,z4,hd,tA4 _,by simp[maxLen],by simp,rfl⟩⟩,TextsC.nil _ _ _,TextsC.nil _ _ _⟩
  |i+1,hi=>
   have hi':(List.replicate 15 Tre.zero)[i]? =some t:=hi;rw[List.getElem?_replicate]at hi';split at hi'
   · rename_i hlt
     injection hi' with hi';subst hi';refine⟨z75,?_,.slice none 0 0,.slice none 0 0,.slice none 0 0,rfl,RowC.nil _ _ _ _ _,TextsC.nil _ _ _,TextsC.nil _ _ _⟩;show (List.replicate 15 z75)[i]? =some z75;rw[List.getElem?_replicate,if_pos hlt]
   cases hi'
 intro b hb;by_cases e1:b=tg
 · omega
 by_cases e2:b=rg
 · omega
 by_cases e3:b=gg
 · omega
 by_cases e4:b=dg
 · omega
 simp[e1,e2,e3,e4]at hb
structure NewI (B:Nat)(w:World)(d1 d2 d3 d4 d5:Bool)(v1 v2 v3 v4 v5:Value):Prop where
 tens:d1=true→∃g,v1=.slice (some ⟨g,0,none⟩) 16 16∧B≤g∧Blk w g 92 zTen.toArray
 tres:d2=true→∃g,v2=.slice (some ⟨g,0,none⟩) 16 16∧B≤g∧Blk w g 74 zTre.toArray
 gras:d3=true→∃g,v3=.slice (some ⟨g,0,none⟩) 1 1∧B≤g∧Blk w g 66 #[.int .i64 0,.int .i64 4,.int .u64 18446744073709551615,.bool false]
 box:d4=true→∃g,v4=.pointer (some ⟨g,0,none⟩)∧B≤g∧Blk w g 49 #[.int .u64 0,.int .u32 0,.int .i64 0,.slice none 0 0,.slice none 0 0,.slice none 0 0]
 sv:d5=true→d1=true∧d2=true∧d3=true∧v5=.agg #[.int .u64 0,.int .u32 0,.int .i64 0,v1,v2,v3]
 low:B≤w.heap.size
section
variable {B : Nat} {w : World} {d1 d2 d3 d4 d5 : Bool} {v1 v2 v3 v4 v5 : Value}
theorem NewI.a1(h:NewI B w d1 d2 d3 d4 d5 v1 v2 v3 v4 v5)(hd:d1=false)(d:Bool):NewI B (w.alloc (.cells zTen.toArray 92)) d d2 d3 d4 d5 (.slice (some ⟨w.heap.size,0,none⟩) 16 16) v2 v3 v4 v5:=
 ⟨fun _=>⟨_,rfl,h.low,Blk.new _ _ _⟩,fun e=>by obtain⟨g,h1,h2,h3⟩:=h.tres e;exact⟨g,h1,h2,h3.alloc _⟩,fun e=>by obtain⟨g,h1,h2,h3⟩:=h.gras e;exact⟨g,h1,h2,h3.alloc _⟩,fun e=>by obtain⟨g,h1,h2,h3⟩:=h.box e;exact⟨g,h1,h2,h3.alloc _⟩,fun e=>absurd ((h.sv e).1) (by rw[hd];decide),by rw[qar];exact Nat.le_succ_of_le h.low⟩
theorem NewI.a2(h:NewI B w d1 d2 d3 d4 d5 v1 v2 v3 v4 v5)(hd:d2=false)(d:Bool):NewI B (w.alloc (.cells zTre.toArray 74)) d1 d d3 d4 d5 v1 (.slice (some ⟨w.heap.size,0,none⟩) 16 16) v3 v4 v5:=
 ⟨fun e=>by obtain⟨g,h1,h2,h3⟩:=h.tens e;exact⟨g,h1,h2,h3.alloc _⟩,fun _=>⟨_,rfl,h.low,Blk.new _ _ _⟩,fun e=>by obtain⟨g,h1,h2,h3⟩:=h.gras e;exact⟨g,h1,h2,h3.alloc _⟩,fun e=>by obtain⟨g,h1,h2,h3⟩:=h.box e;exact⟨g,h1,h2,h3.alloc _⟩,fun e=>absurd ((h.sv e).2.1) (by rw[hd];decide),by rw[qar];exact Nat.le_succ_of_le h.low⟩
theorem NewI.a3(h:NewI B w d1 d2 d3 d4 d5 v1 v2 v3 v4 v5)(hd:d3=false)(d:Bool):NewI B (w.alloc (.cells #[.int .i64 0,.int .i64 4,.int .u64 18446744073709551615,.bool false] 66)) d1 d2 d d4 d5 v1 v2 (.slice (some ⟨w.heap.size,0,none⟩) 1 1) v4 v5:=
 ⟨fun e=>by obtain⟨g,h1,h2,h3⟩:=h.tens e;exact⟨g,h1,h2,h3.alloc _⟩,fun e=>by obtain⟨g,h1,h2,h3⟩:=h.tres e;exact⟨g,h1,h2,h3.alloc _⟩,fun _=>⟨_,rfl,h.low,Blk.new _ _ _⟩,fun e=>by obtain⟨g,h1,h2,h3⟩:=h.box e;exact⟨g,h1,h2,h3.alloc _⟩,fun e=>absurd ((h.sv e).2.2.1) (by rw[hd];decide),by rw[qar];exact Nat.le_succ_of_le h.low⟩
theorem NewI.a4(h:NewI B w d1 d2 d3 d4 d5 v1 v2 v3 v4 v5)(d:Bool):NewI B (w.alloc (.cells #[.int .u64 0,.int .u32 0,.int .i64 0,.slice none 0 0,.slice none 0 0,.slice none 0 0] 49)) d1 d2 d3 d d5 v1 v2 v3 (.pointer (some ⟨w.heap.size,0,none⟩)) v5:=
 ⟨fun e=>by obtain⟨g,h1,h2,h3⟩:=h.tens e;exact⟨g,h1,h2,h3.alloc _⟩,fun e=>by obtain⟨g,h1,h2,h3⟩:=h.tres e;exact⟨g,h1,h2,h3.alloc _⟩,fun e=>by obtain⟨g,h1,h2,h3⟩:=h.gras e;exact⟨g,h1,h2,h3.alloc _⟩,fun _=>⟨_,rfl,h.low,Blk.new _ _ _⟩,h.sv,by rw[qar];exact Nat.le_succ_of_le h.low⟩
theorem NewI.a5(h:NewI B w d1 d2 d3 d4 d5 v1 v2 v3 v4 v5)(h1:d1=true)(h2:d2=true)(h3:d3=true)(d:Bool):NewI B w d1 d2 d3 d4 d v1 v2 v3 v4 (.agg #[.int .u64 0,.int .u32 0,.int .i64 0,v1,v2,v3]):=
 ⟨h.tens,h.tres,h.gras,h.box,fun _=>⟨h1,h2,h3,rfl⟩,h.low⟩
end
theorem xbm(c:Cfg)(As:Option Addr)(ns cs:Nat)(w:World)(hc:c.Ok)(hr:Reads w w.heap.size 1 As ns (byv c.seed))(hT:Tabs w):
 Zc 46 #[.agg #[.int .i64 c.width,.int .i64 c.quantum,.int .u32 (c.store:Int),.slice As ns cs]] w fun e w'=>∃col L css,e=.returned (.tuple #[.agg (stav (newS c) L).toArray,.int .i64 0])∧StAt 92 74 66 w' col 2 L css (newS c)∧(∀b,col b≠0→w.heap.size≤b∧b<w'.heap.size)∧Below w.heap.size w w':=by
 obtain⟨W0,hW0⟩:=eqx ((w.alloc (.cells #[.int .i64 c.width,.int .i64 c.quantum,.int .u32 (c.store:Int),.slice As ns cs] 25)).alloc (.cells #[.int .u64 0,.int .u32 0,.int .i64 0,.slice none 0 0,.slice none 0 0,.slice none 0 0] 49));have k0:=zNb hW0;have z0:=zNc hW0;have b0:=zMb hW0;have hn:=qb5 hr;have hs64:=hc.seed;have q1:¬c.width<1:=by have:=hc.w1;omega
 have q2:¬(32:Int)<c.width:=by have:=hc.w2;omega
 have q3:¬c.quantum<1:=by have:=hc.q1;omega
 have q4:¬(2:Int)<c.quantum:=by have:=hc.q2;omega
 have q5:¬(32768:Int)<(c.store:Int):=by have:=hc.store;omega
 have q6:¬(64:Int)<(ns:Int):=zo;obtain⟨AE,K0,Z0,B0,HC,HR,HT,A3⟩:=zh8 hW0 k0 z0 b0 hc hr hT (show W0.heap.size=w.heap.size+1+1 by rw[hW0,qar,qar]);clear hW0 k0 z0 b0 hc hr hT hn hs64;go_enter Tryz.func46,Tryz.ntmps46
 go_upto_region 3 with(fail)
 rw[←AE.o];clear q1 q2 q3 q4 q5 q6;obtain⟨S,HS⟩:=zS fun w'=>Below W0.heap.size W0 w'
 refine qpg S 6 [37,38,40,41,4] [(2,false)] 5 [(0,[]),(1,[]),(3,[]),(4,[0,1,3]),(5,[])] [(6,true)] #[false,false,true,false,false,false,false] #[true,true,true,true,true,true,false] zk rfl zk zk zk zk zk zk (fun _ _ d _ _ h=>by cases d<;>exact h) ((HS.o _).mpr (tA5 _ W0).drew) ?_;refine qkb rfl rfl ⟨?_,fun w1 hS=>?_,?_⟩;rotate_left
 · go_simp
   try rfl
 refine zP ?_;refine qka ?_;have keepS:∀w' o,S w'→W0.heap.size≤w'.heap.size→S (w'.alloc o):=fun w' o h hl=>by
  rw[HS.o]at h ⊢;exact h.alloc hl _
 refine⟨fun Dn vs w'=>∃v1 v2 v3 v5 v4,vs=[v1,v2,v3,v5,v4]∧NewI W0.heap.size w' (Dn 0) (Dn 1) (Dn 3) (Dn 5) (Dn 4) v1 v2 v3 v4 v5,⟨[_,_,_,_,_],rfl,_,_,_,_,_,rfl,?_⟩,⟨?_,?_,?_,?_,?_,trivial⟩,?_⟩
 · exact⟨fun h=>(nomatch h),fun h=>(nomatch h),fun h=>(nomatch h),fun h=>(nomatch h),fun h=>(nomatch h),tA4 _⟩
 ·
  rintro Dn vs w' hS ⟨v1,v2,v3,v5,v4,rfl,hI⟩ hD hd;simp only[puts,Act.put,tA0,tA1,tA2];have hm:=xbb w';refine qpj fun K hK=>qk6 rfl rfl ?_
  go_simp;exact hK _ _ ⟨keepS _ _ hS hI.low,[_,_,_,_,_],rfl,_,_,_,_,_,rfl,by simpa using hI.a1 hD true⟩
 ·
  rintro Dn vs w' hS ⟨v1,v2,v3,v5,v4,rfl,hI⟩ hD hd;simp only[puts,Act.put,tA0,tA1,tA2];have hm:=xbc w';refine qpj fun K hK=>qk6 rfl rfl ?_
  go_simp;exact hK _ _ ⟨keepS _ _ hS hI.low,[_,_,_,_,_],rfl,_,_,_,_,_,rfl,by simpa using hI.a2 hD true⟩
 · rintro Dn vs w' hS ⟨v1,v2,v3,v5,v4,rfl,hI⟩ hD hd
   simp only[puts,Act.put,tA0,tA1,tA2];refine qpj fun K hK=>qk6 rfl rfl ?_
   go_simp;exact hK _ _ ⟨keepS _ _ hS hI.low,[_,_,_,_,_],rfl,_,_,_,_,_,rfl,by simpa using hI.a3 hD true⟩
 ·
  rintro Dn vs w' hS ⟨v1,v2,v3,v5,v4,rfl,hI⟩ hD hd;simp only[puts,Act.put,tA0,tA1,tA2];have d0:=hd 0 zm;have d1:=hd 1 zm;have d3:=hd 3 zm;obtain⟨g1,rfl,-⟩:=hI.tens d0;obtain⟨g2,rfl,-⟩:=hI.tres d1;obtain⟨g3,rfl,-⟩:=hI.gras d3;refine qpj fun K hK=>qk6 rfl rfl ?_
  go_simp;exact hK _ _ ⟨hS,[_,_,_,_,_],rfl,_,_,_,_,_,rfl,by simpa [d0,d1,d3] using hI.a5 d0 d1 d3 true⟩
 · rintro Dn vs w' hS ⟨v1,v2,v3,v5,v4,rfl,hI⟩ hD hd
   simp only[puts,Act.put,tA0,tA1,tA2];refine qpj fun K hK=>qk6 rfl rfl ?_
   go_simp;exact hK _ _ ⟨keepS _ _ hS hI.low,[_,_,_,_,_],rfl,_,_,_,_,_,rfl,by simpa using hI.a4 true⟩
 rintro vs w5 hS5 ⟨v1,v2,v3,v5,v4,rfl,hI⟩;simp only[puts,Act.put,tA0,tA1,tA2];obtain⟨tg,rfl,lt,bt⟩:=hI.tens rfl;obtain⟨rg,rfl,lr,br⟩:=hI.tres rfl;obtain⟨gg,rfl,lg,bg⟩:=hI.gras rfl;obtain⟨sg,rfl,ls,bs⟩:=hI.box rfl;obtain⟨-,-,-,rfl⟩:=hI.sv rfl;rw[HS.o]at hS5;have b5:=hS5;clear hI keepS hS5 HS;obtain⟨SV,hSV⟩:∃SV:List Value,[.int .u64 0,.int .u32 0,.int .i64 0,.slice (some ⟨tg,0,none⟩) 16 16,.slice (some ⟨rg,0,none⟩) 16 16,.slice (some ⟨gg,0,none⟩) 1 1]=SV:=⟨_,rfl⟩;refine qbj rfl rfl ?_;refine wp_store_row 49 (.tmp 4) (.tmp 41) rfl sg #[.int .u64 0,.int .u32 0,.int .i64 0,.slice (some ⟨tg,0,none⟩) 16 16,.slice (some ⟨rg,0,none⟩) 16 16,.slice (some ⟨gg,0,none⟩) 1 1] rfl rfl 49 _ bs zk zm (by simp[Value.oneCell']) ?_;refine⟨fun h=>absurd h zdc,?_⟩;obtain⟨W1,hW1⟩:=eqx (w5.setRow sg #[.int .u64 0,.int .u32 0,.int .i64 0,.slice (some ⟨tg,0,none⟩) 16 16,.slice (some ⟨rg,0,none⟩) 16 16,.slice (some ⟨gg,0,none⟩) 1 1]);rw[←hW1];obtain⟨S1,A4,A5,A6,B1,LT,LR,LG⟩:=zh8 (show Blk W1 sg 49 #[.int .u64 0,.int .u32 0,.int .i64 0,.slice (some ⟨tg,0,none⟩) 16 16,.slice (some ⟨rg,0,none⟩) 16 16,.slice (some ⟨gg,0,none⟩) 1 1] by rw[hW1];exact bs.setRow _) (show Blk W1 tg 92 zTen.toArray by rw[hW1];exact bt.setRow_far (bt.ne_ bs zdc) _) (show Blk W1 rg 74 zTre.toArray by rw[hW1];exact br.setRow_far (br.ne_ bs zdc) _) (show Blk W1 gg 66 #[.int .i64 0,.int .i64 4,.int .u64 18446744073709551615,.bool false] by rw[hW1];exact bg.setRow_far (bg.ne_ bs zdc) _) (show Below W0.heap.size W0 W1 by rw[hW1];exact below_setRow b5 ls _) lt lr lg;have LS:=zh1 ls;clear hW1 bt br bg bs b5 lt lr lg ls hSV;refine zP ?_;refine qbg ?_;go_wp2_with fail
 refine zcb (qqv 1048576 1048576 W1 zo zo) fun w2 b2=>?_
 go_upto_region 5 with(fail)
 obtain⟨W3,hW3⟩:=eqx (w2.alloc (.cells #[.int .u32 1048576,.int .u32 1048576,.int .u32 1048576] 90));obtain⟨bg,hbg⟩:=eqx w2.heap.size;try rw[←hW3]
 rw[←hbg];have b13:Below W1.heap.size W1 W3:=by rw[hW3];exact b2.alloc b2.size _
 have q3:Blk W3 bg 90 #[.int .u32 1048576,.int .u32 1048576,.int .u32 1048576]:=by rw[hW3,hbg];exact Blk.new _ _ _
 obtain⟨B3,S3,A0,A7,A8,Q3⟩:=zh6 (B1.trans (b13.mono B1.size)) (S1.below b13 S1.lt) (A4.below b13 A4.lt) (A5.below b13 A5.lt) (A6.below b13 A6.lt) q3;have s3:=S3.cell 3;have p0:=Q3.cell 0;have p1:=Q3.cell 1;have p2:=Q3.cell 2;have hth:=qel A0.o 0 6 zdc;clear hW3 hbg b13 q3 b2;go_upto_region 6 with(refine wpList_store_mid rfl 92 (.tmp 50) (.tmp 49) rfl tg 0 #[.bool true,.int .u32 1048576,.int .u32 1048576,.int .u32 1048576,.int .u32 32768,.int .u32 0] rfl rfl hth zk (by simp[Value.oneCell']) ?_)
 obtain⟨W4,hW4⟩:=eqx (W3.setCells tg 0 (tenv ten0));change Code.wp _ _ _ _ (W3.setCells tg 0 (tenv ten0));rw[←hW4];have g34:W3.grownBy W4 (some tg):=by rw[hW4];exact qnp tg _ 0 W3
 have t4:=qno (tenv ten0) 0 W3 zTen A0.o zdc;rw[←hW4]at t4;have A9:=zh1 t4;have NT:∀{x:Nat} {t:TypeId} {cs:Array Value},Blk W3 x t cs→92≠t→some x≠some tg:=fun hb hne e=>by injection e with e;exact A0.ne_ hb hne e.symm
 obtain⟨S4,A1,AA,B4⟩:=zh4 (S3.grown g34 (NT S3.o zdc)) (A7.grown g34 (NT A7.o zdc)) (A8.grown g34 (NT A8.o zdc)) (B3.grown g34 B3.size (fun k e=>by injection e with e;have:=LT.o;omega));have s4:=S4.cell 4;clear hW4 g34 t4 NT s3 p0 p1 p2 hth;obtain⟨DV,hDV⟩:=xeq (trev (tre0 Hd.zero) (.slice (some ⟨W4.heap.size,0,none⟩) 1 1) (.slice none 0 0) (.slice none 0 0));obtain⟨BT,LD,OD⟩:=zh3 (show Tryz.prog.built 74 [(0,.int .i64 1),(2,.int .i64 1),(4,.slice (some ⟨W4.heap.size,0,none⟩) 1 1)]=some DV.toArray by rw[←hDV];kernel_rfl) (show DV.length=75 by rw[←hDV];exact qo3 _ _ _ Hd.zero_Ok) (show ∀u∈DV,u.oneCell'=true by rw[←hDV];exact qrd _ _ _ _ rfl rfl rfl);obtain⟨HI,AF⟩:=zh2 (zI 74 LD.o) hDV;have hth:=qel (A1.alloc (.cells #[.int .u32 0] 22)) 0 75 (by rw[show zTre.length=1200 from by rw[show zTre=(List.replicate 16 z75).flatten from rfl,qnx (sz:=75) (fun c hc=>by rw[List.eq_of_mem_replicate hc];exact xba)];rfl];omega);rw[←LD.o]at hth;have AG:=zh1 hth;clear hDV hth;go_upto_region 7 with(first
  |(refine qbk rfl ⟨.agg DV.toArray,qgr 74 _ rfl _ _ BT.o (by simp[Act.eval]),?_⟩)
  |(refine wpList_store_mid rfl 74 (.tmp 55) (.tmp 54) rfl rg 0 DV.toArray rfl rfl (by rw[tB6];exact AG.o) (by rw[tB6];exact HI.o) (all_oneCell_toArray OD.o) ?_))
 simp only[Act.put];obtain⟨W5,hW5⟩:=eqx ((W4.alloc (.cells #[.int .u32 0] 22)).setCells rg 0 DV);rw[←hW5];have hgr:(W4.alloc (.cells #[.int .u32 0] 22)).grownBy W5 (some rg):=by rw[hW5];exact qnp rg _ 0 _
 obtain⟨dg,hdg⟩:=xeq W4.heap.size;have NR:∀{x:Nat} {t:TypeId} {cs:Array Value},Blk (W4.alloc (.cells #[.int .u32 0] 22)) x t cs→74≠t→some x≠some rg:=fun hb hne e=>by injection e with e;exact(A1.alloc _).ne_ hb hne e.symm
 have d5:Blk W5 dg 22 #[.int .u32 0]:=by rw[←hdg];exact(Blk.new W4 _ _).grown hgr (NR (Blk.new W4 _ _) zdc)
 have r5:Blk W5 rg 74 (cssH dg Hd.zero).flatten.toArray:=by
  have h:=qno DV 0 _ zTre (A1.alloc (.cells #[.int .u32 0] 22)) (by rw[LD.o,show zTre=(List.replicate 16 z75).flatten from rfl,qnx (sz:=75) (fun c hc=>by rw[List.eq_of_mem_replicate hc];exact xba),List.length_replicate];omega);rw[←hW5,←AF.o,hdg,xbi]at h;exact h
 have t5:Blk W5 tg 92 ((newH Hd.zero).tens.flatMap tenv).toArray:=by
  have h:=(A9.alloc (.cells #[.int .u32 0] 22)).grown hgr (NR (A9.alloc _) zdc);rw[xbh Hd.zero]at h;exact h
 have g5:=(AA.alloc (.cells #[.int .u32 0] 22)).grown hgr (NR (AA.alloc _) zdc);have s5:=(S4.alloc (.cells #[.int .u32 0] 22)).grown hgr (NR (S4.alloc _) zdc);have b5:Below W0.heap.size W0 W5:=(B4.alloc B4.size _).grown hgr (by have:=B4.size;rw[qar];omega) (fun k e=>by injection e with e;have:=LR.o;omega);have ldg:W0.heap.size≤dg:=by rw[←hdg];exact B4.size
 obtain⟨col0,st0,-⟩:=xbl Hd.zero_Ok t5 r5 g5 d5 LT.o LR.o LG.o ldg;obtain⟨hd,hhd⟩:=xeq (pubT c 0 0 (tre0 Hd.zero));have hdok:hd.Ok:=by rw[←hhd];exact qoo c 0 0 (tre0 Hd.zero) zdc zdc
 obtain⟨HV,hHV⟩:=xeq (hdv hd);have CP:∀w',Below W5.heap.size W5 w'→Zc 121 #[.agg #[.int .i64 c.width,.int .i64 c.quantum,.int .u32 (c.store:Int),.slice As ns cs],.agg #[.int .u64 0,.int .u32 0,.int .i64 0,.slice (some ⟨tg,0,none⟩) 16 16,.slice (some ⟨rg,0,none⟩) 16 16,.slice (some ⟨gg,0,none⟩) 1 1],.int .i64 0] w' fun e w''=>e=.returned (.tuple #[.agg HV.toArray,.int .i64 0])∧Below w'.heap.size w' w'':=fun w' hb=>by
  have h:=qq1 c (newH Hd.zero) ⟨tg,16,rg,16,gg,1,none,0,0⟩ col0 2 (cssH dg Hd.zero) 0 (tre0 Hd.zero) As ns cs w' HC.o xbe (HR.call (B0.trans ((b5.trans (hb.mono b5.size)).mono B0.size))) (st0.keep ((Turns.of_below (fun _=>false) hb).keeps rfl) ((Turns.of_below (fun _=>false) hb).keeps rfl) ((Turns.of_below (fun _=>false) hb).keeps rfl) (fun k _=>(Turns.of_below (fun _=>false) hb).keeps rfl)) rfl (by simp[tre0]) (HT.below (B0.trans ((b5.trans (hb.mono b5.size)).mono B0.size)) HT.size);rw[show (newH Hd.zero).clock=0 from rfl,hhd,hHV]at h;exact h
 obtain⟨AH,K5,Z5,D5,R5,T5,G5,S5⟩:=zh8 CP (K0.below b5 K0.lt) (Z0.below b5 Z0.lt) d5 r5 t5 g5 s5;obtain⟨B5,AI,AB,AC,AD,A2,AJ⟩:=zh7 b5 ldg hhd hdok hHV (show HV.length=68 by rw[←hHV];exact qo2 hdok) (show ∀u∈HV,u.oneCell'=true by rw[←hHV];exact qmr _);clear hW5 hgr NR d5 r5 t5 g5 s5 b5 ldg st0 CP hhd hdok hHV s4 hdg;obtain⟨S,HS9⟩:=zS fun w'=>Blk w' w.heap.size 25 #[.int .i64 c.width,.int .i64 c.quantum,.int .u32 (c.store:Int),.slice As ns cs]∧Blk w' sg 49 #[.int .u64 0,.int .u32 0,.int .i64 0,.slice (some ⟨tg,0,none⟩) 16 16,.slice (some ⟨rg,0,none⟩) 16 16,.slice (some ⟨gg,0,none⟩) 1 1]
 refine zrs S 11 (zq 0 4 ((4,true)::zq 5 5 [(10,true)])) ((HS9.o _).mpr (⟨K5.o,S5.o⟩)) ?_;obtain⟨F4,FK,FS⟩:=zh3 (fun(w':World)(h:S w')=>((((HS9.o w').mp h).2.cell 4).trans (show (#[.int .u64 0,.int .u32 0,.int .i64 0,.slice (some ⟨tg,0,none⟩) 16 16,.slice (some ⟨rg,0,none⟩) 16 16,.slice (some ⟨gg,0,none⟩) 1 1]:Array Value)[4]? =some (.slice (some ⟨rg,0,none⟩) 16 16) from rfl))) (fun(w':World)(h:S w')=>qap ((HS9.o w').mp h).1 0 [.int .i64 c.width,.int .i64 c.quantum,.int .u32 (c.store:Int),.slice As ns cs] zjq) (fun(w':World)(h:S w')=>qap ((HS9.o w').mp h).2 0 [.int .u64 0,.int .u32 0,.int .i64 0,.slice (some ⟨tg,0,none⟩) 16 16,.slice (some ⟨rg,0,none⟩) 16 16,.slice (some ⟨gg,0,none⟩) 1 1] zjq);iterate 2 (refine zre rfl rfl (fun w1 hS=>by have g4:=F4.o w1 hS;clear hS;go_simp;try rfl) ?_)
 refine qos rfl rfl 25 (.tmp 1) rfl w.heap.size 0 rfl [.int .i64 c.width,.int .i64 c.quantum,.int .u32 (c.store:Int),.slice As ns cs] _ FK.o Tryz.underlying25 rfl zk ?_;refine zP ?_;refine qos rfl rfl 49 (.tmp 4) rfl sg 0 rfl [.int .u64 0,.int .u32 0,.int .i64 0,.slice (some ⟨tg,0,none⟩) 16 16,.slice (some ⟨rg,0,none⟩) 16 16,.slice (some ⟨gg,0,none⟩) 1 1] _ FS.o Tryz.underlying49 rfl zk ?_;refine zP ?_;obtain⟨Wd,hWd,BD⟩:=zdr W5;rw[←hWd];clear hWd;refine qbj rfl rfl ?_;go_simp;refine zcb (AH.o Wd BD.o) fun w6 b6=>?_
 have B6:=zh1 (BD.trans (b6.mono BD.size));clear b6;refine⟨(HS9.o _).mpr ⟨K5.below B6.o K5.lt,S5.below B6.o S5.lt⟩,?_⟩;refine zP ?_;iterate 5 (refine zrb ?_)
 have r6:=R5.below B6.o R5.lt;have l75:=xbf dg Hd.zero_Ok;have hfl:(cssH dg Hd.zero).flatten.length=1200:=by rw[qnx l75];rfl
 have hth:=qel r6 7 HV.toArray.size (by rw[tB6,A2.o,hfl];decide);have r7:=qno HV 7 w6 _ r6 (by rw[A2.o,hfl];decide);rw[←AD.o,xbj dg AC.o]at r7;rw[AD.o]at r7;refine qbj rfl rfl ?_;refine wp_store_mid 55 (.tmp 65) (.tmp 62) rfl rg 7 HV.toArray rfl rfl hth (by rw[tB6,A2.o];kernel_rfl) (all_oneCell_toArray AJ.o) ?_;obtain⟨W7,hW7⟩:=eqx (w6.setCells rg 7 HV);change _∧qba _ _ _ _ _ _ _ (w6.setCells rg 7 HV);rw[←hW7]at r7 ⊢;have g67:w6.grownBy W7 (some rg):=by rw[hW7];exact qnp rg _ 7 w6
 have NR:∀{x:Nat} {t:TypeId} {cs:Array Value},Blk w6 x t cs→74≠t→some x≠some rg:=fun hb hne e=>by injection e with e;exact r6.ne_ hb hne e.symm
 have mv:∀{x:Nat} {t:TypeId} {cs:Array Value},Blk W5 x t cs→74≠t→Blk W7 x t cs:=fun hb hne=>(hb.below B6.o hb.lt).grown g67 (NR (hb.below B6.o hb.lt) hne)
 have k7:=mv K5.o zdc;have s7:=mv S5.o zdc;have z7:=mv Z5.o zdc;have t7:Blk W7 tg 92 ((newH hd).tens.flatMap tenv).toArray:=mv T5.o zdc;have g7:=mv G5.o zdc;have d7:=mv D5.o zdc;have b7:Below W0.heap.size W0 W7:=(B5.trans (B6.mono B5.size)).grown g67 (tB1 B5.size B6.size) (fun k e=>by injection e with e;have:=LR.o;omega);refine⟨fun _=>(HS9.o _).mpr ⟨k7,s7⟩,?_⟩;obtain⟨col,st,nw⟩:=xbl AC.o t7 r7 g7 d7 LT.o LR.o LG.o AI.o;obtain⟨ST,NW,B7,Z7,AK⟩:=zh5 st nw b7 z7 (qap s7 0 [.int .u64 0,.int .u32 0,.int .i64 0,.slice (some ⟨tg,0,none⟩) 16 16,.slice (some ⟨rg,0,none⟩) 16 16,.slice (some ⟨gg,0,none⟩) 1 1] zjq);clear hW7 g67 NR mv k7 s7 z7 t7 g7 d7 b7 st nw r6 r7 l75 hfl hth;refine zP ?_;refine qbg ?_;clear HS9 F4 FK FS;go_wp2_with (first
  |(refine qaq rfl 49 (.tmp 4) rfl sg 0 rfl [.int .u64 0,.int .u32 0,.int .i64 0,.slice (some ⟨tg,0,none⟩) 16 16,.slice (some ⟨rg,0,none⟩) 16 16,.slice (some ⟨gg,0,none⟩) 1 1] _ AK.o Tryz.underlying49 rfl zk ?_)
  |(refine wpList_store_row rfl 49 (.tmp 2) (.tmp 66) rfl (w.heap.size+1) #[.int .u64 0,.int .u32 0,.int .i64 0,.slice (some ⟨tg,0,none⟩) 16 16,.slice (some ⟨rg,0,none⟩) 16 16,.slice (some ⟨gg,0,none⟩) 1 1] rfl rfl 49 _ Z7.o zk zm (by simp[Value.oneCell']) ?_))
 have z9:=Z7.setRow #[.int .u64 0,.int .u32 0,.int .i64 0,.slice (some ⟨tg,0,none⟩) 16 16,.slice (some ⟨rg,0,none⟩) 16 16,.slice (some ⟨gg,0,none⟩) 1 1];have AL:=qap z9 0 [.int .u64 0,.int .u32 0,.int .i64 0,.slice (some ⟨tg,0,none⟩) 16 16,.slice (some ⟨rg,0,none⟩) 16 16,.slice (some ⟨gg,0,none⟩) 1 1] zjq;refine bodyPost_ret (qgv rfl rfl (run_loadVar_mid _ _ 0 _ [.int .u64 0,.int .u32 0,.int .i64 0,.slice (some ⟨tg,0,none⟩) 16 16,.slice (some ⟨rg,0,none⟩) 16 16,.slice (some ⟨gg,0,none⟩) 1 1] _ AL Tryz.underlying49 rfl zk)) rfl ⟨col,⟨tg,16,rg,16,gg,1,none,0,0⟩,cssH dg hd,?_,?_,?_,?_⟩
 · rw[xbd,AB.o]
   rfl
 ·
  rw[xbd,AB.o];have h9:Turns (· ==0) W7 col (W7.setRow (w.heap.size+1) #[.int .u64 0,.int .u32 0,.int .i64 0,.slice (some ⟨tg,0,none⟩) 16 16,.slice (some ⟨rg,0,none⟩) 16 16,.slice (some ⟨gg,0,none⟩) 1 1]) col:=Turns.of_grown (qam W7 (w.heap.size+1) _) (fun k e=>by
   injection e with e;by_cases h0:col k=0
   · rw[h0];rfl
   have:=(NW.o k h0).1;have:=A3.o;omega) (fun _ _=>rfl)
  exact ST.keep (h9.keeps rfl) (h9.keeps rfl) (h9.keeps rfl) (fun k hk=>h9.keeps (by simp;omega))
 · intro b hb
   have h1:=NW.o b hb;have h2:=A3.o;have h3:=(qam W7 (w.heap.size+1) #[.int .u64 0,.int .u32 0,.int .i64 0,.slice (some ⟨tg,0,none⟩) 16 16,.slice (some ⟨rg,0,none⟩) 16 16,.slice (some ⟨gg,0,none⟩) 1 1]).size;omega
 exact below_setRow (B0.trans (B7.mono B0.size)) zo _
theorem xbn(hst:StAt 92 74 66 w col 2 L css s)(nw:∀b,col b≠0→b<w.heap.size)(t0:Turns (· ==0) w col w1 col)(ho:OwnB w1 w.heap.size (.slice A n k) c.seed)
 (b2:Zb w1 w2)(hg:Blk w2 g 117 (mdlv c s {L with sa:=A,sn:=n,sc:=k}))(hg1:w1.heap.size≤g)(h3:3≤w.heap.size∧∀b,b<3→col b=0):
 Mdl w2 ((col.ext w.heap.size w1.heap.size (Value.ownBlock (.slice A n k)) 5 0).put g 1) 2 g c s {L with sa:=A,sn:=n,sc:=k} css:=by
 obtain⟨C1,hC1⟩:=eqx (col.ext w.heap.size w1.heap.size (Value.ownBlock (.slice A n k)) 5 0);have t1:Turns (· ==0) w col w1 C1:=t0.recolour fun b hb=>by rw[hC1];exact Col.ext_old hb
 have t2:Turns (· ==0) w1 C1 w2 (C1.put g 1):=(Turns.of_below _ b2).recolour fun b hb=>Col.put_old _ _ zo
 have t12:=t1.trans t2;have f1:∀b,C1 b≠0→b<w1.heap.size:=fun b hb=>by
  rw[hC1]at hb;exact(Col.ext_new (lo:=0) (fun b hb=>⟨Nat.zero_le _,nw b hb⟩) (Nat.zero_le _) t0.size hb).2
 have sd:TextC w1 C1 (.slice A n k) c.seed:=TextC.own ho fun b hb=>by
  have:=xb1 ho hb;rw[hC1];exact Col.ext_at this.1 this.2 hb
 rw[←hC1];refine⟨hg,Col.put_at _ _ _,⟨tB1 h3.1 t12.size,fun b hb=>(t12.same b zo).trans (h3.2 b hb)⟩,fun b hb=>?_,sd.keep (t2.keeps rfl),?_⟩
 · by_cases e:b=g
   · subst e;exact hg.lt
   rw[Col.put_ne _ _ e]at hb;exact tB0 (f1 b hb) b2.size
 have h:=hst.keep (t12.keeps rfl) (t12.keeps rfl) (t12.keeps rfl) (fun k hk=>t12.keeps (by simp;omega));exact⟨h.tens,h.tres,h.gras,h.trs⟩
theorem xbo(c:Cfg)(A:Option Addr)(n k:Nat)(w:World)(hc:c.Ok)(hr:Reads w w.heap.size 1 A n (byv c.seed))(hT:Tabs w):
 Zc 13 #[.agg #[.int .i64 c.width,.int .i64 c.quantum,.int .u32 (c.store:Int),.slice A n k]] w fun e w'=>∃g L css col,e=.returned (.tuple #[.pointer (some ⟨g,0,none⟩),.int .i64 0])∧Mdl w' col 2 g c (newS c) L css∧(∀b,b<w.heap.size→col b=0)∧Below w.heap.size w w':=by
 obtain⟨W0,hW0⟩:=eqx (w.alloc (.cells #[.int .i64 c.width,.int .i64 c.quantum,.int .u32 (c.store:Int),.slice A n k] 25));have k0:=zNa hW0;have b0:=zMa hW0;have CN:=xbm c A n k W0 hc (hr.call b0) (hT.below b0 hT.size);have hn:=qb5 hr;obtain⟨s,hs⟩:=xeq (newS c);rw[hs]at CN ⊢;obtain⟨A4,A5,K0,B0,HC,HR,HT,HN⟩:=zh8 CN hW0 k0 b0 hc hr hT hn;clear CN hW0 k0 b0 hc hr hT hn hs;go_enter Tryz.func13,Tryz.ntmps13
 go_upto_region 1 with(fail)
 rw[←A5.o];have k0:=K0.o;go_wp2_with (refine qaq rfl 25 (.tmp 1) rfl w.heap.size 0 rfl [.int .i64 c.width,.int .i64 c.quantum,.int .u32 (c.store:Int),.slice A n k] _ (qap K0.o 0 [.int .i64 c.width,.int .i64 c.quantum,.int .u32 (c.store:Int),.slice A n k] zjq) Tryz.underlying25 rfl zk ?_)
 refine A4.o.mono ?_;rintro e w1 ⟨col,L,css,rfl,st,nw,b1⟩;obtain⟨SV,hSV⟩:=xeq (stav s L);have lSV:SV.length=6:=by rw[←hSV];rfl
 have oSV:∀u∈SV,u.oneCell'=true:=by rw[←hSV];exact qwo s L
 rw[hSV];obtain⟨ST,NW,B1,A6,A7,A8,A2,SN⟩:=zh8 st nw b1 hSV lSV oSV (zI 49 lSV) (Blk.new w1 49 #[.int .u64 0,.int .u32 0,.int .i64 0,.slice none 0 0,.slice none 0 0,.slice none 0 0]);clear st nw b1 hSV lSV oSV k0;go_upto_region 2 with(refine zst SN.o A2.o (by simp[A7.o]) A8.o ?_)
 obtain⟨W2,hW2⟩:=eqx ((w1.alloc (.cells #[.int .u64 0,.int .u32 0,.int .i64 0,.slice none 0 0,.slice none 0 0,.slice none 0 0] 49)).setRow w1.heap.size SV.toArray);rw[←hW2];obtain⟨sg,hsg⟩:=eqx w1.heap.size;rw[←hsg];have b12:Below w1.heap.size w1 W2:=by rw[hW2];exact below_setRow ((tA5 _ _).alloc (tA4 _) _) (tA4 _) _
 obtain⟨S2,A0⟩:=zh2 (show Blk W2 sg 49 SV.toArray by rw[hW2,hsg];exact(Blk.new _ _ _).setRow _) (show Below W0.heap.size W0 W2 from B1.trans (b12.mono B1.size));obtain⟨K2,A1,A9⟩:=zh3 (K0.below A0.o K0.lt) b12 (show W0.heap.size≤sg by rw[hsg];exact B1.size);clear hW2 hsg b12;have k3:=K2.cell 3;go_upto_region 4 with(fail)
 go_wp2_with fail
 refine(qs5 A n k (byv c.seed) W2 (HR.call (B0.trans (A0.mono B0.size))) (by have:=HN.o;have:=HC.seed;omega) (qau _)).mono ?_;rintro e w3 ⟨v3,rfl,o3,b3⟩;have o3':OwnB w3 W2.heap.size v3 c.seed:=by
  have e:=HN.o;subst e;exact o3
 obtain⟨A3,n3,c3,rfl,-,-,-⟩:=o3'.sl;have kk3:=K2.below b3 K2.lt;have k3':=kk3.cell 3;have f3:=kk3.frozen 3;obtain⟨O3,B3,K3,S3⟩:=zh4 o3' b3 kk3 (S2.below b3 S2.lt);clear o3 o3' b3 kk3 k3;go_upto_region 5 with(fail)
 obtain⟨W4,hW4⟩:=eqx (w3.setCell ⟨w.heap.size,3,none⟩ (.slice A3 n3 c3));rw[←hW4];have z0:∀b,b<W0.heap.size→col b=0:=fun b hb=>by
  by_cases e:col b=0
  · exact e
  have:=(NW.o b e).1;omega
 have k4:Blk W4 w.heap.size 25 #[.int .i64 c.width,.int .i64 c.quantum,.int .u32 (c.store:Int),.slice A3 n3 c3]:=by
  have h:=K3.set_ 3 (.slice A3 n3 c3);rw[←hW4]at h;exact h
 have s4:Blk W4 sg 49 SV.toArray:=by rw[hW4];exact S3.far (p:=⟨w.heap.size,3,none⟩) (by have:=A9.o;have:=K0.lt;show sg≠w.heap.size;omega) _
 have o4:OwnB W4 W2.heap.size (.slice A3 n3 c3) c.seed:=by rw[hW4];exact O3.far (p:=⟨w.heap.size,3,none⟩) (O3.blk_ne K3.o zdc) _
 have t4:Turns (· ==0) W2 col W4 col:=by rw[hW4];exact(Turns.of_below _ B3.o).trans (Turns.setCell _ (by rw[z0 _ K0.lt];rfl))
 have b4:Below w.heap.size w W4:=by rw[hW4];exact((B0.trans ((A0.trans (B3.mono A0.size)).mono B0.size))).setCell (p:=⟨w.heap.size,3,none⟩) (tA4 _) _
 have bt:Tryz.prog.built 117 [(0,.agg #[.int .i64 c.width,.int .i64 c.quantum,.int .u32 (c.store:Int),.slice A3 n3 c3]),(1,.agg SV.toArray)]=some (mdlv c s {L with sa:=A3,sn:=n3,sc:=c3}):=by rw[←A6.o];kernel_rfl
 obtain⟨ML,hML⟩:∃ML:List Value,ML.toArray=mdlv c s {L with sa:=A3,sn:=n3,sc:=c3}:=⟨_,Array.toArray_toList⟩;rw[←hML]at bt;have oML:∀u∈ML,u.oneCell'=true:=by
  intro u hu;have h:u∈(mdlv c s {L with sa:=A3,sn:=n3,sc:=c3}):=by rw[←hML];simpa using hu
  unfold mdlv at h;simp only[List.mem_toArray,List.mem_cons,List.not_mem_nil,or_false]at h;rcases h with rfl|rfl|rfl|rfl|rfl|rfl|rfl|rfl|rfl|rfl<;>rfl
 have lML:ML.length=10:=by rw[←tB6,hML];rfl
 obtain⟨BT,AA,RK,RS,O4,T4,B4,Z0⟩:=zh8 bt hML (qap k4 0 [.int .i64 c.width,.int .i64 c.quantum,.int .u32 (c.store:Int),.slice A3 n3 c3] zjq) (qap s4 0 SV zjq) o4 t4 b4 z0;obtain⟨AB,AC,AD⟩:=zh3 (show StAt 92 74 66 W2 col 2 L css s from ST.keep ((Turns.of_below (fun _=>false) A1.o).keeps rfl) ((Turns.of_below (fun _=>false) A1.o).keeps rfl) ((Turns.of_below (fun _=>false) A1.o).keeps rfl) (fun k _=>(Turns.of_below (fun _=>false) A1.o).keeps rfl)) oML lML;clear hW4 z0 k4 s4 o4 t4 b4 bt hML oML lML k3' f3;go_wp2_with (first
  |(refine qaq rfl 25 (.tmp 1) rfl w.heap.size 0 rfl [.int .i64 c.width,.int .i64 c.quantum,.int .u32 (c.store:Int),.slice A3 n3 c3] _ RK.o Tryz.underlying25 rfl zk ?_)
  |(refine zld RS.o zu49 A2.o ?_)
  |(refine qbk rfl ⟨.agg ML.toArray,qgr 117 _ rfl _ _ BT.o (by simp[Act.eval,Act.put]),?_⟩))
 go_ret2
 refine⟨W4.heap.size,_,css,_,rfl,xbn AB.o (fun b hb=>tB0 (NW.o b hb).2 A1.size) T4.o O4.o ((tA5 _ _).alloc (tA4 _) _) ?_ (tA4 _) ⟨?_,?_⟩,?_,?_⟩
 · rw[←AA.o]
   exact Blk.new _ _ _
 · have:=HT.size
   have:=B0.size;have:=A0.size;omega
 · intro b hb
   exact Z0.o b (by have:=HT.size;have:=B0.size;omega)
 ·
  intro b hb;have h1:=B0.size;have h2:=A0.size;have h3:=T4.size;rw[Col.put_old _ _ zo,Col.ext_old zo];exact Z0.o b zo
 exact B4.alloc B4.size _
theorem xbp(w:World)(b:Nat)(fr:Nat × Nat):Reads (w.alloc (.cells #[.int .u8 (b:Int)] 5 fr)) (w.alloc (.cells #[.int .u8 (b:Int)] 5 fr)).heap.size 1 (some ⟨w.heap.size,0,none⟩) 1 (byv [b]):=by
 refine⟨rfl,fun _=>⟨_,rfl,by simp,fun j u hu=>?_⟩⟩;rw[Addr.add_mid,Joins.cell_alloc_mark_at w _ _ _ _ _ rfl];simpa [byv] using hu
theorem xbq(w:World):
 Zc 67 #[] w fun e w'=>∃A c,e=.returned (.agg #[.int .i64 32,.int .i64 1,.int .u32 32768,.slice A 1 c])∧Reads w' w'.heap.size 1 A 1 (byv [115])∧(∀ad,A=some ad→w.heap.size≤ad.block)∧1≤c∧c≤maxLen∧Zb w w':=by
 have hcv:=fun(w:World)(C:Array Value)(n c:Nat)=>Lib.run_convert_bytes_const (P:=Tryz.prog) w 23 5 C n c Tryz.underlying23 Tryz.underlying5
 have h1:=hcv (w.alloc (.cells #[.int .i64 0,.int .i64 0,.int .u32 0,.slice none 0 0] 25)) #[.int .u8 115] 1 1;rw[qar]at h1;clear hcv;go_enter Tryz.func67,Tryz.ntmps67
 go_wp2_with fail
 have hb:Blk ((w.alloc (.cells #[.int .i64 32,.int .i64 1,.int .u32 32768,.slice (some ⟨w.heap.size+1,0,none⟩) 1 1] 25)).alloc (.cells #[.int .u8 115] 5 (1,2))) w.heap.size 25 #[.int .i64 32,.int .i64 1,.int .u32 32768,.slice (some ⟨w.heap.size+1,0,none⟩) 1 1]:=(Blk.new w _ _).alloc _;have HR:=qap hb 0 [.int .i64 32,.int .i64 1,.int .u32 32768,.slice (some ⟨w.heap.size+1,0,none⟩) 1 1] zjq;have hr:=xbp (w.alloc (.cells #[.int .i64 32,.int .i64 1,.int .u32 32768,.slice (some ⟨w.heap.size+1,0,none⟩) 1 1] 25)) 115 (1,2);rw[qar w]at hr;refine bodyPost_ret (qao rfl rfl (run_loadVar_mid _ _ 0 _ [.int .i64 32,.int .i64 1,.int .u32 32768,.slice (some ⟨w.heap.size+1,0,none⟩) 1 1] _ HR Tryz.underlying25 rfl zk)) rfl ⟨some ⟨w.heap.size+1,0,none⟩,1,rfl,hr,fun ad e=>?_,tA4 _,by simp[maxLen],((tA5 _ _).alloc (tA4 _) _).alloc zm _⟩;injection e with e;subst e;show w.heap.size≤w.heap.size+1;omega
theorem xbr(c:Cfg)(A:Option Addr)(n k:Nat)(w:World)(hr:Reads w w.heap.size 1 A n (byv c.seed)):
 Zc 14 #[.agg #[.int .i64 c.width,.int .i64 c.quantum,.int .u32 (c.store:Int),.slice A n k]] w fun e w'=>∃gw tb,e=.returned (.pointer (some ⟨gw,0,none⟩))∧WldAt w' gw tb c A n k∧w.heap.size≤gw∧w.heap.size≤tb∧Zb w w':=by
 have HR:=zh1 hr;clear hr;go_enter Tryz.func14,Tryz.ntmps14
 go_upto_region 1 with(fail)
 obtain⟨W1,hW1⟩:=eqx (w.alloc (.cells #[.int .i64 c.width,.int .i64 c.quantum,.int .u32 (c.store:Int),.slice A n k] 25));rw[←hW1];obtain⟨Z1,B1⟩:=zh2 (show Blk W1 w.heap.size 25 #[.int .i64 c.width,.int .i64 c.quantum,.int .u32 (c.store:Int),.slice A n k] by rw[hW1];exact Blk.new _ _ _) (show Zb w W1 by rw[hW1];exact qah (tA5 _ _) _);clear hW1;obtain⟨S,HS9⟩:=zS fun w'=>Zb W1 w'
 refine zrs S 5 [(1,false),(0,true),(2,false),(3,true),(4,false)] ((HS9.o _).mpr ((tA5 _ _).drew)) ?_;have A0:=zh1 (fun(w':World)(h:S w')=>qap (Z1.below ((HS9.o w').mp h) Z1.lt) 0 [.int .i64 c.width,.int .i64 c.quantum,.int .u32 (c.store:Int),.slice A n k] zjq);refine qos rfl rfl 25 (.tmp 1) rfl w.heap.size 0 rfl [.int .i64 c.width,.int .i64 c.quantum,.int .u32 (c.store:Int),.slice A n k] _ A0.o Tryz.underlying25 rfl zk ?_;refine zP ?_;obtain⟨W2,hW2,B2⟩:=zdr W1;rw[←hW2];clear hW2;refine zw ?_;go_simp;refine(qzp W2).mono ?_;rintro e w3 ⟨rfl,t3,b3⟩;obtain⟨B3,T3⟩:=zh2 (B2.trans (b3.mono B2.size)) t3;clear t3 b3;refine⟨(HS9.o _).mpr B3.o,zput ?_⟩;iterate 1 (refine zrb ?_)
 refine zw ?_;go_simp;obtain⟨W4,hW4⟩:=eqx (w3.alloc (.cells #[.pointer (some ⟨W2.heap.size,0,none⟩),.int .i64 c.width,.int .i64 c.quantum,.int .u32 (c.store:Int),.slice A n k] 63));rw[←hW4];have b4:=zMa hW4;obtain⟨Z4,T4,B4⟩:=zh3 (show Blk W4 w3.heap.size 63 #[.pointer (some ⟨W2.heap.size,0,none⟩),.int .i64 c.width,.int .i64 c.quantum,.int .u32 (c.store:Int),.slice A n k] by rw[hW4];exact Blk.new _ _ _) (show RTab W4 W2.heap.size from Blk.below T3.o b4 (Blk.lt T3.o)) (B3.trans (b4.mono B3.size));clear hW4 b4;refine⟨(HS9.o _).mpr B4.o,zput ?_⟩;iterate 1 (refine zrb ?_)
 refine qbg ?_;clear HS9 A0;have BW:=zh1 (B1.trans (B4.mono B1.size));have s1:=B1.size;have s2:=B2.size;have s3:=B3.size;go_wp2
 go_ret
 exact⟨w3.heap.size,W2.heap.size,rfl,⟨Z4.o,T4.o,HR.call BW.o⟩,by omega,by omega,BW.o⟩
theorem Sit.make(hs:s.Ok)(hm:Mdl w col 2 g c s L css)(hb:Zb w w')(hw:WldAt w' gw tb c A n k)(h1:w.heap.size≤gw)(h2:w.heap.size≤tb)(h3:0<n→∀ad,A=some ad→col ad.block=0)
 (hT:Tabs W)(hE:ErrT W)(low:∀b,b<W.heap.size→col b=0)(hW:Zb W w):Sit W w'.heap.size w' col g gw tb c s:=by
 have z:∀b,w.heap.size≤b→col b=0:=fun b hb=>by
  by_cases e:col b=0
  · exact e
  have:=hm.fin b e;omega
 have hW':=hW.trans (hb.mono hW.size);refine⟨hs,⟨L,css,hm.call hb⟩,⟨A,n,k,hw,fun hn ad e=>⟨h3 hn ad e,?_⟩⟩,⟨z gw h1,hw.blk.lt⟩,⟨z tb h2,Blk.lt hw.tab⟩,hT.below hW' hT.size,qai hE hW',low,⟨hT.size,hW'.size,tA4 _⟩,hW'⟩;obtain⟨ad',e',hlt,_⟩:=hw.seed.2 hn;rw[e]at e';injection e' with e';subst e';exact hlt
theorem xc4(hid:id<4294967296)(hg:R.Good):(byR c id R).Good:=
 {hg with tag:=qkf _ _,tagb:=qkg _ _,tid:=hid,cavn:=fun x hx=>(nomatch hx),cavk:=fun x hx=>(nomatch hx)}
def Req.goodB (R:Req):Bool:=
 decide (R.tag.length=32)&&R.tag.all (fun b=>decide (b<256))&&decide (R.tid<4294967296)&&R.cavs.isEmpty&&(Lit.int .i64 R.op).wf&&(Lit.int .i64 R.tree).wf&&(Lit.int .i64 R.tenant).wf&&(Lit.int .i64 R.role).wf&&(Lit.int .i64 R.state).wf&&(Lit.int .i64 R.weight).wf&&decide (R.id<4294967296)&&decide (R.lo<18446744073709551616)&&decide (R.hi<18446744073709551616)&&decide (R.rate<4294967296)&&decide (R.burst<4294967296)&&decide (R.store<4294967296)&&decide (R.expires<18446744073709551616)&&R.leaf.all (fun b=>decide (b<256))
theorem xc5(R:Req)(h:R.goodB=true):R.Good:=by
 simp only[Req.goodB,Bool.and_eq_true,decide_eq_true_eq,List.all_eq_true,List.isEmpty_iff]at h;obtain⟨⟨⟨⟨⟨⟨⟨⟨⟨⟨⟨⟨⟨⟨⟨⟨⟨h1,h2⟩,h3⟩,h4⟩,h5⟩,h6⟩,h7⟩,h8⟩,h9⟩,h10⟩,h11⟩,h12⟩,h13⟩,h14⟩,h15⟩,h16⟩,h17⟩,h18⟩:=h;exact⟨h1,h2,h3,(by rw[h4];intro x hx;cases hx),(by rw[h4];intro x hx;cases hx),h5,h6,h7,h8,h9,h10,h11,h12,h13,h14,h15,h16,h17,h18⟩
theorem xc6(W:World)(hT:Tabs W)(hE:ErrT W):Zc 27 #[] W fun e w'=>∃g gw tb B col,e=.returned (.tuple #[.pointer (some ⟨g,0,none⟩),.pointer (some ⟨gw,0,none⟩),.bool true])∧Sit W B w' col g gw tb KC K3:=by
 obtain⟨HT,HE⟩:=zh2 hT hE;clear hT hE;go_enter Tryz.func27,Tryz.ntmps27
 go_wp2_with fail
 refine(xbq W).mono ?_;rintro e w1 ⟨A1,c1,rfl,r1,l1,-,-,b1⟩;have B1:=zh1 b1;have CN:=xbo KC A1 1 c1 w1 KC_ok r1 (HT.below b1 HT.size);have AL:=zh1 CN;clear b1 r1 l1 CN;go_wp2_with fail
 refine AL.o.mono ?_;rintro e w2 ⟨g,L,css,col,rfl,m2,z2,b2⟩;obtain⟨M2,Z2,B2⟩:=zh3 m2 z2 b2;clear m2 z2 b2;go_wp2_with fail
 refine(xbq w2).mono ?_;rintro e w3 ⟨A3,c3,rfl,r3,l3,-,-,b3⟩;have CW:=xbr KC A3 1 c3 w3 r3;obtain⟨AM,B3,L3⟩:=zh3 CW b3 l3;clear CW r3 l3 b3;go_wp2_with fail
 refine AM.o.mono ?_;rintro e w4 ⟨gw,tb,rfl,wa4,lg,lt,b4⟩;have st4:Sit W w4.heap.size w4 col g gw tb KC (newS KC):=by
  have b24:=B3.trans (b4.mono B3.size);refine Sit.make quv M2.o b24 wa4 (tB1 B3.size lg) (tB1 B3.size lt) (fun _ ad e=>?_) HT.o HE.o (fun b hb=>Z2.o b (tB0 hb B1.size)) (B1.trans (B2.mono B1.size));by_cases e0:col ad.block=0
  · exact e0
  have h1:=M2.fin _ e0;have h2:=L3.o ad e;omega
 obtain⟨B,hB⟩:=xeq w4.heap.size;rw[hB]at st4;have S4:=zh1 st4;clear st4 wa4 lg lt b4 hB;go_upto_region 5 with(fail)
 obtain⟨Q5,hQ5⟩:=xeq (reqv qvs (.slice none 0 0) (.slice none 0 0));have AN:=zh1 (show Tryz.prog.built 34 [(0,.int .i64 12),(3,.int .i64 1),(10,.int .u32 9),(11,.int .u32 9),(12,.int .u32 999)]=some Q5.toArray by rw[←hQ5];kernel_rfl);have A0:=xaz S4.o KC_ok 0 0 rfl zdc qvs zdc (.slice none 0 0) (.slice none 0 0) rfl rfl;rw[hQ5]at A0;have A2:=zh1 A0;clear A0 hQ5;go_wp2_with (refine qbk rfl ⟨.agg Q5.toArray,qgr 34 _ rfl _ _ AN.o (by simp[Act.eval]),?_⟩)
 refine A2.o.mono ?_;rintro e w5 ⟨rfl,s5,b5⟩;have A4:=xb0 s5 KC_ok 0 qvs none 0 0 rfl qvx (xc4 zdc (by exact xc5 _ zdc)) ⟨rfl,fun h=>absurd h zdc⟩ (tA4 _) (by simp[maxLen]) (fun h=>absurd h zdc);obtain⟨P5,hP5⟩:=xeq (reqv (byR KC 0 qvs) (.slice none 0 0) (.slice none 0 0));rw[hP5]at A4 ⊢;obtain⟨A5,S5,AO⟩:=zh3 A4 s5 b5;clear A4 hP5 s5 b5;go_wp2_with fail
 refine A5.o.mono ?_;rintro e v5 ⟨X5,col5,rfl,hX5,t5,r5⟩;have pk5:=hX5.pk;obtain⟨AE,R5,AF,N5⟩:=zh4 hX5 r5 (xay t5 X5) (Blk.new v5 57 Tryz.zeroCells57);clear hX5 t5 r5;go_upto_region 6 with(refine qrb _ _ _ X5 N5.o pk5 ?_)
 obtain⟨W5,G5,hW5,hG5,U5,AP,AQ⟩:=AF.o;rw[hW5,hG5];clear hW5 hG5 AF N5 pk5;have B0:=zh1 (((Rest.of_below AO.o).trans R5.o).trans (Rest.of_below AQ.o));obtain⟨Q6,hQ6⟩:=xeq (reqv qvt (.slice none 0 0) (.slice none 0 0));have AR:=zh1 (show Tryz.prog.built 34 [(0,.int .i64 6),(2,.int .i64 1),(3,.int .i64 1),(6,.int .i64 1)]=some Q6.toArray by rw[←hQ6];kernel_rfl);have A6:=xaz U5.o KC_ok 0 0 rfl zdc qvt zdc (.slice none 0 0) (.slice none 0 0) rfl rfl;rw[hQ6]at A6;have A7:=zh1 A6;clear A6 hQ6;go_wp2_with (refine qbk rfl ⟨.agg Q6.toArray,qgr 34 _ rfl _ _ AR.o (by simp[Act.eval]),?_⟩)
 refine A7.o.mono ?_;rintro e w6 ⟨rfl,s6,b6⟩;have A8:=xb0 s6 KC_ok 0 qvt none 0 0 rfl qvy (xc4 zdc (by exact xc5 _ zdc)) ⟨rfl,fun h=>absurd h zdc⟩ (tA4 _) (by simp[maxLen]) (fun h=>absurd h zdc);obtain⟨P6,hP6⟩:=xeq (reqv (byR KC 0 qvt) (.slice none 0 0) (.slice none 0 0));rw[hP6]at A8 ⊢;obtain⟨A9,S6,AS⟩:=zh3 A8 s6 b6;clear A8 hP6 s6 b6;go_wp2_with fail
 refine A9.o.mono ?_;rintro e v6 ⟨X6,col6,rfl,hX6,t6,r6⟩;have pk6:=hX6.pk;obtain⟨AG,R6,AH,N6⟩:=zh4 hX6 r6 (xay t6 X6) (Blk.new v6 57 Tryz.zeroCells57);clear hX6 t6 r6;go_upto_region 7 with(refine qrb _ _ _ X6 N6.o pk6 ?_)
 obtain⟨W6,G6,hW6,hG6,U6,AT,AU⟩:=AH.o;rw[hW6,hG6];clear hW6 hG6 AH N6 pk6;have AV:=zh1 (((Rest.of_below AS.o).trans R6.o).trans (Rest.of_below AU.o));obtain⟨Q7,hQ7⟩:=xeq (reqv qvu (.slice none 0 0) (.slice none 0 0));have AW:=zh1 (show Tryz.prog.built 34 [(0,.int .i64 10),(3,.int .i64 1),(4,.int .i64 2),(13,.int .u64 99)]=some Q7.toArray by rw[←hQ7];kernel_rfl);have AA:=xaz U6.o KC_ok 0 0 rfl zdc qvu zdc (.slice none 0 0) (.slice none 0 0) rfl rfl;rw[hQ7]at AA;have AB:=zh1 AA;clear AA hQ7;go_wp2_with (refine qbk rfl ⟨.agg Q7.toArray,qgr 34 _ rfl _ _ AW.o (by simp[Act.eval]),?_⟩)
 refine AB.o.mono ?_;rintro e w7 ⟨rfl,s7,b7⟩;have AC:=xb0 s7 KC_ok 0 qvu none 0 0 rfl qvz (xc4 zdc (by exact xc5 _ zdc)) ⟨rfl,fun h=>absurd h zdc⟩ (tA4 _) (by simp[maxLen]) (fun h=>absurd h zdc);obtain⟨P7,hP7⟩:=xeq (reqv (byR KC 0 qvu) (.slice none 0 0) (.slice none 0 0));rw[hP7]at AC ⊢;obtain⟨AD,S7,AX⟩:=zh3 AC s7 b7;clear AC hP7 s7 b7;go_wp2_with fail
 refine AD.o.mono ?_;rintro e v7 ⟨X7,col7,rfl,hX7,t7,r7⟩;have pk7:=hX7.pk;obtain⟨AI,R7,AJ,N7⟩:=zh4 hX7 r7 (xay t7 X7) (Blk.new v7 57 Tryz.zeroCells57);clear hX7 t7 r7;go_upto_region 8 with(refine qrb _ _ _ X7 N7.o pk7 ?_)
 obtain⟨W7,G7,hW7,hG7,U7,AY,AZ⟩:=AJ.o;rw[hW7,hG7];clear hW7 hG7 AJ N7 pk7;have AK:=zh1 (((Rest.of_below AX.o).trans R7.o).trans (Rest.of_below AZ.o));have x5:=(AP.rest AV.o).rest AK.o;have x6:=AT.rest AK.o;have x7:=AY.o;have a0:=(x5.blk.cell 0).trans (show X5.toArray[0]? =some (.int .i64 0) by rw[tA3];exact AE.why);have a1:=(x5.blk.cell 1).trans (show X5.toArray[1]? =some (.int .u64 1) by rw[tA3];exact AE.n);have b0:=(x6.blk.cell 0).trans (show X6.toArray[0]? =some (.int .i64 0) by rw[tA3];exact AG.why);have b1:=(x6.blk.cell 1).trans (show X6.toArray[1]? =some (.int .u64 1) by rw[tA3];exact AG.n);have c0:=(x7.blk.cell 0).trans (show X7.toArray[0]? =some (.int .i64 0) by rw[tA3];exact AI.why);have c1:=(x7.blk.cell 1).trans (show X7.toArray[1]? =some (.int .u64 1) by rw[tA3];exact AI.n);clear x5 x6 x7;obtain⟨S,HS9⟩:=zS fun w'=>(w'.cell? ⟨G5,0,none⟩=some (.int .i64 0)∧w'.cell? ⟨G5,1,none⟩=some (.int .u64 1))∧(w'.cell? ⟨G6,0,none⟩=some (.int .i64 0)∧w'.cell? ⟨G6,1,none⟩=some (.int .u64 1))∧(w'.cell? ⟨G7,0,none⟩=some (.int .i64 0)∧w'.cell? ⟨G7,1,none⟩=some (.int .u64 1))
 refine xbz S [0,1,2,3,4,5,6,7,8,9,10,11,12,13,14,15,16,17,18,19,20,21,22,23,24,25,26,27,28,29,30,31,32] [(0,none),(1,none),(2,none),(3,some false),(4,none),(5,none),(6,none),(7,some false),(8,none),(9,none),(10,none),(11,none),(12,some false),(13,none),(14,none),(15,none),(16,none),(17,some false),(18,none),(19,none),(20,none),(21,none),(22,some false),(23,none),(24,none),(25,none),(26,none),(27,some false),(28,none),(29,none),(30,none),(31,none),(32,none)] zk rfl zk zk (fun _ _ d _ _ h=>by cases d<;>exact h) ((HS9.o _).mpr (⟨⟨a0,a1⟩,⟨b0,b1⟩,⟨c0,c1⟩⟩)) ?_;have F0:=zh1 (fun(w':World)(h:S w')=>(HS9.o w').mp h);clear a0 a1 b0 b1 c0 c1;iterate 33 (first
  |(refine xc1 rfl rfl ⟨?_,fun w1=>?_,?_⟩;rotate_left;(focus(go_simp;try rfl));simp only[Act.put,tA0,tA1,tA2])
  |(refine xc2 rfl rfl ⟨?_,fun w1 hS=>?_,?_⟩;rotate_left;(focus(obtain⟨⟨a0,a1⟩,⟨b0,b1⟩,⟨c0,c1⟩⟩:=F0.o w1 hS;clear hS;go_simp;try rfl));simp only[Act.put,tA0,tA1,tA2]))
 refine xc0 ?_;clear HS9 F0;go_wp2_with fail
 go_ret3
 exact⟨g,gw,tb,B,col7,rfl,U7.drew⟩
theorem xc7(A:Option Addr)(n c:Nat)(ls:List (List Nat))(w:World)(hr:TextsR w A n ls)(hn:n≤1024)(hl:∀b∈ls,b.length≤400):
 Zc 87 #[.slice A n c] w fun e w'=>∃v,e=.returned v∧OwnTexts w' w.heap.size v ls∧Zb w w':=by
 obtain⟨hln,vs,hrd,htx⟩:=hr;have hvl:vs.length=n:=by have:=hrd.1;omega
 have hone:∀u∈vs,u.oneCell'=true:=by
  intro u hu;obtain⟨i,hi,rfl⟩:=List.getElem_of_mem hu;obtain⟨A',n',c',h,_⟩:=htx i (ls[i]'zo) (tA7 zo);rw[tA7 hi]at h;injection h with h;rw[h];rfl
 obtain⟨A4,A6,A7,AB,A5,HL,HN⟩:=zh7 hln hrd htx hvl hone hl hn;clear hln hrd htx hvl hone hl hn;go_enter Tryz.func87,Tryz.ntmps87
 go_wp2_with fail
 refine(qs7 A n c vs w A6.o (by have:=HN.o;omega) A5.o).mono ?_;rintro e w1 ⟨v1,rfl,o1,b1⟩;obtain⟨A1,c1,rfl,hc1,hm1,-⟩:=qaf o1;have T1:=zh1 (show CpT w w1 w.heap.size (.slice A1 n c1) n vs vs ls 0 from⟨o1,fun i b hi _=>absurd hi zo,fun _ _=>rfl,b1.size,b1⟩);clear o1 b1;go_wp2_with fail
 go_loopw [9] (fun i wr=>∃j:Nat,j≤n∧i=.int .i64 j∧Hid (∃vsj,CpT w wr w.heap.size (.slice A1 n c1) n vs vsj ls j)) (fun i _=>n - (intOf i).toNat)
 case atStart=>exact⟨0,by omega,rfl,zh1 ⟨vs,T1.o⟩⟩
 case round=>
  obtain⟨j,hj,rfl,hlp⟩:=hrel;have hn24:=HN.o;by_cases hjn:j<n
  ·
   have qj:(j:Int)<n:=zo;have qj0:(0:Int)≤j:=zo;obtain⟨vsj,tj⟩:=hlp.o;have hvj:vsj.length=n:=by have:=tj.row.1;omega
   obtain⟨bs,hbs⟩:∃bs,ls[j]? =some bs:=⟨_,tA7 (by have:=A4.o;omega)⟩;obtain⟨A2,n2,c2,hv2,hnc2,hcm2,hrd2⟩:=A7.o j bs hbs;have hvj2:=(tj.rest j (tA4 _)).trans hv2;have hlb:=HL.o bs (tB2 hbs);have hn2:=qb5 hrd2;obtain⟨g,cap,cur,e0,hg,hh,-,-,-,ht⟩:∃g cap cur,(Value.slice A1 n c1)=.slice (some ⟨g,0,none⟩) n cap∧w.heap.size≤g∧wr.heap[g]? =some (.cells cur 23 (0,0))∧n≤cap∧cap≤maxLen∧cur.size=cap*1∧cur.toList.take (n*1)=vsj:=by
    rcases tj.row.2 with⟨_,h0⟩|h
    · omega
    exact h
   injection e0 with e1 e2 e3;subst e1 e3;have blk:Blk wr g 23 cur:=hh;have cj:wr.cell? ⟨g,j,none⟩=some (.slice A2 n2 c2):=by
    rw[blk.cell];rw[←ht,List.getElem?_take_of_lt zo]at hvj2;simpa using hvj2
   obtain⟨TJ,A8,A0,A9,BK,HG,AA⟩:=zh7 tj hbs (hrd2.call tj.below) (show n2≤400 by omega) blk hg hvj;clear tj hbs hrd2 hn2 blk hg hvj hlb hv2 hnc2 hcm2 hvj2 hh ht hlp;go_wp2_with fail
   refine(qs5 A2 n2 c2 (byv bs) wr A0.o (by have:=A9.o;omega) (qau _)).mono ?_;rintro e w2 ⟨v2,rfl,o2,b2⟩;have o2':OwnB w2 wr.heap.size v2 bs:=by
    have e:n2=bs.length:=by have:=qb5 A0.o;omega
    rw[e]at o2;exact o2
   obtain⟨A3,n3,c3,rfl,-,-,-⟩:=o2'.sl;have bk2:=BK.below b2 BK.lt;have cj2:=qai cj b2;have f2:=bk2.frozen j;obtain⟨O2,B2⟩:=zh2 o2' b2;clear o2 o2' b2 bk2 cj;go_wp2
   go_roundw
   case rel=>exact⟨j+1,by omega,by go_num,zh1 ⟨_,TJ.step A8.o hjn AA.o B2.o O2.o HG.o⟩⟩
   case measure=>simp[intOf];omega
  have qj:¬(j:Int)<n:=zo;obtain rfl:j=n:=zo;go_wp2_with fail
  obtain⟨vsj,tj⟩:=hlp.o;go_ret
  exact⟨_,rfl,⟨vsj,by rw[A4.o];exact tj.row,fun i b hb=>tj.done_ i b (by obtain⟨hi,_⟩:=tA8 hb;have:=A4.o;omega) hb⟩,tj.below⟩
theorem xc8(s:Sta)(L:Loc)(col:Col)(k:Nat)(css:List (List Value))(w:World)(hs:s.Ok)(hst:StAt 92 74 66 w col k L css s):
 Zc 32 #[.agg (stav s L).toArray] w fun e w'=>∃col' L' css',e=.returned (.agg (stav s L').toArray)∧StAt 92 74 66 w' col' 2 L' css' s∧(∀b,col' b≠0→w.heap.size≤b∧b<w'.heap.size)∧Zb w w':=by
 obtain⟨W0,hW0⟩:=eqx ((w.alloc (.cells (stav s L).toArray 49)).alloc (.cells #[.int .u64 0,.int .u32 0,.int .i64 0,.slice none 0 0,.slice none 0 0,.slice none 0 0] 49));have a0:=zNb hW0;have z0:=zNc hW0;have b0:=zMb hW0;have sg:0<s.gras.length:=by obtain⟨h,_⟩:=tA8 hs.owner;exact h
 obtain⟨SV,hSV⟩:=xeq (stav s L);rw[hSV]at a0 hW0 ⊢;obtain⟨S3,S4,S5,A8,HS,A0,Z0,B0⟩:=zh8 (show SV.toArray[3]? =some (.slice (some ⟨L.tg,0,none⟩) 16 L.tc) by rw[←hSV];rfl) (show SV.toArray[4]? =some (.slice (some ⟨L.rg,0,none⟩) 16 L.rc) by rw[←hSV];rfl) (show SV.toArray[5]? =some (.slice (some ⟨L.gg,0,none⟩) s.gras.length L.gc) by rw[←hSV];rfl) hst hs a0 z0 b0;obtain⟨SG,AL,AM,AV⟩:=zh4 sg hSV hW0 (show W0.heap.size=w.heap.size+1+1 by rw[hW0,qar,qar]);clear hst hs a0 z0 b0 sg hSV hW0;go_enter Tryz.func32,Tryz.ntmps32
 go_upto_region 2 with(fail)
 rw[←AM.o];obtain⟨S,HS9⟩:=zS fun w'=>Blk w' w.heap.size 49 SV.toArray
 refine xbz S [0,1,2,3,4,5,6,7,8,9,11,13] [(0,none),(1,some false),(3,none),(4,some false),(6,none),(7,some false),(2,some true),(9,none),(5,some true),(8,some true),(10,some true),(11,none),(12,some true),(13,none),(14,some true)] zk rfl zk zk (fun _ _ d _ _ h=>by cases d<;>exact h) ((HS9.o _).mpr (A0.o)) ?_;obtain⟨F3,F4,F5⟩:=zh3 (fun(w':World)(h:S w')=>(((HS9.o w').mp h).cell 3).trans S3.o) (fun(w':World)(h:S w')=>(((HS9.o w').mp h).cell 4).trans S4.o) (fun(w':World)(h:S w')=>(((HS9.o w').mp h).cell 5).trans S5.o);iterate 6 (first
  |(refine xc1 rfl rfl ⟨?_,fun w1=>?_,?_⟩;rotate_left;(focus(go_simp;try rfl));simp only[Act.put,tA0,tA1,tA2])
  |(refine xc2 rfl rfl ⟨?_,fun w1 hS=>?_,?_⟩;rotate_left;(focus(have g3:=F3.o w1 hS;have g4:=F4.o w1 hS;have g5:=F5.o w1 hS;clear hS;go_simp;try rfl));simp only[Act.put,tA0,tA1,tA2]))
 obtain⟨Wd,hWd⟩:=eqx W0.drew;obtain⟨BD,AD,ZD⟩:=zh3 (show Zb w Wd by rw[hWd];exact B0.drew) (show Blk Wd w.heap.size 49 SV.toArray by rw[hWd];exact A0.o) (show Blk Wd (w.heap.size+1) 49 #[.int .u64 0,.int .u32 0,.int .i64 0,.slice none 0 0,.slice none 0 0,.slice none 0 0] by rw[hWd];exact Z0.o);rw[←hWd];clear hWd;have gl:=HS.grasn;refine xc3 rfl rfl ?_;go_simp;refine(qs8 (some ⟨L.tg,0,none⟩) 16 L.tc (s.tens.flatMap tenv) Wd (A8.tens.reads.call BD.o) zdc (qwm _)).mono ?_;rintro e wa ⟨va,rfl,oa,ba⟩;obtain⟨BA,OA⟩:=zh2 ba oa;clear oa ba;refine⟨(HS9.o _).mpr (AD.below BA.o AD.lt),?_⟩;refine zP ?_;iterate 1 (refine xc1 rfl rfl ⟨?_,fun w1=>?_,?_⟩;rotate_left;(focus(go_simp;try rfl));simp only[Act.put,tA0,tA1,tA2])
 refine xc3 rfl rfl ?_;go_simp;refine(qsa (some ⟨L.gg,0,none⟩) s.gras.length L.gc (s.gras.flatMap grav) wa (A8.gras.reads.call (BD.trans (BA.mono BD.size))) zo (qwn _)).mono ?_;rintro e wb ⟨vb,rfl,ob,bb⟩;obtain⟨BB,OB,AA⟩:=zh3 bb ob (BA.trans (bb.mono BA.size));clear ob bb;refine⟨(HS9.o _).mpr (AD.below AA.o AD.lt),?_⟩;refine zP ?_;refine xc3 rfl rfl ?_;go_simp;refine(qs9 (some ⟨L.rg,0,none⟩) 16 L.rc css.flatten wb (A8.tres.reads.call (BD.trans (AA.mono BD.size))) zdc (qwl A8.trs)).mono ?_;rintro e wc ⟨vc,rfl,oc,bc⟩;obtain⟨BC,OC,AB⟩:=zh3 bc oc (AA.trans (bc.mono AA.size));clear oc bc;refine⟨(HS9.o _).mpr (AD.below AB.o AD.lt),?_⟩;refine zP ?_;have c16:css.length=16:=A8.trs.1.trans HS.tresn;have c75:=A8.trs.lens (fun t ht=>(HS.tres t ht).hd);obtain⟨col2,L2,e1,e2,e3,C0⟩:=Cpy.start (w0:=w) (lo:=Wd.heap.size) HS.o c16 c75 (qrw (qrw OA.o BB.o) BC.o) (qdf OC.o AA.size) (qdf (qrw OB.o BC.o) BA.size) BD.size AB.size (BD.trans (AB.mono BD.size));subst e1 e2 e3;obtain⟨CC,AC,ZC⟩:=zh3 C0 (AD.below AB.o AD.lt) (ZD.below AB.o ZD.lt);clear C0 c16 c75 gl;have q3:=AC.frozen 3;have q4:=AC.frozen 4;have q5:=AC.frozen 5;have u3:=(AC.cell 3).trans S3.o;have u4:=(AC.cell 4).trans S4.o;have u5:=(AC.cell 5).trans S5.o;refine xc3 rfl rfl ?_;go_simp;refine zP ?_;iterate 1 (refine xc1 rfl rfl ⟨?_,fun w1=>?_,?_⟩;rotate_left;(focus(go_simp;try rfl));simp only[Act.put,tA0,tA1,tA2])
 refine xc3 rfl rfl ?_;go_simp;refine zP ?_;iterate 1 (refine xc1 rfl rfl ⟨?_,fun w1=>?_,?_⟩;rotate_left;(focus(go_simp;try rfl));simp only[Act.put,tA0,tA1,tA2])
 refine xc3 rfl rfl ?_;go_simp;refine zP ?_;refine xc0 ?_;obtain⟨W3,hW3⟩:=eqx (((wc.setCell ⟨w.heap.size,3,none⟩ (.slice (some ⟨L2.tg,0,none⟩) 16 L2.tc)).setCell ⟨w.heap.size,5,none⟩ (.slice (some ⟨L2.gg,0,none⟩) s.gras.length L2.gc)).setCell ⟨w.heap.size,4,none⟩ (.slice (some ⟨L2.rg,0,none⟩) 16 L2.rc));rw[←hW3];obtain⟨A2,hSV2⟩:=xeq (stav s L2);have a3:Blk W3 w.heap.size 49 A2.toArray:=by
  have h:=((AC.set_ 3 (.slice (some ⟨L2.tg,0,none⟩) 16 L2.tc)).set_ 5 (.slice (some ⟨L2.gg,0,none⟩) s.gras.length L2.gc)).set_ 4 (.slice (some ⟨L2.rg,0,none⟩) 16 L2.rc);rw[←hW3,←AL.o]at h;rw[←hSV2];exact h
 have g1:=qab (tB9 wc (some w.heap.size)) (p:=⟨w.heap.size,3,none⟩) (.inl rfl) (.slice (some ⟨L2.tg,0,none⟩) 16 L2.tc);have g2:=qab g1 (p:=⟨w.heap.size,5,none⟩) (.inl rfl) (.slice (some ⟨L2.gg,0,none⟩) s.gras.length L2.gc);have g3:=qab g2 (p:=⟨w.heap.size,4,none⟩) (.inl rfl) (.slice (some ⟨L2.rg,0,none⟩) 16 L2.rc);rw[←hW3]at g3;obtain⟨C3,Z3,A3,A9,AJ⟩:=zh5 (CC.box g3 (tA4 _) (by have:=AD.lt;omega)) (ZC.grown g3 (by intro e;injection e with e;omega)) a3 hSV2 (show A2.toArray[4]? =some (.slice (some ⟨L2.rg,0,none⟩) 16 L2.rc) by rw[←hSV2];rfl);obtain⟨lo,hlo⟩:=xeq Wd.heap.size;rw[hlo]at C3;have AE:=zh1 (show w.heap.size+1<lo by rw[←hlo];exact ZD.lt);have u4':=(a3.cell 4).trans AJ.o;clear hW3 a3 g1 g2 g3 hSV2 hlo q3 q4 q5 u3 u4 u5 HS9 F3 F4 F5;go_wp2_with fail
 clear u4';go_loopw [21] (fun i wr=>∃j:Nat,j≤16∧i=.int .i64 j∧Hid (∃col' cssj,Cpy w lo wr col' L2 css cssj j s)∧Hid (Blk wr w.heap.size 49 A2.toArray)∧Hid (Blk wr (w.heap.size+1) 49 #[.int .u64 0,.int .u32 0,.int .i64 0,.slice none 0 0,.slice none 0 0,.slice none 0 0])) (fun i _=>16 - (intOf i).toNat)
 case atStart=>exact⟨0,by omega,rfl,zh1 ⟨_,_,C3.o⟩,A3,Z3⟩
 case round=>
  obtain⟨j,hj,rfl,hc,ha,hz⟩:=hrel;by_cases hjn:j<16
  ·
   have qj:(j:Int)<16:=zo;have qj0:(0:Int)≤j:=zo;obtain⟨colj,cssj,cj⟩:=hc.o;obtain⟨t,ht⟩:∃t,s.tres[j]? =some t:=⟨_,tA7 (by rw[HS.tresn];exact hjn)⟩;obtain⟨-,Ad,cd,Al,cl,Aq,cq,hcs,-,hrd,hrl,hrq⟩:=A8.tree HS.o ht;have hto:=HS.tre ht;have hcj:=(cj.rest j (tA4 _)).trans hcs;have cell:∀i u,i<75→(trev t (.slice Ad t.draws.length cd) (.slice Al t.leaves.length cl) (.slice Aq t.queue.length cq))[i]? =some u→wr.cell? ⟨L2.rg,j*75+i,none⟩=some u:=fun i u hi hu=>cj.tres.cell ((qnw cj.lens hcj hi).trans hu)
   have x4:=cell 4 _ zo rfl;have x5:=cell 5 _ zo rfl;have x6:=cell 6 _ zo rfl;obtain⟨A',c',ev,hdc,hdm,hDR,-⟩:=hrd.sl;injection ev with ev1 _ ev3;subst ev1 ev3;obtain⟨A',c',ev,hlc,hlm,hLR⟩:=hrl.reads;injection ev with ev1 _ ev3;subst ev1 ev3;obtain⟨A',c',ev,hqc,hqm,hQR⟩:=hrq.reads;injection ev with ev1 _ ev3;subst ev1 ev3;obtain⟨nd,hnd⟩:=xeq t.draws.length;obtain⟨nl,hnl⟩:=xeq t.leaves.length;obtain⟨nq,hnq⟩:=xeq t.queue.length;have b1:=hto.draws;have b2:=hto.leaves;have b3:=hto.queue;rw[hnd]at x4 hDR b1;rw[hnl]at x5 hLR b2;rw[hnq]at x6 hQR b2 b3;have a4:=(ha.cell 4).trans AJ.o;obtain⟨A1,AN,AK,AO,AP,AW,AX,AQ⟩:=zh8 cj ht hto hcs hnd hnl hnq hDR;obtain⟨AR,AS,BN,X4,X5,X6⟩:=zh6 hLR hQR (show nd≤32∧nl≤1024∧nq≤64 by omega) x4 x5 x6;clear cj ht hto hcs hcj cell hnd hnl hnq hDR hLR hQR b1 b2 b3 hrd hrl hrq hdc hdm hlc hlm hqc hqm x4 x5 x6 hc;go_upto_region 7 with(fail)
   clear a4;obtain⟨S,HS9⟩:=zS fun w'=>w'.cell? ⟨L2.rg,j*75+4,none⟩=some (.slice Ad nd cd)∧w'.cell? ⟨L2.rg,j*75+5,none⟩=some (.slice Al nl cl)∧w'.cell? ⟨L2.rg,j*75+6,none⟩=some (.slice Aq nq cq)
   refine xbz S [0,1,2,3,4,5,6,7,8,9,10,11,12,13,14,15,16,17,18,19,20,21,23,24,26,27] [(0,none),(1,none),(2,none),(3,none),(4,none),(5,none),(6,some false),(8,none),(9,none),(10,none),(11,none),(12,some false),(14,none),(15,none),(16,none),(17,none),(18,some false),(7,some true),(13,some true),(19,some true),(20,none),(21,none),(22,some true),(23,none),(24,none),(25,some true),(26,none),(27,none),(28,some true)] zk rfl zk zk (fun _ _ d _ _ h=>by cases d<;>exact h) ((HS9.o _).mpr (⟨X4.o,X5.o,X6.o⟩)) ?_;have F4:=zh1 (fun(w':World)(h:S w')=>(HS9.o w').mp h);iterate 17 (first
    |(refine xc1 rfl rfl ⟨?_,fun w1=>?_,?_⟩;rotate_left;(focus(go_simp;try rfl));simp only[Act.put,tA0,tA1,tA2])
    |(refine xc2 rfl rfl ⟨?_,fun w1 hS=>?_,?_⟩;rotate_left;(focus(have g4:=(F4.o w1 hS).1;have g5:=(F4.o w1 hS).2.1;have g6:=(F4.o w1 hS).2.2;clear hS;go_simp;try rfl));simp only[Act.put,tA0,tA1,tA2]))
   obtain⟨Wr,hWr,BR⟩:=zdr wr;rw[←hWr];clear hWr;obtain⟨keepS,AF⟩:=zh2 (fun(w':World)(hb:Zb wr w')=>(HS9.o w').mpr ⟨qai X4.o hb,qai X5.o hb,qai X6.o hb⟩) (A1.below.trans (BR.mono A1.below.size));refine xc3 rfl rfl ?_;go_simp;refine(qs6 Ad nd cd (drwv t.draws) Wr (AQ.call AF.o) (by have:=BN.o;omega) (by intro u hu;obtain⟨n,-,rfl⟩:=List.mem_map.1 hu;rfl)).mono ?_;rintro e w4 ⟨v4,rfl,o4,b4⟩;obtain⟨A4,c4,rfl,-,-,-⟩:=qaf o4;obtain⟨O4,B4,AG,B4'⟩:=zh4 o4 (BR.trans (b4.mono BR.size)) (AF.trans (b4.mono AF.size)) b4;clear o4 b4;refine⟨keepS.o _ B4.o,?_⟩;refine zP ?_;refine xc3 rfl rfl ?_;go_simp;refine(xc7 Al nl cl t.leaves w4 (AR.call AG.o) (by have:=BN.o;omega) (fun b hb=>(AK.leafb b hb).1)).mono ?_;rintro e w5 ⟨v5,rfl,o5,b5⟩;obtain⟨A5,n5,c5,rfl⟩:∃A n c,v5=.slice A n c:=by obtain⟨_,h,_⟩:=o5;obtain⟨A,c,h,_⟩:=qaf h;exact⟨A,_,c,h⟩
   obtain⟨O5,B5,AH,B5'⟩:=zh4 o5 (B4.trans (b5.mono B4.size)) (AG.trans (b5.mono AG.size)) b5;clear o5 b5;refine⟨keepS.o _ B5.o,?_⟩;refine zP ?_;refine xc3 rfl rfl ?_;go_simp;refine(xc7 Aq nq cq t.queue w5 (AS.call AH.o) (by have:=BN.o;omega) (fun b hb=>(AK.queueb b hb).1)).mono ?_;rintro e w6 ⟨v6,rfl,o6,b6⟩;obtain⟨A6,n6,c6,rfl⟩:∃A n c,v6=.slice A n c:=by obtain⟨_,h,_⟩:=o6;obtain⟨A,c,h,_⟩:=qaf h;exact⟨A,_,c,h⟩
   obtain⟨O6,B6,AY,B6'⟩:=zh4 o6 (B5.trans (b6.mono B5.size)) (AH.trans (b6.mono AH.size)) b6;clear o6 b6;refine⟨keepS.o _ B6.o,?_⟩;refine zP ?_;have y4:=qai X4.o B6.o;have y5:=qai X5.o B6.o;have y6:=qai X6.o B6.o;have f4:=(A1.call B6.o).tres.frozen (j*75+4);have f5:=(A1.call B6.o).tres.frozen (j*75+5);have f6:=(A1.call B6.o).tres.frozen (j*75+6);iterate 2 (refine xc1 rfl rfl ⟨?_,fun w1=>?_,?_⟩;rotate_left;(focus(go_simp;try rfl));simp only[Act.put,tA0,tA1,tA2])
   refine xc3 rfl rfl ?_;go_simp;refine zP ?_;iterate 2 (refine xc1 rfl rfl ⟨?_,fun w1=>?_,?_⟩;rotate_left;(focus(go_simp;try rfl));simp only[Act.put,tA0,tA1,tA2])
   refine xc3 rfl rfl ?_;go_simp;refine zP ?_;iterate 2 (refine xc1 rfl rfl ⟨?_,fun w1=>?_,?_⟩;rotate_left;(focus(go_simp;try rfl));simp only[Act.put,tA0,tA1,tA2])
   refine xc3 rfl rfl ?_;go_simp;refine zP ?_;refine xc0 ?_;clear HS9 F4 keepS y4 y5 y6 f4 f5 f6;obtain⟨W7,hW7⟩:=eqx (((w6.setCell ⟨L2.rg,j*75+4,none⟩ (.slice A4 nd c4)).setCell ⟨L2.rg,j*75+5,none⟩ (.slice A5 n5 c5)).setCell ⟨L2.rg,j*75+6,none⟩ (.slice A6 n6 c6));rw[←hW7];have hW7':W7=w6.setCells L2.rg (j*75+4) [.slice A4 nd c4,.slice A5 n5 c5,.slice A6 n6 c6]:=by rw[hW7];rfl
   have cs7:∃col' cssj',Cpy w lo W7 col' L2 css cssj' (j+1) s:=by
    obtain⟨col',h⟩:=(A1.call BR.o).step AN.o HS.tresn AO.o (by rw[AP.o];exact O4.o) B4'.o O5.o B5'.o O6.o B6'.o;rw[←hW7']at h;exact⟨col',_,h⟩
   have g7:w6.grownBy W7 (some L2.rg):=by rw[hW7'];exact qnp _ _ _ _
   have lrg:lo≤L2.rg:=(A1.new _ (by rw[A1.tres.1];decide)).1;have a7:=(ha.below B6.o ha.lt).grown g7 (by intro e;injection e with e;have:=AE.o;omega);have z7:=(hz.below B6.o hz.lt).grown g7 (by intro e;injection e with e;have:=AE.o;omega);obtain⟨AT,A7,Z7⟩:=zh3 cs7 a7 z7;clear hW7 hW7' cs7 g7 lrg a7 z7;go_wp2
   go_roundw
   case rel=>exact⟨j+1,by omega,by go_num,AT,A7,Z7⟩
   case measure=>simp[intOf];omega
  have qj:¬(j:Int)<16:=zo;obtain rfl:j=16:=zo;obtain⟨colj,cssj,cj⟩:=hc.o;have A1:=zh1 cj;have l2:A2.length=6:=by rw[←A9.o];rfl
  have o2:∀u∈A2,u.oneCell'=true:=by rw[←A9.o];exact qwo s L2
  obtain⟨AI,L2',O2',RA⟩:=zh4 (zI 49 l2) l2 o2 (qap ha.o 0 A2 zjq);clear l2 o2 cj hc;go_wp2_with (first
   |(refine zld RA.o zu49 AI.o ?_)
   |(refine zst hz.o AI.o (by simp[L2'.o]) O2'.o ?_))
  have z9:=hz.setRow A2.toArray;have AU:=qap z9 0 A2 zjq;have g9:=qam wr (w.heap.size+1) A2.toArray;have c9:=A1.box g9 zo AE.o;refine zrt AU zu49 AI.o ⟨colj,L2,by rw[A9.o],⟨cssj,c9.stAt HS.tresn⟩,fun b hb=>?_,c9.below⟩;have h1:=c9.new b hb;have h2:=c9.low.1;omega
theorem xc9(c:Cfg)(s:Sta)(L:Loc)(col:Col)(g:Nat)(css:List (List Value))(w:World)(hs:s.Ok)(h:Mdl w col 2 g c s L css):
 Zc 16 #[.pointer (some ⟨g,0,none⟩)] w fun e w'=>∃col' L' css',e=.returned (.agg (stav s L').toArray)∧StAt 92 74 66 w' col' 2 L' css' s∧(∀b,col' b≠0→w.heap.size≤b∧b<w'.heap.size)∧Zb w w':=by
 obtain⟨W0,hW0⟩:=eqx (w.alloc (.cells #[.int .u64 0,.int .u32 0,.int .i64 0,.slice none 0 0,.slice none 0 0,.slice none 0 0] 49));have z0:=zNa hW0;have b0:=zMa hW0;have h0:=h.call b0;have CC:=xc8 s L col 2 css W0 hs h0.st;have rs:W0.rangeAt g 4 (stav s L):=h0.stRange;obtain⟨SV,hSV⟩:=xeq (stav s L);have lSV:SV.length=6:=by rw[←hSV];rfl
 rw[hSV]at CC rs;obtain⟨A4,A5,RS,Z0,B0,A6,A2⟩:=zh7 (zI 49 lSV) CC rs z0 b0 hW0 (show W0.heap.size=w.heap.size+1 by rw[hW0,qar]);clear CC rs hSV lSV z0 b0 hW0 h0 h hs;go_enter Tryz.func16,Tryz.ntmps16
 go_upto_region 1 with(fail)
 rw[←A6.o];go_wp2_with (refine zld RS.o zu49 A4.o ?_)
 refine A5.o.mono ?_;rintro e w1 ⟨col',L',css',rfl,st,nw,b1⟩;obtain⟨A0,hSV2⟩:=xeq (stav s L');have l2:A0.length=6:=by rw[←hSV2];rfl
 have o2:∀u∈A0,u.oneCell'=true:=by rw[←hSV2];exact qwo s L'
 rw[hSV2];obtain⟨A3,L2',O2',ST,NW,B1,A1,Z1⟩:=zh8 (zI 49 l2) l2 o2 st nw b1 hSV2 (Z0.below b1 Z0.lt);clear l2 o2 st nw b1 hSV2;go_wp2_with (refine zst Z1.o A3.o (by simp[L2'.o]) O2'.o ?_)
 have z9:=Z1.setRow A0.toArray;have A7:=qap z9 0 A0 zjq;have g9:=qam w1 w.heap.size A0.toArray;have h9:Turns (· ==0) w1 col' (w1.setRow w.heap.size A0.toArray) col':=Turns.of_grown g9 (fun k e=>by
  injection e with e;by_cases h0:col' k=0
  · rw[h0];rfl
  have:=(NW.o k h0).1;have:=A2.o;omega) (fun _ _=>rfl)
 refine zrt A7 zu49 A3.o ⟨col',L',css',by rw[A1.o],?_,fun b hb=>?_,?_⟩
 · exact ST.keep (h9.keeps rfl) (h9.keeps rfl) (h9.keeps rfl) (fun k hk=>h9.keeps (by simp;omega))
 · have h1:=NW.o b hb
   have h2:=A2.o;have h3:=g9.size;omega
 exact below_setRow (B0.trans (B1.mono B0.size)) (tA4 _) _
theorem xca(s:Sta)(L:Loc)(w:World):(Instr.field 49 (.agg (stav s L).toArray) 4).run Tryz.prog w=.ok (.slice (some ⟨L.rg,0,none⟩) 16 L.rc) w:=by kernel_rfl
theorem xcb(h:Sit W B w col g gw tb c s):
 Zc 16 #[.pointer (some ⟨g,0,none⟩)] w fun e w'=>∃col2 L' css',e=.returned (.agg (stav s L').toArray)∧StAt 92 74 66 w' col2 2 L' css' s∧(∀b,col2 b≠0→w.heap.size≤b∧b<w'.heap.size)∧Zb w w'∧Sit W B w' col g gw tb c s:=by
 obtain⟨L,css,h2⟩:=h.mdl;refine(xc9 c s L col g css w h.ok h2).mono ?_;rintro e w' ⟨col2,L',css',rfl,h3,h4,h5⟩;exact⟨col2,L',css',rfl,h3,h4,h5,h.call h5⟩
theorem xcc:doS KC K5 (byR KC 1 qvv)=(K6,(doS KC K5 (byR KC 1 qvv)).2):=Prod.ext qwb.1 rfl
theorem xcd(W:World)(hT:Tabs W)(hE:ErrT W):Zc 18 #[] W fun e w'=>e=.returned (.bool true)∧Zb W w':=by
 have CB:=xc6 W hT hE;have AI:=zh1 CB;clear hT hE CB;go_enter Tryz.func18,Tryz.ntmps18
 go_wp2_with fail
 refine AI.o.mono ?_;rintro e w0 ⟨g,gw,tb,B,col0,rfl,s0⟩;have S0:=zh1 s0;clear s0;go_upto_region 4 with(fail)
 have cv4:=Lib.run_convert_bytes_const (P:=Tryz.prog) w0 23 5 #[.int .u8 97] 1 1 Tryz.underlying23 Tryz.underlying5;obtain⟨Q4,hQ4⟩:=xeq (reqv kAdd (.slice none 0 0) (.slice (some ⟨w0.heap.size,0,none⟩) 1 1));have AJ:=zh1 (show Tryz.prog.built 34 [(0,.int .i64 1),(2,.int .i64 1),(14,.slice (some ⟨w0.heap.size,0,none⟩) 1 1)]=some Q4.toArray by rw[←hQ4];kernel_rfl);have sl4:=S0.alloc (.cells #[.int .u8 97] 5 (1,2));have A0:=xaz sl4 KC_ok 1 1 rfl zdc kAdd zdc (.slice none 0 0) (.slice (some ⟨w0.heap.size,0,none⟩) 1 1) rfl rfl;rw[hQ4]at A0;have rl4:Reads (w0.alloc (.cells #[.int .u8 97] 5 (1,2))) (w0.alloc (.cells #[.int .u8 97] 5 (1,2))).heap.size 1 (some ⟨w0.heap.size,0,none⟩) 1 (byv [97]):=xbp w0 97 (1,2);have z04:=S0.new0 (b:=w0.heap.size) (tA4 _);obtain⟨y4,hy4⟩:=eqx (w0.alloc (.cells #[.int .u8 97] 5 (1,2)));have by4:=(tA5 w0.heap.size w0).alloc (tA4 _) (.cells #[.int .u8 97] 5 (1,2));rw[←hy4]at A0 rl4 by4;obtain⟨A1,AK,AL,AC,AM⟩:=zh5 A0 rl4 hy4 by4 z04;clear A0 hQ4 sl4 rl4 hy4 by4 z04;go_wp2_with (refine qbk rfl ⟨.agg Q4.toArray,qgr 34 _ rfl _ _ AJ.o (by simp[Act.eval,Act.put]),?_⟩)
 rw[←AL.o];refine A1.o.mono ?_;rintro e w4 ⟨rfl,s4,b4⟩;have A2:=xb0 s4 KC_ok 1 kAdd (some ⟨w0.heap.size,0,none⟩) 1 1 rfl qw0 (xc4 zdc (by exact xc5 _ zdc)) (AK.call b4) (tA4 _) (by simp[maxLen]) (fun _ ad e=>by injection e with e;subst e;exact AM.o);obtain⟨P4,hP4⟩:=xeq (reqv (byR KC 1 kAdd) (.slice none 0 0) (.slice (some ⟨w0.heap.size,0,none⟩) 1 1));rw[hP4]at A2 ⊢;have AN:=zh1 (AC.trans (b4.mono AC.size));clear cv4;obtain⟨A3,S4⟩:=zh2 A2 s4;clear A2 hP4 s4 b4;go_wp2_with fail
 refine A3.o.mono ?_;rintro e v4 ⟨X4,col4,rfl,hX4,t4,r4⟩;have pk4:=hX4.pk;obtain⟨AD,R4,AE,N4⟩:=zh4 hX4 r4 (xay t4 X4) (Blk.new v4 57 Tryz.zeroCells57);clear hX4 t4 r4;go_upto_region 5 with(refine qrb _ _ _ X4 N4.o pk4 ?_)
 obtain⟨W4,G4,hW4,hG4,U4,AO,AP⟩:=AE.o;rw[hW4,hG4];clear hW4 hG4 AE N4 pk4;have B2:=zh1 (((Rest.of_below AN.o).trans R4.o).trans (Rest.of_below AP.o));go_wp2_with fail
 refine(xau U4.o KC_ok).mono ?_;rintro e w5 ⟨rfl,col5,s5,r5⟩;rw[show seqS KC K4=K5 from rfl]at s5;obtain⟨S5,AQ⟩:=zh2 s5 r5;clear s5 r5;go_upto_region 6 with(fail)
 obtain⟨Q6,hQ6⟩:=xeq (reqv qvv (.slice none 0 0) (.slice none 0 0));have AR:=zh1 (show Tryz.prog.built 34 [(0,.int .i64 2),(2,.int .i64 1)]=some Q6.toArray by rw[←hQ6];kernel_rfl);have A4:=xaz S5.o KC_ok 1 1 rfl zdc qvv zdc (.slice none 0 0) (.slice none 0 0) rfl rfl;rw[hQ6]at A4;have A5:=zh1 A4;clear A4 hQ6;go_wp2_with (refine qbk rfl ⟨.agg Q6.toArray,qgr 34 _ rfl _ _ AR.o (by simp[Act.eval]),?_⟩)
 refine A5.o.mono ?_;rintro e w6 ⟨rfl,s6,b6⟩;have A6:=xb0 s6 KC_ok 1 qvv none 0 0 rfl xcc (xc4 zdc (by exact xc5 _ zdc)) ⟨rfl,fun h=>absurd h zdc⟩ (tA4 _) (by simp[maxLen]) (fun h=>absurd h zdc);obtain⟨P6,hP6⟩:=xeq (reqv (byR KC 1 qvv) (.slice none 0 0) (.slice none 0 0));rw[hP6]at A6 ⊢;obtain⟨A7,S6,AS⟩:=zh3 A6 s6 b6;clear A6 hP6 s6 b6;go_wp2_with fail
 refine A7.o.mono ?_;rintro e v6 ⟨X6,col6,rfl,hX6,t6,r6⟩;have pk6:=hX6.pk;obtain⟨AT,R6,AF,N6⟩:=zh4 hX6 r6 (xay t6 X6) (Blk.new v6 57 Tryz.zeroCells57);clear hX6 t6 r6;go_upto_region 7 with(refine qrb _ _ _ X6 N6.o pk6 ?_)
 obtain⟨W6,G6,hW6,hG6,U6,AU,AV⟩:=AF.o;rw[hW6,hG6];clear hW6 hG6 AF N6 pk6;have AW:=zh1 (((Rest.of_below AS.o).trans R6.o).trans (Rest.of_below AV.o));obtain⟨Q7,hQ7⟩:=xeq (reqv qvw (.slice none 0 0) (.slice none 0 0));have AX:=zh1 (show Tryz.prog.built 34 [(0,.int .i64 6),(2,.int .i64 3),(3,.int .i64 1),(6,.int .i64 1)]=some Q7.toArray by rw[←hQ7];kernel_rfl);have A8:=xaz U6.o KC_ok 1 1 rfl zdc qvw zdc (.slice none 0 0) (.slice none 0 0) rfl rfl;rw[hQ7]at A8;have A9:=zh1 A8;clear A8 hQ7;go_wp2_with (refine qbk rfl ⟨.agg Q7.toArray,qgr 34 _ rfl _ _ AX.o (by simp[Act.eval]),?_⟩)
 refine A9.o.mono ?_;rintro e w7 ⟨rfl,s7,b7⟩;have AA:=xb0 s7 KC_ok 1 qvw none 0 0 rfl qwc (xc4 zdc (by exact xc5 _ zdc)) ⟨rfl,fun h=>absurd h zdc⟩ (tA4 _) (by simp[maxLen]) (fun h=>absurd h zdc);obtain⟨P7,hP7⟩:=xeq (reqv (byR KC 1 qvw) (.slice none 0 0) (.slice none 0 0));rw[hP7]at AA ⊢;obtain⟨AB,S7,AY⟩:=zh3 AA s7 b7;clear AA hP7 s7 b7;go_wp2_with fail
 refine AB.o.mono ?_;rintro e v7 ⟨X7,col7,rfl,hX7,t7,r7⟩;have pk7:=hX7.pk;obtain⟨AZ,R7,AG,N7⟩:=zh4 hX7 r7 (xay t7 X7) (Blk.new v7 57 Tryz.zeroCells57);clear hX7 t7 r7;go_upto_region 8 with(refine qrb _ _ _ X7 N7.o pk7 ?_)
 obtain⟨W7,G7,hW7,hG7,U7,B0,B1⟩:=AG.o;rw[hW7,hG7];clear hW7 hG7 AG N7 pk7;have AH:=zh1 (((Rest.of_below AY.o).trans R7.o).trans (Rest.of_below B1.o));have x4:=((AO.rest AQ.o).rest AW.o).rest AH.o;have x6:=AU.rest AH.o;have x7:=B0.o;have a0:=(x4.blk.cell 0).trans (show X4.toArray[0]? =some (.int .i64 0) by rw[tA3];exact AD.why);have a1:=(x4.blk.cell 1).trans (show X4.toArray[1]? =some (.int .u64 0) by rw[tA3];exact AD.n);have b6:=(x6.blk.cell 6).trans (show X6.toArray[6]? =some (.int .u64 1) by rw[tA3];exact AT.size.trans (by rw[qwb.2];rfl));have c0:=(x7.blk.cell 0).trans (show X7.toArray[0]? =some (.int .i64 21) by rw[tA3];exact AZ.why);clear x4 x6 x7;go_wp2_with fail
 refine(xcb U7.o).mono ?_;rintro e w8 ⟨col2,L',css',rfl,st,nw,b8,s8⟩;obtain⟨t,ht,hl⟩:=qwe;obtain⟨-,Ad,cd,Al,cl,Aq,cq,-,hcell,-⟩:=st.tree s8.ok ht;have c5:=hcell 5 _ rfl;rw[hl]at c5;have hf:=xca K6 L' w8;obtain⟨SV,hSV⟩:=xeq (stav K6 L');rw[hSV]at hf ⊢;have BW:=zh1 (s8.below);rw[show 0*75+5=5 from rfl]at c5;clear st nw s8 b8 hcell ht hl hSV a0 a1 b6 c0;go_wp2
 go_ret
 exact⟨rfl,BW.o⟩
theorem xce{c:Nat}(h:OwnB w base (.slice A n c) bs)(hk:k≤bs.length):OwnB w base (.slice A k c) (bs.take k):=by
 have hn:n=bs.length:=by
  rcases h.2 with⟨e,h0⟩|⟨g,cap,cur,e,_⟩
  · injection e with e1 e2;omega
  injection e with e1 e2
 unfold OwnB;rw[tBd,Nat.min_eq_left hk];refine⟨by rw[qat,tBd];omega,?_⟩;rcases h.2 with⟨e,h0⟩|⟨g,cap,cur,e,hb,hh,hnc,hc,hsz,ht⟩
 · injection e with e1 e2 e3
   subst e1 e3;exact .inl ⟨by rw[show k=0 by omega],by omega⟩
 injection e with e1 e2 e3;subst e1 e3;refine .inr ⟨g,c,cur,rfl,hb,hh,by omega,hc,hsz,?_⟩;rw[Nat.mul_one]at ht ⊢;have:(byv bs).take k=byv (bs.take k):=by simp[byv,List.map_take]
 rw[←this,←ht,List.take_take,Nat.min_eq_left hk]
theorem xcf(x y:Int)(st:Nat)(A:Option Addr)(n k:Nat)(bs:List Nat)(w:World)(hr:Reads w w.heap.size 1 A n (byv bs))(hx: -9223372036854775808≤x∧x≤9223372036854775807)(hy: -9223372036854775808≤y∧y≤9223372036854775807)(hst:st<4294967296)(hnk:n≤k)(hn:n≤140737488351232):
 Zc 12 #[.agg #[.int .i64 x,.int .i64 y,.int .u32 (st:Int),.slice A n k]] w fun e w'=>∃v,e=.returned (.agg #[.int .i64 (1+within (wrap64 (x - 1)) 0 31),.int .i64 (1+within (wrap64 (y - 1)) 0 1),.int .u32 ((st % 32769:Nat):Int),v])∧OwnB w' w.heap.size v (bs.take 64)∧Zb w w':=by
 have HR:=zh1 hr;have r0:((st:Int)).tmod 32769=((st % 32769:Nat):Int):=by rw[Int.tmod_eq_emod_of_nonneg zo];simp
 clear hr;go_enter Tryz.func12,Tryz.ntmps12
 go_upto_region 1 with(fail)
 obtain⟨W1,hW1⟩:=eqx ((w.alloc (.cells #[.int .i64 x,.int .i64 y,.int .u32 (st:Int),.slice A n k] 25)).alloc (.cells #[.int .i64 0,.int .i64 0,.int .u32 0,.slice none 0 0] 25));rw[←hW1];have z1:=zNb hW1;obtain⟨Z2,B1,Z1⟩:=zh3 (show Blk W1 (w.heap.size+1) 25 #[.int .i64 0,.int .i64 0,.int .u32 0,.slice none 0 0] by rw[hW1,←qar w (.cells #[.int .i64 x,.int .i64 y,.int .u32 (st:Int),.slice A n k] 25)];exact Blk.new _ _ _) (show Zb w W1 by rw[hW1];exact((tA5 _ _).alloc (tA4 _) _).alloc zm _) z1;clear hW1 z1;have wx: -9223372036854775808≤wrap64 (x - 1)∧wrap64 (x - 1)≤9223372036854775807:=by unfold wrap64;omega
 have wy: -9223372036854775808≤wrap64 (y - 1)∧wrap64 (y - 1)≤9223372036854775807:=by unfold wrap64;omega
 obtain⟨x',hx'⟩:=xeq (wrap64 (x - 1));obtain⟨y',hy'⟩:=xeq (wrap64 (y - 1));obtain⟨m,hm⟩:=xeq (st % 32769);rw[hx']at wx;rw[hy']at wy;rw[hm]at r0;obtain⟨HBa,HBb⟩:=zh2 (fun w'=>qlf x' 0 31 w' wx.1 wx.2 zo zo zo) (fun w'=>qlf y' 0 1 w' wy.1 wy.2 zo zo zo);obtain⟨a,ha⟩:=xeq (within x' 0 31);obtain⟨b,hb⟩:=xeq (within y' 0 1);have ba:=qlg x' 0 31 zo;have bb:=qlg y' 0 1 zo;rw[ha]at HBa ba;rw[hb]at HBb bb;have m0:m<32769:=zo;obtain⟨a0,a1⟩:=ba;obtain⟨b0,b1⟩:=bb;obtain⟨A9,AA,A1,AB,A0⟩:=zh5 hx' hy' hm ha hb;have ex:IntKind.i64.wrap (x - 1)=x':=by rw[←hx',IntKind.wrap_i64];unfold wrap64;rfl
 have ey:IntKind.i64.wrap (y - 1)=y':=by rw[←hy',IntKind.wrap_i64];unfold wrap64;rfl
 clear hm ha hb wx wy hx' hy';obtain⟨S,HS9⟩:=zS fun w'=>Zb W1 w'
 refine qk3 S 15 [7,8,12,13,17,3] [(0,false),(1,false),(2,false),(5,false),(6,false),(7,false),(10,false),(11,false),(12,false)] 6 (.two 3 (.read 4 (.two 8 (.read 9 (.read 13 (.one 14 .done))) 14 (.one 8 (.read 9 (.read 13 .done))))) 14 (.one 3 (.read 4 (.one 8 (.read 9 (.read 13 .done)))))) [(15,true)] #[true,true,true,false,false,true,true,true,false,false,true,true,true,false,false,false] #[true,true,true,true,true,true,true,true,true,true,true,true,true,true,true,false] zk rfl zk zk zk zk zk (fun _ _ d _ _ h=>by cases d<;>exact h) ((HS9.o _).mpr ((tA5 _ _).drew)) ?_;have F0:=zh1 (fun(w':World)(h:S w')=>Z1.below ((HS9.o w').mp h) Z1.lt);iterate 9 (refine qkb rfl rfl ⟨?_,fun w1 hS=>?_,?_⟩;rotate_left;(focus(have g0:=(F0.o w1 hS).cell 0;have g1:=(F0.o w1 hS).cell 1;have g2:=(F0.o w1 hS).cell 2;simp only[tA3,List.getElem?_cons_zero,tBc]at g0 g1 g2;clear hS;go_simp;try rfl));simp only[Act.put,tA0,tA1,tA2])
 refine qka ?_;obtain⟨Wd,hWd,BD⟩:=zdr W1;rw[←hWd];clear hWd;refine⟨fun vs w'=>∃g9,vs=[.int .i64 a,.int .i64 (1+a),.int .i64 b,.int .i64 (1+b),.agg #[.int .i64 (1+a),.int .i64 (1+b),.int .u32 (m:Int),.slice none 0 0],.pointer (some ⟨g9,0,none⟩)]∧Blk w' g9 25 #[.int .i64 0,.int .i64 0,.int .u32 0,.slice none 0 0]∧W1.heap.size≤g9∧Zb W1 w',?_,?_⟩
 ·
  obtain⟨w2,hw2⟩:=eqx (Wd.alloc (.cells #[.int .i64 0,.int .i64 0,.int .u32 0,.slice none 0 0] 25));obtain⟨Z3,B3,A4⟩:=zh3 (show Blk w2 Wd.heap.size 25 #[.int .i64 0,.int .i64 0,.int .u32 0,.slice none 0 0] by rw[hw2];exact Blk.new _ _ _) (show Zb W1 w2 by rw[hw2];exact BD.alloc BD.size _) hw2;clear hw2;refine qk9 rfl rfl rfl rfl ?_ ?_
  ·
   go_simp;refine(HBa.o Wd).mono ?_;rintro e w9 ⟨rfl,rfl⟩;refine⟨(HS9.o _).mpr BD.o,?_⟩;refine zP ?_;iterate 1 (refine ztr ?_)
   refine qk9 rfl rfl rfl rfl ?_ ?_
   ·
    go_simp;refine(HBb.o Wd).mono ?_;rintro e w9 ⟨rfl,rfl⟩;refine⟨(HS9.o _).mpr BD.o,?_⟩;refine zP ?_;iterate 2 (refine ztr ?_)
    refine qk7 rfl rfl ?_;go_simp;rw[←A4.o];refine⟨(HS9.o _).mpr B3.o,qk4 ⟨[_,_,_,_,_,_],rfl,Wd.heap.size,rfl,Z3.o,BD.size,B3.o⟩⟩
   go_simp;rw[←A4.o];refine⟨(HS9.o _).mpr B3.o,?_⟩;refine zP ?_;refine qk7 rfl rfl ?_;go_simp;refine(HBb.o w2).mono ?_;rintro e w9 ⟨rfl,rfl⟩;refine⟨(HS9.o _).mpr B3.o,?_⟩;refine zP ?_;iterate 2 (refine ztr ?_)
   exact qk4 ⟨[_,_,_,_,_,_],rfl,Wd.heap.size,rfl,Z3.o,BD.size,B3.o⟩
  go_simp;rw[←A4.o];refine⟨(HS9.o _).mpr B3.o,?_⟩;refine zP ?_;refine qk7 rfl rfl ?_;go_simp;refine(HBa.o w2).mono ?_;rintro e w9 ⟨rfl,rfl⟩;refine⟨(HS9.o _).mpr B3.o,?_⟩;refine zP ?_;iterate 1 (refine ztr ?_)
  refine qk7 rfl rfl ?_;go_simp;refine(HBb.o w2).mono ?_;rintro e w9 ⟨rfl,rfl⟩;refine⟨(HS9.o _).mpr B3.o,?_⟩;refine zP ?_;iterate 2 (refine ztr ?_)
  exact qk4 ⟨[_,_,_,_,_,_],rfl,Wd.heap.size,rfl,Z3.o,BD.size,B3.o⟩
 rintro vs w4 - ⟨g9,rfl,z4,l4,b4⟩;simp only[puts,Act.put,tA0,tA1,tA2];refine qbj rfl rfl ?_;refine wp_store_row 25 (.tmp 3) (.tmp 17) rfl g9 #[.int .i64 (1+a),.int .i64 (1+b),.int .u32 (m:Int),.slice none 0 0] rfl rfl 25 _ z4 zk zm (by simp[Value.oneCell']) ?_;obtain⟨W5,hW5⟩:=eqx (w4.setRow g9 #[.int .i64 (1+a),.int .i64 (1+b),.int .u32 (m:Int),.slice none 0 0]);rw[←hW5];obtain⟨H5,B5,AG⟩:=zh3 (show Blk W5 g9 25 #[.int .i64 (1+a),.int .i64 (1+b),.int .u32 (m:Int),.slice none 0 0] by rw[hW5];exact z4.setRow _) (show Zb W1 W5 by rw[hW5];exact below_setRow b4 l4 _) l4;clear hW5 z4 l4 b4;refine⟨fun h=>absurd h zdc,?_⟩;refine zP ?_;refine qbg ?_;clear HS9 F0;have A5:=zh1 (B1.trans (B5.mono B1.size));obtain⟨AH,AC,AD⟩:=zh3 (HR.call A5.o) (Z1.below B5.o Z1.lt) (Z2.below B5.o Z2.lt);have e3:=(AC.cell 3).trans (show (#[.int .i64 x,.int .i64 y,.int .u32 (st:Int),.slice A n k]:Array Value)[3]? =some (.slice A n k) from rfl);obtain⟨LB,LG⟩:=zh2 (show w.heap.size≤W5.heap.size from A5.size) (show w.heap.size+1<g9 by have:=Z2.lt;have:=AG.o;omega);have lw5:=AC.lt;clear ex ey a0 a1 b0 b1 r0;go_wp2_with (at_builtin;refine qe3 rfl _ _ rfl W5.heap.size _ [] rfl (OwnB.made W5 [] (by simp[maxLen])) A n k bs rfl (AH.laid (.cells #[] 5)) (by simp;omega) zm ?_)
 intro v3 w3 hown3 hb3 hg3;obtain⟨A3,n3,c3,rfl,k3,-,r3⟩:=hown3.sl;have hl3:bs.length=n3:=by have:=qb5 r3;simpa using this
 have b53:=(((tA5 W5.heap.size W5).alloc (tA4 _) (.cells #[] 5)).trans hb3);have h3:=H5.below b53 H5.lt;obtain⟨O3,AI,AJ⟩:=zh3 (show OwnB w3 w.heap.size (.slice A3 n3 c3) bs from(OwnB.mono hown3 LB.o).cast zm) (A5.trans (b53.mono LB.o)) (AD.below b53 AD.lt);obtain⟨W6,hW6⟩:=eqx (w3.setCell ⟨g9,3,none⟩ (.slice A3 n3 c3));obtain⟨H6,O6,AE,A2,AK,AF⟩:=zh6 (show Blk W6 g9 25 [.int .i64 (1+a),.int .i64 (1+b),.int .u32 (m:Int),.slice A3 n3 c3].toArray by rw[hW6];exact h3.set_ 3 _) (show OwnB W6 w.heap.size (.slice A3 n3 c3) bs by rw[hW6];exact OwnB.far O3.o (p:=⟨g9,3,none⟩) (qa3 O3.o h3 zdc) _) (show Zb w W6 by rw[hW6];exact AI.setCell (p:=⟨g9,3,none⟩) (by have:=LG.o;simp;omega) _) (show Blk W6 (w.heap.size+1) 25 #[.int .i64 0,.int .i64 0,.int .u32 0,.slice none 0 0] by rw[hW6];exact AJ.far (p:=⟨g9,3,none⟩) (by have:=LG.o;simp;omega) _) hW6 hl3;have f3:=h3.frozen 3;have c33:=h3.cell 3;clear lw5 hW6 hown3 hb3 hg3 r3 hl3 e3 b53 h3;go_upto_region 3 with(fail)
 rw[←AK.o];clear f3 c33;have e6:=(H6.cell 3).trans (show ([.int .i64 (1+a),.int .i64 (1+b),.int .u32 (m:Int),.slice A3 n3 c3].toArray:Array Value)[3]? =some (.slice A3 n3 c3) from rfl);have f6:=H6.frozen 3;by_cases h64:n3≤64
 ·
  have q:¬(n3:Int)>64:=zo;have O7:=zh1 (show OwnB W6 w.heap.size (.slice A3 n3 c3) (bs.take 64) by rw[tB5 (by rw[AF.o];exact h64)];exact O6.o);clear e6 f6;have e6:=(H6.cell 3).trans (show ([.int .i64 (1+a),.int .i64 (1+b),.int .u32 (m:Int),.slice A3 n3 c3].toArray:Array Value)[3]? =some (.slice A3 n3 c3) from rfl);obtain⟨A6,OL⟩:=zh2 (qap H6.o 0 [.int .i64 (1+a),.int .i64 (1+b),.int .u32 (m:Int),.slice A3 n3 c3] zjq) (show ∀u∈([.int .i64 (1+a),.int .i64 (1+b),.int .u32 (m:Int),.slice A3 n3 c3]:List Value),u.oneCell'=true by intro u hu;simp at hu;rcases hu with rfl|rfl|rfl|rfl<;>rfl);go_wp2_with (first
   |(refine qaq rfl 25 (.tmp 3) rfl g9 0 rfl [.int .i64 (1+a),.int .i64 (1+b),.int .u32 (m:Int),.slice A3 n3 c3] _ A6.o Tryz.underlying25 rfl zk ?_)
   |(refine wpList_store_row rfl 25 (.tmp 2) (.tmp 31) rfl (w.heap.size+1) ([.int .i64 (1+a),.int .i64 (1+b),.int .u32 (m:Int),.slice A3 n3 c3]).toArray rfl rfl 25 _ A2.o zk zm (by simpa using OL.o) ?_))
  have A7:=qap (A2.setRow ([.int .i64 (1+a),.int .i64 (1+b),.int .u32 (m:Int),.slice A3 n3 c3]).toArray) 0 [.int .i64 (1+a),.int .i64 (1+b),.int .u32 (m:Int),.slice A3 n3 c3] zjq;refine bodyPost_ret (v:=.agg ([.int .i64 (1+a),.int .i64 (1+b),.int .u32 (m:Int),.slice A3 n3 c3]).toArray) (qao rfl rfl (run_loadVar_mid _ _ 0 _ [.int .i64 (1+a),.int .i64 (1+b),.int .u32 (m:Int),.slice A3 n3 c3] _ A7 Tryz.underlying25 rfl zk)) rfl ?_;refine⟨_,?_,tB3 O7.o (qam _ _ _) (.inr (qa3 O7.o A2.o zdc)),below_setRow AE.o zo _⟩;rw[A9.o,AA.o,AB.o,A0.o];first|rw[A1.o]|rw[show (st:Int) % 32769=(m:Int) by have:=A1.o;omega]
 have q:(n3:Int)>64:=zo;have q2:(64:Int)≤c3:=zo;obtain⟨W7,hW7⟩:=eqx (W6.setCell ⟨g9,3,none⟩ (.slice A3 64 c3));obtain⟨H7,O7,AL,A8,AM⟩:=zh5 (show Blk W7 g9 25 [.int .i64 (1+a),.int .i64 (1+b),.int .u32 (m:Int),.slice A3 64 c3].toArray by rw[hW7];exact H6.set_ 3 _) (show OwnB W7 w.heap.size (.slice A3 64 c3) (bs.take 64) by rw[hW7];exact xce (OwnB.far O6.o (p:=⟨g9,3,none⟩) (qa3 O6.o H6.o zdc) _) (by rw[AF.o];omega)) (show Zb w W7 by rw[hW7];exact AE.setCell (p:=⟨g9,3,none⟩) (by have:=LG.o;simp;omega) _) (show Blk W7 (w.heap.size+1) 25 #[.int .i64 0,.int .i64 0,.int .u32 0,.slice none 0 0] by rw[hW7];exact A2.far (p:=⟨g9,3,none⟩) (by have:=LG.o;simp;omega) _) hW7;clear hW7;go_upto_region 5 with(fail)
 rw[←AM.o];clear e6 f6;obtain⟨A6,OL⟩:=zh2 (qap H7.o 0 [.int .i64 (1+a),.int .i64 (1+b),.int .u32 (m:Int),.slice A3 64 c3] zjq) (show ∀u∈([.int .i64 (1+a),.int .i64 (1+b),.int .u32 (m:Int),.slice A3 64 c3]:List Value),u.oneCell'=true by intro u hu;simp at hu;rcases hu with rfl|rfl|rfl|rfl<;>rfl);go_wp2_with (first
  |(refine qaq rfl 25 (.tmp 3) rfl g9 0 rfl [.int .i64 (1+a),.int .i64 (1+b),.int .u32 (m:Int),.slice A3 64 c3] _ A6.o Tryz.underlying25 rfl zk ?_)
  |(refine wpList_store_row rfl 25 (.tmp 2) (.tmp 31) rfl (w.heap.size+1) ([.int .i64 (1+a),.int .i64 (1+b),.int .u32 (m:Int),.slice A3 64 c3]).toArray rfl rfl 25 _ A8.o zk zm (by simpa using OL.o) ?_))
 have A7:=qap (A8.setRow ([.int .i64 (1+a),.int .i64 (1+b),.int .u32 (m:Int),.slice A3 64 c3]).toArray) 0 [.int .i64 (1+a),.int .i64 (1+b),.int .u32 (m:Int),.slice A3 64 c3] zjq;refine bodyPost_ret (v:=.agg ([.int .i64 (1+a),.int .i64 (1+b),.int .u32 (m:Int),.slice A3 64 c3]).toArray) (qao rfl rfl (run_loadVar_mid _ _ 0 _ [.int .i64 (1+a),.int .i64 (1+b),.int .u32 (m:Int),.slice A3 64 c3] _ A7 Tryz.underlying25 rfl zk)) rfl ?_;refine⟨_,?_,tB3 O7.o (qam _ _ _) (.inr (qa3 O7.o A8.o zdc)),below_setRow AL.o zo _⟩;rw[A9.o,AA.o,AB.o,A0.o];first|rw[A1.o]|rw[show (st:Int) % 32769=(m:Int) by have:=A1.o;omega]
def xch (t:Tok)(x:Int × Nat):Tok:=if (qkl t x).2=0 then(qkl t x).1 else t
def xci (c:Cfg)(S:Stp):Tok:=(S.cavs.take 4).foldl xch (qkq (qmw c.seed) (S.who % 4294967296).toNat)
def xcj (c:Cfg)(S:Stp):Req:=
 let r:=if 0≤S.who then {S.r with tid:=(xci c S).1,cavs:=(xci c S).2.1,tag:=(xci c S).2.2} else S.r
 {r with leaf:=r.leaf.take 512}
def bytesOf (c:Cfg)(S:Stp):Option (List Nat):=
 if S.kind=5 then some (S.raw.take 400) else if (qjc (xcj c S)).1=0 then some (qjc (xcj c S)).2 else none
def xck (c:Cfg)(s:Sta)(S:Stp):Sta × List Nat:=
 if S.kind=2 then(seqS c s,[])
 else if S.kind=3 then(qnj s,[])
 else if S.kind=4 then(qnk s S.n,[])
 else if S.kind=1∨S.kind=5 then(match bytesOf c S with|some b=>askS c s b|none=>(s,[]))
 else(s,[])
theorem xcl(h1:0≤x)(h2:x<256):(Lit.int .i64 x).wf=true:=by
 refine(Go.Lit.wf_int_iff _ _).2 ?_;rw[IntKind.min_i64,IntKind.max_i64];omega
structure Req.Deci (R:Req):Prop where
 ints:∀o,o=35∨o=36∨o=37∨o=38∨o=39→0≤R.num o∧R.num o<256
 mids:∀o,o=40∨o=43∨o=44∨o=45→R.num o<4294967296
 longs:∀o,o=41∨o=42∨o=46→R.num o<18446744073709551616
 leafb:∀b∈R.leaf,b<256
theorem xcm(h:R.Deci){f:Fld}(hf:IsFld f)(n:Nat)(hn:n<256^f.1):(R.put f.2.2 n).Deci:=by
 have h1:=h.ints;have h2:=h.mids;have h3:=h.longs;rcases hf with rfl|rfl|rfl|rfl|rfl|rfl|rfl|rfl|rfl|rfl|rfl|rfl|rfl<;>
 ·
  refine⟨fun o ho=>?_,fun o ho=>?_,fun o ho=>?_,h.leafb⟩
  · have:=h1 o ho
    rcases ho with rfl|rfl|rfl|rfl|rfl<;>simp only[Req.put,Req.num]at hn this ⊢<;>omega
  · have:=h2 o ho
    rcases ho with rfl|rfl|rfl|rfl<;>simp only[Req.put,Req.num]at hn this ⊢<;>omega
  have:=h3 o ho;rcases ho with rfl|rfl|rfl<;>simp only[Req.put,Req.num]at hn this ⊢<;>omega
theorem xcn (bs:List Nat)(hb:∀x∈bs,x<256):∀(l:List Fld) (s:RSt) (R:Req),(∀f∈l,IsFld f)→R.Deci→(qik bs l s R).2.Deci
 |[],s,R,_,h=>h
 |f::l,s,R,hl,h=>by
  unfold qik;split
  · exact xcn bs hb l _ _ (fun g hg=>hl g (List.mem_cons_of_mem _ hg)) ⟨h.ints,h.mids,h.longs,qhp bs s 256 hb⟩
  exact xcn bs hb l _ _ (fun g hg=>hl g (List.mem_cons_of_mem _ hg)) (xcm h (hl f zm) _ (qgh bs s f.1 hb))
theorem xco (bs:List Nat):∀(l:List Fld) (s:RSt) (R:Req),(qik bs l s R).2.op=R.op∧(qik bs l s R).2.tid=R.tid∧(qik bs l s R).2.cavs=R.cavs∧(qik bs l s R).2.tag=R.tag
 |[],s,R=>⟨rfl,rfl,rfl,rfl⟩
 |f::l,s,R=>by
  unfold qik;split
  · exact xco bs l _ _
  obtain⟨h1,h2,h3,h4⟩:=xco bs l (rNum bs s f.1).1 (R.put f.2.2 (rNum bs s f.1).2);obtain⟨e1,e2,e3,-,e5⟩:=qiz R f.2.2 (rNum bs s f.1).2;exact⟨h1.trans e5,h2.trans e1,h3.trans e2,h4.trans e3⟩
theorem xcp(bs:List Nat)(hb:∀x∈bs,x<256):∀x∈(qh5 bs).2.2.1,(Lit.int .i64 x.1).wf=true:=by
 cases h:(qh5 bs).1 with
 |none=>
  obtain⟨id,l,tag,e,h1,h2,h3,h4,h5,-⟩:=qi4 bs hb h;rw[e];intro x hx;obtain⟨a,b⟩:=qda (h3 x hx).1;exact xcl zo zo
 |some x=>
  have e:qh5 bs=(some x,qgu):=by
   unfold qh5 at h ⊢;split
   · rename_i h1
     rw[h1]at h;cases h
   rename_i y h1
   rw[h1]at h;injection h with h;rw[h]
  rw[e];intro c hc;cases hc
theorem xcq(hd:R.Deci)(hT:R.tag.length=32∧(∀b∈R.tag,b<256)∧R.tid<4294967296∧(∀x∈R.cavs,x.2<4294967296)∧∀x∈R.cavs,(Lit.int .i64 x.1).wf=true)(ho:0≤R.op∧R.op<256):R.Good:=by
 have a:=fun o h=>hd.ints o h
 have b:=fun o h=>hd.mids o h
 have d:=fun o h=>hd.longs o h
 have num35:=a 35 zm;have num36:=a 36 zm;have num37:=a 37 zm;have num38:=a 38 zm;have num39:=a 39 zm;have num40:=b 40 zm;have num43:=b 43 zm;have num44:=b 44 zm;have num45:=b 45 zm;have num41:=d 41 zm;have num42:=d 42 zm;have num46:=d 46 zm;simp only[Req.num]at num35 num36 num37 num38 num39 num40 num41 num42 num43 num44 num45 num46;exact⟨hT.1,hT.2.1,hT.2.2.1,hT.2.2.2.1,hT.2.2.2.2,xcl ho.1 ho.2,xcl num35.1 num35.2,xcl num36.1 num36.2,xcl num37.1 num37.2,xcl num38.1 num38.2,xcl num39.1 num39.2,by omega,by omega,by omega,by omega,by omega,by omega,by omega,hd.leafb⟩
theorem xcr(bs:List Nat)(hb:∀x∈bs,x<256):(qio bs).2.Good:=by
 have hlt:=qhp bs (0,none) 77 hb;have hT:=qi5 (qho bs (0,none) 77).2 hlt;have hk:=xcp (qho bs (0,none) 77).2 hlt;have hn:=qgh bs (qil bs) 1 hb;have d0:∀(T:Tok) (k:Int),(req0 T k).Deci:=fun T k=>⟨fun o ho=>by rcases ho with rfl|rfl|rfl|rfl|rfl<;>simp[req0,Req.num],fun o ho=>by rcases ho with rfl|rfl|rfl|rfl<;>simp[req0,Req.num],fun o ho=>by rcases ho with rfl|rfl|rfl<;>simp[req0,Req.num],by simp[req0]⟩
 have hz:qin.Good:=xcq (d0 _ _) ⟨by simp[qin,req0,qgu],by intro x hx;simp[qin,req0,qgu]at hx;omega,by decide,fun c hc=>(nomatch hc),fun c hc=>(nomatch hc)⟩ zdc;unfold qio;split
 ·
  unfold qim;split
  · exact xcq (d0 _ _) ⟨hT.1.2.2.1,hT.1.2.2.2,hT.1.1,hT.1.2.1,hk⟩ (by show 0≤((rNum bs (qil bs) 1).2:Int)∧_;simp only[req0];omega)
  rename_i l hl
  obtain⟨e1,e2,e3,e4⟩:=xco bs l (rNum bs (qil bs) 1).1 (req0 (reqT bs) ((rNum bs (qil bs) 1).2:Int));refine xcq (xcn bs hb l _ _ (fun f hm=>qid _ l hl f hm) (d0 _ _)) ?_ ?_
  · rw[e2,e3,e4]
    exact⟨hT.1.2.2.1,hT.1.2.2.2,hT.1.1,hT.1.2.1,hk⟩
  rw[e1];simp only[req0];omega
 exact hz
theorem xcs(R:Req)(h1:∀x∈R.leaf,x<256)(h2:∀x∈R.tag,x<256):∀x∈(qjc R).2,x<256:=by
 have ht:∀x∈(qdb R.tid R.cavs R.tag).2,x<256:=by
  unfold qdb;split
  · intro x hx;cases hx
  split
  ·
   intro x hx;simp only[tBg]at hx;rcases hx with((h|h)|h)|h
   · exact qaz _ _ x h
   · exact qaz _ _ x h
   · unfold cavb at h
     obtain⟨y,_,hy⟩:=List.mem_flatMap.1 h;simp only[tBg]at hy;rcases hy with hy|hy<;>exact qaz _ _ x hy
   exact h2 x h
  intro x hx;cases hx
 unfold qjc;split
 ·
  split
  ·
   intro x hx;rcases List.mem_append.1 hx with h|h
   · unfold txt at h
     rcases List.mem_append.1 h with h|h
     · exact qaz _ _ x h
     exact ht x (tB7 h)
   exact qtq R h1 x h
  intro x hx;cases hx
 intro x hx;cases hx
theorem xct(root:List Nat)(id:Nat)(h:id<4294967296):(qkq root id).Ok∧∀x∈(qkq root id).2.1,(Lit.int .i64 x.1).wf=true:=⟨qku root id h,fun x hx=>(nomatch hx)⟩
theorem xcu{t:Tok}{x:Int × Nat}(h:t.Ok∧∀x∈t.2.1,(Lit.int .i64 x.1).wf=true)(hx:x.2<4294967296)(hk:(Lit.int .i64 x.1).wf=true):(xch t x).Ok∧∀y∈(xch t x).2.1,(Lit.int .i64 y.1).wf=true:=by
 unfold xch;split
 ·
  refine⟨qkv t x h.1 hx,?_⟩;unfold qkl;split
  ·
   split
   · intro y hy
     rcases List.mem_append.1 hy with h1|h1
     · exact h.2 y h1
     obtain rfl:=List.mem_singleton.1 h1;exact hk
   intro y hy;cases hy
  intro y hy;cases hy
 exact h
theorem xcv:∀(l:List (Int × Nat)) (t:Tok),(t.Ok∧∀x∈t.2.1,(Lit.int .i64 x.1).wf=true)→(∀x∈l,x.2<4294967296)→(∀x∈l,(Lit.int .i64 x.1).wf=true)→(l.foldl xch t).Ok∧∀y∈(l.foldl xch t).2.1,(Lit.int .i64 y.1).wf=true
 |[],t,h,_,_=>h
 |x::l,t,h,h1,h2=>xcv l _ (xcu h (h1 x zm) (h2 x zm)) (fun y hy=>h1 y (by simp[hy])) (fun y hy=>h2 y (by simp[hy]))
theorem xcw(c:Cfg){S:Stp}(hr:S.r.Good)(h1:∀x∈S.cavs,x.2<4294967296)(h2:∀x∈S.cavs,(Lit.int .i64 x.1).wf=true):(xcj c S).Good:=by
 have ht:=xcv (S.cavs.take 4) (qkq (qmw c.seed) (S.who % 4294967296).toNat) (xct _ _ zo) (fun x hx=>h1 x (tB7 hx)) (fun x hx=>h2 x (tB7 hx));have hg:(if 0≤S.who then {S.r with tid:=(xci c S).1,cavs:=(xci c S).2.1,tag:=(xci c S).2.2} else S.r:Req).Good:=by
  split
  · exact {hr with tid:=ht.1.1,cavn:=ht.1.2.1,tag:=ht.1.2.2.1,tagb:=ht.1.2.2.2,cavk:=ht.2}
  exact hr
 unfold xcj;exact {hg with leafb:=fun b hb=>hg.leafb b (tB7 hb)}
theorem xcx(c:Cfg){S:Stp}(hr:S.r.Good)(h1:∀x∈S.cavs,x.2<4294967296)(h2:∀x∈S.cavs,(Lit.int .i64 x.1).wf=true)(h3:∀b∈S.raw,b<256)(h:bytesOf c S=some bs):∀x∈bs,x<256:=by
 have hg:=xcw c hr h1 h2;unfold bytesOf at h;split at h
 · injection h with h
   subst h;exact fun x hx=>h3 x (tB7 hx)
 split at h
 · injection h with h
   subst h;exact xcs _ hg.leafb hg.tagb
 cases h
theorem xcy(R:Req)(cav leafv:Value)(hc:cav.oneCell'=true)(hl:leafv.oneCell'=true):∀u∈reqv R cav leafv,u.oneCell'=true:=by
 intro u hu;unfold reqv at hu;rcases List.mem_append.1 hu with hu|hu
 · rcases List.mem_cons.1 hu with rfl|hu
   · rfl
   exact qeh _ _ hc _ u hu
 simp[Req.rest]at hu;rcases hu with rfl|rfl|rfl|rfl|rfl|rfl|rfl|rfl|rfl|rfl|rfl|rfl|rfl<;>first|rfl|exact hl
theorem xcz(c:Cfg)(s:Sta)(L:Loc)(col:Col)(g:Nat)(css:List (List Value))(bs:List Nat)(A:Option Addr)(n cc:Nat)(w:World)(hc:c.Ok)(hs:s.Ok)(h:Mdl w col 2 g c s L css)
 (hr:Reads w w.heap.size 1 A n (byv bs))(hn:n≤140737488355328)(hb:∀x∈bs,x<256)(hT:Tabs w)(hE:w.cell? ⟨0,0,none⟩=some (.iface 327 (.agg #[.pointer (some ⟨3,81,none⟩)]))):
 Zc 30 #[.pointer (some ⟨g,0,none⟩),.slice A n cc] w fun e w'=>∃v col' L' css',e=.returned v∧OwnB w' w.heap.size v (askS c s bs).2∧(∀g,v.ownBlock=some g→col' g=0)∧Mdl w' col' 2 g c (askS c s bs).1 L' css'∧Rest w col w' col':=by
 obtain⟨AV,hAV⟩:=xeq (askS c s bs);rw[hAV];have bT:=qr0 (12:Int);rw[show (Value.int .i64 (12:Int)::.int .u64 0::.slice none 0 0::.slice none 0 0::(hdv Hd.zero++tokv qgu.1 (.slice none 0 0) qgu.2.2))=qr1 (rWhy 12) from rfl]at bT;have lX:=qr2 (rWhy 12) Hd.zero_Ok (by simp[rWhy,qj2,qgu]);have oX:=qr3 (rWhy 12);obtain⟨X,hX⟩:=xeq (qr1 (rWhy 12));rw[hX]at bT lX oX;have z0:=Blk.new w 57 Tryz.zeroCells57;obtain⟨Z0,BT,LX,OX,HX,AC,H,HS⟩:=zh8 z0 bT lX oX hX hAV h hs;obtain⟨HC,AD,HE,HR,HB,AE,A7⟩:=zh7 hc hT hE hr hb (zI 57 lX) qr4;clear bT lX oX hX z0 hAV h hs hc hT hE hr hb;go_enter Tryz.func30,Tryz.ntmps30
 go_upto_region 2 with(first
  |(refine qbk rfl ⟨.agg X.toArray,qgr 57 _ rfl _ _ BT.o (by simp[Act.eval]),?_⟩)
  |(refine zst Z0.o AE.o (by simp[LX.o,A7.o]) OX.o ?_))
 obtain⟨W1,hW1⟩:=eqx ((w.alloc (.cells Tryz.zeroCells57 57)).setRow w.heap.size X.toArray);rw[←hW1];obtain⟨Z1,B1⟩:=zh2 (show Blk W1 w.heap.size 57 X.toArray by rw[hW1];exact Z0.setRow _) (show Zb w W1 by rw[hW1];exact below_setRow ((tA5 _ _).alloc (tA4 _) _) (tA4 _) _);clear hW1;obtain⟨R,hR⟩:=xeq ((qio bs).2);have CD:=qqc bs A n cc W1 (HR.call B1.o) hn HB.o (qai HE.o B1.o);have hG:=xcr bs HB.o;rw[hR]at hG;simp only[hR]at CD;obtain⟨AG,HG,AH⟩:=zh3 CD hG hR;clear CD hG hR;go_upto_region 3 with(fail)
 go_wp2_with fail
 refine AG.o.mono ?_;rintro e w2 ⟨cav,lv,rv,rfl,oc,ol,re,b2⟩;obtain⟨Ac,cc2,hcv,hcc2,hcm2,rdc⟩:=qaf (e:=132) (size:=2) oc;obtain⟨Al,cl2,hlv,hcl2,hlm2,rdl⟩:=qaf (e:=5) (size:=1) ol;have lQ:=qjd R cav lv HG.tag;have oQ:=xcy R cav lv (by rw[hcv];rfl) (by rw[hlv];rfl);obtain⟨Q,hQ⟩:=xeq (reqv R cav lv);rw[hQ]at lQ oQ;rw[hQ];obtain⟨IQ,LQ,OQ,Z2,HQ,AI,AJ,AK⟩:=zh8 (zI 34 lQ) lQ oQ (Blk.new w2 34 zLQ) hQ hcv hlv rdc;obtain⟨AL,OC,OL,RE,B2⟩:=zh5 rdl oc ol re b2;clear lQ oQ hQ hcv hlv rdc rdl oc ol re b2;go_upto_region 3 with(refine wpList_store_row rfl 34 (.tmp 6) (.tmp 14) rfl w2.heap.size Q.toArray rfl rfl 34 _ Z2.o (by rw[tB6];exact IQ.o) (by simp[LQ.o]) (by simpa using OQ.o) ?_)
 obtain⟨W3,hW3⟩:=eqx ((w2.alloc (.cells zLQ 34)).setRow w2.heap.size Q.toArray);rw[←hW3];obtain⟨G6,hG6⟩:=eqx w2.heap.size;rw[←hG6];have q3:Blk W3 G6 34 Q.toArray:=by rw[hW3,hG6];exact Z2.setRow _
 have b3:Zb w2 W3:=by rw[hW3];exact below_setRow ((tA5 _ _).alloc (tA4 _) _) (tA4 _) _
 have b03:Zb w W3:=(B1.trans (B2.mono B1.size)).trans (b3.mono (tB1 B1.size B2.size));have z2:=Z1.below B2.o Z1.lt;obtain⟨Z3,Q3,B3,A4⟩:=zh4 (z2.below b3 z2.lt) q3 b3 b03;have A5:=zh1 (show ∀b,w.heap.size≤b→col b=0 from fun b h=>by
  by_cases e:col b=0
  · exact e
  have:=H.fin b e;omega)
 clear hW3 hG6 q3 b3 b03 z2;rcases hdec:(qio bs).1 with _|y
 ·
  have hnil:rv=.nilIface:=by have:=RE.o;rw[hdec]at this;exact this
  subst hnil;have hav:=quj (c:=c) (s:=s) hdec;rw[AC.o,AH.o]at hav;have hlf:=AJ.o;have hcf:=AI.o;have hA:Asked W3 col R Ac cc2 Al cl2:=⟨HG.o,AL.call B3.o,hcl2,hlm2,AK.call B3.o,hcc2,hcm2,
   fun h ad e=>A5.o _ (tB1 B1.size (World.ownsRow.lt OL.o ad.block (by rw[hlf,e];rfl)).1),
   fun h ad e=>A5.o _ (tB1 B1.size (World.ownsRow.lt OC.o ad.block (by rw[hcf,e];rfl)).1)⟩
  have A8:=qws c s L col g css R Ac cc2 Al cl2 W3 HC.o HS.o (H.call A4.o) hA (AD.below A4.o AD.size) (qai HE.o A4.o);rw[←hcf,←hlf,HQ.o]at A8;obtain⟨A0,A9,AA,AM⟩:=zh4 hav A8 (xas (c:=c) HS.o HG.o) (qap Q3.o 0 Q zjq);clear hav hA A8 hdec hlf hcf;go_wp2_with (refine zld AM.o zu34 IQ.o ?_)
  refine A9.o.mono ?_;rintro e w4 ⟨v,col',L',css',rfl,rv4,m4,r4⟩;obtain⟨V,hv,lV,oV⟩:=rv4.cells ⟨AA.hd,AA.tok.2.2.1⟩;subst hv;have z4:=r4.blk Z3.o (A5.o _ (tA4 _));have g0:col' w.heap.size=0:=(r4.block _ Z3.lt (A5.o _ (tA4 _))).2;obtain⟨AF,M5,R5,Z4,IV,LV,OV,Z5⟩:=zh8 (rv4.row (X:=V.toArray) z4 A4.size) (m4.row0 (.inl rfl) V.toArray g0) (((Rest.of_below (col:=col) A4.o).trans r4).newer (qam w4 w.heap.size V.toArray) (tA4 _)) z4 (zI 57 lV) lV oV (z4.setRow V.toArray);clear rv4 m4 r4 lV oV z4 g0;go_upto_region 5 with(refine zst Z4.o IV.o (by simp[LV.o,LX.o]) OV.o ?_)
  obtain⟨W5,hW5⟩:=eqx (w4.setRow w.heap.size V.toArray);rw[←hW5]at AF M5 R5 Z5 ⊢;clear hW5;obtain⟨bv,hvv,cv5,ev,o1,o2,o3,k1,k2,k3⟩:=AF.o;obtain⟨A1,c1,hb1,hbc,hbm,rb⟩:=qaf (e:=5) (size:=1) o1;obtain⟨A2,c2,hb2,hhc,hhm,rh⟩:=qaf (e:=29) (size:=32) o2.2;obtain⟨A3,c3,hb3,hcc,hcm,rc⟩:=qaf (e:=132) (size:=2) o3;subst hb1 hb2 hb3;have CA:=xcg (doS c s R).2 A1 c1 A2 c2 A3 c3 W5 AA.o rb hbc hbm rh hhc hhm rc hcc hcm;injection ev with ev;rw[←ev]at CA;obtain⟨AB,AN⟩:=zh2 CA (qap Z5.o 0 V zjq);clear CA ev rb rh rc hbc hbm hhc hhm hcc hcm o1 o2 o3 k1 k2 k3;go_wp2_with (refine zld AN.o zu57 IV.o ?_)
  refine AB.o.mono ?_;rintro e w6 ⟨v,rfl,ov,b6⟩;obtain⟨A6,B6⟩:=zh2 ov b6;clear ov b6;go_wp2
  go_ret
  refine⟨v,col',L',css',rfl,?_,fun g hg=>?_,?_,R5.trans (Rest.of_below B6.o)⟩
  · rw[A0.o]
    exact qdf A6.o R5.size
  · by_cases e:col' g=0
    · exact e
    have h1:=M5.fin g e;have h2:=(World.ownsRow.lt A6.o g hg).1;omega
  rw[A0.o];exact M5.call B6.o
 have re':=RE.o;rw[hdec]at re';obtain⟨hh,hrv,-,-⟩:=re';subst hrv;have hav:=qui (c:=c) (s:=s) hdec;rw[AC.o]at hav;have CA:=xcg (rWhy 12) none 0 none 0 none 0 W3 (xal 12) ⟨rfl,fun h=>absurd h (by show ¬0<0;omega)⟩ (tA4 _) (by simp[maxLen]) ⟨rfl,fun h=>absurd h (by show ¬0<0;omega)⟩ (tA4 _) (by simp[maxLen]) ⟨rfl,fun h=>absurd h (by show ¬0<0;omega)⟩ (tA4 _) (by simp[maxLen]);change Zc 78 #[.agg (qr1 (rWhy 12)).toArray] W3 _ at CA;rw[HX.o]at CA;obtain⟨A0,AB,AO⟩:=zh3 hav CA (qap Z3.o 0 X zjq);clear hav CA hdec;go_wp2_with (refine zld AO.o zu57 AE.o ?_)
 refine AB.o.mono ?_;rintro e w6 ⟨v,rfl,ov,b6⟩;obtain⟨A6,B6⟩:=zh2 ov b6;clear ov b6;go_wp2
 go_ret
 refine⟨v,col,L,css,rfl,?_,fun g hg=>A5.o g (tB1 A4.size (World.ownsRow.lt A6.o g hg).1),?_,(Rest.of_below A4.o).trans (Rest.of_below B6.o)⟩
 · rw[A0.o]
   exact qdf A6.o A4.size
 rw[A0.o];exact(H.call A4.o).call B6.o
theorem xd0(h:Sit W B w col g gw tb c s)(hc:c.Ok)(bs:List Nat)(A:Option Addr)(n cc:Nat)(hr:Reads w w.heap.size 1 A n (byv bs))(hn:n≤140737488355328)(hb:∀x∈bs,x<256):
 Zc 30 #[.pointer (some ⟨g,0,none⟩),.slice A n cc] w fun e w'=>∃v col',e=.returned v∧OwnB w' w.heap.size v (askS c s bs).2∧(∀g,v.ownBlock=some g→col' g=0)∧Sit W B w' col' g gw tb c (askS c s bs).1∧Rest w col w' col':=by
 obtain⟨L,css,h2⟩:=h.mdl;refine(xcz c s L col g css bs A n cc w hc h.ok h2 hr hn hb h.tabs h.err).mono ?_;rintro e w' ⟨v,col',L',css',rfl,h3,h4,h5,h6⟩;exact⟨v,col',rfl,h3,h4,h.next h6 (quk h.ok (xcr bs hb)) ⟨L',css',h5⟩,h6⟩
theorem xd6{c:Nat}(h:OwnB w base (.slice A n c) bs)(hk:k≤bs.length):OwnB w base (.slice A k c) (bs.take k):=by
 have hn:n=bs.length:=by
  rcases h.2 with⟨e,h0⟩|⟨g,cap,cur,e,_⟩
  · injection e with e1 e2;omega
  injection e with e1 e2
 unfold OwnB;rw[tBd,Nat.min_eq_left hk];refine⟨by rw[qat,tBd];omega,?_⟩;rcases h.2 with⟨e,h0⟩|⟨g,cap,cur,e,hb,hh,hnc,hc,hsz,ht⟩
 · injection e with e1 e2 e3
   subst e1 e3;exact .inl ⟨by rw[show k=0 by omega],by omega⟩
 injection e with e1 e2 e3;subst e1 e3;refine .inr ⟨g,c,cur,rfl,hb,hh,by omega,hc,hsz,?_⟩;rw[Nat.mul_one]at ht ⊢;have:(byv bs).take k=byv (bs.take k):=by simp[byv,List.map_take]
 rw[←this,←ht,List.take_take,Nat.min_eq_left hk]
def Req.cut (R:Req):Req:={R with leaf:=R.leaf.take 512}
theorem xd7{t:Tok}{l:List (Int × Nat)}{x:Int × Nat}(h:l[k]? =some x):(l.take (k+1)).foldl xch t=xch ((l.take k).foldl xch t) x:=by
 obtain⟨hk,e⟩:=tA8 h;rw[List.take_succ_eq_append_getElem hk,List.foldl_append,e];rfl
def xd8 (c:Cfg)(S:Stp):Req:=if 0≤S.who then {S.r with tid:=(xci c S).1,cavs:=(xci c S).2.1,tag:=(xci c S).2.2} else S.r
theorem xd9(c:Cfg)(S:Stp):xcj c S=(xd8 c S).cut:=rfl
theorem xda(c:Cfg)(S:Stp):(xd8 c S).leaf=S.r.leaf:=by unfold xd8;split<;>rfl
theorem xdb(c:Cfg)(S:Stp)(h:S.r.tag.length=32)(hk:∀x∈S.cavs,x.2<4294967296):(xd8 c S).tag.length=32:=by
 unfold xd8;split
 ·
  have key:∀(l:List (Int × Nat)) (t:Tok),t.Ok→(∀x∈l,x.2<4294967296)→(l.foldl xch t).Ok:=by
   intro l;induction l with
   |nil=>intro t h _;exact h
   |cons y l ih=>
    intro t ht hl;refine ih _ ?_ (fun x hx=>hl x (List.mem_cons_of_mem _ hx));unfold xch;split
    · exact qkv t y ht (hl y (List.mem_cons_self ..))
    exact ht
  exact(key _ _ (qku _ _ zo) (fun x hx=>hk x (tB7 hx))).2.2.1
 exact h
theorem xdc(R:Req)(t:Tok)(cav cav' leafv:Value)(ht:R.tag.length=32)(h2:t.2.2.length=32):over (reqv R cav leafv) 1 (tokv t.1 cav' t.2.2)=reqv {R with tid:=t.1,cavs:=t.2.1,tag:=t.2.2} cav' leafv:=by
 have l1:=qdg R.tid cav R.tag ht;have l2:=qdg t.1 cav' t.2.2 h2;unfold over reqv;rw[l2];simp only[List.cons_append,List.take_succ_cons,List.take_zero,List.nil_append];rw[show 1+34=34+1 by rfl,List.drop_succ_cons,←l1,List.drop_left];rfl
theorem xdd{l:List (Int × Nat)}(h:l.length≤k∨4≤k)(h4:k≤4):l.take k=l.take 4:=by
 rcases h with h|h
 · rw[tB5 h,tB5 zo]
 rw[show k=4 by omega]
structure RtI (B:Nat)(w:World)(d5 d9 d10:Bool)(R T v21 v25 v6:Value):Prop where
 root:d5=true→v21=R
 tok:d9=true→v25=T
 box:d10=true→∃g,v6=.pointer (some ⟨g,0,none⟩)∧B≤g∧Blk w g 31 qgz.toArray
 low:B≤w.heap.size
theorem RtI.call{d5 d9 d10:Bool}{R:Value}(h:RtI B w d5 d9 d10 R T v21 v25 v6)(b:Zb w w'):RtI B w' d5 d9 d10 R T v21 v25 v6:=
 ⟨h.root,h.tok,fun e=>by obtain⟨g,h1,h2,h3⟩:=h.box e;exact⟨g,h1,h2,h3.below b h3.lt⟩,tB1 h.low b.size⟩
theorem RtI.a5{d5 d9 d10:Bool}{R:Value}(h:RtI B w d5 d9 d10 R T v21 v25 v6)(d:Bool):RtI B w d d9 d10 R T R v25 v6:=⟨fun _=>rfl,h.tok,h.box,h.low⟩
theorem RtI.a9{d5 d9 d10:Bool}{R:Value}(h:RtI B w d5 d9 d10 R T v21 v25 v6)(d:Bool):RtI B w d5 d d10 R T v21 T v6:=⟨h.root,fun _=>rfl,h.box,h.low⟩
theorem RtI.a10{d5 d9 d10:Bool}{R:Value}(h:RtI B w d5 d9 d10 R T v21 v25 v6)(d:Bool):RtI B (w.alloc (.cells qgz.toArray 31)) d5 d9 d R T v21 v25 (.pointer (some ⟨w.heap.size,0,none⟩)):=
 ⟨h.root,h.tok,fun _=>⟨_,rfl,h.low,Blk.new _ _ _⟩,by rw[qar];exact Nat.le_succ_of_le h.low⟩
theorem xde(gw tb:Nat)(c:Cfg)(A0:Option Addr)(n0 k0:Nat)(S:Stp)(cs:List Value)(w:World)(hw:WldAt w gw tb c A0 n0 k0)(hc:c.Ok)(hs:StpR w cs S):
 Zc 35 #[.pointer (some ⟨gw,0,none⟩),.agg cs.toArray] w fun e w'=>∃cav lv,e=.returned (.agg (reqv (xcj c S) cav lv).toArray)∧OwnC w' w.heap.size cav (xcj c S).cavs∧OwnB w' w.heap.size lv (xcj c S).leaf∧Below w.heap.size w w':=by
 obtain⟨Ac,cc,Al,cl,Ak,ck,Ar,cr,rfl,hg,⟨hc1,hc2,hc3,hc4⟩,⟨hl1,hl2,hl3,hl4⟩,⟨hk1,hk2,hk3,hk4,hk5⟩,-,-,-,hwho⟩:=hs;have lC:=qoa S (.slice Ac S.r.cavs.length cc) (.slice Al S.r.leaf.length cl) (.slice Ak S.cavs.length ck) (.slice Ar S.raw.length cr) hg.tag;have rq:=qob S (.slice Ac S.r.cavs.length cc) (.slice Al S.r.leaf.length cl) (.slice Ak S.cavs.length ck) (.slice Ar S.raw.length cr);have c49:=qoc S (.slice Ac S.r.cavs.length cc) (.slice Al S.r.leaf.length cl) (.slice Ak S.cavs.length ck) (.slice Ar S.raw.length cr) hg.tag 0;have c50:=qoc S (.slice Ac S.r.cavs.length cc) (.slice Al S.r.leaf.length cl) (.slice Ak S.cavs.length ck) (.slice Ar S.raw.length cr) hg.tag 1;obtain⟨C,hC⟩:=xeq (stpv S (.slice Ac S.r.cavs.length cc) (.slice Al S.r.leaf.length cl) (.slice Ak S.cavs.length ck) (.slice Ar S.raw.length cr));rw[hC]at lC rq c49 c50 ⊢;obtain⟨wh,hwh⟩:=xeq S.who;obtain⟨nk,hnk⟩:=xeq S.cavs.length;rw[hnk]at c50 hk1 hk3;rw[hwh]at c49 hwho;obtain⟨W0,hW0⟩:=eqx ((w.alloc (.cells C.toArray 44)).alloc (.cells zLQ 34));have t0:=zNb hW0;have z0:=zNc hW0;have b0:=zMb hW0;have lQ0:=qjd S.r (.slice Ac S.r.cavs.length cc) (.slice Al S.r.leaf.length cl) hg.tag;have CC:=xah S.r Ac S.r.cavs.length cc Al S.r.leaf.length cl W0 hg.tag (hc3.call b0) zo (hl3.call b0) zo;obtain⟨Q0,hQ0⟩:=xeq (reqv S.r (.slice Ac S.r.cavs.length cc) (.slice Al S.r.leaf.length cl));rw[hQ0]at lQ0 rq CC;have hrq:W0.rangeAt w.heap.size 1 Q0:=qap t0 1 Q0 (fun j u h=>rq j u h);obtain⟨AZ,B3,B4,B5,T0,Z0,B0,B7⟩:=zh8 CC hrq (zI 34 lQ0) hW0 t0 z0 b0 (hw.call b0);obtain⟨HC,HG,B8,B9,BY,AA,AK,BZ⟩:=zh8 hc hg (hk3.call b0) hk4 hk5 hwh hnk (show nk≤maxLen by omega);obtain⟨BA,C0,BC,BD,BE⟩:=zh5 (xdb c S hg.tag hk4) hwho c49 c50 (show W0.heap.size=w.heap.size+1+1 by rw[hW0,qar,qar]);clear hC lC rq c49 c50 hwh hwho t0 z0 b0 lQ0 CC hQ0 hrq hW0 hw hc hg hc1 hc2 hc3 hc4 hl1 hl2 hl3 hl4 hk2 hk3 hk4 hk5 hnk hk1;go_enter Tryz.func35,Tryz.ntmps35
 go_upto_region 1 with(fail)
 rw[←B5.o];go_wp2_with (refine zld B3.o zu34 B4.o ?_)
 refine AZ.o.mono ?_;rintro e w1 ⟨cav1,lv1,rfl,oc1,ol1,b1⟩;obtain⟨Ac1,cc1,hcv1,-,-,-⟩:=qaf (e:=132) (size:=2) oc1;obtain⟨Al1,nl,cl1,hlv1,-,-,rl1⟩:=ol1.sl;have hnl:=qb5 rl1;subst hcv1 hlv1;have lQ:=qjd S.r (.slice Ac1 S.r.cavs.length cc1) (.slice Al1 nl cl1) HG.tag;have oQ:=xag S.r (.slice Ac1 S.r.cavs.length cc1) (.slice Al1 nl cl1) rfl rfl;obtain⟨Q,hQ⟩:=xeq (reqv S.r (.slice Ac1 S.r.cavs.length cc1) (.slice Al1 nl cl1));rw[hQ]at lQ oQ ⊢;obtain⟨BF,LQ,OQ,HQ,BG,BH,B1,NL⟩:=zh8 (zI 34 lQ) lQ oQ hQ oc1 ol1 b1 hnl;have N1:=zh1 (Blk.new w1 34 zLQ);clear lQ oQ hQ oc1 ol1 b1 rl1 hnl;go_upto_region 2 with(refine wpList_store_row rfl 34 (.tmp 5) (.tmp 12) rfl w1.heap.size Q.toArray rfl rfl 34 _ N1.o (by rw[tB6];exact BF.o) (by simp[LQ.o]) (by simpa using OQ.o) ?_)
 obtain⟨W1,hW1⟩:=eqx ((w1.alloc (.cells zLQ 34)).setRow w1.heap.size Q.toArray);rw[←hW1];obtain⟨G5,hG5⟩:=eqx w1.heap.size;rw[←hG5];have b11:Below w1.heap.size w1 W1:=by rw[hW1];exact below_setRow ((tA5 _ _).alloc (tA4 _) _) (tA4 _) _
 obtain⟨Q1,A1,BI,AL⟩:=zh4 (show Blk W1 G5 34 Q.toArray by rw[hW1,hG5];exact(Blk.new _ _ _).setRow _) (show Below W0.heap.size W0 W1 from B1.trans (b11.mono B1.size)) (OwnC.kept BG.o b11) (BH.kept b11);obtain⟨T1,Z1,AM⟩:=zh3 (T0.below A1.o T0.lt) (Z0.below A1.o Z0.lt) (show W0.heap.size≤G5 by rw[hG5];exact B1.size);clear hW1 hG5 b11;have e49:=(T1.cell 49).trans (show C.toArray[49]? =some (.int .i64 wh) by simpa using BC.o);obtain⟨A3,P1⟩:=zh2 (B7.call A1.o) (show Below w.heap.size w W1 from B0.trans (A1.mono B0.size));go_upto_if 15 with(fail)
 go_cut [] (fun wx=>∃cav:Value,Hid (Blk wx G5 34 (reqv (xd8 c S) cav (.slice Al1 nl cl1)).toArray)∧Hid (OwnC wx w.heap.size cav (xd8 c S).cavs)∧Hid (OwnB wx w.heap.size (.slice Al1 nl cl1) S.r.leaf)∧Hid (Below W0.heap.size W0 wx))
 case first=>
  by_cases hw0:0≤wh
  ·
   have q0:(wh:Int) ≥ 0:=zo;obtain⟨idn,hidn⟩:∃m:Nat,(S.who % 4294967296).toNat=m:=⟨_,rfl⟩;have hidl:idn<4294967296:=zo;have hu:IntKind.u32.wrap wh=(idn:Int):=by rw[IntKind.wrap_u32];rw[←AA.o];omega
   obtain⟨HU,C1,A5⟩:=zh3 hu hidn hidn;clear hidn;have rkl:(qmw c.seed).length=32:=qkf _ _;have rkb:∀x∈qmw c.seed,x<256:=qkg _ _;obtain⟨BJ,BK⟩:=zh2 rkl rkb;clear rkl rkb;go_upto_region 3 with(fail)
   rw[show decide (0≤wh)=true from decide_eq_true hw0];obtain⟨S',HS⟩:∃S':World→Prop,Hid (∀w',S' w'=(Below W1.heap.size W1 w'∧w'.cell? ⟨gw,0,none⟩=some (.pointer (some ⟨tb,0,none⟩))∧w'.cell? ⟨w.heap.size,49,none⟩=some (.int .i64 wh))):=⟨_,fun _=>rfl⟩;have mkS:Hid (∀w',Below W1.heap.size W1 w'→S' w'):=fun w' h=>by
    rw[HS.o];exact⟨h,(((A3.call h).blk).cell 0).trans rfl,(h.cell (p:=⟨w.heap.size,49,none⟩) T1.lt).trans e49⟩
   obtain⟨RV,hRV⟩:∃V:Value,.agg (byv (qmw c.seed)).toArray=V:=⟨_,rfl⟩;obtain⟨TV,hTV⟩:∃V:Value,.agg (tokv idn (.slice none 0 0) (qke (qmw c.seed) idn)).toArray=V:=⟨_,rfl⟩;obtain⟨AC,AN⟩:=zh2 hRV hTV;clear hRV hTV;refine qpg S' 11 [21,25,6] [(0,false),(1,false),(2,false),(3,false),(4,false),(6,false),(7,false),(8,false)] 3 [(5,[]),(9,[5]),(10,[])] [(11,true)] #[true,true,true,true,true,false,true,true,true,false,false,false] #[true,true,true,true,true,true,true,true,true,true,true,false] zk rfl zk zk zk zk zk zk (fun _ _ d _ _ h=>by cases d<;>exact h) (mkS.o _ (tA5 _ W1).drew) ?_;clear e49;iterate 8 (refine qkb rfl rfl ⟨?_,fun w1 hS=>?_,?_⟩;rotate_left;(focus(rw[HS.o]at hS;go_split_ands;go_simp;try rfl));simp only[Act.put,tA0,tA1,tA2])
   refine qka ?_;refine⟨fun Dn vs w'=>∃v21 v25 v6,vs=[v21,v25,v6]∧RtI W1.heap.size w' (Dn 5) (Dn 9) (Dn 10) RV TV v21 v25 v6,⟨[_,_,_],rfl,_,_,_,rfl,?_⟩,⟨?_,?_,?_,trivial⟩,?_⟩
   · exact⟨fun h=>(nomatch h),fun h=>(nomatch h),fun h=>(nomatch h),tA4 _⟩
   ·
    rintro Dn vs w' hS ⟨v21,v25,v6,rfl,hI⟩ hD hd;simp only[puts,Act.put,tA0,tA1,tA2];have hb:=((HS.o _).mp hS).1;refine qpj fun K hK=>qk6 rfl rfl ?_
    go_simp;with_reducible refine zcb (xai gw tb c A0 n0 k0 w' (A3.o.call hb) HC.o.seedb HC.o.seed) fun w2 b2=>?_
    rw[AC.o];exact hK _ _ ⟨mkS.o _ (hb.trans (b2.mono hb.size)),[_,_,_],rfl,_,_,_,rfl,by simpa using (hI.call b2).a5 true⟩
   ·
    rintro Dn vs w' hS ⟨v21,v25,v6,rfl,hI⟩ hD hd;simp only[puts,Act.put,tA0,tA1,tA2];have hb:=((HS.o _).mp hS).1;have d5:=hd 5 zm;have e5:=hI.root d5;rw[e5]at hI;rw[e5];refine qpj fun K hK=>qk6 rfl rfl ?_
    go_simp;rw[←AC.o];with_reducible refine zcb (xad tb (qmw c.seed) idn w' BJ.o BK.o hidl (A3.o.call hb).tab) fun w2 b2=>?_
    rw[AN.o,AC.o];exact hK _ _ ⟨mkS.o _ (hb.trans (b2.mono hb.size)),[_,_,_],rfl,_,_,_,rfl,by simpa [d5] using (hI.call b2).a9 true⟩
   · rintro Dn vs w' hS ⟨v21,v25,v6,rfl,hI⟩ hD hd
     simp only[puts,Act.put,tA0,tA1,tA2];have hb:=((HS.o _).mp hS).1;refine qpj fun K hK=>qk6 rfl rfl ?_
     go_simp;exact hK _ _ ⟨mkS.o _ (hb.alloc hb.size _),[_,_,_],rfl,_,_,_,rfl,by simpa using (show RtI W1.heap.size (w'.alloc (.cells zLT 31)) (Dn 5) (Dn 9) true RV TV v21 v25 (.pointer (some ⟨w'.heap.size,0,none⟩)) from hI.a10 true)⟩
   rintro vs w5 hS5 ⟨v21,v25,v6,rfl,hI⟩;simp only[puts,Act.put,tA0,tA1,tA2];have e25:=hI.tok rfl;obtain⟨X,rfl,lX,zX⟩:=hI.box rfl;have b5:=((HS.o _).mp hS5).1;subst e25;rw[←AN.o];obtain⟨L0,hL0⟩:=xeq (tokv idn (.slice none 0 0) (qke (qmw c.seed) idn));have lL0:L0.length=34:=by rw[←hL0];exact qdg _ _ _ (qkf _ _)
   have oL0:∀v∈L0,v.oneCell'=true:=by rw[←hL0];exact qeh _ _ rfl _
   rw[hL0];clear hI hS5 HS mkS;refine qbj rfl rfl ?_;refine wp_store_row 31 (.tmp 6) (.tmp 25) rfl X L0.toArray rfl rfl 31 _ zX (by rw[tB6,lL0];exact Tryz.tok_info) (by simp[lL0,qgz,qdg]) (by simpa using oL0) ?_;refine⟨fun h=>absurd h zdc,?_⟩;obtain⟨W2,hW2⟩:=eqx (w5.setRow X L0.toArray);rw[←hW2];obtain⟨X2,B2,BL,LX⟩:=zh4 (show Blk W2 X 31 L0.toArray by rw[hW2];exact zX.setRow _) (show Below W1.heap.size W1 W2 by rw[hW2];exact below_setRow b5 lX _) hL0 lX;clear hW2 zX b5 hL0 lL0 oL0 lX;refine zP ?_;refine qbg ?_;go_wp2_with fail
   go_loopw [7,8,9,37] (fun i _ _ _ wr=>∃(k:Nat) (x:Tok) (v:Value),k≤nk∧k≤4∧i=.int .i64 k∧Hid ((S.cavs.take k).foldl xch (qkq (qmw c.seed) idn)=x)∧Hid x.Ok∧x.2.1.length≤k∧Hid (Blk wr X 31 (tokv x.1 v x.2.2).toArray)∧Hid (OwnC wr W1.heap.size v x.2.1)∧Hid (Below W1.heap.size W1 wr)) (fun i _ _ _ _=>4 - (intOf i).toNat)
   case atStart=>exact⟨0,qkq (qmw c.seed) idn,.slice none 0 0,by omega,by omega,rfl,by rw[List.take_zero];exact rfl,qku _ _ hidl,by simp[qkq],by rw[show tokv (qkq (qmw c.seed) idn).1 (.slice none 0 0) (qkq (qmw c.seed) idn).2.2=L0 from BL.o];exact X2.o,OwnC.nil _ _,B2.o⟩
   case round=>
    obtain⟨k,x,v,hk,hk4,rfl,hg,hxo,hxl,hX,hv,hb⟩:=hrel;have tr:=T1.below hb.o T1.lt;have tc50:=(tr.cell 50).trans (show C.toArray[50]? =some (.slice Ak nk ck) by simpa using BD.o);have e50:=tc50;have T0cell:=(((A3.call hb.o).blk).cell 0).trans (show (#[.pointer (some ⟨tb,0,none⟩),.int .i64 c.width,.int .i64 c.quantum,.int .u32 (c.store:Int),.slice A0 n0 k0]:Array Value)[0]? =some (.pointer (some ⟨tb,0,none⟩)) from rfl);by_cases hk2:k<nk∧k<4
    ·
     have hkn:k<nk:=hk2.1;have qk:(k:Int)<nk:=zo;have hk4':k<4:=hk2.2;have q4:(k:Int)<4:=zo;obtain⟨cav,hcav⟩:∃c,S.cavs[k]? =some c:=⟨_,tA7 (by rw[AK.o];exact hkn)⟩;obtain⟨gb,go,hA,hgb,hrd⟩:=B8.mid zo zo;obtain⟨e0,e1⟩:=qdj S.cavs k cav hcav;have hgb1:gb<W1.heap.size:=tB0 hgb A1.size;have m0:=(hb.cell (p:=⟨gb,go+k*2,none⟩) hgb1).trans ((A1.cell (p:=⟨gb,go+k*2,none⟩) hgb).trans (hrd _ _ e0));have m1:=(hb.cell (p:=⟨gb,go+(k*2+1),none⟩) hgb1).trans ((A1.cell (p:=⟨gb,go+(k*2+1),none⟩) hgb).trans (hrd _ _ e1));subst hA;obtain⟨kk,NN⟩:=cav;dsimp only at m0 m1;rw[←Nat.add_assoc]at m1;have AD:=zh1 hcav;have hgbr:gb<wr.heap.size:=tB0 hgb1 hb.size;obtain⟨S',HS⟩:∃S':World→Prop,Hid (∀w',S' w'=Below wr.heap.size wr w'):=⟨_,fun _=>rfl⟩;have AO:=zh1 (A3.call hb.o);have FC:Hid (∀w',S' w'→w'.rangeAt gb (go+k*2) [.int .i64 kk,.int .u32 (NN:Int)]):=fun w' h j u hu=>by
      rw[HS.o]at h;rw[h.cell (p:=⟨gb,go+k*2+j,none⟩) hgbr];match j,hu with
      |0,hu=>simp at hu;subst hu;exact m0
      |1,hu=>simp at hu;subst hu;exact m1
     have F1:Hid (∀w',S' w'→w'.cell? ⟨w.heap.size,50,none⟩=some (.slice (some ⟨gb,go,none⟩) nk ck)):=fun w' h=>by
      rw[HS.o]at h;rw[h.cell (p:=⟨w.heap.size,50,none⟩) tr.lt];exact e50
     have F2:Hid (∀w',S' w'→w'.cell? ⟨gw,0,none⟩=some (.pointer (some ⟨tb,0,none⟩))):=fun w' h=>by
      rw[HS.o]at h;rw[h.cell (p:=⟨gw,0,none⟩) AO.blk.lt];exact T0cell
     obtain⟨Ax,nx,cx,rfl,enx,ncx,-,rx⟩:=hv.sl;have hN:NN<4294967296:=B9.o (kk,NN) (tB2 AD.o);have N3:=fun w' (h:Below wr.heap.size wr w')=>xd5 tb x Ax nx cx kk NN w' (rx.call h) ncx zo hxo.o.2.2.1 hxo.o.2.2.2 hN ((AO.call h).tab)
     have lX3:=qdg x.1 (.slice Ax nx cx) x.2.2 hxo.o.2.2.1;have x3:=hX.o;obtain⟨E,hE⟩:=xeq (tokv x.1 (.slice Ax nx cx) x.2.2);simp only[hE]at N3;rw[hE]at x3 lX3;have FX:Hid (∀w',S' w'→w'.rangeAt X 0 E):=fun w' h=>by
      rw[HS.o]at h;exact qap (x3.below h x3.lt) 0 E zjq
     obtain⟨BM,BN,BO,X3,BP,Hok',Hlen'⟩:=zh7 (zI 31 lX3) (show (Tryz.prog.info? 132).map (·.size)=some [Value.int .i64 kk,.int .u32 (NN:Int)].length by kernel_rfl) N3 x3 lX3 (qkv x (kk,NN) hxo.o hN) (qkw x (kk,NN));obtain⟨r,hr⟩:=xeq (qkl x (kk,NN));obtain⟨AP,HV,BQ⟩:=zh3 hr hv.o hE;simp only[hr]at N3;have AQ:=zh1 N3;rw[hr]at Hok' Hlen';clear N3 BO x3 hN lX3 hE enx ncx rx hX hv m0 m1 e0 e1 hrd hcav hgbr hr tc50 T0cell tr hgb hgb1;go_upto_region 7 with(fail)
     refine qk3 S' 17 [48,37,49,50,8] [(0,false),(1,false),(2,false),(3,false),(4,false),(5,false),(6,false),(7,false),(8,false),(9,false)] 5 (.two 10 (.read 11 (.read 12 (.read 13 (.one 14 .done)))) 14 (.one 10 (.read 11 (.read 12 (.read 13 .done))))) [(15,true),(16,false)] #[true,true,true,true,true,true,true,true,true,true,false,false,false,false,false,false,false] #[true,true,true,true,true,true,true,true,true,true,true,true,true,true,true,false,false] zk rfl zk zk zk zk zk (fun _ _ d _ _ h=>by cases d<;>exact h) ((HS.o _).mpr (tA5 _ wr).drew) ?_;iterate 3 (refine qkb rfl rfl ⟨?_,fun w1 hS=>?_,?_⟩;rotate_left;(focus(have g1:=F2.o w1 hS;go_simp;try rfl));simp only[Act.put,tA0,tA1,tA2])
     iterate 1 (refine qkb rfl rfl ⟨?_,fun w1 hS=>?_,?_⟩;rotate_left;(focus(have g1:=F2.o w1 hS;go_simp;try rfl));simp only[Act.put,tA0,tA1,tA2])
     refine qpi rfl rfl 31 (.tmp 6) rfl X 0 rfl E _ FX.o Tryz.underlying31 rfl BM.o ?_;refine zP ?_;iterate 4 (refine qkb rfl rfl ⟨?_,fun w1 hS=>?_,?_⟩;rotate_left;(focus(have g1:=F1.o w1 hS;go_simp;try rfl));simp only[Act.put,tA0,tA1,tA2])
     refine qpi rfl rfl 132 (.tmp 46) rfl gb (go+k*2) rfl [.int .i64 kk,.int .u32 (NN:Int)] _ FC.o Tryz.underlying132 rfl BN.o ?_;refine zP ?_;refine qka ?_;have hwdwr:Below wr.heap.size wr wr.drew:=(tA5 _ _).drew;obtain⟨Wdwr,hWdwr⟩:=eqx wr.drew;have HWdwr:=zh1 hWdwr;rw[←hWdwr]at hwdwr ⊢;clear hWdwr;refine⟨fun vs w'=>∃A4 n4 c4 g9,vs=[.tuple #[.agg (tokv r.1.1 (.slice A4 n4 c4) r.1.2.2).toArray,.int .i64 (r.2:Nat)],.tuple #[.agg (tokv r.1.1 (.slice A4 n4 c4) r.1.2.2).toArray,.int .i64 (r.2:Nat)],.agg (tokv r.1.1 (.slice A4 n4 c4) r.1.2.2).toArray,.int .i64 (r.2:Nat),.pointer (some ⟨g9,0,none⟩)]∧OwnC w' wr.heap.size (.slice A4 n4 c4) r.1.2.1∧Blk w' g9 31 qgz.toArray∧wr.heap.size≤g9∧Below wr.heap.size wr w',?_,?_⟩
     ·
      refine qk9 rfl rfl rfl rfl ?_ ?_
      ·
       go_simp;refine(AQ.o Wdwr hwdwr).mono ?_;rintro e w4 ⟨v4,rfl,o4,b4⟩;obtain⟨A4,n4,c4,rfl,-,-,-,-⟩:=o4.sl;obtain⟨F,hF⟩:=xeq (tokv r.1.1 (.slice A4 n4 c4) r.1.2.2);rw[hF];have b4':=hwdwr.trans (b4.mono hwdwr.size);have o4':=OwnC.mono o4 hwdwr.size;obtain⟨HF,HO,HB⟩:=zh3 hF o4' b4';clear hF o4 b4 o4' b4';refine⟨(HS.o _).mpr HB.o,?_⟩;refine zP ?_;iterate 3 (refine ztr ?_)
       refine qk7 rfl rfl ?_;go_simp;refine⟨(HS.o _).mpr (HB.alloc HB.size _),qk4 ⟨[_,_,_,_,_],rfl,A4,n4,c4,w4.heap.size,by rw[HF.o],HO.alloc _,Blk.new _ _ _,HB.size,HB.alloc HB.size _⟩⟩
      go_simp;obtain⟨w3,hw3⟩:=eqx (Wdwr.alloc (.cells zLT 31));rw[←hw3];have z3:Blk w3 Wdwr.heap.size 31 qgz.toArray:=by rw[hw3];exact Blk.new _ _ _
      have b3:Below wr.heap.size wr w3:=by rw[hw3];exact hwdwr.alloc hwdwr.size _
      clear hw3;refine⟨(HS.o _).mpr b3,?_⟩;refine qk7 rfl rfl ?_;go_simp;refine(AQ.o w3 b3).mono ?_;rintro e w4 ⟨v4,rfl,o4,b4⟩;obtain⟨A4,n4,c4,rfl,-,-,-,-⟩:=o4.sl;obtain⟨F,hF⟩:=xeq (tokv r.1.1 (.slice A4 n4 c4) r.1.2.2);rw[hF];have b4':=b3.trans (b4.mono b3.size);have o4':=OwnC.mono o4 b3.size;have z4:=z3.below b4 z3.lt;obtain⟨HF,HO,HB,HZ⟩:=zh4 hF o4' b4' z4;clear hF o4 b4 o4' b4' z4 z3 b3;refine⟨(HS.o _).mpr HB.o,?_⟩;refine zP ?_;iterate 3 (refine ztr ?_)
      refine qk4 ⟨[_,_,_,_,_],rfl,A4,n4,c4,Wdwr.heap.size,by rw[HF.o],HO.o,HZ.o,hwdwr.size,HB.o⟩
     rintro vs w4 - ⟨AE,nK1,cK1,gK1,rfl,o4,z9,l9,b4⟩;simp only[puts,Act.put,tA0,tA1,tA2];obtain⟨A6,hF,hlF,hoF,iF⟩:=xd2 r.1.1 AE nK1 cK1 r.1.2.2 Hok'.o.2.2.1;rw[hF];refine qbj rfl rfl ?_;refine wp_store_row 31 (.tmp 8) (.tmp 49) rfl gK1 A6.toArray rfl rfl 31 _ z9 iF (by simp[hlF,qgz,qdg]) (by simpa using hoF) ?_;obtain⟨AF,hW9⟩:=eqx (w4.setRow gK1 A6.toArray);rw[←hW9];have fK1:Blk AF gK1 31 A6.toArray:=by rw[hW9];exact z9.setRow _
     have bK1:Below wr.heap.size wr AF:=by rw[hW9];exact below_setRow b4 l9 _
     have oK1:OwnC AF wr.heap.size (.slice AE nK1 cK1) r.1.2.1:=by rw[hW9];exact tB3 o4 (qam _ _ _) (.inr (qa3 o4 z9 zdc))
     obtain⟨A7,AG,AH,AI,BR⟩:=zh5 hlF hoF iF hF l9;clear hW9 z9 b4 o4 iF hlF hoF hF l9;refine⟨fun _=>(HS.o _).mpr bK1,?_⟩;refine zP ?_;iterate 1 (refine zrb ?_)
     refine qbg ?_;obtain⟨q,hq⟩:=xeq r.2;rw[hq];obtain⟨AB,BS,BT,AR,C2,A8,AS,BU⟩:=zh8 (X3.below bK1 X3.lt) (qap fK1 0 A6 zjq) (zI 31 A7.o) oK1 bK1 (hb.trans (bK1.mono hb.size)) hq (HV.kept bK1);clear fK1 bK1 oK1 hq FC F1 F2 FX HS;by_cases h0:q=0
     ·
      have h0':(q:Int)=0:=zo;go_wp2_with (first
       |(refine zld BS.o zu31 BT.o ?_)
       |(refine wpList_store_row rfl 31 (.tmp 6) (.tmp 53) rfl X A6.toArray rfl rfl 31 _ AB.o AH.o (by simp[A7.o,BP.o]) (by simpa using AG.o) ?_))
      go_roundw
      case rel=>
       have hstep:(S.cavs.take (k+1)).foldl xch (qkq (qmw c.seed) idn)=r.1:=by
        rw[xd7 AD.o,hg.o];unfold xch;rw[AP.o,if_pos (by rw[AS.o,h0])]
       refine⟨k+1,r.1,.slice AE nK1 cK1,by omega,by omega,by go_num,hstep,Hok'.o,?_,?_,?_,?_⟩
       · have:=Hlen'.o
         omega
       · rw[AI.o]
         exact AB.setRow _
       · exact OwnC.mono (tB3 AR.o (qam _ _ _) (.inr (qa3 AR.o AB.o zdc))) hb.size
       exact below_setRow A8.o LX.o _
      case measure=>simp[intOf];omega
     have h0':¬(q:Int)=0:=zo;go_wp2
     go_roundw
     case rel=>
      have hstep:(S.cavs.take (k+1)).foldl xch (qkq (qmw c.seed) idn)=x:=by
       rw[xd7 AD.o,hg.o];unfold xch;rw[AP.o,if_neg (by rw[AS.o];exact h0)]
      refine⟨k+1,x,.slice Ax nx cx,by omega,by omega,by go_num,hstep,hxo,by omega,?_,BU.o,A8.o⟩;rw[BQ.o];exact AB.o
     case measure=>simp[intOf];omega
    have hq:(k:Int)<nk∧¬(k:Int)<4∨¬(k:Int)<nk:=zo;rcases hq with⟨qk,q4⟩|qk;all_goals
     have hfin:(S.cavs.take 4).foldl xch (qkq (qmw c.seed) idn)=x:=by rw[←xdd (l:=S.cavs) (k:=k) (by rw[AK.o];omega) hk4];exact hg.o
     have q9:=Q1.below hb.o Q1.lt;have lE:=qdg x.1 v x.2.2 hxo.o.2.2.1;have oE:=qeh x.1 v (by obtain⟨A',n',c',rfl,-⟩:=hv.sl;rfl) x.2.2;have hov:over Q 1 (tokv x.1 v x.2.2)=reqv (xd8 c S) v (.slice Al1 nl cl1):=by
      have ht:xci c S=x:=by unfold xci;rw[←hfin,A5.o]
      rw[←HQ.o,xdc S.r x _ v _ HG.tag hxo.o.2.2.1];unfold xd8;rw[if_pos (by rw[AA.o];omega),ht]
     have hcv:(xd8 c S).cavs=x.2.1:=by
      have ht:xci c S=x:=by unfold xci;rw[←hfin,A5.o]
      unfold xd8;rw[if_pos (by rw[AA.o];omega),ht]
     obtain⟨E,hE⟩:=xeq (tokv x.1 v x.2.2);have x9:=hX.o;rw[hE]at lE oE hov x9;obtain⟨A9,AT,BV,OE,QB,CB⟩:=zh6 (qap x9 0 E zjq) (zI 31 lE) (show wr.there G5 1 E.toArray.size from fun j hj=>⟨by rw[q9.cell,tA3,tA7 (by have h0:E.toArray.size=34:=List.size_toArray.trans lE;rw[LQ.o];omega)];simp,q9.frozen _⟩) (all_oneCell_toArray oE) (show Blk (wr.setCells G5 1 E) G5 34 (reqv (xd8 c S) v (.slice Al1 nl cl1)).toArray by rw[←hov];exact qno E 1 wr Q q9 (by rw[LQ.o,lE];decide)) (show OwnC (wr.setCells G5 1 E) w.heap.size v (xd8 c S).cavs by rw[hcv];exact OwnC.mono (tB3 hv.o (qnp G5 E 1 wr) (.inr (qa3 hv.o q9 zdc))) P1.size);have ol9:=AL.kept hb.o;obtain⟨LB,BB⟩:=zh2 (show OwnB (wr.setCells G5 1 E) w.heap.size (.slice Al1 nl cl1) S.r.leaf from OwnB.mono (tB3 ol9 (qnp G5 E 1 wr) (.inr (qa3 ol9 q9 zdc))) B0.size) (show Below W0.heap.size W0 (wr.setCells G5 1 E) from(A1.trans (hb.mono A1.size)).grown (qnp G5 E 1 wr) (tB1 A1.size hb.size) (by intro g hg;injection hg with hg;have:=AM.o;omega));clear hfin q9 lE oE hov hcv hE x9 ol9 tc50 T0cell tr hX hv;go_wp2_with (first
      |(refine zld A9.o zu31 AT.o ?_)
      |(refine wpList_store_mid rfl 31 (.tmp 55) (.tmp 54) rfl G5 1 E.toArray rfl rfl BV.o (by simpa using AT.o) OE.o ?_))
     go_meet
     case rel=>exact⟨v,QB,CB,LB,BB⟩
  have q0:¬(wh:Int) ≥ 0:=zo;go_wp2
  go_meet
  case rel=>
   have ht:xd8 c S=S.r:=by unfold xd8;rw[if_neg (by rw[AA.o];omega)]
   rw[ht];exact⟨_,by rw[HQ.o];exact Q1,OwnC.mono BI.o B0.size,OwnB.mono AL.o B0.size,A1⟩
 case rest=>
  obtain⟨cav,q9,oc9,ol9,b9⟩:=hcut;obtain⟨W5,rfl⟩:=eqx wc;have hT:=xd9 c S;have hlf:=xda c S;have htl:(xd8 c S).tag.length=32:=BA.o;have hcv1:cav.oneCell'=true:=by obtain⟨A',n',c',rfl,-⟩:=oc9.sl;rfl
  obtain⟨Q9,hQ9⟩:=xeq (reqv (xd8 c S) cav (.slice Al1 nl cl1));have l9:=qjd (xd8 c S) cav (.slice Al1 nl cl1) htl;have o9:=xag (xd8 c S) cav (.slice Al1 nl cl1) hcv1 rfl;have e9:Q9[47]? =some (.slice Al1 nl cl1):=by
   rw[←hQ9];exact(qdl (xd8 c S) cav (.slice Al1 nl cl1) htl 12).trans rfl
  rw[hQ9]at l9 o9 q9;have e47:=(q9.cell 47).trans (show Q9.toArray[47]? =some (.slice Al1 nl cl1) by rw[tA3];exact e9);have f47:=q9.frozen 47;obtain⟨Z5,AU⟩:=zh2 (Z0.below b9.o Z0.lt) (B0.trans (b9.mono B0.size));have hnl:nl=S.r.leaf.length:=by
   obtain⟨A',c',e,-⟩:=ol9.slice;injection e with e1 e2
  have hcl:nl≤cl1:=by
   obtain⟨A',n',c',e,h1,-⟩:=ol9.sl;injection e with e1 e2 e3;omega
  obtain⟨AV,LG,AW,L9,O9,TL,AX⟩:=zh7 hnl (show w.heap.size+1<G5 by have:=AM.o;have:=BE.o;omega) hQ9 l9 o9 htl hlf;have Q9':=q9;clear hnl hQ9 l9 o9 htl hlf hT e9 q9;by_cases h512:nl≤512
  ·
   have q5:¬(nl:Int)>512:=zo;obtain⟨A9,A2⟩:=zh2 (qap Q9'.o 0 Q9 zjq) (zI 34 L9.o);go_wp2_with (first
    |(refine zld A9.o zu34 A2.o ?_)
    |(refine zst Z5.o A2.o (by simp[L9.o]) O9.o ?_))
   have AJ:=qap (Z5.setRow Q9.toArray) 0 Q9 zjq;refine zrt AJ zu34 A2.o ⟨cav,.slice Al1 nl cl1,by rw[←AW.o];rfl,?_,?_,?_⟩
   · exact tB3 oc9.o (qam _ _ _) (.inr (qa3 oc9.o Z5.o zdc))
   · have e:(xcj c S).leaf=S.r.leaf:=by
      show (xd8 c S).leaf.take 512=_;rw[AX.o,tB5 (by rw[←AV.o];exact h512)]
     rw[e];exact tB3 ol9.o (qam _ _ _) (.inr (qa3 ol9.o Z5.o zdc))
   exact below_setRow AU.o zo _
  have q5:(nl:Int)>512:=zo;have q6:(512:Int)≤cl1:=zo;have l9':=qjd (xd8 c S) cav (.slice Al1 512 cl1) TL.o;have o9':=xag (xd8 c S) cav (.slice Al1 512 cl1) hcv1 rfl;have hs:=xaf (xd8 c S) cav (.slice Al1 nl cl1) (.slice Al1 512 cl1) TL.o;obtain⟨Qc,hQc⟩:=xeq (reqv (xd8 c S) cav (.slice Al1 512 cl1));rw[hQc]at l9' o9' hs;rw[AW.o]at hs;obtain⟨W6,hW6⟩:=eqx (W5.setCell ⟨G5,47,none⟩ (.slice Al1 512 cl1));have q6':Blk W6 G5 34 Qc.toArray:=by
   rw[hW6,←hs];have h:=Q9'.set_ 47 (.slice Al1 512 cl1);rwa[List.setIfInBounds_toArray]at h
  have z6:Blk W6 (w.heap.size+1) 34 zLQ:=by
   rw[hW6];exact Z5.far (p:=⟨G5,47,none⟩) (by have:=LG.o;simp;omega) _
  have b6:Below w.heap.size w W6:=by rw[hW6];exact AU.setCell (p:=⟨G5,47,none⟩) (by have:=LG.o;simp;omega) _
  have oc6:OwnC W6 w.heap.size cav (xd8 c S).cavs:=by rw[hW6];exact qal oc9.o (p:=⟨G5,47,none⟩) (qa3 oc9.o Q9'.o zdc) _
  have ol6:OwnB W6 w.heap.size (.slice Al1 nl cl1) S.r.leaf:=by rw[hW6];exact OwnB.far ol9.o (p:=⟨G5,47,none⟩) (qa3 ol9.o Q9'.o zdc) _
  obtain⟨A9,A2,Z6,B6,AY,BW,L9',O9'⟩:=zh8 (qap q6' 0 Qc zjq) (zI 34 l9') z6 b6 oc6 ol6 l9' o9';obtain⟨HQc,BX⟩:=zh2 hQc hW6;clear hs hQc hW6 q6' z6 b6 oc6 ol6 l9' o9';go_upto_region 13 with(fail)
  rw[←BX.o];go_wp2_with (first
   |(refine zld A9.o zu34 A2.o ?_)
   |(refine zst Z6.o A2.o (by simp[L9'.o]) O9'.o ?_))
  have AJ:=qap (Z6.setRow Qc.toArray) 0 Qc zjq;refine zrt AJ zu34 A2.o ⟨cav,.slice Al1 512 cl1,by rw[←HQc.o];rfl,?_,?_,?_⟩
  · exact tB3 AY.o (qam _ _ _) (.inr (qa3 AY.o Z6.o zdc))
  · have e:(xcj c S).leaf=S.r.leaf.take 512:=by
     show (xd8 c S).leaf.take 512=_;rw[AX.o]
    rw[e];have o:=xd6 BW.o (k:=512) (by rw[←AV.o];omega);exact tB3 o (qam _ _ _) (.inr (qa3 o Z6.o zdc))
  exact below_setRow B6.o zo _
theorem xdm(gw tb:Nat)(c:Cfg)(A0:Option Addr)(n0 k0:Nat)(S:Stp)(cs:List Value)(w:World)(hw:WldAt w gw tb c A0 n0 k0)(hc:c.Ok)(hs:StpR w cs S)(h140:S.raw.length≤140737488351232):
 Zc 37 #[.pointer (some ⟨gw,0,none⟩),.agg cs.toArray] w fun e w'=>∃v bs ok,e=.returned (.tuple #[v,.bool ok])∧OwnB w' w.heap.size v bs∧(∀b,bytesOf c S=some b→ok=true∧bs=b)∧(bytesOf c S=none→ok=false)∧Zb w w':=by
 have hs0:=hs;obtain⟨Ac,cc,Al,cl,Ak,ck,Ar,cr,rfl,hg,h1,h2,h3,⟨hr1,hr2,hr3,hr4⟩,h5,h6,h7⟩:=hs;have lC:=qoa S (.slice Ac S.r.cavs.length cc) (.slice Al S.r.leaf.length cl) (.slice Ak S.cavs.length ck) (.slice Ar S.raw.length cr) hg.tag;have c0:(stpv S (.slice Ac S.r.cavs.length cc) (.slice Al S.r.leaf.length cl) (.slice Ak S.cavs.length ck) (.slice Ar S.raw.length cr))[0]? =some (.int .i64 S.kind):=rfl;have c52:=qoc S (.slice Ac S.r.cavs.length cc) (.slice Al S.r.leaf.length cl) (.slice Ak S.cavs.length ck) (.slice Ar S.raw.length cr) hg.tag 3;obtain⟨C,hC⟩:=xeq (stpv S (.slice Ac S.r.cavs.length cc) (.slice Al S.r.leaf.length cl) (.slice Ak S.cavs.length ck) (.slice Ar S.raw.length cr));rw[hC]at lC c0 c52 hs0 ⊢;obtain⟨n,hn⟩:=xeq S.raw.length;obtain⟨kd,hkd⟩:=xeq S.kind;rw[hn]at c52 hr1 hr3 h140;rw[hkd]at c0 h6;obtain⟨W0,hW0⟩:=eqx (w.alloc (.cells C.toArray 44));have t0:=zNa hW0;have b0:=zMa hW0;have e0:=(t0.cell 0).trans (show C.toArray[0]? =some (.int .i64 kd) by simpa using c0);have e52:=(t0.cell 52).trans (show C.toArray[52]? =some (.slice Ar n cr) by simpa using c52);have CR:=xde gw tb c A0 n0 k0 S C W0 (hw.call b0) hc (hs0.stay b0.size (fun b hb=>b0.block b hb));obtain⟨A6,AI,AA,AD,HI,AE,AF,HN⟩:=zh8 b0 t0 (hr3.call b0) CR (zI 44 lC) (qap t0 0 C zjq) hW0 hn;obtain⟨A4,LW,GD,AG⟩:=zh4 hkd b0.size (xcw c hg h3.2.2.2.1 h3.2.2.2.2) hr4;clear hs0 hg h1 h2 h3 hr2 hr3 hr4 h5 h7 c0 c52 b0 t0 CR hn hkd hw lC hW0 hC;go_enter Tryz.func37,Tryz.ntmps37
 go_upto_region 1 with(fail)
 rw[←AF.o];by_cases hk:kd=5
 ·
  subst hk;by_cases h4:n≤400
  ·
   have q:¬(400:Int)<n:=zo;go_wp2_with (at_builtin;refine qe3 rfl _ _ rfl W0.heap.size _ [] rfl (OwnB.made W0 [] (by simp[maxLen])) Ar n cr S.raw rfl (AA.laid (.cells #[] 5)) (by simp;omega) zm ?_)
   intro v3 w3 hown3 hb3 hg3;obtain⟨A3,n3,c3,rfl,-,-,-⟩:=hown3.sl;obtain⟨O3,BB⟩:=zh2 hown3 (A6.trans ((((tA5 W0.heap.size W0).alloc (tA4 _) (.cells #[] 5)).trans hb3).mono LW.o));clear hown3 hb3 hg3;go_wp2
   go_ret2
   refine⟨_,S.raw,true,rfl,?_,fun b hb=>⟨rfl,?_⟩,fun h=>?_,BB.o⟩
   · exact(OwnB.mono O3.o LW.o).cast zm
   · unfold bytesOf at hb
     rw[if_pos A4.o]at hb;injection hb with hb;rw[←hb,tB5 (by rw[HN.o];omega)]
   unfold bytesOf at h;rw[if_pos A4.o]at h;cases h
  have q:(400:Int)<n:=zo;have q2:(400:Int)≤cr:=zo;have AH:=zh1 (show Reads W0 W0.heap.size 1 Ar 400 (byv (S.raw.take 400)) by
   have h:=AA.take (k:=400) zo;rw[Nat.mul_one]at h;have e:(byv S.raw).take 400=byv (S.raw.take 400):=by simp[byv,List.map_take]
   rw[←e];exact h)
  have hl4:(S.raw.take 400).length=400:=by rw[tBd,HN.o];omega
  have AJ:=zh1 hl4;clear hl4;go_wp2_with (at_builtin;refine qe3 rfl _ _ rfl W0.heap.size _ [] rfl (OwnB.made W0 [] (by simp[maxLen])) Ar 400 cr (S.raw.take 400) rfl (AH.laid (.cells #[] 5)) zm zm ?_)
  intro v3 w3 hown3 hb3 hg3;obtain⟨A3,n3,c3,rfl,-,-,-⟩:=hown3.sl;obtain⟨O3,BB⟩:=zh2 hown3 (A6.trans ((((tA5 W0.heap.size W0).alloc (tA4 _) (.cells #[] 5)).trans hb3).mono LW.o));clear hown3 hb3 hg3;go_wp2
  go_ret2
  refine⟨_,S.raw.take 400,true,rfl,?_,fun b hb=>⟨rfl,?_⟩,fun h=>?_,BB.o⟩
  · exact(OwnB.mono O3.o LW.o).cast zm
  · unfold bytesOf at hb
    rw[if_pos A4.o]at hb;injection hb with hb
  unfold bytesOf at h;rw[if_pos A4.o]at h;cases h
 go_wp2_with (refine zld AE.o zu44 HI.o ?_)
 refine AD.o.mono ?_;rintro e w1 ⟨cav,lv,rfl,oc,ol,b1⟩;obtain⟨A1,n1,c1,rfl,e1,k1,m1,r1⟩:=oc.sl;obtain⟨A2,c2,rfl,k2,m2,r2⟩:=ol.slice;subst e1;have EN:=xdl (xcj c S) A1 c1 A2 c2 w1 GD.fit r2 k2 m2 r1 k1 m1 GD.tid GD.cavn;obtain⟨R,hR⟩:=xeq (xcj c S);obtain⟨Q,hQ⟩:=xeq (reqv R (.slice A1 R.cavs.length c1) (.slice A2 R.leaf.length c2));obtain⟨q,hq⟩:=xeq ((qjc R).1);rw[hR]at EN ⊢;rw[hQ,hq]at EN;rw[hQ];obtain⟨AB,A7,A8,AC,A5⟩:=zh5 EN hR hq (A6.trans (b1.mono LW.o)) (tB1 LW.o b1.size);clear EN hR hQ hq oc ol b1 k1 m1 r1 k2 m2 r2;have hk5:¬S.kind=5:=by rw[A4.o];exact hk
 have A9:=zh1 hk5;clear hk5;by_cases hq0:q=0
 ·
  have q1:(q:Int)=0:=zo;go_wp2_with fail
  refine AB.o.mono ?_;rintro e w2 ⟨v,rfl,ob,b2⟩;obtain⟨OB,B2⟩:=zh2 ob (AC.trans (b2.mono A5.o));clear ob b2;go_wp2
  go_ret2
  refine⟨v,_,true,rfl,OwnB.mono OB.o A5.o,fun b hb=>⟨rfl,?_⟩,fun h=>?_,B2.o⟩
  · unfold bytesOf at hb
    rw[if_neg A9.o,A7.o,if_pos (by rw[A8.o,hq0])]at hb;injection hb
  unfold bytesOf at h;rw[if_neg A9.o,A7.o,if_pos (by rw[A8.o,hq0])]at h;cases h
 have q1:¬(q:Int)=0:=zo;have q2:((q:Int)==0)=false:=by simpa using q1
 go_wp2_with fail
 refine AB.o.mono ?_;rintro e w2 ⟨v,rfl,ob,b2⟩;obtain⟨OB,B2⟩:=zh2 ob (AC.trans (b2.mono A5.o));clear ob b2;go_wp2
 go_ret2
 refine⟨v,_,false,rfl,OwnB.mono OB.o A5.o,fun b hb=>?_,fun h=>rfl,B2.o⟩;unfold bytesOf at hb;rw[if_neg A9.o,A7.o,if_neg (by rw[A8.o];exact hq0)]at hb;cases hb
theorem xdn(R:Req)(ht:R.tag.length=32):(qjc R).2.length≤4294967400:=by
 have h1:=qjf R;have h2:=qeb R.tid R.cavs R.tag ht;unfold qjc;split
 · split
   · simp only[tA6,txt,tBi,List.length_nil,qaw,tBd]
     omega
   simp
 simp
theorem xdo(c:Cfg){S:Stp}(hr:S.r.Good)(h1:∀x∈S.cavs,x.2<4294967296)(h2:∀x∈S.cavs,(Lit.int .i64 x.1).wf=true)(h:bytesOf c S=some bs):bs.length≤140737488355328:=by
 have hg:=xcw c hr h1 h2;unfold bytesOf at h;split at h
 · injection h with h
   rw[←h,tBd];omega
 split at h
 · injection h with h
   rw[←h];have:=xdn (xcj c S) hg.tag;omega
 cases h
theorem xdp(h:Sit W B w col g gw tb c s)(hc:c.Ok)(S:Stp)(cs:List Value)(hs:StpR w cs S)(h140:S.raw.length≤140737488351232):
 Zc 15 #[.pointer (some ⟨g,0,none⟩),.pointer (some ⟨gw,0,none⟩),.agg cs.toArray] w fun e w'=>∃v col',e=.returned v∧OwnB w' w.heap.size v (xck c s S).2∧(∀g,v.ownBlock=some g→col' g=0)∧Sit W B w' col' g gw tb c (xck c s S).1∧Rest w col w' col':=by
 obtain⟨AV,hAV⟩:=xeq (xck c s S);rw[hAV];have c0:cs[0]? =some (.int .i64 S.kind)∧cs[52 - 1]? =some (.int .u32 (S.n:Int))∧cs.length=53∧(Lit.int .i64 S.kind).wf=true∧S.n<4294967296∧S.r.Good∧(∀x∈S.cavs,x.2<4294967296)∧(∀x∈S.cavs,(Lit.int .i64 x.1).wf=true)∧∀b∈S.raw,b<256:=by
  obtain⟨Ac,cc,Al,cl,Ak,ck,Ar,cr,rfl,hg,h1,h2,⟨k1,k2,k3,k4,k5⟩,⟨hr1,hr2,hr3,hr4⟩,h5,h6,h7⟩:=hs;exact⟨rfl,qoc S _ _ _ _ hg.tag 2,qoa S _ _ _ _ hg.tag,h6,h5,hg,k4,k5,hr4⟩
 obtain⟨c0,c51,lC,hwf,hn32,good,k4,k5,hr4⟩:=c0;obtain⟨W0,hW0⟩:=eqx (w.alloc (.cells cs.toArray 44));have t0:=zNa hW0;have b0:=zMa hW0;obtain⟨kd,hkd⟩:=xeq S.kind;rw[hkd]at c0;have e0:=(t0.cell 0).trans (show cs.toArray[0]? =some (.int .i64 kd) by simpa using c0);have e51:=(t0.cell 51).trans (show cs.toArray[51]? =some (.int .u32 (S.n:Int)) by simpa using c51);obtain⟨A0,n0,k0,hw0,-⟩:=h.wld;have CB:=xdm gw tb c A0 n0 k0 S cs W0 (hw0.call b0) hc (hs.stay b0.size (fun b hb=>b0.block b hb)) h140;obtain⟨HI,A7,A8,A4,A5,AC,A2,A1⟩:=zh8 (zI 44 lC) (qap t0 0 cs zjq) CB (h.call b0) b0 hW0 hAV hkd;obtain⟨HC,HN,AA,AB,LW⟩:=zh5 hc hn32 (fun(b:List Nat)(hb:bytesOf c S=some b)=>xcx c good k4 k5 hr4 hb) (fun(b:List Nat)(hb:bytesOf c S=some b)=>xdo c good k4 k5 hb) b0.size;clear CB hw0 h hs hAV hkd hc b0 hW0 t0 c0 c51 lC hwf hn32 good k4 k5 hr4;go_enter Tryz.func15,Tryz.ntmps15
 go_upto_region 1 with(fail)
 rw[←AC.o];by_cases h2:kd=2
 ·
  subst h2;go_wp2_with fail
  refine(xau A4.o HC.o).mono ?_;rintro e w1 ⟨rfl,col1,s1,r1⟩;obtain⟨S1,R1⟩:=zh2 s1 ((Rest.of_below A5.o).trans r1);clear s1 r1;go_wp2
  go_ret
  have hav:=A2.o;unfold xck at hav;rw[if_pos A1.o]at hav;refine⟨_,col1,rfl,?_,?_,?_,R1.o⟩
  · rw[←hav];exact OwnB.nil _ _
  · intro g hg;cases hg
  rw[←hav];exact S1.o
 by_cases h3:kd=3
 ·
  subst h3;go_wp2_with fail
  refine(xav A4.o).mono ?_;rintro e w1 ⟨rfl,s1,r1⟩;obtain⟨S1,R1⟩:=zh2 s1 ((Rest.of_below A5.o).trans r1);clear s1 r1;go_wp2
  go_ret
  have hav:=A2.o;unfold xck at hav;rw[if_neg (by rw[A1.o];decide),if_pos A1.o]at hav;refine⟨_,col,rfl,?_,?_,?_,R1.o⟩
  · rw[←hav];exact OwnB.nil _ _
  · intro g hg;cases hg
  rw[←hav];exact S1.o
 by_cases h4:kd=4
 ·
  subst h4;go_wp2_with fail
  refine(xaw A4.o S.n HN.o).mono ?_;rintro e w1 ⟨rfl,s1,r1⟩;obtain⟨S1,R1⟩:=zh2 s1 ((Rest.of_below A5.o).trans r1);clear s1 r1;go_wp2
  go_ret
  have hav:=A2.o;unfold xck at hav;rw[if_neg (by rw[A1.o];decide),if_neg (by rw[A1.o];decide),if_pos A1.o]at hav;refine⟨_,col,rfl,?_,?_,?_,R1.o⟩
  · rw[←hav];exact OwnB.nil _ _
  · intro g hg;cases hg
  rw[←hav];exact S1.o
 by_cases h1:kd=1
 ·
  subst h1;go_wp2_with (refine zld A7.o zu44 HI.o ?_)
  refine A8.o.mono ?_;rintro e w1 ⟨v,bs,ok,rfl,ob,hy,hn,b1⟩;obtain⟨OB,S1,B1⟩:=zh3 ob (A4.call b1) (A5.trans (b1.mono LW.o));clear ob b1;cases hby:bytesOf c S with
  |none=>
   have hok:=hn hby;subst hok;have A3:=zh1 hby;clear hy hn hby;go_wp2
   go_ret
   have hav:=A2.o;unfold xck at hav;rw[if_neg (by rw[A1.o];decide),if_neg (by rw[A1.o];decide),if_neg (by rw[A1.o];decide),if_pos (by rw[A1.o];decide),A3.o]at hav;refine⟨_,col,rfl,?_,?_,?_,Rest.of_below B1.o⟩
   · rw[←hav];exact OwnB.nil _ _
   · intro g hg;cases hg
   rw[←hav];exact S1.o
  |some b=>
   obtain⟨hok,hb⟩:=hy b hby;subst hok hb;obtain⟨A3,LB,BT⟩:=zh3 hby (AB.o bs hby) (AA.o bs hby);clear hy hn hby;obtain⟨A9,n9,c9,rfl,-,-,r9⟩:=OB.sl;have hn9:=qb5 r9;obtain⟨R9,N9⟩:=zh2 r9 (show n9≤140737488355328 by rw[←hn9];exact LB.o);clear r9 hn9;go_wp2_with fail
   refine(xd0 S1.o HC.o bs A9 n9 c9 R9.o N9.o BT.o).mono ?_;rintro e w2 ⟨v,col2,rfl,ov,hcol,s2,r2⟩;obtain⟨OV,A6,S2,R2,L2⟩:=zh5 ov hcol s2 ((Rest.of_below B1.o).trans r2) B1.size;clear ov hcol s2 r2;go_wp2
   go_ret
   have hav:=A2.o;unfold xck at hav;rw[if_neg (by rw[A1.o];decide),if_neg (by rw[A1.o];decide),if_neg (by rw[A1.o];decide),if_pos (by rw[A1.o];decide),A3.o]at hav;refine⟨v,col2,rfl,?_,A6.o,?_,R2.o⟩
   · rw[←hav];exact OwnB.mono OV.o L2.o
   rw[←hav];exact S2.o
 by_cases h5:kd=5
 ·
  subst h5;go_wp2_with (refine zld A7.o zu44 HI.o ?_)
  refine A8.o.mono ?_;rintro e w1 ⟨v,bs,ok,rfl,ob,hy,hn,b1⟩;obtain⟨OB,S1,B1⟩:=zh3 ob (A4.call b1) (A5.trans (b1.mono LW.o));clear ob b1;cases hby:bytesOf c S with
  |none=>
   have hok:=hn hby;subst hok;have A3:=zh1 hby;clear hy hn hby;go_wp2
   go_ret
   have hav:=A2.o;unfold xck at hav;rw[if_neg (by rw[A1.o];decide),if_neg (by rw[A1.o];decide),if_neg (by rw[A1.o];decide),if_pos (by rw[A1.o];decide),A3.o]at hav;refine⟨_,col,rfl,?_,?_,?_,Rest.of_below B1.o⟩
   · rw[←hav];exact OwnB.nil _ _
   · intro g hg;cases hg
   rw[←hav];exact S1.o
  |some b=>
   obtain⟨hok,hb⟩:=hy b hby;subst hok hb;obtain⟨A3,LB,BT⟩:=zh3 hby (AB.o bs hby) (AA.o bs hby);clear hy hn hby;obtain⟨A9,n9,c9,rfl,-,-,r9⟩:=OB.sl;have hn9:=qb5 r9;obtain⟨R9,N9⟩:=zh2 r9 (show n9≤140737488355328 by rw[←hn9];exact LB.o);clear r9 hn9;go_wp2_with fail
   refine(xd0 S1.o HC.o bs A9 n9 c9 R9.o N9.o BT.o).mono ?_;rintro e w2 ⟨v,col2,rfl,ov,hcol,s2,r2⟩;obtain⟨OV,A6,S2,R2,L2⟩:=zh5 ov hcol s2 ((Rest.of_below B1.o).trans r2) B1.size;clear ov hcol s2 r2;go_wp2
   go_ret
   have hav:=A2.o;unfold xck at hav;rw[if_neg (by rw[A1.o];decide),if_neg (by rw[A1.o];decide),if_neg (by rw[A1.o];decide),if_pos (by rw[A1.o];decide),A3.o]at hav;refine⟨v,col2,rfl,?_,A6.o,?_,R2.o⟩
   · rw[←hav];exact OwnB.mono OV.o L2.o
   rw[←hav];exact S2.o
 go_wp2
 go_ret
 have hav:=A2.o;unfold xck at hav;rw[if_neg (by rw[A1.o];exact h2),if_neg (by rw[A1.o];exact h3),if_neg (by rw[A1.o];exact h4),if_neg (by rw[A1.o];omega)]at hav;refine⟨_,col,rfl,?_,?_,?_,Rest.of_below A5.o⟩
 · rw[←hav];exact OwnB.nil _ _
 · intro g hg;cases hg
 rw[←hav];exact A4.o
def xdq (x y:Int)(st:Nat)(bs:List Nat):Cfg:={width:=1+within (wrap64 (x - 1)) 0 31,quantum:=1+within (wrap64 (y - 1)) 0 1,store:=st % 32769,seed:=bs.take 64}
theorem xdr(x y:Int)(st:Nat)(bs:List Nat)(hb:∀b∈bs,b<256):(xdq x y st bs).Ok:=by
 have h1:=qlg (wrap64 (x - 1)) 0 31 zo;have h2:=qlg (wrap64 (y - 1)) 0 1 zo;refine⟨?_,?_,?_,?_,?_,?_,?_⟩
 · show 1≤1+within (wrap64 (x - 1)) 0 31;omega
 · show 1+within (wrap64 (x - 1)) 0 31≤32;omega
 · show 1≤1+within (wrap64 (y - 1)) 0 1;omega
 · show 1+within (wrap64 (y - 1)) 0 1≤2;omega
 · show st % 32769≤32768;omega
 · show (bs.take 64).length≤64;rw[tBd];omega
 intro b h;exact hb b (tB7 h)
theorem xds(x y:Int)(st:Nat)(A:Option Addr)(n k:Nat)(bs:List Nat)(w:World)(hr:Reads w w.heap.size 1 A n (byv bs))(hx: -9223372036854775808≤x∧x≤9223372036854775807)(hy: -9223372036854775808≤y∧y≤9223372036854775807)(hst:st<4294967296)(hnk:n≤k)(hn:n≤140737488351232):
 Zc 12 #[.agg #[.int .i64 x,.int .i64 y,.int .u32 (st:Int),.slice A n k]] w fun e w'=>∃A' n' k',e=.returned (.agg #[.int .i64 (xdq x y st bs).width,.int .i64 (xdq x y st bs).quantum,.int .u32 ((xdq x y st bs).store:Int),.slice A' n' k'])∧Reads w' w'.heap.size 1 A' n' (byv (xdq x y st bs).seed)∧(∀ad,A'=some ad→w.heap.size≤ad.block)∧Zb w w':=by
 refine(xcf x y st A n k bs w hr hx hy hst hnk hn).mono ?_;rintro e w' ⟨v,rfl,ho,hb⟩;obtain⟨A',n',k',rfl,-,-,r⟩:=ho.sl;refine⟨A',n',k',rfl,r,fun ad e=>?_,hb⟩;rcases ho.2 with⟨e',_⟩|⟨g,cap,cur,e',hb',_⟩
 · injection e' with e1 e2 e3
   rw[e1]at e;cases e
 injection e' with e1 e2 e3;rw[e1]at e;injection e with e;rw[←e];exact hb'
theorem xdt(h:Reads w w.heap.size size A n xs)(hg:w.grownBy w' (some b))(hA:∀ad,A=some ad→ad.block≠b):Reads w' w'.heap.size size A n xs:=
 ⟨h.1,fun hn=>by
  obtain⟨ad,e,hl,hc⟩:=h.2 hn;refine⟨ad,e,tB0 hl hg.size,fun j u hu=>?_⟩;refine(World.cell?_of_block ?_).trans (hc j u hu);rw[qa1];exact hg.block _ hl (fun e'=>by injection e' with e';exact hA ad e e')⟩
theorem xdu(hT:Tabs W)(hE:ErrT W)(b1:Zb W w1)(r1:Reads w1 w1.heap.size 1 A n (byv c.seed))
 (m2:Mdl w2 col 2 g c (newS c) L css)(z2:∀b,b<w1.heap.size→col b=0)(b2:Zb w1 w2)(wa4:WldAt w4 gw tb c A n k)(lg:w2.heap.size≤gw)(lt:w2.heap.size≤tb)(b4:Zb w2 w4):Sit W w4.heap.size w4 col g gw tb c (newS c):=by
 refine Sit.make quv m2 b4 wa4 lg lt (fun h0 ad e=>?_) hT hE (fun b hb=>z2 b (tB0 hb b1.size)) (b1.trans (b2.mono b1.size));obtain⟨ad',e',hlt,_⟩:=r1.2 h0;rw[e]at e';injection e' with e';subst e';exact z2 _ hlt
def xdv (c:Cfg)(s:Sta)(l:List Stp):Sta:=l.foldl (fun s S=>(xck c s S).1) s
theorem xdw{l:List Stp}{S:Stp}(h:l[k]? =some S):xdv c s (l.take (k+1))=(xck c (xdv c s (l.take k)) S).1:=by
 obtain⟨hk,e⟩:=tA8 h;unfold xdv;rw[List.take_succ_eq_append_getElem hk,List.foldl_append,e];rfl
structure CpAt (w:World)(col cc:Col)(L:Loc)(css:List (List Value))(s:Sta):Prop where
 st:StAt 92 74 66 w cc 2 L css s
 own:∀b,cc b≠0→b<w.heap.size∧col b=0
theorem xdx(h:Sit W B w col g gw tb c s):
 Zc 16 #[.pointer (some ⟨g,0,none⟩)] w fun e w'=>∃cc L css,e=.returned (.agg (stav s L).toArray)∧CpAt w' col cc L css s∧Zb w w'∧Sit W B w' col g gw tb c s:=by
 refine(xcb h).mono ?_;rintro e w' ⟨cc,L,css,rfl,h1,h2,h3,h4⟩;exact⟨cc,L,css,rfl,⟨h1,fun b hb=>⟨(h2 b hb).2,h.new0 (h2 b hb).1⟩⟩,h3,h4⟩
theorem xdy(t u:Tre):(t.state=u.state∧t.tenant=u.tenant∧t.weight=u.weight∧t.deficit=u.deficit∧t.hd=u.hd∧t.draws=u.draws∧t.leaves=u.leaves∧t.queue=u.queue) ↔ t=u:=by
 cases t
 cases u
 simp only[Tre.mk.injEq];constructor
 · rintro ⟨a,b,c,d,e,f,g,h⟩
   simp_all
 intro h;simp_all
instance decTre:DecidableEq Tre:=fun t u=>decidable_of_iff _ (xdy t u)
theorem xdz(s t:Sta):(s.clock=t.clock∧s.draw=t.draw∧s.lane=t.lane∧s.tens=t.tens∧s.gras=t.gras∧s.tres=t.tres) ↔ s=t:=by
 cases s
 cases t
 simp only[Sta.mk.injEq];constructor
 · rintro ⟨a,b,c,d,e,f⟩
   simp_all
 intro h;simp_all
instance decSta:DecidableEq Sta:=fun s t=>decidable_of_iff _ (xdz s t)
theorem xec{R:Rsp}(h:(qj3 R).2≠[]):qj3 R=(0,(qj3 R).2):=by
 have h1:(qj3 R).1=0:=by
  unfold qj3 at h ⊢;split
  · rename_i q;rw[if_pos q]at h;exact absurd rfl h
  rename_i q
  rw[if_neg q]at h;split
  · rename_i q2;rw[if_pos q2]at h;exact absurd rfl h
  rename_i q2
  rw[if_neg q2]at h;split
  · rfl
  rename_i q3;rw[if_neg q3]at h;exact absurd rfl h
 rw[←h1]
theorem xed(l:List Nat)(h:∀x∈l,x<256):∀x∈txt l,x<256:=by
 intro x hx;unfold txt at hx;rcases List.mem_append.1 hx with hx|hx
 · exact qaz _ _ x hx
 exact h x (tB7 hx)
theorem xee(id:Nat)(l:List (Int × Nat))(tag:List Nat)(h:∀x∈tag,x<256):∀x∈(qdb id l tag).2,x<256:=by
 unfold qdb;split
 · intro x hx;cases hx
 split
 ·
  intro x hx;simp only[tBg]at hx;rcases hx with((hx|hx)|hx)|hx
  · exact qaz _ _ x hx
  · exact qaz _ _ x hx
  · unfold cavb at hx
    obtain⟨c,-,hx⟩:=List.mem_flatMap.1 hx;rcases List.mem_append.1 hx with hx|hx<;>exact qaz _ _ x hx
  exact h x hx
 intro x hx;cases hx
theorem xef(R:Rsp)(hR:R.Ok):∀x∈ansB R,x<256:=by
 intro x hx;unfold ansB at hx;simp only[tBg]at hx;rcases hx with hx|hx|hx|hx|hx|hx|hx|hx
 · exact qaz _ _ x hx
 · exact qaz _ _ x hx
 · exact xed _ hR.bytes x hx
 · exact qaz _ _ x hx
 · obtain⟨d,hd,hx⟩:=List.mem_flatten.1 hx
   exact(hR.hashes d hd).2 x hx
 · exact qaz _ _ x hx
 ·
  split at hx
  · cases hx
  unfold hdB at hx;simp only[tBg]at hx;rcases hx with hx|hx|hx|hx|hx|hx
  · exact qaz _ _ x hx
  · exact qaz _ _ x hx
  · exact qaz _ _ x hx
  · exact qaz _ _ x hx
  · exact hR.hd.rootb x hx
  exact hR.hd.tagb x hx
 split at hx
 · cases hx
 exact xed _ (xee _ _ _ hR.tok.2.2.2) x hx
theorem xeg:∀(l:List (List Nat)),(∀d∈l,d.length=32)→l.flatten.length=l.length*32
 |[],_=>rfl
 |d::l,h=>by
  rw[List.flatten_cons,tA6,xeg l (fun x hx=>h x (List.mem_cons_of_mem _ hx)),h d zm,tBi];omega
theorem xeh(l:List Nat):(txt l).length≤65538:=by
 unfold txt;rw[tA6,qaw,tBd];omega
theorem xei{R:Rsp}(hR:R.Ok){x:List Nat}(h:qj3 R=(0,x)):(∀y∈x,y<256)∧x.length≤300000:=by
 unfold qj3 at h;split at h
 · cases h
 rename_i h1
 split at h
 · cases h
 split at h
 ·
  injection h with _ h;subst h;refine⟨xef R hR,?_⟩;unfold ansB;have h3:=xeh R.bytes;have h4:=xeg R.hashes (fun d hd=>(hR.hashes d hd).1);have h6:=xeh (tokR R.tok).2;have h7:(hdB R.hd).length=85:=by
   unfold hdB;simp only[tA6,qaw,hR.hd.rootl,hR.hd.tagl]
  have h8:R.hashes.length≤255:=zo;simp only[tA6,qaw];split<;>split<;>(try simp only[List.length_nil])<;>omega
 cases h
theorem xej{S:Stp}(hs:s.Ok)(hr:S.r.Good)(h1:∀x∈S.cavs,x.2<4294967296)(h2:∀x∈S.cavs,(Lit.int .i64 x.1).wf=true)(h3:∀b∈S.raw,b<256)(h:(xck c s S).2≠[]):
 ∃a:Rsp,a.Ok∧qj3 a=(0,(xck c s S).2)∧(a.why≠0→(xck c s S).1=s∧∃y,a=rWhy y):=by
 unfold xck at h ⊢;split
 · rename_i q;rw[if_pos q]at h;exact absurd rfl h
 rename_i q1
 rw[if_neg q1]at h;split
 · rename_i q;rw[if_pos q]at h;exact absurd rfl h
 rename_i q2
 rw[if_neg q2]at h;split
 · rename_i q;rw[if_pos q]at h;exact absurd rfl h
 rename_i q3
 rw[if_neg q3]at h;split
 ·
  rename_i q4
  rw[if_pos q4]at h;rcases hb:bytesOf c S with _|b
  · rw[hb]at h;exact absurd rfl h
  rw[hb]at h;dsimp only at h ⊢;have hlt:=xcx c hr h1 h2 h3 hb;rcases hd:(qio b).1 with _|y
  ·
   rw[quj hd]at h ⊢;dsimp only at h ⊢;have hg:=xcr b hlt;have hok:=xas (c:=c) hs hg;obtain⟨⟨s',a⟩,hx⟩:∃x,doS c s (qio b).2=x:=⟨_,rfl⟩;have hrf:=fun hw=>qwf (c:=c) (s:=s) (r:=(qio b).2) hw
   rw[hx]at h hok hrf ⊢;dsimp only at h hok hrf ⊢;refine⟨a,hok,xec h,fun hw=>?_⟩;obtain⟨y,-,e⟩:=hrf hw;injection e with e1 e2;exact⟨e1,y,e2⟩
  rw[qui hd]at h ⊢;dsimp only at h ⊢;exact⟨rWhy 12,xal 12,xec h,fun _=>⟨rfl,12,rfl⟩⟩
 rename_i q;rw[if_neg q]at h;exact absurd rfl h
theorem xer{bx:List (Nat × TypeId × Array Value)}(h:Enc w0 g bx m w bs)(y:Bool)(hm:m≤4200000000):
 Zc 109 #[.pointer (some ⟨g,0,none⟩),.bool y] w fun e w'=>e=.returned (.tuple #[])∧Enc w0 g bx (m+8) w' (bs++be (if y then 1 else 0) 1):=by
 obtain⟨C0,C1⟩:=zh2 (h.num 0 0 rfl 1 1 zdc zdc hm) (h.num 1 1 rfl 1 1 zdc zdc hm);clear h hm;cases y
 ·
  go_enter Tryz.func109,Tryz.ntmps109
  go_wp2_with fail
  refine zcb C0.o fun w1 e9=>?_
  have E1:=zh1 e9;clear e9;go_wp2
  go_end0
  exact⟨rfl,E1.o⟩
 go_enter Tryz.func109,Tryz.ntmps109
 go_wp2_with fail
 refine zcb C1.o fun w1 e9=>?_
 have E1:=zh1 e9;clear e9;go_wp2
 go_end0
 exact⟨rfl,E1.o⟩
theorem Tryz.u32_info:(Tryz.prog.info? 22).map (fun i=>(i.zero,i.size,i.bytes))=some (some (.int .u32 0),1,4):=by kernel_rfl
theorem xes{ops:Array Oper}{x0 x1 x2 x3 x4:Operand}
 (h:wpList Tryz.prog ops Q rest (a.put o.dst (.slice (some ⟨w.heap.size,0,none⟩) 5 5)) (w.alloc (.cells #[.int .u32 n0,.int .u32 n1,.int .u32 n2,.int .u32 n3,.int .u32 n4] 22)))
 (hg:o.guard=none:=by rfl)(ho:o.op=.buildSlice 71 5 #[(0,x0),(1,x1),(2,x2),(3,x3),(4,x4)]:=by rfl)
 (e0:a.eval x0=.int .u32 n0:=by rfl)(e1:a.eval x1=.int .u32 n1:=by rfl)(e2:a.eval x2=.int .u32 n2:=by rfl)(e3:a.eval x3=.int .u32 n3:=by rfl)(e4:a.eval x4=.int .u32 n4:=by rfl):wpList Tryz.prog ops Q (o::rest) a w:=by
 obtain⟨i0,hi0,hz0,hz1,hz2⟩:=info_parts Tryz.u32_info;refine wpList_buildSlice hg 71 22 5 _ ho _ i0 _ Tryz.underlying71 hi0 hz0 (by rw[hz1];omega) (by rw[hz1];omega) ?_ h;rw[hz1];simp only[List.map_toArray,List.map_cons,List.map_nil,e0,e1,e2,e3,e4];simp[Instr.fill,Value.cells,show Array.range 5=#[0,1,2,3,4] from by decide]
theorem xet{bx:List (Nat × TypeId × Array Value)}(h:Enc w0 g bx m w bs)(hp:(gp,184,#[.pointer (some ⟨g,0,none⟩)])∈bx)(hm:m≤4000000000)(A:Option Addr)(n c:Nat)(l:List (List Nat))(hl:TextsR w0 A n l)(hn:n≤1024)(h4:∀b∈l,b.length≤400):
 Zc 106 #[.slice A n c,.pointer (some ⟨gp,0,none⟩)] w fun e w'=>e=.returned (.tuple #[])∧Enc w0 g bx (m+8+n*410) w' (bs++xek l):=by
 have c0:w.cell? ⟨gp,0,none⟩=some (.pointer (some ⟨g,0,none⟩)):=(h.box _ hp).1.cell 0;have u1:IntKind.u64.wrap (n:Int)=(n:Int):=tBa _ zo;obtain⟨C0,HL,HN,H4,HM,HP⟩:=zh6 (h.num n n rfl 2 2 zdc zo zo) hl hn h4 hm hp;clear h hl h4 hm hp hn;go_enter Tryz.func106,Tryz.ntmps106
 go_wp2_with fail
 refine zcb C0.o fun w1 e9=>?_
 have E1:=zh1 e9;clear e9;clear c0 u1;go_wp2_with fail
 go_loopw [12] (fun i wr=>∃j:Nat,j≤n∧i=.int .i64 j∧Hid (Enc w0 g bx (m+8+j*410) wr (bs++be n 2++(l.take j).flatMap txt))) (fun i _=>n - (intOf i).toNat)
 case atStart=>exact⟨0,by omega,rfl,zh1 (by simpa using E1.o)⟩
 case round=>
  obtain⟨j,hj,rfl,he⟩:=hrel;have hn:=HN.o;by_cases hlt:j<n
  ·
   have p1:(j:Int)<n:=zo;have p0:(0:Int)≤j:=zo;obtain⟨b,o,t,A',n',c',rfl,hb,ht,hc,h1,h2,h3⟩:=HL.at_ hlt;have c1:=(he.below.cell (p:=⟨b,o+j,none⟩) hb).trans hc;have c0:wr.cell? ⟨gp,0,none⟩=some (.pointer (some ⟨g,0,none⟩)):=(he.box _ HP.o).1.cell 0;obtain⟨A0,A1⟩:=zh2 (he.txt t A' n' c' h3 h1 h2 (H4.o t (tB2 ht)) (by have:=HN.o;have:=HM.o;omega)) ht;clear hc h1 h2 h3 ht hb;go_wp2_with fail
   refine zcb A0.o fun w2 e9=>?_
   have E2:=zh1 e9;clear e9;clear c0 c1;go_wp2
   go_roundw
   case rel=>exact⟨j+1,by omega,by go_num,zh1 (by rw[xep txt A1.o];exact E2.mono zo)⟩
   case measure=>simp[intOf];omega
  have p1:¬(j:Int)<n:=zo;obtain rfl:j=n:=zo;have he':=he.o;rw[x_q txt (by rw[HL.o.1];exact tA4 _),List.append_assoc,show be j 2++l.flatMap txt=xek l from by rw[xek,HL.o.1]]at he';have HE:=zh1 he';clear he' he;go_wp2
  go_end0
  exact⟨rfl,HE.o⟩
end Go.Proofs.YthomgopipiomhaaGreatDoor

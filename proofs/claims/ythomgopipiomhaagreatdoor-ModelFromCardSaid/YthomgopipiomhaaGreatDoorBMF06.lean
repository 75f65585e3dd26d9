/- Lemmas. -/
import Derived.Test.YthomgopipiomhaaGreatDoorBMF05
namespace Go.Proofs.YthomgopipiomhaaGreatDoor
open Go.RowKit
set_option linter.unusedVariables false
set_option linter.unusedSimpArgs false
set_option maxRecDepth 100000
set_option maxHeartbeats 32000000
variable {x:Int}{R:Req}{w:World}{v:Value}{o:Oper}{P:Program}
theorem xcn(R:Req)(h1:1≤R.op)(h2:R.op≤12)(hs:qld R=false):qi2 R=(1,[]):=by
 obtain⟨op,tid,cavs,tag,tree,tenant,role,state,weight,id,lo,hi,rate,burst,store,expires,leaf⟩:=R;simp only at h1 h2;have h:op=1∨op=2∨op=3∨op=4∨op=5∨op=6∨op=7∨op=8∨op=9∨op=10∨op=11∨op=12:=zo;rcases h with rfl|rfl|rfl|rfl|rfl|rfl|rfl|rfl|rfl|rfl|rfl|rfl;all_goals
  simp[qld,qlb,qdl,isByte]at hs;try simp[qi2,fieldsOf,qi1,qi0,Req.num]
  try(repeat' split)
  all_goals first|rfl|omega|(intros;omega)|(exfalso;omega)|simp_all
theorem xco(R:Req)(h1:1≤R.op)(h2:R.op≤12)(hs:qld R=true)(hl:R.op=1→R.leaf.length≤256)(l:List Fld)(hf:fieldsOf R.op=some l):qi2 R=(0,be R.op.toNat 1++l.flatMap (fldB R)):=by
 refine xcm R l hf fun f hm=>?_
 obtain⟨op,tid,cavs,tag,tree,tenant,role,state,weight,id,lo,hi,rate,burst,store,expires,leaf⟩:=R;simp only at h1 h2 hl hf;have h:op=1∨op=2∨op=3∨op=4∨op=5∨op=6∨op=7∨op=8∨op=9∨op=10∨op=11∨op=12:=zo;rcases h with rfl|rfl|rfl|rfl|rfl|rfl|rfl|rfl|rfl|rfl|rfl|rfl;all_goals
  simp[qld,qlb,qdl,isByte]at hs;injection hf with hf;subst hf;simp only[List.mem_cons,List.not_mem_nil,or_false]at hm;first
   |(rcases hm with rfl|rfl|rfl|rfl<;>simp[qi0,Req.num]<;>omega)
   |(rcases hm with rfl|rfl|rfl<;>simp[qi0,Req.num]<;>omega)
   |(rcases hm with rfl|rfl<;>simp[qi0,Req.num]<;>omega)
   |(subst hm;simp[qi0,Req.num]<;>omega)
   |(subst hm;simp[qi0,Req.num])
theorem xcp(h:qld R=true)(hm:x∈qlb R):∃n:Nat,Hid (x=(n:Int))∧n≤255∧Hid (n % 256=n)∧IntKind.u8.wrap (n:Int)=n:=by
 have hb:=List.all_eq_true.1 h x hm;unfold isByte at hb;have hb:=of_decide_eq_true hb;exact⟨x.toNat,show x=(x.toNat:Int) by omega,by omega,Nat.mod_eq_of_lt zo,IntWalk.u8_in _ zo⟩
theorem xcq(R:Req)(h1:R.op=1)(hs:qld R=true)(hl:256<R.leaf.length):qi2 R=(3,[]):=by
 obtain⟨op,tid,cavs,tag,tree,tenant,role,state,weight,id,lo,hi,rate,burst,store,expires,leaf⟩:=R;simp only at h1 hl;subst h1;simp[qld,qlb,qdl,isByte]at hs;simp[qi2,fieldsOf,qi1,qi0,Req.num];simp[hs,hl]
theorem xcr(R:Req)(cav:Value)(Al:Option Addr)(cl:Nat)(w:World)(hR:R.Fit)(hleaf:Reads w w.heap.size 1 Al R.leaf.length (byv R.leaf))(hlc:R.leaf.length≤cl)(hc:cl≤maxLen):
 Zc 39 #[.agg (reqv R cav (.slice Al R.leaf.length cl)).toArray] w fun e w'=>∃v,e=.returned (.tuple #[v,.int .i64 ((qi2 R).1:Int)])∧OwnB w' w.heap.size v (qi2 R).2∧Zb w w':=by
 by_cases hn:1≤R.op∧R.op≤12
 ·
  have hsm:=fun w'=>qli R cav (.slice Al R.leaf.length cl) w' hR.tag hn.1 hn.2
  have hrr:=qdk R cav (.slice Al R.leaf.length cl) hR.tag;have hlen:=qix R cav (.slice Al R.leaf.length cl) hR.tag;obtain⟨k,hk⟩:=xeq R.op;have r0:(reqv R cav (.slice Al R.leaf.length cl))[0]? =some (.int .i64 k):=by rw[←hk];rfl
  rw[hk]at hn;obtain⟨h1,h2⟩:=hn;obtain⟨L,hL⟩:=xeq (reqv R cav (.slice Al R.leaf.length cl));rw[hL]at hrr r0 hlen ⊢;simp only[hL]at hsm;obtain⟨kn,hkn⟩:∃n:Nat,(n:Int)=k:=⟨k.toNat,by omega⟩;have t1:Blk (w.alloc (.cells L.toArray 34)) w.heap.size 34 L.toArray:=Blk.new w _ _;have B3:Zb w (w.alloc (.cells L.toArray 34)):=(tA5 _ _).alloc (tA4 _) _;obtain⟨HC,A4,KE,KM,KN⟩:=zh5 (show ∀(i:Nat) (v:Value),L[i]? =some v→L.toArray[i]? =some v from fun i v h=>by simpa using h) (zI 34 hlen) (show R.op.toNat=kn by omega) (show kn % 256=kn by omega) hkn;have kw:IntKind.u8.wrap k=k:=IntWalk.u8_in _ zo;obtain⟨A5,A3,R0,HK⟩:=zh4 hsm hrr r0 hk;obtain⟨FD,A2,A6⟩:=zh3 (show ∀(j i:Nat),j=35+i→∀(W:World),Blk W w.heap.size 34 L.toArray→∀(v:Value),(R.rest (.slice Al R.leaf.length cl))[i]? =some v→W.cell? ⟨w.heap.size,j,none⟩=some v from fun j i e W t v h=>by subst e;exact(t.cell _).trans (HC.o _ _ ((A3.o i).trans h))) (And.intro h1 h2) (qap t1 0 L zjq);have c0:=(t1.cell 0).trans (HC.o _ _ r0);have n1:¬k<1:=zo;have n2:¬12<k:=zo;clear hsm hrr r0 hk hlen hL hkn h1 h2;go_enter Tryz.func39,Tryz.ntmps39
  go_wp2_with (refine zld A6.o zu34 A4.o ?_)
  refine zcb (A5.o _) fun w1 hb1=>?_
  replace t1:=t1.below hb1 (by rw[qar];omega);replace B3:=B3.trans (hb1.mono B3.size);have c0:=(t1.cell 0).trans (HC.o _ _ R0.o);have hs1:w.heap.size+1≤w1.heap.size:=t1.lt;have hs2:w.heap.size<w1.heap.size:=t1.lt;clear hb1;cases hs:qld R with
  |false=>
   have H:=zh1 (xcn R (by have:=A2.o;have:=HK.o;omega) (by have:=A2.o;have:=HK.o;omega) hs);clear hs;go_wp2
   go_ret2
   exact⟨_,by rw[H.o];rfl,by rw[H.o];exact OwnB.nil _ _,B3⟩
  |true=>
   have A0:=zh1 hs;clear hs;have d47:=(t1.cell 47).trans (HC.o _ _ ((A3.o 12).trans (show _=some (.slice Al R.leaf.length cl) from rfl)));by_cases hlong:k=1∧256<R.leaf.length
   · obtain⟨rfl,hb⟩:=hlong
     have H:=zh1 (xcq R HK.o A0.o hb);go_wp2
     go_ret2
     exact⟨_,by rw[H.o];rfl,by rw[H.o];exact OwnB.nil _ _,B3⟩
   have HL:=zh1 (show k=1→R.leaf.length≤256 from fun h=>Nat.le_of_not_lt fun hb=>hlong ⟨h,hb⟩);clear hlong;go_upto_region 3 with(fail)
   go_cut [26] (fun s26 wx=>s26=.bool false∧wx=w1)
   case first=>
    by_cases h1:k=1
    · have hb:¬(256:Int)<R.leaf.length:=by have:=HL.o h1;omega
      subst h1;go_wp2
      go_meet
      case rel=>exact⟨rfl,rfl⟩
    have hb:(k==1)=false:=by simpa using h1
    go_wp2
    go_meet
    case rel=>exact⟨rfl,rfl⟩
   case rest=>
    obtain⟨rfl,rfl⟩:=hcut;have hown:OwnB (wc.alloc (.cells #[.int .u8 k] 5)) (w.heap.size+1) (.slice (some ⟨wc.heap.size,0,none⟩) 1 1) [kn]:=by
     have h:=(OwnB.made wc [kn] (by simp[maxLen])).mono hs1;rw[show (byv [kn]).toArray=#[.int .u8 k] by rw[←KN.o];rfl]at h;exact h
    clear d47;go_wp2_with fail
    refine(qla _ _).mono ?_;rintro e w2 ⟨rfl,rfl⟩;replace t1:=t1.alloc (.cells #[.int .u8 k] 5);replace B3:=B3.alloc B3.size (.cells #[.int .u8 k] 5);clear c0;have c0:=(t1.cell 0).trans (HC.o _ _ R0.o);have A1:=zh1 (show qdl k=true→R.tree.toNat % 256=R.tree.toNat from fun hb=>by
     obtain⟨tr,trE,trl,-,-⟩:=xcp A0.o (x:=R.tree) (by simp[qlb,HK.o,hb]);rw[trE.o];omega)
    go_upto_if 33 with(fail)
    go_cut [4] (fun s4 wx=>∃A n c,s4=.slice A n c∧Hid (OwnB wx (w.heap.size+1) (.slice A n c) ([kn]++if qdl k then [R.tree.toNat] else []))∧Hid (Blk wx w.heap.size 34 L.toArray)∧Hid (Zb w wx))
    case first=>
     cases hb:qdl k with
     |false=>
      obtain⟨HX,HO,HT,HB⟩:=zh4 hb hown t1 B3;clear hb hown t1 B3;go_wp2
      go_meet
      case rel=>exact⟨_,_,_,rfl,by rw[HX.o];exact HO,HT,HB⟩
     |true=>
      have HX:=zh1 hb;obtain⟨tr,trE,trl,trm,trw⟩:=xcp A0.o (x:=R.tree) (by simp[qlb,HK.o,hb]);clear hb;have d35:=FD.o 35 0 rfl _ t1 _ rfl;rw[trE.o]at d35;go_wp2_with (at_builtin;refine qe2 rfl _ _ rfl (w.heap.size+1) _ _ rfl (hown.alloc (.cells (byv [tr]).toArray 5)) _ _ _ [tr] rfl (qe7 _ [tr] _ zm _ rfl) (by first|(simp;done)|(split<;>simp)) (by first|(simp only[qar];omega)| (have:=t1.lt;simp only[qar]at*;omega)) ?_)
      intro v2 w2 hown2 hb2 hg2;replace t1:=(t1.alloc (.cells (byv [tr]).toArray 5)).below hb2 zo;replace B3:=(B3.alloc B3.size (.cells (byv [tr]).toArray 5)).trans (hb2.mono zo);replace hown:=hown2;have c0:=(t1.cell 0).trans (HC.o _ _ R0.o);have hs2:w.heap.size<w2.heap.size:=t1.lt;clear hb2 hg2 hown2;obtain⟨HO,HT,HB⟩:=zh3 hown t1 B3;clear hown t1 B3 d35;go_wp2
      go_meet
      case rel=>
       obtain⟨As,ns,cs,rfl,-,-,-⟩:=HO.sl;exact⟨_,_,_,rfl,by rw[HX.o,trE.o];exact HO,HT,HB⟩
    case rest=>
     obtain⟨A,n,c,rfl,ho,Ht,HB⟩:=hcut;clear c0 t1 B3 hown hs1 hs2;have hown:=ho.o;have t1:=Ht.o;have B3:=HB.o;have c0:=(t1.cell 0).trans (HC.o _ _ R0.o);have hs2:w.heap.size<wc.heap.size:=t1.lt;clear ho Ht HB;have h12:=A2.o;clear A2 kw n1 n2;go_upto_block 0 with fail
     go_cut [4] (fun s4 wx=>∃A n c,s4=.slice A n c∧Hid (OwnB wx w.heap.size (.slice A n c) (qi2 R).2)∧Hid ((qi2 R).1=0)∧Hid (Zb w wx))
     case first=>
      have h12':k=1∨(k=2∨k=9)∨k=3∨(k=4∨k=5)∨k=6∨k=7∨k=8∨k=10∨k=11∨k=12:=zo;clear h12;rcases h12' with rfl|h29|rfl|h45|rfl|rfl|rfl|rfl|rfl|rfl
      ·
       have d47:=FD.o 47 12 rfl _ t1 _ rfl;have t1l:=t1.lt;obtain⟨A9,n9,c9,e9,-,-,hr9⟩:=hown.sl;injection e9 with q1 q2 q3;subst q1 q2 q3;go_wp2_with fail
       refine(qhc _ Al _ R.leaf.length _ cl _ R.leaf _ hr9 (hleaf.call B3) (by first|(simp;done)|(split<;>simp)) hlc hc).mono ?_;rintro e w2 ⟨v2,rfl,hown2,hb2⟩;replace hown:=hown2.mono (show w.heap.size+1≤_ from t1l);replace t1:=t1.below hb2 t1l;replace B3:=B3.trans (hb2.mono B3.size);have H:=zh1 (xco R (by rw[HK.o];decide) (by rw[HK.o];decide) A0.o (fun _=>by have:=HL.o;simpa using this) [(1,1,35),(0,0,0)] (by rw[HK.o];rfl));obtain⟨HO,HB⟩:=zh2 ((hown.mono (Nat.le_succ _)).cast (show (qi2 R).2=_ by rw[H.o];simp[KE.o,KM.o,A1.o rfl,qhf,fldB,Req.num,qdl])) B3;clear hown hown2 hb2 hr9 B3;go_wp2
       go_meet
       case rel=>
        obtain⟨As,ns,cs,e9,-,-,-⟩:=HO.sl;exact⟨As,ns,cs,e9,by rw[←e9];exact HO,zh1 (by rw[H.o]),HB⟩
      · rcases h29 with rfl|rfl
        all_goals
         have H:=zh1 (xco R (by rw[HK.o];decide) (by rw[HK.o];decide) A0.o (fun h=>absurd (HK.symm.trans h) zdc) [(1,1,35)] (by rw[HK.o];rfl));obtain⟨HO,HB⟩:=zh2 ((hown.mono (Nat.le_succ _)).cast (show (qi2 R).2=_ by rw[H.o];simp[KE.o,KM.o,A1.o,qhf,fldB,Req.num,qdl,A1.o rfl])) B3;clear hown B3;go_wp2
         go_meet
         case rel=>
          obtain⟨As,ns,cs,e9,-,-,-⟩:=HO.sl;exact⟨As,ns,cs,e9,by rw[←e9];exact HO,zh1 (by rw[H.o]),HB⟩
      ·
       have d41:=FD.o 41 6 rfl _ t1 _ rfl;have hb41:R.lo<18446744073709551616:=by have:=hR.num 41;simp[Req.num]at this;omega
       have hw41:IntKind.u64.wrap ((R.lo:Nat):Int)=(R.lo:Nat):=tBa _ zo;have t1l:=t1.lt;go_wp2_with fail
       obtain⟨A9,n9,c9,e9,-,-,hr9⟩:=hown.sl;first|subst e9|(injection e9 with q1 q2 q3;subst q1 q2 q3)
       refine(qhb _ _ _ R.lo 8 _ _ hr9 (by first|(simp[qaw];done)|(simp only[tA6,qaw];split<;>simp)) hb41).mono ?_;rintro e w2 ⟨v2,rfl,hown2,hb2⟩;rw[show qb0 8=8 from rfl]at hown2;replace hown:=hown2.mono (show w.heap.size+1≤_ from t1l);replace t1:=t1.below hb2 t1l;replace B3:=B3.trans (hb2.mono B3.size);clear hb2 hr9 hown2;have H:=zh1 (xco R (by rw[HK.o];decide) (by rw[HK.o];decide) A0.o (fun h=>absurd (HK.symm.trans h) zdc) [(1,1,35),(8,3,41)] (by rw[HK.o];rfl));obtain⟨HO,HB⟩:=zh2 ((hown.mono (Nat.le_succ _)).cast (show (qi2 R).2=_ by rw[H.o];simp[KE.o,KM.o,A1.o,qhf,fldB,Req.num,qdl,A1.o rfl])) B3;clear hown B3;go_wp2
       go_meet
       case rel=>
        obtain⟨As,ns,cs,e9,-,-,-⟩:=HO.sl;exact⟨As,ns,cs,e9,by rw[←e9];exact HO,zh1 (by rw[H.o]),HB⟩
      ·
       rcases h45 with rfl|rfl;all_goals
        have d41:=FD.o 41 6 rfl _ t1 _ rfl;have d42:=FD.o 42 7 rfl _ t1 _ rfl;have hb41:R.lo<18446744073709551616:=by have:=hR.num 41;simp[Req.num]at this;omega
        have hw41:IntKind.u64.wrap ((R.lo:Nat):Int)=(R.lo:Nat):=tBa _ zo;have hb42:R.hi<18446744073709551616:=by have:=hR.num 42;simp[Req.num]at this;omega
        have hw42:IntKind.u64.wrap ((R.hi:Nat):Int)=(R.hi:Nat):=tBa _ zo;go_wp2_with fail
        obtain⟨S,HS⟩:=zS fun w'=>w'.cell? ⟨w.heap.size,41,none⟩=some (.int .u64 R.lo)∧w'.cell? ⟨w.heap.size,42,none⟩=some (.int .u64 R.hi)
        refine zrs S 8 (zq 0 3 [(4,false),(5,false),(3,true),(6,true),(7,false)]) ((HS.o _).mpr ⟨d41,d42⟩) ?_;repeat(refine zrt0 ?_)
        replace t1:=t1.drew;replace B3:=B3.drew;replace hown:=hown.drew;have t1l:=t1.lt;obtain⟨A9,n9,c9,e9,-,-,hr9⟩:=hown.sl;first|subst e9|(injection e9 with q1 q2 q3;subst q1 q2 q3)
        refine zw ?_;go_simp;refine(qhb _ _ _ R.lo 8 _ _ hr9 (by first|(simp[qaw];done)|(simp only[tA6,qaw];split<;>simp)) hb41).mono ?_;rintro e w2 ⟨v2,rfl,hown2,hb2⟩;rw[show qb0 8=8 from rfl]at hown2;replace hown:=hown2.mono (show w.heap.size+1≤_ from t1l);replace t1:=t1.below hb2 t1l;replace B3:=B3.trans (hb2.mono B3.size);clear hb2 hr9 hown2;have d41:=FD.o 41 6 rfl _ t1 _ rfl;have d42:=FD.o 42 7 rfl _ t1 _ rfl;refine⟨by first|exact(HS.o _).mpr ⟨d41,d42⟩|exact fun _=>(HS.o _).mpr ⟨d41,d42⟩,?_⟩;have t1l:=t1.lt;obtain⟨A9,n9,c9,e9,-,-,hr9⟩:=hown.sl;first|subst e9|(injection e9 with q1 q2 q3;subst q1 q2 q3)
        refine zw ?_;go_simp;refine(qhb _ _ _ R.hi 8 _ _ hr9 (by first|(simp[qaw];done)|(simp only[tA6,qaw];split<;>simp)) hb42).mono ?_;rintro e w2 ⟨v2,rfl,hown2,hb2⟩;rw[show qb0 8=8 from rfl]at hown2;replace hown:=hown2.mono (show w.heap.size+1≤_ from t1l);replace t1:=t1.below hb2 t1l;replace B3:=B3.trans (hb2.mono B3.size);clear hb2 hr9 hown2;have d41:=FD.o 41 6 rfl _ t1 _ rfl;have d42:=FD.o 42 7 rfl _ t1 _ rfl;refine⟨by first|exact(HS.o _).mpr ⟨d41,d42⟩|exact fun _=>(HS.o _).mpr ⟨d41,d42⟩,?_⟩;repeat(refine zrt0 ?_)
        refine qbf ?_;have H:=zh1 (xco R (by rw[HK.o];decide) (by rw[HK.o];decide) A0.o (fun h=>absurd (HK.symm.trans h) zdc) [(1,1,35),(8,3,41),(8,3,42)] (by rw[HK.o];rfl));obtain⟨HO,HB⟩:=zh2 ((hown.mono (Nat.le_succ _)).cast (show (qi2 R).2=_ by rw[H.o];simp[KE.o,KM.o,A1.o,qhf,fldB,Req.num,qdl,A1.o rfl])) B3;clear hown B3;go_wp2
        go_meet
        case rel=>
         obtain⟨As,ns,cs,e9,-,-,-⟩:=HO.sl;exact⟨As,ns,cs,e9,by rw[←e9];exact HO,zh1 (by rw[H.o]),HB⟩
      ·
       obtain⟨te,teE,tel,tem,tew⟩:=xcp A0.o (x:=R.tenant) (by simp[qlb,HK.o]);obtain⟨we,weE,wel,wem,wew⟩:=xcp A0.o (x:=R.weight) (by simp[qlb,HK.o]);have d36:=FD.o 36 1 rfl _ t1 _ rfl;rw[teE.o]at d36;have d39:=FD.o 39 4 rfl _ t1 _ rfl;rw[weE.o]at d39;go_wp2_with (at_builtin;refine qe2 rfl _ _ rfl (w.heap.size+1) _ _ rfl (hown.alloc (.cells (byv [te,we]).toArray 5)) _ _ _ [te,we] rfl (qe7 _ [te,we] _ zm _ rfl) (by first|(simp;done)|(split<;>simp)) (by first|(simp only[qar];omega)| (have:=t1.lt;simp only[qar]at*;omega)) ?_)
       intro v2 w2 hown2 hb2 hg2;replace t1:=(t1.alloc (.cells (byv [te,we]).toArray 5)).below hb2 zo;replace B3:=(B3.alloc B3.size (.cells (byv [te,we]).toArray 5)).trans (hb2.mono zo);replace hown:=hown2;have c0:=(t1.cell 0).trans (HC.o _ _ R0.o);have hs2:w.heap.size<w2.heap.size:=t1.lt;clear hb2 hg2 hown2;have H:=zh1 (xco R (by rw[HK.o];decide) (by rw[HK.o];decide) A0.o (fun h=>absurd (HK.symm.trans h) zdc) [(1,1,35),(1,1,36),(1,1,39)] (by rw[HK.o];rfl));obtain⟨HO,HB⟩:=zh2 ((hown.mono (Nat.le_succ _)).cast (show (qi2 R).2=_ by rw[H.o];simp[KE.o,KM.o,A1.o,qhf,fldB,Req.num,qdl,A1.o rfl,teE.o,tem.o,weE.o,wem.o])) B3;clear hown B3;go_wp2
       go_meet
       case rel=>
        obtain⟨As,ns,cs,e9,-,-,-⟩:=HO.sl;exact⟨As,ns,cs,e9,by rw[←e9];exact HO,zh1 (by rw[H.o]),HB⟩
      ·
       obtain⟨st,stE,stl,stm,stw⟩:=xcp A0.o (x:=R.state) (by simp[qlb,HK.o]);have d38:=FD.o 38 3 rfl _ t1 _ rfl;rw[stE.o]at d38;go_wp2_with (at_builtin;refine qe2 rfl _ _ rfl (w.heap.size+1) _ _ rfl (hown.alloc (.cells (byv [st]).toArray 5)) _ _ _ [st] rfl (qe7 _ [st] _ zm _ rfl) (by first|(simp;done)|(split<;>simp)) (by first|(simp only[qar];omega)| (have:=t1.lt;simp only[qar]at*;omega)) ?_)
       intro v2 w2 hown2 hb2 hg2;replace t1:=(t1.alloc (.cells (byv [st]).toArray 5)).below hb2 zo;replace B3:=(B3.alloc B3.size (.cells (byv [st]).toArray 5)).trans (hb2.mono zo);replace hown:=hown2;have c0:=(t1.cell 0).trans (HC.o _ _ R0.o);have hs2:w.heap.size<w2.heap.size:=t1.lt;clear hb2 hg2 hown2;have H:=zh1 (xco R (by rw[HK.o];decide) (by rw[HK.o];decide) A0.o (fun h=>absurd (HK.symm.trans h) zdc) [(1,1,35),(1,1,38)] (by rw[HK.o];rfl));obtain⟨HO,HB⟩:=zh2 ((hown.mono (Nat.le_succ _)).cast (show (qi2 R).2=_ by rw[H.o];simp[KE.o,KM.o,A1.o,qhf,fldB,Req.num,qdl,A1.o rfl,stE.o,stm.o])) B3;clear hown B3;go_wp2
       go_meet
       case rel=>
        obtain⟨As,ns,cs,e9,-,-,-⟩:=HO.sl;exact⟨As,ns,cs,e9,by rw[←e9];exact HO,zh1 (by rw[H.o]),HB⟩
      ·
       obtain⟨we,weE,wel,wem,wew⟩:=xcp A0.o (x:=R.weight) (by simp[qlb,HK.o]);have d39:=FD.o 39 4 rfl _ t1 _ rfl;rw[weE.o]at d39;go_wp2_with (at_builtin;refine qe2 rfl _ _ rfl (w.heap.size+1) _ _ rfl (hown.alloc (.cells (byv [we]).toArray 5)) _ _ _ [we] rfl (qe7 _ [we] _ zm _ rfl) (by first|(simp;done)|(split<;>simp)) (by first|(simp only[qar];omega)| (have:=t1.lt;simp only[qar]at*;omega)) ?_)
       intro v2 w2 hown2 hb2 hg2;replace t1:=(t1.alloc (.cells (byv [we]).toArray 5)).below hb2 zo;replace B3:=(B3.alloc B3.size (.cells (byv [we]).toArray 5)).trans (hb2.mono zo);replace hown:=hown2;have c0:=(t1.cell 0).trans (HC.o _ _ R0.o);have hs2:w.heap.size<w2.heap.size:=t1.lt;clear hb2 hg2 hown2;have H:=zh1 (xco R (by rw[HK.o];decide) (by rw[HK.o];decide) A0.o (fun h=>absurd (HK.symm.trans h) zdc) [(1,1,35),(1,1,39)] (by rw[HK.o];rfl));obtain⟨HO,HB⟩:=zh2 ((hown.mono (Nat.le_succ _)).cast (show (qi2 R).2=_ by rw[H.o];simp[KE.o,KM.o,A1.o,qhf,fldB,Req.num,qdl,A1.o rfl,weE.o,wem.o])) B3;clear hown B3;go_wp2
       go_meet
       case rel=>
        obtain⟨As,ns,cs,e9,-,-,-⟩:=HO.sl;exact⟨As,ns,cs,e9,by rw[←e9];exact HO,zh1 (by rw[H.o]),HB⟩
      ·
       obtain⟨te,teE,tel,tem,tew⟩:=xcp A0.o (x:=R.tenant) (by simp[qlb,HK.o]);obtain⟨ro,roE,rol,rom,row⟩:=xcp A0.o (x:=R.role) (by simp[qlb,HK.o]);have d36:=FD.o 36 1 rfl _ t1 _ rfl;rw[teE.o]at d36;have d37:=FD.o 37 2 rfl _ t1 _ rfl;rw[roE.o]at d37;have d46:=FD.o 46 11 rfl _ t1 _ rfl;have hb46:R.expires<18446744073709551616:=by have:=hR.num 46;simp[Req.num]at this;omega
       have hw46:IntKind.u64.wrap ((R.expires:Nat):Int)=(R.expires:Nat):=tBa _ zo;go_wp2_with fail
       obtain⟨S,HS⟩:=zS fun w'=>w'.cell? ⟨w.heap.size,36,none⟩=some (.int .i64 (te:Int))∧w'.cell? ⟨w.heap.size,37,none⟩=some (.int .i64 (ro:Int))∧w'.cell? ⟨w.heap.size,46,none⟩=some (.int .u64 R.expires)
       refine zrs S 13 (zq 0 7 [(9,false),(10,false),(7,true),(8,true),(11,true),(12,false)]) ((HS.o _).mpr ⟨d36,d37,d46⟩) ?_;repeat(refine zrt0 ?_)
       refine zw ?_;go_simp;replace t1:=(t1.alloc (.cells (byv [te,ro]).toArray 5)).drew;replace B3:=(B3.alloc B3.size (.cells (byv [te,ro]).toArray 5)).drew;replace hown:=(hown.alloc (.cells (byv [te,ro]).toArray 5)).drew;have d36:=FD.o 36 1 rfl _ t1 _ rfl;rw[teE.o]at d36;have d37:=FD.o 37 2 rfl _ t1 _ rfl;rw[roE.o]at d37;have d46:=FD.o 46 11 rfl _ t1 _ rfl;refine⟨by first|exact(HS.o _).mpr ⟨d36,d37,d46⟩|exact fun _=>(HS.o _).mpr ⟨d36,d37,d46⟩,?_⟩;have t1l:=t1.lt;refine zw ?_;refine qe3 _ _ rfl (w.heap.size+1) _ _ rfl hown _ _ _ [te,ro] rfl (qe7 _ [te,ro] _ zm _ rfl).drewS (by first|(simp;done)|(split<;>simp)) t1l ?_;intro v2 w2 hown2 hb2 hg2;replace t1:=t1.below hb2 zo;replace B3:=B3.trans (hb2.mono zo);replace hown:=hown2;clear hb2 hg2 hown2;have d36:=FD.o 36 1 rfl _ t1 _ rfl;rw[teE.o]at d36;have d37:=FD.o 37 2 rfl _ t1 _ rfl;rw[roE.o]at d37;have d46:=FD.o 46 11 rfl _ t1 _ rfl;refine⟨by first|exact(HS.o _).mpr ⟨d36,d37,d46⟩|exact fun _=>(HS.o _).mpr ⟨d36,d37,d46⟩,?_⟩;simp only[Act.put,tA0,tA1,tA2];have t1l:=t1.lt;obtain⟨A9,n9,c9,e9,-,-,hr9⟩:=hown.sl;first|subst e9|(injection e9 with q1 q2 q3;subst q1 q2 q3)
       refine zw ?_;go_simp;refine(qhb _ _ _ R.expires 8 _ _ hr9 (by first|(simp[qaw];done)|(simp only[tA6,qaw];split<;>simp)) hb46).mono ?_;rintro e w2 ⟨v2,rfl,hown2,hb2⟩;rw[show qb0 8=8 from rfl]at hown2;replace hown:=hown2.mono (show w.heap.size+1≤_ from t1l);replace t1:=t1.below hb2 t1l;replace B3:=B3.trans (hb2.mono B3.size);clear hb2 hr9 hown2;have d36:=FD.o 36 1 rfl _ t1 _ rfl;rw[teE.o]at d36;have d37:=FD.o 37 2 rfl _ t1 _ rfl;rw[roE.o]at d37;have d46:=FD.o 46 11 rfl _ t1 _ rfl;refine⟨by first|exact(HS.o _).mpr ⟨d36,d37,d46⟩|exact fun _=>(HS.o _).mpr ⟨d36,d37,d46⟩,?_⟩;repeat(refine zrt0 ?_)
       refine qbf ?_;have H:=zh1 (xco R (by rw[HK.o];decide) (by rw[HK.o];decide) A0.o (fun h=>absurd (HK.symm.trans h) zdc) [(1,1,36),(1,1,37),(8,3,46)] (by rw[HK.o];rfl));obtain⟨HO,HB⟩:=zh2 ((hown.mono (Nat.le_succ _)).cast (show (qi2 R).2=_ by rw[H.o];simp[KE.o,KM.o,A1.o,qhf,fldB,Req.num,qdl,teE.o,tem.o,roE.o,rom.o])) B3;clear hown B3;go_wp2
       go_meet
       case rel=>
        obtain⟨As,ns,cs,e9,-,-,-⟩:=HO.sl;exact⟨As,ns,cs,e9,by rw[←e9];exact HO,zh1 (by rw[H.o]),HB⟩
      ·
       have d40:=FD.o 40 5 rfl _ t1 _ rfl;have hb40:R.id<18446744073709551616:=by have:=hR.num 40;simp[Req.num]at this;omega
       have hw40:IntKind.u64.wrap ((R.id:Nat):Int)=(R.id:Nat):=tBa _ zo;have t1l:=t1.lt;go_wp2_with fail
       obtain⟨A9,n9,c9,e9,-,-,hr9⟩:=hown.sl;first|subst e9|(injection e9 with q1 q2 q3;subst q1 q2 q3)
       refine(qhb _ _ _ R.id 4 _ _ hr9 (by first|(simp[qaw];done)|(simp only[tA6,qaw];split<;>simp)) hb40).mono ?_;rintro e w2 ⟨v2,rfl,hown2,hb2⟩;rw[show qb0 4=4 from rfl]at hown2;replace hown:=hown2.mono (show w.heap.size+1≤_ from t1l);replace t1:=t1.below hb2 t1l;replace B3:=B3.trans (hb2.mono B3.size);clear hb2 hr9 hown2;have H:=zh1 (xco R (by rw[HK.o];decide) (by rw[HK.o];decide) A0.o (fun h=>absurd (HK.symm.trans h) zdc) [(4,2,40)] (by rw[HK.o];rfl));obtain⟨HO,HB⟩:=zh2 ((hown.mono (Nat.le_succ _)).cast (show (qi2 R).2=_ by rw[H.o];simp[KE.o,KM.o,A1.o,qhf,fldB,Req.num,qdl,KM.o])) B3;clear hown B3;go_wp2
       go_meet
       case rel=>
        obtain⟨As,ns,cs,e9,-,-,-⟩:=HO.sl;exact⟨As,ns,cs,e9,by rw[←e9];exact HO,zh1 (by rw[H.o]),HB⟩
      ·
       obtain⟨te,teE,tel,tem,tew⟩:=xcp A0.o (x:=R.tenant) (by simp[qlb,HK.o]);have d36:=FD.o 36 1 rfl _ t1 _ rfl;rw[teE.o]at d36;have d43:=FD.o 43 8 rfl _ t1 _ rfl;have hb43:R.rate<18446744073709551616:=by have:=hR.num 43;simp[Req.num]at this;omega
       have hw43:IntKind.u64.wrap ((R.rate:Nat):Int)=(R.rate:Nat):=tBa _ zo;have hb44:R.burst<18446744073709551616:=by have:=hR.num 44;simp[Req.num]at this;omega
       have hw44:IntKind.u64.wrap ((R.burst:Nat):Int)=(R.burst:Nat):=tBa _ zo;have hb45:R.store<18446744073709551616:=by have:=hR.num 45;simp[Req.num]at this;omega
       have hw45:IntKind.u64.wrap ((R.store:Nat):Int)=(R.store:Nat):=tBa _ zo;go_wp2_with fail
       obtain⟨S,HS⟩:=zS fun w'=>w'.cell? ⟨w.heap.size,36,none⟩=some (.int .i64 (te:Int))∧w'.cell? ⟨w.heap.size,43,none⟩=some (.int .u32 R.rate)
       refine zrs S 11 (zq 0 4 (zq 6 3 [(4,true),(5,true),(9,true),(10,false)])) ((HS.o _).mpr ⟨d36,d43⟩) ?_;repeat(refine zrt0 ?_)
       refine zw ?_;go_simp;replace t1:=(t1.alloc (.cells (byv [te]).toArray 5)).drew;replace B3:=(B3.alloc B3.size (.cells (byv [te]).toArray 5)).drew;replace hown:=(hown.alloc (.cells (byv [te]).toArray 5)).drew;have d36:=FD.o 36 1 rfl _ t1 _ rfl;rw[teE.o]at d36;have d43:=FD.o 43 8 rfl _ t1 _ rfl;refine⟨by first|exact(HS.o _).mpr ⟨d36,d43⟩|exact fun _=>(HS.o _).mpr ⟨d36,d43⟩,?_⟩;have t1l:=t1.lt;refine zw ?_;refine qe3 _ _ rfl (w.heap.size+1) _ _ rfl hown _ _ _ [te] rfl (qe7 _ [te] _ zm _ rfl).drewS (by first|(simp;done)|(split<;>simp)) t1l ?_;intro v2 w2 hown2 hb2 hg2;replace t1:=t1.below hb2 zo;replace B3:=B3.trans (hb2.mono zo);replace hown:=hown2;clear hb2 hg2 hown2;have d36:=FD.o 36 1 rfl _ t1 _ rfl;rw[teE.o]at d36;have d43:=FD.o 43 8 rfl _ t1 _ rfl;refine⟨by first|exact(HS.o _).mpr ⟨d36,d43⟩|exact fun _=>(HS.o _).mpr ⟨d36,d43⟩,?_⟩;simp only[Act.put,tA0,tA1,tA2];have t1l:=t1.lt;obtain⟨A9,n9,c9,e9,-,-,hr9⟩:=hown.sl;first|subst e9|(injection e9 with q1 q2 q3;subst q1 q2 q3)
       refine zw ?_;go_simp;refine(qhb _ _ _ R.rate 4 _ _ hr9 (by first|(simp[qaw];done)|(simp only[tA6,qaw];split<;>simp)) hb43).mono ?_;rintro e w2 ⟨v2,rfl,hown2,hb2⟩;rw[show qb0 4=4 from rfl]at hown2;replace hown:=hown2.mono (show w.heap.size+1≤_ from t1l);replace t1:=t1.below hb2 t1l;replace B3:=B3.trans (hb2.mono B3.size);clear hb2 hr9 hown2;have d36:=FD.o 36 1 rfl _ t1 _ rfl;rw[teE.o]at d36;have d43:=FD.o 43 8 rfl _ t1 _ rfl;refine⟨by first|exact(HS.o _).mpr ⟨d36,d43⟩|exact fun _=>(HS.o _).mpr ⟨d36,d43⟩,?_⟩;repeat(refine zrt0 ?_)
       refine qbf ?_;clear HS d36 d43;have c0:=(t1.cell 0).trans (HC.o _ _ R0.o);have hs2:=t1.lt;go_wp2_with fail
       have d44:=FD.o 44 9 rfl _ t1 _ rfl;have d45:=FD.o 45 10 rfl _ t1 _ rfl;obtain⟨S,HS⟩:=zS fun w'=>w'.cell? ⟨w.heap.size,44,none⟩=some (.int .u32 R.burst)∧w'.cell? ⟨w.heap.size,45,none⟩=some (.int .u32 R.store)
       refine zrs S 10 (zq 0 4 (zq 5 3 [(4,true),(8,true),(9,false)])) ((HS.o _).mpr ⟨d44,d45⟩) ?_;repeat(refine zrt0 ?_)
       replace t1:=t1.drew;replace B3:=B3.drew;replace hown:=hown.drew;have t1l:=t1.lt;obtain⟨A9,n9,c9,e9,-,-,hr9⟩:=hown.sl;first|subst e9|(injection e9 with q1 q2 q3;subst q1 q2 q3)
       refine zw ?_;go_simp;refine(qhb _ _ _ R.burst 4 _ _ hr9 (by first|(simp[qaw];done)|(simp only[tA6,qaw];split<;>simp)) hb44).mono ?_;rintro e w2 ⟨v2,rfl,hown2,hb2⟩;rw[show qb0 4=4 from rfl]at hown2;replace hown:=hown2.mono (show w.heap.size+1≤_ from t1l);replace t1:=t1.below hb2 t1l;replace B3:=B3.trans (hb2.mono B3.size);clear hb2 hr9 hown2;have d44:=FD.o 44 9 rfl _ t1 _ rfl;have d45:=FD.o 45 10 rfl _ t1 _ rfl;refine⟨by first|exact(HS.o _).mpr ⟨d44,d45⟩|exact fun _=>(HS.o _).mpr ⟨d44,d45⟩,?_⟩;have t1l:=t1.lt;obtain⟨A9,n9,c9,e9,-,-,hr9⟩:=hown.sl;first|subst e9|(injection e9 with q1 q2 q3;subst q1 q2 q3)
       refine zw ?_;go_simp;refine(qhb _ _ _ R.store 4 _ _ hr9 (by first|(simp[qaw];done)|(simp only[tA6,qaw];split<;>simp)) hb45).mono ?_;rintro e w2 ⟨v2,rfl,hown2,hb2⟩;rw[show qb0 4=4 from rfl]at hown2;replace hown:=hown2.mono (show w.heap.size+1≤_ from t1l);replace t1:=t1.below hb2 t1l;replace B3:=B3.trans (hb2.mono B3.size);clear hb2 hr9 hown2;have d44:=FD.o 44 9 rfl _ t1 _ rfl;have d45:=FD.o 45 10 rfl _ t1 _ rfl;refine⟨by first|exact(HS.o _).mpr ⟨d44,d45⟩|exact fun _=>(HS.o _).mpr ⟨d44,d45⟩,?_⟩;repeat(refine zrt0 ?_)
       refine qbf ?_;have H:=zh1 (xco R (by rw[HK.o];decide) (by rw[HK.o];decide) A0.o (fun h=>absurd (HK.symm.trans h) zdc) [(1,1,36),(4,2,43),(4,2,44),(4,2,45)] (by rw[HK.o];rfl));obtain⟨HO,HB⟩:=zh2 ((hown.mono (Nat.le_succ _)).cast (show (qi2 R).2=_ by rw[H.o];simp[KE.o,KM.o,A1.o,qhf,fldB,Req.num,qdl,teE.o,tem.o])) B3;clear hown B3;go_wp2
       go_meet
       case rel=>
        obtain⟨As,ns,cs,e9,-,-,-⟩:=HO.sl;exact⟨As,ns,cs,e9,by rw[←e9];exact HO,zh1 (by rw[H.o]),HB⟩
     case rest=>
      obtain⟨As,ns,cs,rfl,HO,H1,HB⟩:=hcut;go_wp2
      go_ret2
      exact⟨_,by rw[H1.o];rfl,HO.o,HB.o⟩
 have H:Hid (qi2 R=(1,[])):=by
  unfold Hid qi2 fieldsOf;repeat' rw[if_neg zo]
 have r0:(reqv R cav (.slice Al R.leaf.length cl))[0]? =some (.int .i64 R.op):=rfl;obtain⟨L,hL⟩:=xeq (reqv R cav (.slice Al R.leaf.length cl));rw[hL]at r0 ⊢;clear hL;have t1:Blk (w.alloc (.cells L.toArray 34)) w.heap.size 34 L.toArray:=Blk.new w _ _;have c0:=(t1.cell 0).trans (show L.toArray[0]? =some (.int .i64 R.op) by simpa using r0);clear r0;rcases(show R.op<1∨12<R.op by omega) with h|h
 · go_enter Tryz.func39,Tryz.ntmps39
   go_wp2
   go_ret2
   exact⟨_,by rw[H.o];rfl,by rw[H.o];exact OwnB.nil _ _,(tA5 _ _).alloc (tA4 _) _⟩
 have h':¬R.op<1:=zo;go_enter Tryz.func39,Tryz.ntmps39
 go_wp2
 go_ret2
 exact⟨_,by rw[H.o];rfl,by rw[H.o];exact OwnB.nil _ _,(tA5 _ _).alloc (tA4 _) _⟩
theorem xcs(R:Req)(Ac:Option Addr)(cc:Nat)(Al:Option Addr)(cl:Nat)(w:World)(hR:R.Fit)(hleaf:Reads w w.heap.size 1 Al R.leaf.length (byv R.leaf))(hlc:R.leaf.length≤cl)(hc:cl≤maxLen)
 (hcav:Reads w w.heap.size 2 Ac R.cavs.length (cavv R.cavs))(hcc:R.cavs.length≤cc)(hcm:cc≤maxLen)(hid:R.tid<4294967296)(hln:∀x∈R.cavs,x.2<4294967296):
 Zc 92 #[.agg (reqv R (.slice Ac R.cavs.length cc) (.slice Al R.leaf.length cl)).toArray] w fun e w'=>∃v,e=.returned (.tuple #[v,.int .i64 ((qiw R).1:Int)])∧OwnB w' w.heap.size v (qiw R).2∧Zb w w':=by
 have hbody:=fun w' h=>xcr R (.slice Ac R.cavs.length cc) Al cl w' hR h hlc hc
 have htok:=fun w' h=>qhg R.tid R.cavs Ac cc R.tag w' h hcc hcm hid hln hR.tag
 have hrt:=qiy R (.slice Ac R.cavs.length cc) (.slice Al R.leaf.length cl);have hlen:=qix R (.slice Ac R.cavs.length cc) (.slice Al R.leaf.length cl) hR.tag;have hlen2:=qdf R.tid (.slice Ac R.cavs.length cc) R.tag hR.tag;obtain⟨L,hL⟩:=xeq (reqv R (.slice Ac R.cavs.length cc) (.slice Al R.leaf.length cl));obtain⟨T,hT⟩:=xeq (tokv R.tid (.slice Ac R.cavs.length cc) R.tag);rw[hL]at hrt hlen ⊢;rw[hT]at hrt hlen2;simp only[hL]at hbody;simp only[hT]at htok;have hi1:(Tryz.prog.info? 34).map (·.size)=some L.length:=by rw[hlen];exact Tryz.req_info
 have hi2:(Tryz.prog.info? 31).map (·.size)=some T.length:=by rw[hlen2];exact Tryz.tok_info
 obtain⟨A3,A4,HB,HT,A5⟩:=zh5 hi1 hi2 hbody htok hrt;clear hi1 hi2 hL hT hlen hlen2 hbody htok hrt;have t0:Blk (w.alloc (.cells L.toArray 34)) w.heap.size 34 L.toArray:=Blk.new w _ _;have hrg:=qap t0 0 L zjq;have A0:=zh1 hrg;clear hrg;go_enter Tryz.func92,Tryz.ntmps92
 go_wp2_with (refine zld A0.o zu34 A3.o ?_)
 refine(HB.o _ (hleaf.laid _)).mono ?_;rintro e w1 ⟨v1,rfl,hown1,hb1⟩;simp only[qar,Zb]at hown1 hb1;have B1:Zb w w1:=((tA5 _ _).alloc (tA4 _) _).trans (hb1.mono zo);have t1:=t0.below hb1 zo;have hcav1:=hcav.call B1;clear hb1 A0 hcav hleaf t0;obtain⟨bw,hbw⟩:=xeq ((qi2 R).1);obtain⟨bb,hbb⟩:=xeq ((qi2 R).2);rw[hbw];rw[hbb]at hown1;have hbl:=qiz R;rw[hbb]at hbl;obtain⟨A1,A6⟩:=zh2 hbw hbb;clear hbw hbb;by_cases h0:bw=0
 ·
  subst h0;have hrg:=qap t1 1 T A5.o;have A0:=zh1 hrg;clear hrg;go_wp2_with (refine zld A0.o zu31 A4.o ?_)
  refine(HT.o _ hcav1).mono ?_;rintro e w2 ⟨v2,rfl,hown2,hb2⟩;have B2:=B1.trans (hb2.mono B1.size);have hownb:=hown1.kept hb2;have htl:=qea R.tid R.cavs R.tag hR.tag;obtain⟨tw,htw⟩:=xeq ((qda R.tid R.cavs R.tag).1);obtain⟨tb,htb⟩:=xeq ((qda R.tid R.cavs R.tag).2);rw[htw];rw[htb]at hown2 htl;obtain⟨A2,A7⟩:=zh2 htw htb;clear htw htb A0 hown1 hcav1 hb2;by_cases h1:tw=0
  ·
   subst h1;obtain⟨At,nt,ct,rfl,ht1,ht2,hrt⟩:=hown2.sl;obtain⟨Ab,nb,cb,rfl,hb1,hb2,hrb⟩:=hownb.sl;have H:Hid (qiw R=(0,txt tb++bb)):=by
    unfold Hid qiw;rw[if_pos A1.o,if_pos A2.o,A7.o,A6.o]
   go_wp2_with fail
   refine(qhc none At 0 nt 0 ct [] tb _ Reads.none_ hrt zm ht1 ht2).mono ?_;rintro e w5 ⟨v5,rfl,hown5,hb5⟩;rw[List.nil_append]at hown5;have hrb5:=hrb.call hb5;have B5:=B2.trans (hb5.mono B2.size);have htx:=qj1 tb;have hbl5:=qb4 hrb5;clear hrb hrt hown2 hownb;go_wp2_with (at_builtin;refine qe2 rfl _ _ rfl w2.heap.size _ _ rfl hown5 Ab nb cb bb rfl hrb5 zo hb5.size ?_)
   intro v6 w6 hown6 hb6 hg6;obtain⟨HO,A8⟩:=zh2 (hown6.mono B2.size) (B5.trans (hb6.mono B2.size));clear hown6 hb6 hg6 hown5 hrb5 hb5;go_wp2
   go_ret2
   exact⟨_,by rw[H.o];rfl,by rw[H.o];exact HO.o,A8.o⟩
  have H:Hid (qiw R=(tw,[])):=by
   unfold Hid qiw;rw[if_pos A1.o,A2.o,if_neg h1]
  have hn:((tw:Int)==0)=false:=by simpa using h1
  have hn2:((tw:Int) != 0)=true:=by simpa using h1
  go_wp2
  go_ret2
  exact⟨_,by rw[H.o];rfl,by rw[H.o];exact OwnB.nil _ _,B2⟩
 have H:Hid (qiw R=(bw,[])):=by
  unfold Hid qiw;rw[A1.o,if_neg h0]
 have hn:((bw:Int)==0)=false:=by simpa using h0
 have hn2:((bw:Int) != 0)=true:=by simpa using h0
 go_wp2
 go_ret2
 exact⟨_,by rw[H.o];rfl,by rw[H.o];exact OwnB.nil _ _,B1⟩
instance decTen:DecidableEq Ten:=fun x y=>decidable_of_iff (x.on=y.on∧x.rate=y.rate∧x.burst=y.burst∧x.tok=y.tok∧x.store=y.store∧x.used=y.used) (by cases x;cases y;simp)
instance decGra:DecidableEq Gra:=fun x y=>decidable_of_iff (x.tenant=y.tenant∧x.role=y.role∧x.expires=y.expires∧x.revoked=y.revoked) (by cases x;cases y;simp)
theorem Tryz.bk_size:∀w:World,(sizeOf 90).run Tryz.prog w=.ok 3 w:=fun w=>by kernel_rfl
theorem xd5(d:Nat)(w:World)(a b c a' b' c':Int):
 (Op.equalIn (d+2) 90 (.agg #[.int .u32 a,.int .u32 b,.int .u32 c]) (.agg #[.int .u32 a',.int .u32 b',.int .u32 c'])).run Tryz.prog w=.ok (a==a'&&(b==b'&&(c==c'&&true))) w:=by
 have hf:=qlj (P:=Tryz.prog) Tryz.underlying90;have hp:(Tryz.prog).stoodInHeld 90=false:=by kernel_rfl
 have hu:(Tryz.prog).underlying 90=some (.struct ((Tryz.prog).fieldsOf 90)):=by rw[hf];exact Tryz.underlying90
 rw[run_equalIn_struct w (d+1) 90 _ _ hu hp,hf];have e1:=fun x y=>run_equalIn_int w d 22 .u32 .u32 x y Tryz.underlying22
 have p0:∀x y z:Int,(part 22 #[.int .u32 x,.int .u32 y,.int .u32 z] 0).run Tryz.prog w=.ok (.int .u32 x) w:=fun x y z=>by simp[part,isAgg,run_underlying Tryz.underlying22]
 have p1:∀x y z:Int,(part 22 #[.int .u32 x,.int .u32 y,.int .u32 z] 1).run Tryz.prog w=.ok (.int .u32 y) w:=fun x y z=>by simp[part,isAgg,run_underlying Tryz.underlying22]
 have p2:∀x y z:Int,(part 22 #[.int .u32 x,.int .u32 y,.int .u32 z] 2).run Tryz.prog w=.ok (.int .u32 z) w:=fun x y z=>by simp[part,isAgg,run_underlying Tryz.underlying22]
 exact qll zdc (p0 _ _ _) (p0 _ _ _) (e1 _ _) (qll zdc (p1 _ _ _) (p1 _ _ _) (e1 _ _) (qll zdc (p2 _ _ _) (p2 _ _ _) (e1 _ _) qlk))
theorem xd6(w:World)(x:Ten)(i:Nat)(v:Value)(t:TypeId)(d:TypeDesc)(hu:(Tryz.prog).underlying t=some d)(hd:d.isRow=false)(hv:(tenv x)[i]? =some v)(ha:(isAgg t).run Tryz.prog w=.ok false w):(part t (tenv x).toArray i).run Tryz.prog w=.ok v w:=by
 simp[part,ha,hv]
theorem xd7(d:Nat)(w:World)(x y:Ten):
 (Op.equalIn (d+3) 92 (.agg (tenv x).toArray) (.agg (tenv y).toArray)).run Tryz.prog w=.ok (decide (x=y)) w:=by
 have hf:=qlj (P:=Tryz.prog) Tryz.underlying92;have hp:(Tryz.prog).stoodInHeld 92=false:=by kernel_rfl
 have hu:(Tryz.prog).underlying 92=some (.struct ((Tryz.prog).fieldsOf 92)):=by rw[hf];exact Tryz.underlying92
 rw[run_equalIn_struct w (d+2) 92 _ _ hu hp,hf];have e0:=fun x y=>run_equalIn_bool' (w:=w) (d+1) 4 x y Tryz.underlying4
 have e1:=fun x y=>run_equalIn_int w (d+1) 22 .u32 .u32 x y Tryz.underlying22
 have eb:=xd5 d w x.rate x.burst x.tok y.rate y.burst y.tok;have ab:(isAgg 4).run Tryz.prog w=.ok false w:=by kernel_rfl
 have au:(isAgg 22).run Tryz.prog w=.ok false w:=by kernel_rfl
 have p0:=fun x:Ten=>xd6 w x 0 (.bool x.on) 4 _ Tryz.underlying4 rfl rfl ab
 have p4:=fun x:Ten=>xd6 w x 4 (.int .u32 (x.store:Int)) 22 _ Tryz.underlying22 rfl rfl au
 have p5:=fun x:Ten=>xd6 w x 5 (.int .u32 (x.used:Int)) 22 _ Tryz.underlying22 rfl rfl au
 have p1:∀x:Ten,(part 90 (tenv x).toArray 1).run Tryz.prog w=.ok (.agg #[.int .u32 (x.rate:Int),.int .u32 (x.burst:Int),.int .u32 (x.tok:Int)]) w:=fun x=>by
  simp[part,isAgg,run_underlying Tryz.underlying90,Tryz.bk_size,tenv]
 refine(qll zdc (p0 x) (p0 y) (e0 _ _) (qll zdc (p1 x) (p1 y) eb (qll zdc (p4 x) (p4 y) (e1 _ _) (qll zdc (p5 x) (p5 y) (e1 _ _) qlk)))).trans ?_;congr 1
 rw[Bool.eq_iff_iff];obtain⟨a,b,c,e,f,g⟩:=x;obtain⟨a',b',c',e',f',g'⟩:=y;simp only[Bool.and_eq_true,beq_iff_eq,decide_eq_true_eq,and_true,Int.natCast_inj,Ten.mk.injEq,and_assoc]
theorem xd8(w:World)(x y:Ten):(binOp .neq 92 (.agg (tenv x).toArray) (.agg (tenv y).toArray)).run Tryz.prog w=.ok (.bool !(decide (x=y))) w:=by
 rw[run_neq_struct,xd7 9997 w x y];rfl
theorem xd9(d:Nat)(w:World)(x y:Gra):
 (Op.equalIn (d+2) 66 (.agg (grav x).toArray) (.agg (grav y).toArray)).run Tryz.prog w=.ok (decide (x=y)) w:=by
 have hf:=qlj (P:=Tryz.prog) Tryz.underlying66;have hp:(Tryz.prog).stoodInHeld 66=false:=by kernel_rfl
 have hu:(Tryz.prog).underlying 66=some (.struct ((Tryz.prog).fieldsOf 66)):=by rw[hf];exact Tryz.underlying66
 rw[run_equalIn_struct w (d+1) 66 _ _ hu hp,hf];have e0:=fun x y=>run_equalIn_bool' (w:=w) d 4 x y Tryz.underlying4
 have e1:=fun x y=>run_equalIn_int w d 3 .i64 .i64 x y Tryz.underlying3
 have e2:=fun x y=>run_equalIn_int w d 32 .u64 .u64 x y Tryz.underlying32
 have ab:(isAgg 4).run Tryz.prog w=.ok false w:=by kernel_rfl
 have ai:(isAgg 3).run Tryz.prog w=.ok false w:=by kernel_rfl
 have au:(isAgg 32).run Tryz.prog w=.ok false w:=by kernel_rfl
 have p:∀(x:Gra) (i:Nat) (v:Value) (t:TypeId),(grav x)[i]? =some v→(isAgg t).run Tryz.prog w=.ok false w→(part t (grav x).toArray i).run Tryz.prog w=.ok v w:=fun x i v t hv ha=>by simp[part,ha,hv]
 have q0:=fun x:Gra=>p x 0 (.int .i64 x.tenant) 3 rfl ai
 have q1:=fun x:Gra=>p x 1 (.int .i64 x.role) 3 rfl ai
 have q2:=fun x:Gra=>p x 2 (.int .u64 (x.expires:Int)) 32 rfl au
 have q3:=fun x:Gra=>p x 3 (.bool x.revoked) 4 rfl ab
 refine(qll zdc (q0 x) (q0 y) (e1 _ _) (qll zdc (q1 x) (q1 y) (e1 _ _) (qll zdc (q2 x) (q2 y) (e2 _ _) (qll zdc (q3 x) (q3 y) (e0 _ _) qlk)))).trans ?_;congr 1
 rw[Bool.eq_iff_iff];obtain⟨a,b,c,e⟩:=x;obtain⟨a',b',c',e'⟩:=y;simp only[Bool.and_eq_true,beq_iff_eq,decide_eq_true_eq,and_true,Int.natCast_inj,Gra.mk.injEq]
theorem xda(w:World)(x y:Gra):(binOp .neq 66 (.agg (grav x).toArray) (.agg (grav y).toArray)).run Tryz.prog w=.ok (.bool !(decide (x=y))) w:=by
 rw[run_neq_struct,xd9 9998 w x y];rfl
theorem xdb{ev:Operand→Value}{op:BinOp}{t r:TypeId}{x y:Operand}{xs ys:Array Value}(ho:o.op=.binOp op t x y r)(hx:ev x=.agg xs)(hy:ev y=.agg ys)(hm:P.eqGuardType P.depth t=false)
 (h:(binOp op t (.agg xs) (.agg ys)).run P w=.ok v w):(execOp ev o).run P w=.ok (.value v) w:=by
 unfold execOp;simp only[ho,hx,hy,Sem.run_bind,run_eqGuard_agg w op t x y xs ys hm,h,Result.andThen_ok,Sem.run_pure]
theorem xdc(A1 A2:Option Addr)(n c m d:Nat)(xs ys:List Ten)(w:World)(h1:Reads w w.heap.size 6 A1 n (xs.flatMap tenv))(h2:Reads w w.heap.size 6 A2 m (ys.flatMap tenv))(hn:n≤1000)(hm:m≤1000):
 Zc 84 #[.slice A1 n c,.slice A2 m d] w fun e w'=>e=.returned (.bool (decide (xs=ys)))∧Zb w w':=by
 have l1:xs.length=n:=by have:=h1.1;rw[qnq]at this;omega
 have l2:ys.length=m:=by have:=h2.1;rw[qnq]at this;omega
 obtain⟨B0,L1,L2,H1,H2⟩:=zh5 (tA5 w.heap.size w) l1 l2 h1 h2;go_enter Tryz.func84,Tryz.ntmps84
 by_cases hnm:n=m
 ·
  subst hnm;clear l1 l2 h1 h2;go_wp2_with fail
  go_loopw [13] (fun i wr=>∃k:Nat,k≤n∧i=.int .i64 k∧Hid (xs.take k=ys.take k)∧Hid (Zb w wr)) (fun i _=>n - (intOf i).toNat)
  case atStart=>exact⟨0,by omega,rfl,zh1 rfl,B0⟩
  case round=>
   obtain⟨k,hk,rfl,ht,hb⟩:=hrel;by_cases hlt:k<n
   ·
    have p1:(k:Int)<n:=zo;obtain⟨x,hx⟩:∃x,xs[k]? =some x:=⟨_,tA7 (by rw[L1.o];exact hlt)⟩;obtain⟨y,hy⟩:∃y,ys[k]? =some y:=⟨_,tA7 (by rw[L2.o];exact hlt)⟩;obtain⟨b1,o1,e1,-,c1⟩:=H1.mid zo zdc;obtain⟨b2,o2,e2,-,c2⟩:=H2.mid zo zdc;subst e1 e2;have r1:w.rangeAt b1 (o1+k*6) (tenv x):=fun j u hu=>by
     obtain⟨hj,-⟩:=tA8 hu;have:=c1 (k*6+j) u ((qno hx hj).trans hu);rwa[←Nat.add_assoc]at this
    have r2:w.rangeAt b2 (o2+k*6) (tenv y):=fun j u hu=>by
     obtain⟨hj,-⟩:=tA8 hu;have:=c2 (k*6+j) u ((qno hy hj).trans hu);rwa[←Nat.add_assoc]at this
    have hne:=fun w=>xd8 w x y
    have HE:=zh1 (show decide (x=y)=true→xs.take (k+1)=ys.take (k+1) from fun h=>by
     rw[List.take_add_one,List.take_add_one,hx,hy,ht.o,of_decide_eq_true h])
    have HF:=zh1 (show decide (x=y)=false→decide (xs=ys)=false from fun h=>by
     refine decide_eq_false fun e=>of_decide_eq_false h ?_
     rw[e,hy]at hx;injection hx with hx;exact hx.symm)
    obtain⟨bq,hbq⟩:=xeq (decide (x=y));rw[hbq]at HE HF;simp only[hbq]at hne;have i1:(tenv x).length=6:=rfl;have i2:(tenv y).length=6:=rfl;obtain⟨X,hX⟩:=xeq (tenv x);obtain⟨Y,hY⟩:=xeq (tenv y);rw[hX]at r1 i1;rw[hY]at r2 i2;simp only[hX,hY]at hne;obtain⟨I1,I2,A0,R1,R2⟩:=zh5 (zI 92 i1) (zI 92 i2) hne r1 r2;clear hx hy c1 c2 r1 r2 hne hbq hX hY i1 i2;go_upto_region 6 with(fail)
    obtain⟨S,HS⟩:=zS fun w'=>Zb w w'
    refine zrs S 9 (zq 0 9 []) ((HS.o _).mpr hb.drew) ?_;obtain⟨F1,F2⟩:=zh2 (fun(w':World)(h:S w')=>(show w'.rangeAt b1 (o1+k*6) X from fun j u hu=>qai (R1.o j u hu) ((HS.o w').mp h))) (fun(w':World)(h:S w')=>(show w'.rangeAt b2 (o2+k*6) Y from fun j u hu=>qai (R2.o j u hu) ((HS.o w').mp h)));iterate 3 (refine zre rfl rfl (fun w1 hS=>by clear hS;go_simp;try rfl) ?_)
    refine qoc rfl rfl 92 (.tmp 18) rfl b1 (o1+k*6) rfl X _ F1.o Tryz.underlying92 rfl I1.o ?_;refine zP ?_;iterate 3 (refine zre rfl rfl (fun w1 hS=>by clear hS;go_simp;try rfl) ?_)
    refine qoc rfl rfl 92 (.tmp 22) rfl b2 (o2+k*6) rfl Y _ F2.o Tryz.underlying92 rfl I2.o ?_;refine zP ?_;refine qbg rfl rfl ⟨.bool !bq,fun w1 hS=>xdb rfl rfl rfl zk (A0.o w1),?_⟩;refine zP ?_;refine qbf ?_;have HB:=zh1 hb.drew;clear HS F1 F2;cases bq with
    |true=>
     go_wp2
     go_roundw
     case rel=>exact⟨k+1,by omega,by go_num,zh1 (by have:=HE.o;simpa using this),HB⟩
     case measure=>simp[intOf];omega
    |false=>
     go_wp2
     go_ret
     exact⟨by rw[show decide (xs=ys)=false by have:=HF.o;simpa using this];rfl,HB.o⟩
   obtain rfl:k=n:=zo;have HF:=zh1 (show decide (xs=ys)=true from decide_eq_true (by
    have h:=ht.o;rwa[tB5 (by rw[L1.o];exact tA4 _),tB5 (by rw[L2.o];exact tA4 _)]at h))
   have p1:¬(k:Int)<k:=zo;go_wp2
   go_ret
   exact⟨by rw[HF.o];rfl,hb.o⟩
 have HF:=zh1 (show decide (xs=ys)=false from decide_eq_false fun e=>hnm (by rw[←l1,←l2,e]));have p1:¬(n:Int)=m:=zo;have p2:((n:Int)==m)=false:=by simp;omega
 clear l1 l2 h1 h2;go_wp2
 go_ret
 exact⟨by rw[HF.o];rfl,B0.o⟩
theorem xdd(A1 A2:Option Addr)(n c m d:Nat)(xs ys:List Gra)(w:World)(h1:Reads w w.heap.size 4 A1 n (xs.flatMap grav))(h2:Reads w w.heap.size 4 A2 m (ys.flatMap grav))(hn:n≤1000)(hm:m≤1000):
 Zc 85 #[.slice A1 n c,.slice A2 m d] w fun e w'=>e=.returned (.bool (decide (xs=ys)))∧Zb w w':=by
 have l1:xs.length=n:=by have:=h1.1;rw[qnr]at this;omega
 have l2:ys.length=m:=by have:=h2.1;rw[qnr]at this;omega
 obtain⟨B0,L1,L2,H1,H2⟩:=zh5 (tA5 w.heap.size w) l1 l2 h1 h2;go_enter Tryz.func85,Tryz.ntmps85
 by_cases hnm:n=m
 ·
  subst hnm;clear l1 l2 h1 h2;go_wp2_with fail
  go_loopw [13] (fun i wr=>∃k:Nat,k≤n∧i=.int .i64 k∧Hid (xs.take k=ys.take k)∧Hid (Zb w wr)) (fun i _=>n - (intOf i).toNat)
  case atStart=>exact⟨0,by omega,rfl,zh1 rfl,B0⟩
  case round=>
   obtain⟨k,hk,rfl,ht,hb⟩:=hrel;by_cases hlt:k<n
   ·
    have p1:(k:Int)<n:=zo;obtain⟨x,hx⟩:∃x,xs[k]? =some x:=⟨_,tA7 (by rw[L1.o];exact hlt)⟩;obtain⟨y,hy⟩:∃y,ys[k]? =some y:=⟨_,tA7 (by rw[L2.o];exact hlt)⟩;obtain⟨b1,o1,e1,-,c1⟩:=H1.mid zo zdc;obtain⟨b2,o2,e2,-,c2⟩:=H2.mid zo zdc;subst e1 e2;have r1:w.rangeAt b1 (o1+k*4) (grav x):=fun j u hu=>by
     obtain⟨hj,-⟩:=tA8 hu;have:=c1 (k*4+j) u ((qnp hx hj).trans hu);rwa[←Nat.add_assoc]at this
    have r2:w.rangeAt b2 (o2+k*4) (grav y):=fun j u hu=>by
     obtain⟨hj,-⟩:=tA8 hu;have:=c2 (k*4+j) u ((qnp hy hj).trans hu);rwa[←Nat.add_assoc]at this
    have hne:=fun w=>xda w x y
    have HE:=zh1 (show decide (x=y)=true→xs.take (k+1)=ys.take (k+1) from fun h=>by
     rw[List.take_add_one,List.take_add_one,hx,hy,ht.o,of_decide_eq_true h])
    have HF:=zh1 (show decide (x=y)=false→decide (xs=ys)=false from fun h=>by
     refine decide_eq_false fun e=>of_decide_eq_false h ?_
     rw[e,hy]at hx;injection hx with hx;exact hx.symm)
    obtain⟨bq,hbq⟩:=xeq (decide (x=y));rw[hbq]at HE HF;simp only[hbq]at hne;have i1:(grav x).length=4:=rfl;have i2:(grav y).length=4:=rfl;obtain⟨X,hX⟩:=xeq (grav x);obtain⟨Y,hY⟩:=xeq (grav y);rw[hX]at r1 i1;rw[hY]at r2 i2;simp only[hX,hY]at hne;obtain⟨I1,I2,A0,R1,R2⟩:=zh5 (zI 66 i1) (zI 66 i2) hne r1 r2;clear hx hy c1 c2 r1 r2 hne hbq hX hY i1 i2;go_upto_region 6 with(fail)
    obtain⟨S,HS⟩:=zS fun w'=>Zb w w'
    refine zrs S 9 (zq 0 9 []) ((HS.o _).mpr hb.drew) ?_;obtain⟨F1,F2⟩:=zh2 (fun(w':World)(h:S w')=>(show w'.rangeAt b1 (o1+k*4) X from fun j u hu=>qai (R1.o j u hu) ((HS.o w').mp h))) (fun(w':World)(h:S w')=>(show w'.rangeAt b2 (o2+k*4) Y from fun j u hu=>qai (R2.o j u hu) ((HS.o w').mp h)));iterate 3 (refine zre rfl rfl (fun w1 hS=>by clear hS;go_simp;try rfl) ?_)
    refine qoc rfl rfl 66 (.tmp 18) rfl b1 (o1+k*4) rfl X _ F1.o Tryz.underlying66 rfl I1.o ?_;refine zP ?_;iterate 3 (refine zre rfl rfl (fun w1 hS=>by clear hS;go_simp;try rfl) ?_)
    refine qoc rfl rfl 66 (.tmp 22) rfl b2 (o2+k*4) rfl Y _ F2.o Tryz.underlying66 rfl I2.o ?_;refine zP ?_;refine qbg rfl rfl ⟨.bool !bq,fun w1 hS=>xdb rfl rfl rfl zk (A0.o w1),?_⟩;refine zP ?_;refine qbf ?_;have HB:=zh1 hb.drew;clear HS F1 F2;cases bq with
    |true=>
     go_wp2
     go_roundw
     case rel=>exact⟨k+1,by omega,by go_num,zh1 (by have:=HE.o;simpa using this),HB⟩
     case measure=>simp[intOf];omega
    |false=>
     go_wp2
     go_ret
     exact⟨by rw[show decide (xs=ys)=false by have:=HF.o;simpa using this];rfl,HB.o⟩
   obtain rfl:k=n:=zo;have HF:=zh1 (show decide (xs=ys)=true from decide_eq_true (by
    have h:=ht.o;rwa[tB5 (by rw[L1.o];exact tA4 _),tB5 (by rw[L2.o];exact tA4 _)]at h))
   have p1:¬(k:Int)<k:=zo;go_wp2
   go_ret
   exact⟨by rw[HF.o];rfl,hb.o⟩
 have HF:=zh1 (show decide (xs=ys)=false from decide_eq_false fun e=>hnm (by rw[←l1,←l2,e]));have p1:¬(n:Int)=m:=zo;have p2:((n:Int)==m)=false:=by simp;omega
 clear l1 l2 h1 h2;go_wp2
 go_ret
 exact⟨by rw[HF.o];rfl,B0.o⟩
end Go.Proofs.YthomgopipiomhaaGreatDoor

/-
  Lemmas for ModelNumbers, shortened by program.
-/
import Derived.Test.YthomgopipiomhaaGreatDoorBMN03
import Derived.Deep.DeepCutAuto
import Derived.Deep.CutBlock
import Derived.Lib.IfaceEq
namespace Go.Proofs.YthomgopipiomhaaGreatDoor
set_option linter.unusedVariables false
set_option linter.unusedSimpArgs false
set_option maxRecDepth 100000
set_option maxHeartbeats 32000000
section
open Go.RowKit
def qg2 (bs:List Nat):Nat→RSt→List (Int × Nat)→RSt × List (Int × Nat)
 |0,s,l=>(s,l)
 |n+1,s,l=>
  if qek ((rNum bs s 1).2:Int) then qg2 bs n (rNum bs (rNum bs s 1).1 4).1 (l++[(((rNum bs s 1).2:Int),(rNum bs (rNum bs s 1).1 4).2)])
  else(qf6 (rNum bs s 1).1 (rNum bs s 1).1.1 12,l)
def qg3 (bs:List Nat)(s:RSt)(n:Nat):RSt × Nat:=if 4<n then(qf6 s s.1 4,0) else(s,n)
def decT (bs:List Nat)(s:RSt):RSt × Tok:=
 let a:=rNum bs s 4
 let b:=rNum bs a.1 1
 let c:=qg3 bs b.1 b.2
 let d:=qg2 bs c.2 c.1 []
 let f:=rDig bs d.1
 (f.1,(a.2,d.2,f.2))
def qg4 (bs:List Nat):Option (Nat × Nat) × Tok:=match rEnd bs (decT bs (0,none)).1 with
 |none=>(none,(decT bs (0,none)).2)
 |some x=>(some x,qft)
theorem adv {w w1 w2:World}{B g:Nat}(h:Below B w w1)(k:w1.grownBy w2 (some g))(hB:B≤g)(hg:g<w1.heap.size):Below B w w2:=h.trans (qf8 k hB hg)
theorem qg5:Tryz.prog.built 31 []=some qfy.toArray:=by kernel_rfl
theorem qg6 (h tb:Nat)(old:Value)(w:World)(hg:w.cell? ⟨0,0,none⟩=some (.iface 327 (.agg #[.pointer (some ⟨3,81,none⟩)])))(ht:Blk w tb 237 #[old]):
 Calls Tryz.prog 126 #[.iface 237 (.pointer (some ⟨h,0,none⟩)),.iface 243 (.pointer (some ⟨tb,0,none⟩))] w fun e w'=>e=.returned (.bool true)∧Blk w' tb 237 #[.pointer (some ⟨h,0,none⟩)]∧w.grownBy w' (some tb):=by
 refine(qfo ⟨h,0,none⟩ ⟨tb,0,none⟩ old w hg (by simpa using ht.cell 0) (ht.frozen 0)).mono ?_;rintro e w' ⟨rfl,rfl⟩;refine⟨rfl,?_,qab (qaa (qaa (qaa (qaa (World.grownBy.refl _ _) _) _) _) _) (.inl rfl) _⟩;have:=((((ht.alloc (.cells #[.pointer (some ⟨tb,0,none⟩)] 243)).alloc (.cells #[.pointer (some ⟨3,243,none⟩),.pointer (some ⟨w.heap.size,0,none⟩),.int .u64 150] 284)).alloc (.cells #[.pointer (some ⟨3,243,none⟩),.pointer (some ⟨w.heap.size,0,none⟩),.int .u64 150] 284)).alloc (.cells #[.pointer (some ⟨h,0,none⟩)] 237)).set_ 0 (.pointer (some ⟨h,0,none⟩));simpa using this
theorem qg7 (id:Nat)(v:Value)(t tag:List Nat)(h:t.length=32)(h':tag.length=32):(tokv id v t).take 2++(byv tag++(tokv id v t).drop (2+(byv tag).length))=tokv id v tag:=by
 rw[qat,h',List.drop_eq_nil_of_le (by rw[qer _ _ _ h];omega)];simp[tokv]
theorem qg8 (id:Nat):Tryz.prog.built 31 [(0,.int .u32 id)]=some (tokv id (.slice none 0 0) (List.replicate 32 0)).toArray:=by kernel_rfl
theorem qg9 (bs:List Nat)(A:Option Addr)(n c:Nat)(w:World)(hr:Reads w w.heap.size 1 A n (byv bs))(hn:n≤140737488355328)(hb:∀x∈bs,x<256)(hE:w.cell? ⟨0,0,none⟩=some (.iface 327 (.agg #[.pointer (some ⟨3,81,none⟩)]))):
 Calls Tryz.prog 74 #[.slice A n c] w fun e w'=>∃v r,e=.returned (.tuple #[.agg (tokv (qg4 bs).2.1 v (qg4 bs).2.2.2).toArray,r])∧OwnC w' w.heap.size v (qg4 bs).2.2.1∧RErr w' w.heap.size r (qg4 bs).1∧Below w.heap.size w w':=by
 have HB:=zh1 hb;have r0:=Blk.new w 31 zLT;obtain⟨HE,R0,HR⟩:=zh3 hE r0 (hr.laid (.cells zLT 31));clear hE r0 hr;go_enter Tryz.func74,Tryz.ntmps74
 go_wp2_with fail
 refine(qf9 bs A n c _ HR.out hn).mono ?_;rintro e w1 ⟨g,rfl,h1,b1⟩;go_wp2_with fail
 obtain⟨B,hB⟩:=xeq ((w.alloc (.cells zLT 31)).heap.size);have hB1:B=w.heap.size+1:=by rw[←hB,qar]
 have r1:=R0.out.below b1 R0.out.lt;have bl1:Below w.heap.size w w1:=((tA5 _ _).alloc (tA4 _) _).trans (b1.mono (by rw[hB];omega));rw[hB]at h1;clear b1 hB;refine(qfi B g bs (0,none) 4 w1 h1 HB.out).mono ?_;rintro e w2 ⟨rfl,h2,g2⟩;have hBg:=h1.le;have bl2:=adv bl1 g2 (by omega) h1.lt;have r2:=r1.grown g2 (by simp;omega);have a4:=qfh bs (0,none) 4 HB.out;have e4:qb0 4=4:=rfl;rw[e4]at h2 ⊢;clear e4;obtain⟨ra,hra⟩:=xeq (rNum bs (0,none) 4);rw[hra]at h2 a4 ⊢;obtain⟨s2,id⟩:=ra;dsimp only at h2 a4 ⊢;have hid:id<4294967296:=Nat.lt_of_lt_of_eq a4 (by decide);have u0:IntKind.u32.wrap (id:Int)=id:=by rw[IntKind.wrap_u32];omega
 obtain⟨RA,H2,A5,R2⟩:=zh4 hra h2 bl2 r2;clear h1 h2 g2 bl1 bl2 r1 r2 hra a4;have bD:=qg8 id;have lD:=qer id (.slice none 0 0) (List.replicate 32 0) (by simp);have oD:=qf3 id (.slice none 0 0) rfl (List.replicate 32 0);obtain⟨D,hD⟩:=xeq (tokv id (.slice none 0 0) (List.replicate 32 0));rw[hD]at bD lD oD;obtain⟨I2,Z2,BD,LD,OD,HD⟩:=zh6 (show (Tryz.prog.info? 31).map (·.size)=some D.toArray.size by rw[List.size_toArray,lD];exact Tryz.tok_info) (Blk.new w2 31 zLT) bD lD oD hD;clear bD lD oD hD;go_upto_region 3 with(first
  |(refine qbk rfl ⟨.agg D.toArray,qfq 31 _ rfl _ _ BD.out (by simp[Act.eval]),?_⟩)
  |(refine wpList_store_row rfl 31 (.tmp 5) (.tmp 15) rfl w2.heap.size D.toArray rfl rfl 31 _ Z2.out I2.out (by simp[LD.out]) (by simpa using OD.out) ?_))
 obtain⟨w3,hw3⟩:=eqx ((w2.alloc (.cells zLT 31)).setRow w2.heap.size D.toArray);rw[←hw3];obtain⟨G5,hG5⟩:=xeq w2.heap.size;have t3:Blk w3 G5 31 D.toArray:=by rw[hw3,←hG5];exact Z2.out.setRow _
 have b23:Below w2.heap.size w2 w3:=by rw[hw3];exact below_setRow ((tA5 _ _).alloc (tA4 _) _) (tA4 _) _
 have h3:=H2.out.below b23;have r3:=R2.out.below b23 R2.out.lt;have bl3:Below w.heap.size w w3:=A5.out.trans (b23.mono A5.out.size);have hgG:g<G5:=by rw[←hG5];exact H2.out.lt
 rw[hG5];clear hw3 b23 hG5 Z2 H2 R2 A5;go_wp2_with fail
 refine(qfi B g bs s2 1 w3 h3 HB.out).mono ?_;rintro e w4 ⟨rfl,h4,g4⟩;have bl4:=adv bl3 g4 (by omega) h3.lt;have r4:=r3.grown g4 (by simp;omega);have t4:=t3.grown g4 (by simp;omega);have m4:=qfh bs s2 1 HB.out;have e1:qb0 1=1:=rfl;rw[e1]at h4 ⊢;clear e1;obtain⟨rb,hrb⟩:=xeq (rNum bs s2 1);rw[hrb]at h4 m4 ⊢;obtain⟨s4,m⟩:=rb;dsimp only at h4 m4 ⊢;have m4':m<256:=Nat.lt_of_lt_of_eq m4 (by decide);obtain⟨RB,H4,A6,R4,T4⟩:=zh5 hrb h4 bl4 r4 t4;clear h3 h4 g4 bl3 bl4 r3 r4 t3 t4 hrb m4;go_upto_if 19 with(fail)
 obtain⟨⟨s5,m'⟩,hhd⟩:∃x,qg3 bs s4 m=x:=⟨_,rfl⟩;have A7:=zh1 hhd;have hm':m'≤4:=by unfold qg3 at hhd;split at hhd<;>(injection hhd;omega)
 clear hhd;go_cut [6] (fun s6 wx=>s6=.int .u64 m'∧Hid (Rd wx B g bs s5)∧Hid (Blk wx G5 31 D.toArray)∧Hid (Blk wx w.heap.size 31 zLT)∧Hid (Below w.heap.size w wx))
 case first=>
  by_cases hm:4<m
  ·
   have hmi:(4:Int)<m:=by omega
   have hd:=A7.out;rw[qg3,if_pos hm]at hd;injection hd with hd1 hd2;subst hd1 hd2;go_wp2_with fail
   refine(qfb B g bs s4 4 w4 H4.out (by decide)).mono ?_;rintro e w5 ⟨rfl,h5,g5⟩;obtain⟨AI,AJ,AK,H5⟩:=zh4 (adv A6.out g5 (by omega) H4.out.lt) (R4.out.grown g5 (by simp;omega)) (T4.out.grown g5 (by simp;omega)) h5;clear h5 g5;go_wp2
   go_meet
   case rel=>exact⟨rfl,H5.out,AK.out,AJ.out,AI.out⟩
  have hmi:¬(4:Int)<m:=by omega
  have hd:=A7.out;rw[qg3,if_neg hm]at hd;injection hd with hd1 hd2;subst hd1 hd2;go_wp2
  go_meet
  case rel=>exact⟨rfl,H4.out,T4.out,R4.out,A6.out⟩
 case rest=>
  obtain⟨rfl,H5,T5,R5,A8⟩:=hcut;clear H4 T4 R4 A6;go_upto_block 0 with fail
  go_cut [] (fun wx=>∃(s:RSt) (l:List (Int × Nat)) (v:Value),Hid (qg2 bs m' s5 []=(s,l))∧l.length≤4∧Hid (Rd wx B g bs s)∧Hid (OwnC wx w.heap.size v l)∧Hid (Blk wx G5 31 (tokv id v (List.replicate 32 0)).toArray)∧Hid (Blk wx w.heap.size 31 zLT)∧Hid (Below w.heap.size w wx))
  case first=>
   go_wp2_with fail
   go_loopw [23] (fun i wr=>∃(j:Nat) (s:RSt) (l:List (Int × Nat)) (v:Value),j≤m'∧i=.int .u64 j∧l.length≤j∧Hid (qg2 bs (m' - j) s l=qg2 bs m' s5 [])∧Hid (Rd wr B g bs s)∧Hid (OwnC wr w.heap.size v l)∧Hid (Blk wr G5 31 (tokv id v (List.replicate 32 0)).toArray)∧Hid (Blk wr w.heap.size 31 zLT)∧Hid (Below w.heap.size w wr)) (fun i _=>m' - (intOf i).toNat)
   case atStart=>exact⟨0,s5,[],.slice none 0 0,by omega,rfl,by simp,rfl,H5.out,OwnC.nil _ _,by rw[HD.out];exact T5.out,R5.out,A8.out⟩
   case round=>
    clear H5 T5 R5 A8;obtain⟨j,s,l,v,hj,rfl,hl,hdec,hrd,hov,htb,hrb,hbl⟩:=hrel;by_cases hjm:j<m'
    ·
     have qk:(j:Int)<m':=by omega
     go_wp2_with fail
     refine(qfi B g bs s 1 wr hrd.out HB.out).mono ?_;rintro e wa ⟨rfl,ha,ga⟩;have hkl:=qfh bs s 1 HB.out;have e1:qb0 1=1:=rfl;rw[e1]at ha ⊢;clear e1;obtain⟨⟨sa,k⟩,hka⟩:∃x,rNum bs s 1=x:=⟨_,rfl⟩;rw[hka]at ha hkl ⊢;dsimp only at ha hkl ⊢;have hk256:k<256:=Nat.lt_of_lt_of_eq hkl (by decide);have hki:IntKind.i64.wrap (k:Int)=k:=IntWalk.i64_in _ (by omega);obtain⟨BLa,Ra,Ta⟩:=zh3 (adv hbl.out ga (by omega) hrd.out.lt) (hrb.out.grown ga (by simp;omega)) (htb.out.grown ga (by simp;omega));have Oa:=zh1 (show OwnC wa w.heap.size v l from World.ownsRow.kept hov.out ga (.inr (fun e=>by
      obtain⟨A',n',c',p',hgb,-⟩:=hrd.out;exact qa3 hov.out hgb (by decide) e)))
     obtain⟨Ha,KA⟩:=zh2 ha hka;clear ha ga hkl hka hrd hov htb hrb hbl;by_cases hkb:qek (k:Int)=true
     ·
      go_wp2_with fail
      refine(qeo k _).mono ?_;rintro e _ ⟨rfl,rfl⟩;rw[hkb];go_upto_region 12 with(fail)
      have t1:=Ta.out.cell 1;rw[show (tokv id v (List.replicate 32 0)).toArray[1]? =some v from rfl]at t1;have b4:=qfh bs sa 4 HB.out;have RN:=fun w h=>qfi B g bs sa 4 w h HB.out
      have e4:qb0 4=4:=rfl;rw[e4]at RN;clear e4;obtain⟨⟨sb,N⟩,hkb4⟩:∃x,rNum bs sa 4=x:=⟨_,rfl⟩;simp only[hkb4]at RN b4;have hN:N<4294967296:=Nat.lt_of_lt_of_eq b4 (by decide);have hNi:IntKind.u32.wrap (N:Int)=N:=by rw[IntKind.wrap_u32];omega
      obtain⟨KB,AL⟩:=zh2 hkb4 RN;clear b4 hkb4 RN;have hlt:G5<wa.heap.size:=Ta.out.lt;obtain⟨S,HS⟩:∃S:World→Prop,Hid (∀w',S w'=(w'.cell? ⟨G5,1,none⟩=some v)):=⟨_,fun _=>rfl⟩;refine zrs S 10 [(0,false),(1,false),(2,false),(3,false),(4,true),(5,false),(6,false),(7,true),(8,true),(9,false),(10,true)] ((HS.out _).mpr t1) ?_;repeat(refine zrd rfl rfl (fun w1 hS=>by rw[HS.out]at hS;go_split_ands;go_simp;(try go_bits);try rfl) ?_;simp only[Act.put,tA0,tA1,tA2])
      refine qbj rfl rfl ?_;go_simp;refine(AL.out wa.drew Ha.out).mono ?_;rintro e wb ⟨rfl,hbb,gb⟩;have tb:=(show Blk wa.drew G5 31 _ from Ta.out).grown gb (by simp;omega);have rb:=(show Blk wa.drew w.heap.size 31 _ from Ra.out).grown gb (by simp;omega);have tb1:=tb.cell 1;rw[show (tokv id v (List.replicate 32 0)).toArray[1]? =some v from rfl]at tb1;have hgl:g<wa.heap.size:=Ha.out.lt;have blb:=adv (show Below w.heap.size w wa.drew from BLa.out.drew) gb (by omega) hgl;have ob:OwnC wb w.heap.size v l:=World.ownsRow.kept (show OwnC wa.drew w.heap.size v l from Oa.out) gb (.inr (fun e=>by
       obtain⟨A',n',c',p',hgb,-⟩:=Ha.out;exact qa3 Oa.out hgb (by decide) e))
      refine⟨(HS.out _).mpr tb1,?_⟩;try simp only[Act.put,tA0,tA1,tA2]
      repeat(refine zrd rfl rfl (fun w1 hS=>by rw[HS.out]at hS;go_split_ands;go_simp;(try go_bits);try rfl) ?_;simp only[Act.put,tA0,tA1,tA2])
      refine qbj rfl rfl ?_;go_simp;refine⟨(HS.out _).mpr (qaj tb1 _),?_⟩;try simp only[Act.put,tA0,tA1,tA2]
      have hbB:=blb.size;have rc:Reads (wb.alloc (.cells #[.int .i64 (k:Int),.int .u32 (N:Int)] 132)) (wb.alloc (.cells #[.int .i64 (k:Int),.int .u32 (N:Int)] 132)).heap.size 2 (some ⟨wb.heap.size,0,none⟩) 1 (cavv [((k:Int),N)]):=by
       have:=Reads.new wb 132 (cavv [((k:Int),N)]) 2 1 (by rw[qez];rfl);rw[qar];exact this
      refine qbj rfl rfl ?_;refine qfv (.tmp 34) (.tmp 40) rfl w.heap.size v l rfl (ob.alloc _) _ 1 1 [((k:Int),N)] rfl rc (by omega) (by rw[qar];omega) ?_;intro v9 wd od bd gd;obtain⟨A9,n9,c9,rfl,-,-,-,-⟩:=od.sl;have td:=(tb.alloc (.cells #[.int .i64 (k:Int),.int .u32 (N:Int)] 132)).grown gd (Ne.symm (qa3 ob tb (by decide)));have td1:=td.cell 1;rw[show (tokv id v (List.replicate 32 0)).toArray[1]? =some v from rfl]at td1;refine⟨fun _=>(HS.out _).mpr td1,?_⟩;try simp only[Act.put,tA0,tA1,tA2]
      repeat(refine zrd rfl rfl (fun w1 hS=>by rw[HS.out]at hS;go_split_ands;go_simp;(try go_bits);try rfl) ?_;simp only[Act.put,tA0,tA1,tA2])
      have td1f:=td.frozen 1;have hd:=(hbb.below ((tA5 _ _).alloc (tA4 _) (.cells #[.int .i64 (k:Int),.int .u32 (N:Int)] 132))).grown (ob.alloc _) gd;have rd:=(rb.alloc (.cells #[.int .i64 (k:Int),.int .u32 (N:Int)] 132)).grown gd (Ne.symm (qa3 ob rb (by decide)));have bld:Below w.heap.size w wd:=(qah blb _).trans bd;have ne1:=qa3 od td (by decide);refine qbj rfl rfl ?_;go_simp;refine qbg ?_;have AM:=zh1 (hd.kept (k:=G5) (World.grownBy.refl _ _ |> fun q=>qab (p:=⟨G5,1,none⟩) q (.inl rfl) (.slice A9 n9 c9)) td (by decide) (by decide) (by omega));have AN:Hid (Blk (wd.setCell ⟨G5,1,none⟩ (.slice A9 n9 c9)) G5 31 (tokv id (.slice A9 n9 c9) (List.replicate 32 0)).toArray):=by
       have:=td.set_ 1 (.slice A9 n9 c9);rw[show (tokv id v (List.replicate 32 0)).toArray.setIfInBounds 1 (.slice A9 n9 c9)=(tokv id (.slice A9 n9 c9) (List.replicate 32 0)).toArray by simp[tokv]]at this;exact this
      obtain⟨AO,AP,AQ⟩:=zh3 (rd.far (p:=⟨G5,1,none⟩) (by show w.heap.size≠G5;omega) (.slice A9 n9 c9)) (show OwnC (wd.setCell ⟨G5,1,none⟩ (.slice A9 n9 c9)) w.heap.size (.slice A9 n9 c9) (l++[((k:Int),N)]) from qal od (p:=⟨G5,1,none⟩) ne1 (.slice A9 n9 c9)) (bld.setCell (p:=⟨G5,1,none⟩) (by show w.heap.size≤G5;omega) (.slice A9 n9 c9));have A2:Hid (qg2 bs (m' - (j+1)) sb (l++[((k:Int),N)])=qg2 bs m' s5 []):=by
       show _=_;rw[←hdec.out,show m' - j=(m' - (j+1))+1 by omega];show _=(if qek ((rNum bs s 1).2:Int) then _ else _);rw[KA.out,if_pos hkb,KB.out]
      clear hd rd bld ne1 td td1 td1f tb tb1 rb blb ob od bd gd hbb gb rc Ha Oa Ta Ra BLa t1;go_wp2
      go_roundw
      case rel=>exact⟨j+1,sb,l++[((k:Int),N)],(.slice A9 n9 c9),by omega,by go_num,by rw[tA6];simp;omega,A2.out,AM.out,AP.out,AN.out,AO.out,AQ.out⟩
      case measure=>simp[intOf];omega
     have hkb':qek (k:Int)=false:=by simpa using hkb
     go_wp2_with fail
     refine(qeo k _).mono ?_;rintro e _ ⟨rfl,rfl⟩;rw[hkb'];go_wp2_with fail
     refine(qfb B g bs sa 12 wa Ha.out (by decide)).mono ?_;rintro e wb ⟨rfl,hbb,gb⟩;obtain⟨BLb,Rb,Tb⟩:=zh3 (adv BLa.out gb (by omega) Ha.out.lt) (Ra.out.grown gb (by simp;omega)) (Ta.out.grown gb (by simp;omega));have Ob:=zh1 (show OwnC wb w.heap.size v l from World.ownsRow.kept Oa.out gb (.inr (fun e=>by
      obtain⟨A',n',c',p',hgb,-⟩:=Ha.out;exact qa3 Oa.out hgb (by decide) e)))
     have Hb:=zh1 hbb;have A2:Hid (qg2 bs m' s5 []=(qf6 sa sa.1 12,l)):=by
      rw[←hdec.out,show m' - j=(m' - j - 1)+1 by omega];show (if qek ((rNum bs s 1).2:Int) then _ else _)=_;rw[KA.out,if_neg (by simp[hkb'])]
     clear hbb gb Ha Oa Ta Ra BLa;go_wp2
     go_meet
     case rel=>exact⟨qf6 sa sa.1 12,l,v,A2.out,by omega,Hb.out,Ob.out,Tb.out,Rb.out,BLb.out⟩
    have qk:¬(j:Int)<m':=by omega
    have hd:=hdec.out;rw[show m' - j=0 by omega]at hd;have A2:=zh1 hd.symm;clear hd;go_wp2
    go_meet
    case rel=>exact⟨s,l,v,A2.out,by omega,hrd.out,hov.out,htb.out,hrb.out,hbl.out⟩
  case rest=>
   obtain⟨s,l,v,hdec,hl4,H6,O6,T6,R6,AD⟩:=hcut;clear H5 T5 R5 A8;go_wp2_with fail
   refine(qfl B g bs s wc H6.out).mono ?_;rintro e w7 ⟨rfl,h7,g7⟩;have ltag:=qfj bs s;obtain⟨⟨s7,tag⟩,hdg⟩:∃x,rDig bs s=x:=⟨_,rfl⟩;rw[hdg]at h7 ltag ⊢;dsimp only at h7 ltag ⊢;have DG:=zh1 hdg;have t7:=T6.out.grown g7 (by simp;omega);have r7:=R6.out.grown g7 (by simp;omega);have bl7:=adv AD.out g7 (by omega) H6.out.lt;have o7:OwnC w7 w.heap.size v l:=World.ownsRow.kept O6.out g7 (.inr (fun e=>by
    obtain⟨A',n',c',p',hgb,-⟩:=H6.out;exact qa3 O6.out hgb (by decide) e))
   have htt:=qg7 id v (List.replicate 32 0) tag (by simp) ltag;have lV:(byv tag).length=32:=by rw[qat];exact ltag
   have oV:=qau tag;obtain⟨TH,SC⟩:=zh2 (qf5 t7 2 32 (by rw[qer _ _ _ (by simp)];decide)) (Blk.setCells (byv tag) 2 w7 _ t7 (by rw[qer _ _ _ (by simp),lV];decide));rw[htt]at SC;obtain⟨V,hV⟩:=xeq (byv tag);rw[hV]at SC lV oV ⊢;obtain⟨IV,TH',OV⟩:=zh3 (show (Tryz.prog.info? 29).map (·.size)=some V.toArray.size by rw[List.size_toArray,lV];exact Tryz.dig_info) (show w7.there G5 2 V.toArray.size by rw[List.size_toArray,lV];exact TH.out) (all_oneCell_toArray oV);have gsc:=qf4 G5 V 2 w7;obtain⟨H7,O7,R7,A3⟩:=zh4 (h7.kept gsc t7 (by decide) (by decide) (by omega)) (show OwnC (w7.setCells G5 2 V) w.heap.size v l from World.ownsRow.kept o7 gsc (.inr (qa3 o7 t7 (by decide)))) (r7.grown gsc (by simp;omega)) (adv bl7 gsc (by omega) t7.lt);clear h7 g7 t7 r7 bl7 o7 hdg htt lV oV hV TH gsc H6 O6 T6 R6 AD;go_upto_region 15 with(refine wpList_store_mid rfl 29 (.tmp 46) (.tmp 45) rfl G5 2 V.toArray rfl rfl TH'.out IV.out OV.out ?_)
   obtain⟨w8,hw8⟩:=eqx (w7.setCells G5 2 V);rw[←hw8]at SC H7 O7 R7 A3 ⊢;clear hw8;have T8:=zh1 SC.out;go_wp2_with fail
   obtain⟨w9,hw9⟩:=eqx (w8.alloc (.cells #[.pointer none] 237));rw[←hw9];have p9:Blk w9 w8.heap.size 237 #[.pointer none]:=by rw[hw9];exact Blk.new _ _ _
   have b89:Below w8.heap.size w8 w9:=by rw[hw9];exact(tA5 _ _).alloc (tA4 _) _
   obtain⟨P8,hP8⟩:=xeq w8.heap.size;rw[hP8]at p9 ⊢;refine(qfm B g bs s7 w9 (H7.out.below b89)).mono ?_;rintro e w10 ⟨r,rfl,her,b910⟩;have b810:=b89.trans (b910.mono b89.size);have t10:=T8.out.below b810 T8.out.lt;have r10:=R7.out.below b810 R7.out.lt;have p10:=p9.below b910 p9.lt;have o10:=O7.out.kept b810;have bl10:=A3.out.trans (b810.mono A3.out.size);have AE:Hid (decT bs (0,none)=(s7,(id,l,tag))):=by
    show _=_;unfold decT;simp only[RA.out,RB.out,A7.out,hdec.out,DG.out]
   obtain⟨AA,AF,A4,AB,A0⟩:=zh5 p10 t10 r10 o10 bl10;have hPG:P8≠w.heap.size∧P8≠G5∧w.heap.size<P8:=by
    have:=R7.out.lt;have:=SC.out.lt;omega
   have AG:=zh1 (show w.heap.size<w9.heap.size by have:=p9.lt;omega);clear b810 t10 r10 p10 o10 bl10 b89 hP8 hw9 p9 SC T8 H7 O7 R7 A3 DG;cases hend:rEnd bs s7 with
   |none=>
    rw[hend]at her;have er:r=.nilIface:=her;subst er;have A1:Hid (qg4 bs=(none,(id,l,tag))):=by
     show _=_;unfold qg4;rw[AE.out,hend]
    clear hend her;have lT:=qer id v tag ltag;obtain⟨Av,nv,cv,rfl,-,-,-,-⟩:=AB.out.sl;have oT:=qf3 id (.slice Av nv cv) rfl tag;obtain⟨T,hT⟩:=xeq (tokv id (.slice Av nv cv) tag);rw[hT]at AF lT oT;obtain⟨RG,IT,IT',LT,OT,ET⟩:=zh6 (qap AF.out 0 T (fun j u h=>by simpa using h)) (zI 31 lT) (show (Tryz.prog.info? 31).map (·.size)=some T.toArray.size by rw[List.size_toArray,lT];exact Tryz.tok_info) lT oT hT;clear lT oT hT;go_wp2_with fail
    refine(qfn _ w10).mono ?_;rintro e _ ⟨rfl,rfl⟩;go_wp2_with (first
     |(refine qaq rfl 31 (.tmp 5) rfl G5 0 rfl T _ RG.out Tryz.underlying31 rfl IT.out ?_)
     |(refine wpList_store_row rfl 31 (.tmp 2) (.tmp 55) rfl w.heap.size T.toArray rfl rfl 31 _ A4.out IT'.out (by simp[LT.out]) (by simpa using OT.out) ?_))
    have z:=A4.out.setRow T.toArray;refine bodyPost_ret (qfu rfl rfl (qfx z LT.out)) rfl ⟨.slice Av nv cv,.nilIface,?_,?_,?_,?_⟩
    · rw[A1.out,←ET.out]
      rfl
    · rw[A1.out]
      exact World.ownsRow.kept AB.out (qam _ _ _) (.inr (qa3 AB.out A4.out (by decide)))
    · rw[A1.out]
      rfl
    exact below_setRow A0.out (tA4 _) _
   |some x=>
    rw[hend]at her;obtain⟨hh,rfl,hhB,hkb⟩:=her;have A1:Hid (qg4 bs=(some x,qft)):=by
     show _=_;unfold qg4;rw[AE.out,hend]
    have hg10:=(A0.out.cell (p:=⟨0,0,none⟩) (World.block_lt_of_cell? _ _ HE.out)).trans HE.out;obtain⟨HK,AS⟩:=zh2 hkb (qg6 hh P8 (.pointer none) w10 hg10 AA.out);clear hend hkb hg10;go_wp2_with fail
    refine AS.out.mono ?_;rintro e w11 ⟨rfl,p11,g11⟩;have r11:=A4.out.grown g11 (by simp;omega);have k11:=HK.out.grown g11 (by
     intro e;injection e with e;subst e;exact HK.out.ne_ AA.out (by decide) rfl)
    have bl11:=adv A0.out g11 (by omega) AA.out.lt;have p11c:=p11.cell 0;rw[show (#[Value.pointer (some ⟨hh,0,none⟩)]:Array Value)[0]? =some (.pointer (some ⟨hh,0,none⟩)) from rfl]at p11c;obtain⟨AH,AR,AC,AT⟩:=zh4 r11 k11 bl11 p11;clear p11 g11 r11 k11 bl11;go_wp2_with fail
    obtain⟨S,HS⟩:∃S:World→Prop,Hid (∀w',S w'=(w'.cell? ⟨P8,0,none⟩=some (.pointer (some ⟨hh,0,none⟩)))):=⟨_,fun _=>rfl⟩;refine zrs S 5 [(0,false),(1,false),(2,false),(3,true),(4,false)] ((HS.out _).mpr p11c) ?_;refine qbh rfl rfl ⟨.agg qfy.toArray,fun w1 hS=>qfq 31 _ rfl _ _ qg5 (by simp[Act.eval]),?_⟩;try simp only[Act.put,tA0,tA1,tA2]
    repeat(refine zrd rfl rfl (fun w1 hS=>by rw[HS.out]at hS;go_split_ands;go_simp;(try go_bits);try rfl) ?_;simp only[Act.put,tA0,tA1,tA2])
    refine qbj rfl rfl ?_;refine wp_store_row 31 (.tmp 2) (.tmp 52) rfl w.heap.size qfy.toArray rfl rfl 31 _ AH.out qg0 qg1 qfz ?_;have z:=AH.out.setRow qfy.toArray;have kz:=AR.out.setRow_far (g:=w.heap.size) (by have:=AG.out;omega) qfy.toArray;have pz:=(AT.out.setRow_far (g:=w.heap.size) (by omega) qfy.toArray).cell 0;rw[show (#[Value.pointer (some ⟨hh,0,none⟩)]:Array Value)[0]? =some (.pointer (some ⟨hh,0,none⟩)) from rfl]at pz;refine⟨fun _=>(HS.out _).mpr pz,?_⟩;try simp only[Act.put,tA0,tA1,tA2]
    repeat(refine zrd rfl rfl (fun w1 hS=>by rw[HS.out]at hS;go_split_ands;go_simp;(try go_bits);try rfl) ?_;simp only[Act.put,tA0,tA1,tA2])
    refine qbg ?_;go_wp2_with fail
    refine bodyPost_ret (qfu rfl rfl (qfx z rfl)) rfl ⟨.slice none 0 0,.iface 237 (.pointer (some ⟨hh,0,none⟩)),?_,?_,?_,?_⟩
    · rw[A1.out]
      rfl
    · rw[A1.out]
      exact OwnC.nil _ _
    · rw[A1.out]
      exact⟨hh,rfl,Nat.le_trans (Nat.le_of_lt AG.out) hhB,kz⟩
    exact below_setRow AC.out.drew (tA4 _) _
end
section
open Go.RowKit
theorem qga (k:Int)(w:World):
 Calls Tryz.prog 162 #[.int .i64 k] w fun e w'=>e=.returned (.int .i64 (qb0 k))∧w=w':=by
 by_cases h1:k<1
 · have H:Hid (((qb0 k:Nat):Int)=1):=by unfold Hid qb0;omega
   go_enter Tryz.func162,Tryz.ntmps162
   go_wp2
   go_ret
   exact⟨qeb H.out.symm,rfl⟩
 by_cases h8:8<k
 · have H:Hid (((qb0 k:Nat):Int)=8):=by unfold Hid qb0;omega
   go_enter Tryz.func162,Tryz.ntmps162
   go_wp2
   go_ret
   exact⟨qeb H.out.symm,rfl⟩
 have H:Hid (((qb0 k:Nat):Int)=k):=by unfold Hid qb0;omega
 go_enter Tryz.func162,Tryz.ntmps162
 go_wp2
 go_ret
 exact⟨qeb H.out.symm,rfl⟩
theorem qgb (A:Option Addr)(L c n:Nat)(k:Int)(bs:List Nat)(w:World)(hr:Reads w w.heap.size 1 A L (byv bs))(hl:bs.length≤4294967296)(hn:n<18446744073709551616):
 Calls Tryz.prog 99 #[.slice A L c,.int .u64 n,.int .i64 k] w fun e w'=>∃v,e=.returned v∧OwnB w' w.heap.size v (bs++be n (qb0 k))∧Below w.heap.size w w':=by
 obtain⟨hs1,hs8⟩:=qb1 k;have hr0:=hr.laid (.cells #[] 5);have hL:=qb5 hr;rw[hL]at hl;have HL:=zh1 hL;clear hL hr;go_enter Tryz.func99,Tryz.ntmps99
 go_wp2_with (at_builtin;refine qcx rfl (.tmp 9) (.tmp 10) rfl w.heap.size _ [] rfl (OwnB.made w [] (by simp[maxLen])) A L c bs rfl hr0 (by simp;omega) (by simp) ?_)
 intro v1 w1 hown1 hb1 hg1;have hB1:Below w.heap.size w w1:=((tA5 _ _).alloc (tA4 _) _).trans hb1;go_wp2_with fail
 refine(qga _ _).mono ?_;rintro e w2 ⟨rfl,rfl⟩;obtain⟨s,hs⟩:=xeq (qb0 k);have Hs:=zh1 hs;rw[hs]at hs1 hs8 ⊢;clear hs hb1 hg1 hr0;go_wp2
 go_loopw [7,8] (fun out i wr=>∃j m:Nat,s=j+m∧i=.int .i64 ((m:Int) - 1)∧OwnB wr w.heap.size out (bs++(be n s).take j)∧Below w.heap.size w wr) (fun _ i _=>(intOf i+1).toNat)
 case atStart=>exact⟨0,s,by omega,rfl,by simpa using hown1,hB1⟩
 case round=>
  obtain⟨j,m,hjm,rfl,hown,hb⟩:=hrel;clear hown1 hB1;cases m with
  |zero=>
   obtain rfl:j=s:=by omega
   rw[List.take_of_length_le (by rw[qaw];omega)]at hown;go_wp2
   go_ret
   exact⟨_,rfl,by rw[Hs.out];exact hown,hb⟩
  |succ m=>
   have em:((m+1:Nat):Int) - 1=m:=by omega
   rw[em];clear em;have hlj:(bs++(be n s).take j).length≤4294967296+8:=by have:=HL.out;rw[tA6,List.length_take,qaw];omega
   have Hjm:=zh1 hjm;clear hjm;have hm8:m≤7:=by have:=Hjm.out;omega
   go_wp2_with (at_builtin;refine qcx rfl (.tmp 19) (.tmp 26) rfl w.heap.size _ _ rfl (hown.alloc _) _ 1 1 [n / 2^(8*m) % 256] rfl (by simpa using qd0 wr (n / 2^(8*m) % 256)) (by omega) (by have:=hb.size;simp;omega) ?_)
   intro v1 w1 hown1 hb1 hg1;have HW:Hid (OwnB w1 w.heap.size v1 (bs++(be n s).take (j+1))):=by
    have e:s - 1 - j=m:=by have:=Hjm.out;omega
    rw[qax n s j (by have:=Hjm.out;omega),e];rw[show qav n m=n / 2^(8*m) % 256 from by unfold qav;rw[Nat.pow_mul]];exact hown1
   have HB:=zh1 ((hb.alloc hb.size (.cells #[.int .u8 ((n / 2^(8*m) % 256:Nat):Int)] 5)).trans hb1);clear hown1 hb1 hg1 hb hown;go_wp2
   go_roundw
   case rel=>exact⟨j+1,m,by have:=Hjm.out;omega,rfl,HW.out,HB.out⟩
   case measure=>simp[intOf]
end
section
open Go.RowKit
theorem qgc (bs:List Nat)(s:RSt)(n:Nat)(x:Nat × Nat)(h:s.2=some x):qf7 bs s n=(s,[]):=by
 unfold qf7;rw[h]
theorem qgd (bs:List Nat)(s:RSt)(n:Nat)(x:Nat × Nat)(h:s.2=some x):rNum bs s n=(s,0):=by
 unfold rNum;rw[qgc bs s n x h];rfl
theorem qge (s:RSt)(a y:Nat)(x:Nat × Nat)(h:s.2=some x):qf6 s a y=s:=by
 unfold qf6;rw[h]
theorem qgf (s:RSt)(a y:Nat):(qf6 s a y).2≠none:=by
 unfold qf6;split
 · simp
 rename_i h
 simp[h]
theorem qgg (bs:List Nat)(n:Nat)(s:RSt)(l:List (Int × Nat))(x:Nat × Nat)(h:s.2=some x):(qg2 bs n s l).1=s:=by
 cases n with
 |zero=>rfl
 |succ n=>
  unfold qg2;rw[qgd bs s 1 x h];simp[qek,qge s s.1 12 x h]
theorem qgh {fn:Func}{t s r:Tmp}{ty:TypeId}{g:Nat}{P:Program}{w:World}{v:Value}{tmps:Array Value}(h:fn.results=#[.cell t ty,.tmp s,.tmp r])(ht:tmps.getD t undef=.pointer (some ⟨g,0,none⟩))
 (hl:(loadVar ty ⟨g,0,none⟩).run P w=.ok v w):(results fn tmps).run P w=.ok (.tuple #[v,tmps.getD s undef,tmps.getD r undef]) w:=by
 unfold results;rw[h];simp only[Array.getD_eq_getD_getElem?]at ht;simp[ht,asAddr,hl,Sem.run_pure]
end
section
open Go.RowKit
def qgi (bs:List Nat)(s:RSt)(most:Nat):RSt × List Nat:=
 qf7 bs (if (rNum bs s 2).1.2=none∧most<(rNum bs s 2).2 then(s.1,some (s.1,3)) else(rNum bs s 2).1) (rNum bs s 2).2
theorem qgj (bs:List Nat)(s:RSt)(m:Nat)(h:∀x∈bs,x<256):∀x∈(qgi bs s m).2,x<256:=qfg _ _ _ h
theorem Rd.at_le {w:World}{B g:Nat}{bs:List Nat}{s:RSt}(h:Rd w B g bs s):s.1≤bs.length:=by
 obtain⟨A,n,c,p,hg,hB,ho,hn,hc,hs,hm,hp⟩:=h;omega
theorem qgk (B g:Nat)(bs:List Nat)(s:RSt)(m:Nat)(w:World)(h:Rd w B g bs s)(hb:∀x∈bs,x<256)(hm:m≤65536):
 Calls Tryz.prog 70 #[.pointer (some ⟨g,0,none⟩),.int .i64 m] w fun e w'=>∃v,e=.returned v∧OwnB w' w.heap.size v (qgi bs s m).2∧Rd w' B g bs (qgi bs s m).1∧w.grownBy w' (some g):=by
 have h':=h;obtain⟨A,n,c,p,hg,-⟩:=h';have c1:=hg.cell 1;rw[show (#[Value.slice A n c,.int .i64 (s.1:Int),.pointer p]:Array Value)[1]? =some (.int .i64 (s.1:Int)) from rfl]at c1;have H:=zh1 h;clear h hg;go_enter Tryz.func70,Tryz.ntmps70
 go_wp2_with fail
 refine(qfi B g bs s 2 w H.out hb).mono ?_;rintro e w1 ⟨rfl,h1,g1⟩;have hlt:=qfh bs s 2 hb;have e2:qb0 2=2:=rfl;rw[e2]at h1 ⊢;clear e2;have hRB:qgi bs s m=qf7 bs (if (rNum bs s 2).1.2=none∧m<(rNum bs s 2).2 then(s.1,some (s.1,3)) else(rNum bs s 2).1) (rNum bs s 2).2:=rfl;have hsl:=H.out.at_le;obtain⟨⟨s1,k⟩,hk⟩:∃x,rNum bs s 2=x:=⟨_,rfl⟩;rw[hk]at h1 hlt hRB ⊢;dsimp only at h1 hlt hRB ⊢;have hk2:k<65536:=Nat.lt_of_lt_of_eq hlt (by decide);have kw:IntKind.i64.wrap (k:Int)=k:=IntWalk.i64_in _ (by omega);have A3:=zh1 hRB;have h1':=h1;obtain⟨A1,n1,c1',p1,hg1,hB1,ho1,hn1,hc1,hs1,hm1,hp1⟩:=h1';have c2:=hg1.cell 2;have f1:=hg1.frozen 1;have d1:=hg1.cell 1;rw[show (#[Value.slice A1 n1 c1',.int .i64 (s1.1:Int),.pointer p1]:Array Value)[2]? =some (.pointer p1) from rfl]at c2;rw[show (#[Value.slice A1 n1 c1',.int .i64 (s1.1:Int),.pointer p1]:Array Value)[1]? =some (.int .i64 (s1.1:Int)) from rfl]at d1;obtain⟨H1,G1,HP⟩:=zh3 h1 g1 hp1;have hlt1:=hg1.lt;obtain⟨A4,A5⟩:=zh2 hg1 ho1;clear h1 g1 hlt hRB hk c1 hp1 hg1 ho1;cases hs2:s1.2 with
 |some x=>
  have hx:=HP.out;rw[hs2]at hx;obtain⟨kb,rfl,hkB,hkb⟩:=hx;have e:Hid (qgi bs s m=qf7 bs s1 k):=by
   show _=_;rw[A3.out,if_neg (by rw[hs2];simp)]
  have T:=zh1 (qfc B g bs s1 k w1 H1.out (by omega));clear hkb;go_wp2_with fail
  refine T.out.mono ?_;rintro e2 w2 ⟨A2,n2,c2,rfl,hnc2,rd2,h2,g2⟩;go_wp2_with fail
  refine(qef A2 n2 c2 w2.heap.size _ w2 rd2 (qau _) (by have:=qb5 rd2;have:=qff bs s1 k;omega)).mono ?_;rintro e3 w3 ⟨v,rfl,own3,b3⟩;have l2:=qb5 rd2;go_wp2
  go_ret
  rw[e.out];refine⟨v,rfl,OwnB.mono (base:=w2.heap.size) (by unfold OwnB;rw[l2];exact own3) ?_,h2.below b3,?_⟩
  · exact Nat.le_trans G1.out.size g2.size
  exact qac (qac G1.out g2 (fun d e=>by injection e with e;exact .inl e.symm)) (qad b3 none) (fun d e=>by cases e)
 |none=>
  have hx:=HP.out;rw[hs2]at hx;obtain rfl:p1=none:=hx;by_cases hkm:m<k
  ·
   have q:(m:Int)<k:=by omega
   have e:Hid (qgi bs s m=qf7 bs (s.1,some (s.1,3)) k):=by
    show _=_;rw[A3.out,if_pos ⟨hs2,hkm⟩]
   have hset:Rd (w1.setCell ⟨g,1,none⟩ (.int .i64 (s.1:Int))) B g bs (s.1,none):=
    ⟨A1,n1,c1',none,A4.out.set_ 1 _,hB1,OwnB.far A5.out (p:=⟨g,1,none⟩) (OwnB.blk_ne A5.out A4.out (by decide)) _,hn1,hc1,by dsimp only;omega,hm1,rfl⟩
   obtain⟨A0,GS⟩:=zh2 hset (qab (p:=⟨g,1,none⟩) G1.out (.inl rfl) (.int .i64 (s.1:Int)));clear hset;go_upto_region 5 with(fail)
   obtain⟨wa,hwa⟩:=eqx (w1.setCell ⟨g,1,none⟩ (.int .i64 (s.1:Int)));rw[←hwa]at A0 GS ⊢;clear hwa c2 d1 f1;go_wp2_with fail
   refine(qfa B g bs (s.1,none) s.1 3 wa A0.out (by decide)).mono ?_;rintro e5 wb ⟨rfl,hb5,g5⟩;obtain⟨GB,T⟩:=zh2 (qac GS.out g5 (fun d e=>by injection e with e;exact .inl e.symm)) (qfc B g bs (s.1,some (s.1,3)) k wb hb5 (by omega));clear hb5 g5;go_wp2_with fail
   refine T.out.mono ?_;rintro e2 w2 ⟨A2,n2,c2,rfl,hnc2,rd2,h2,g2⟩;go_wp2_with fail
   refine(qef A2 n2 c2 w2.heap.size _ w2 rd2 (qau _) (by have:=qb5 rd2;have:=qff bs (s.1,some (s.1,3)) k;omega)).mono ?_;rintro e3 w3 ⟨v,rfl,own3,b3⟩;have l2:=qb5 rd2;go_wp2
   go_ret
   rw[e.out];refine⟨v,rfl,OwnB.mono (base:=w2.heap.size) (by unfold OwnB;rw[l2];exact own3) ?_,h2.below b3,?_⟩
   · exact Nat.le_trans GB.out.size g2.size
   exact qac (qac GB.out g2 (fun d e=>by injection e with e;exact .inl e.symm)) (qad b3 none) (fun d e=>by cases e)
  have q:¬(m:Int)<k:=by omega
  have e:Hid (qgi bs s m=qf7 bs s1 k):=by
   show _=_;rw[A3.out,if_neg (fun h=>hkm h.2)]
  have T:=zh1 (qfc B g bs s1 k w1 H1.out (by omega));go_wp2_with fail
  refine T.out.mono ?_;rintro e2 w2 ⟨A2,n2,c2,rfl,hnc2,rd2,h2,g2⟩;go_wp2_with fail
  refine(qef A2 n2 c2 w2.heap.size _ w2 rd2 (qau _) (by have:=qb5 rd2;have:=qff bs s1 k;omega)).mono ?_;rintro e3 w3 ⟨v,rfl,own3,b3⟩;have l2:=qb5 rd2;go_wp2
  go_ret
  rw[e.out];refine⟨v,rfl,OwnB.mono (base:=w2.heap.size) (by unfold OwnB;rw[l2];exact own3) ?_,h2.below b3,?_⟩
  · exact Nat.le_trans G1.out.size g2.size
  exact qac (qac G1.out g2 (fun d e=>by injection e with e;exact .inl e.symm)) (qad b3 none) (fun d e=>by cases e)
theorem qgl (B g:Nat)(bs:List Nat)(s:RSt)(w:World)(h:Rd w B g bs s)(hE:w.cell? ⟨0,0,none⟩=some (.iface 327 (.agg #[.pointer (some ⟨3,81,none⟩)]))):
 Calls Tryz.prog 76 #[.pointer (some ⟨g,0,none⟩)] w fun e w'=>∃v,e=.returned v∧RErr w' w.heap.size v (rEnd bs s)∧Below w.heap.size w w':=by
 have p0:=Blk.new w 237 #[.pointer none];obtain⟨W0,hW0⟩:=eqx (w.alloc (.cells #[.pointer none] 237));have b0:Below w.heap.size w W0:=by rw[hW0];exact qah (tA5 _ _) _
 rw[←hW0]at p0;have hlt:=World.block_lt_of_cell? _ _ hE;obtain⟨HE,H0,P0,B0,A1⟩:=zh5 hE (h.below b0) p0 b0 hW0;clear hE h p0 b0 hW0;go_enter Tryz.func76,Tryz.ntmps76
 go_upto_region 2 with(fail)
 rw[←A1.out];go_wp2_with fail
 refine(qfm B g bs s W0 H0.out).mono ?_;rintro e w1 ⟨v,rfl,er,b1⟩;have p1:=P0.out.below b1 P0.out.lt;have B1:=zh1 (B0.out.trans (b1.mono B0.out.size));have hB0:=B0.out.size;cases hend:rEnd bs s with
 |none=>
  rw[hend]at er;have er0:v=.nilIface:=er;subst er0;go_wp2_with fail
  refine(qfn _ w1).mono ?_;rintro e2 _ ⟨rfl,rfl⟩;go_wp2
  go_ret
  exact⟨_,rfl,by rw[hend];rfl,B1.out⟩
 |some x=>
  rw[hend]at er;obtain⟨hh,rfl,hhB,hkb⟩:=er;have hg1:=(B1.out.cell (p:=⟨0,0,none⟩) hlt).trans HE.out;obtain⟨AS,HK,P1,A0⟩:=zh4 (qg6 hh w.heap.size (.pointer none) w1 hg1 p1) hkb p1 hend;clear hkb p1 hg1 hend;go_wp2_with fail
  refine AS.out.mono ?_;rintro e2 w2 ⟨rfl,p2,g2⟩;have c2:=p2.cell 0;rw[show (#[Value.pointer (some ⟨hh,0,none⟩)]:Array Value)[0]? =some (.pointer (some ⟨hh,0,none⟩)) from rfl]at c2;have k2:=HK.out.grown g2 (by
   intro e;injection e with e;subst e;exact HK.out.ne_ P1.out (by decide) rfl)
  obtain⟨B2,K2⟩:=zh2 (adv B1.out g2 (tA4 _) P1.out.lt) k2;clear p2 g2 k2;go_wp2
  go_ret
  exact⟨_,rfl,by rw[A0.out];exact⟨hh,rfl,Nat.le_trans hB0 hhB,K2.out⟩,B2.out⟩
end
section
open Go.RowKit
theorem qgm:∀(l:List Nat),(∀x∈l,x<256)→be (num l) l.length=l:=by
 intro l hl;have key:∀k,k≤l.length→be (num (l.take k)) k=l.take k:=by
  intro k;induction k with
  |zero=>intro _;simp[be]
  |succ k ih=>
   intro hk;have hk':k<l.length:=by omega
   have hx:=hl _ (List.getElem_mem hk');rw[List.take_add_one,tA7 hk',Option.toList_some,qfd];have e:∀n x,x<256→be (n*256+x) (k+1)=be n k++[x]:=by
    intro n x hx;unfold be;rw[List.range_succ,List.map_append];congr 1
    · refine List.map_congr_left fun j hj=>?_
      have hj':=List.mem_range.1 hj;unfold qav;rw[show k+1 - 1 - j=(k - 1 - j)+1 by omega,Nat.pow_succ,Nat.mul_comm (256^_) 256,←Nat.div_div_eq_div_mul];congr 2
      omega
    simp[qav];omega
   rw[e _ _ hx,ih (by omega)]
 have:=key l.length (tA4 _);simpa using this
theorem qgn (c:Int × Nat)(l:List (Int × Nat)):cavb (c::l)=be c.1.toNat 1++(be c.2 4++cavb l):=by simp[cavb]
theorem qgo (bs:List Nat)(s:RSt)(k:Nat)(hs:s.1≤bs.length)(h:(qf7 bs s k).1.2=none):
 s.2=none∧(qf7 bs s k).1=(s.1+k,none)∧s.1+k≤bs.length∧(qf7 bs s k).2.length=k∧bs.take (s.1+k)=bs.take s.1++(qf7 bs s k).2:=by
 unfold qf7 at h ⊢;split at h
 · rename_i x hx
   rw[hx]at h;cases h
 rename_i hx
 split at h
 · rename_i hk
   rw[if_pos hk];refine⟨hx,rfl,by omega,by simp;omega,?_⟩;rw[List.take_add]
 cases h
theorem qgp (bs:List Nat)(s:RSt)(k:Nat)(hs:s.1≤bs.length)(hb:∀x∈bs,x<256)(h:(rNum bs s k).1.2=none):
 s.2=none∧(rNum bs s k).1=(s.1+k,none)∧s.1+k≤bs.length∧bs.take (s.1+k)=bs.take s.1++be (rNum bs s k).2 k:=by
 obtain⟨h1,h2,h3,h4,h5⟩:=qgo bs s k hs h;refine⟨h1,h2,h3,?_⟩;have:=qgm (qf7 bs s k).2 (qfg bs s k hb);rw[h4]at this;rw[h5];show _=_++be (num (qf7 bs s k).2) k;rw[this]
theorem qgq (bs:List Nat)(hb:∀x∈bs,x<256):∀(n:Nat) (s:RSt) (acc:List (Int × Nat)),s.1≤bs.length→(qg2 bs n s acc).1.2=none→
 s.2=none∧(qg2 bs n s acc).1=(s.1+5*n,none)∧s.1+5*n≤bs.length∧
  ∃l,(qg2 bs n s acc).2=acc++l∧l.length=n∧(∀c∈l,qek c.1=true∧c.2<4294967296)∧bs.take (s.1+5*n)=bs.take s.1++cavb l
 |0,s,acc,hs,h=>by
  obtain⟨s1,s2⟩:=s;have h':s2=none:=h;subst h';exact⟨rfl,rfl,hs,[],by simp[qg2],rfl,by simp,by simp[cavb]⟩
 |n+1,s,acc,hs,h=>by
  unfold qg2 at h ⊢;split at h
  ·
   rename_i hk
   rw[if_pos hk];have hmid:(rNum bs (rNum bs s 1).1 4).1.2=none:=by
    cases h2:(rNum bs (rNum bs s 1).1 4).1.2 with
    |none=>rfl
    |some x=>
     rw[qgg bs n _ _ x h2,h2]at h;cases h
   have hmid1:(rNum bs s 1).1.2=none:=by
    cases h2:(rNum bs s 1).1.2 with
    |none=>rfl
    |some x=>
     rw[qgd bs _ 4 x h2,h2]at hmid;cases hmid
   obtain⟨a1,a2,a3,a4⟩:=qgp bs s 1 hs hb hmid1;have kb:=qel hk;have h4l:=qfh bs (rNum bs s 1).1 4 hb;rw[a2]at h hmid h4l ⊢;obtain⟨b1,b2,b3,b4⟩:=qgp bs (s.1+1,none) 4 a3 hb hmid;obtain⟨c1,c2,c3,l,c4,c5,c6,c7⟩:=qgq bs hb n _ _ (by rw[b2];exact b3) h;rw[b2]at c2 c3 c7;refine⟨a1,?_,?_,(((rNum bs s 1).2:Int),(rNum bs (s.1+1,none) 4).2)::l,?_,by simp[c5],?_,?_⟩
   · rw[b2,c2]
     simp only;congr 1
     omega
   · simp only at c3
     omega
   · rw[c4]
     simp
   · intro c hc
     rcases List.mem_cons.1 hc with rfl|hc
     · exact⟨hk,Nat.lt_of_lt_of_eq h4l (by decide)⟩
     exact c6 c hc
   simp only at c7 b4 a4;rw[show s.1+5*(n+1)=s.1+1+4+5*n by omega,c7,b4,a4,qgn];simp[List.append_assoc]
  exact absurd h (qgf _ _ _)
theorem qgr (bs:List Nat)(hb:∀x∈bs,x<256)(h:(decT bs (0,none)).1.2=none):
 ∃id l tag,decT bs (0,none)=((37+5*l.length,none),(id,l,tag))∧id<4294967296∧l.length≤4∧(∀c∈l,qek c.1=true∧c.2<4294967296)∧tag.length=32∧(∀x∈tag,x<256)∧37+5*l.length≤bs.length∧bs.take (37+5*l.length)=be id 4++be l.length 1++cavb l++tag:=by
 have hdef:decT bs (0,none)=((rDig bs (qg2 bs (qg3 bs (rNum bs (rNum bs (0,none) 4).1 1).1 (rNum bs (rNum bs (0,none) 4).1 1).2).2 (qg3 bs (rNum bs (rNum bs (0,none) 4).1 1).1 (rNum bs (rNum bs (0,none) 4).1 1).2).1 []).1).1,
  ((rNum bs (0,none) 4).2,(qg2 bs (qg3 bs (rNum bs (rNum bs (0,none) 4).1 1).1 (rNum bs (rNum bs (0,none) 4).1 1).2).2 (qg3 bs (rNum bs (rNum bs (0,none) 4).1 1).1 (rNum bs (rNum bs (0,none) 4).1 1).2).1 []).2,
   (rDig bs (qg2 bs (qg3 bs (rNum bs (rNum bs (0,none) 4).1 1).1 (rNum bs (rNum bs (0,none) 4).1 1).2).2 (qg3 bs (rNum bs (rNum bs (0,none) 4).1 1).1 (rNum bs (rNum bs (0,none) 4).1 1).2).1 []).1).2)):=rfl
 rw[hdef]at h ⊢;simp only at h;obtain⟨D,hD⟩:=xeq (qg2 bs (qg3 bs (rNum bs (rNum bs (0,none) 4).1 1).1 (rNum bs (rNum bs (0,none) 4).1 1).2).2 (qg3 bs (rNum bs (rNum bs (0,none) 4).1 1).1 (rNum bs (rNum bs (0,none) 4).1 1).2).1 []);rw[hD]at h ⊢;have hDn:D.1.2=none:=by
  cases h2:D.1.2 with
  |none=>rfl
  |some x=>
   unfold rDig at h;rw[qgc bs _ 32 x h2]at h;simp only at h;rw[h2]at h;cases h
 have hhead:4<(rNum bs (rNum bs (0,none) 4).1 1).2→False:=fun h4=>by
  unfold qg3 at hD;rw[if_pos h4]at hD;rw[←hD]at hDn;exact qgf _ _ _ hDn
 have hhd:qg3 bs (rNum bs (rNum bs (0,none) 4).1 1).1 (rNum bs (rNum bs (0,none) 4).1 1).2=((rNum bs (rNum bs (0,none) 4).1 1).1,(rNum bs (rNum bs (0,none) 4).1 1).2):=by
  unfold qg3;rw[if_neg hhead]
 rw[hhd]at hD;simp only at hD;have h1n:(rNum bs (rNum bs (0,none) 4).1 1).1.2=none:=by
  cases h2:(rNum bs (rNum bs (0,none) 4).1 1).1.2 with
  |none=>rfl
  |some x=>
   rw[←hD,qgg bs _ _ _ x h2,h2]at hDn;cases hDn
 have h0n:(rNum bs (0,none) 4).1.2=none:=by
  cases h2:(rNum bs (0,none) 4).1.2 with
  |none=>rfl
  |some x=>
   rw[qgd bs _ 1 x h2,h2]at h1n;cases h1n
 obtain⟨a1,a2,a3,a4⟩:=qgp bs (0,none) 4 (Nat.zero_le _) hb h0n;have hid:=qfh bs (0,none) 4 hb;rw[a2]at h1n hD hhead;obtain⟨b1,b2,b3,b4⟩:=qgp bs (0+4,none) 1 a3 hb h1n;rw[b2]at hD;rw[←hD]at hDn;obtain⟨c1,c2,c3,l,c4,c5,c6,c7⟩:=qgq bs hb _ _ [] b3 hDn;rw[hD]at c2 c4;have hDD:D=((0+4+1+5*(rNum bs (0+4,none) 1).2,none),l):=by
  rw[show D=(D.1,D.2) from rfl,c2,c4];rfl
 rw[hDD]at h ⊢;simp only at h c3 c7 a4 b4 ⊢;obtain⟨d1,d2,d3,d4,d5⟩:=qgo bs (0+4+1+5*(rNum bs (0+4,none) 1).2,none) 32 c3 h;have hdl:=qfj bs (0+4+1+5*(rNum bs (0+4,none) 1).2,none);have hdb:=qfk bs (0+4+1+5*(rNum bs (0+4,none) 1).2,none) hb;have hdd:(rDig bs (0+4+1+5*(rNum bs (0+4,none) 1).2,none)).2=(qf7 bs (0+4+1+5*(rNum bs (0+4,none) 1).2,none) 32).2:=by
  unfold rDig;simp only;rw[d4];simp
 have hd1:(rDig bs (0+4+1+5*(rNum bs (0+4,none) 1).2,none)).1=(0+4+1+5*(rNum bs (0+4,none) 1).2+32,none):=d2;rw[←c5]at hd1 hdd hdl hdb d3 d5 c7 hhead b4 ⊢;have e37:0+4+1+5*l.length+32=37+5*l.length:=by omega
 refine⟨(rNum bs (0,none) 4).2,l,(rDig bs (0+4+1+5*l.length,none)).2,?_,Nat.lt_of_lt_of_eq hid (by decide),Nat.le_of_not_lt hhead,c6,hdl,hdb,?_,?_⟩
 · rw[hd1,e37]
 · rw[←e37]
   exact d3
 simp only at d5;rw[←e37,d5,c7,b4,a4,hdd];simp[List.append_assoc]
theorem qgs (bs:List Nat)(hb:∀x∈bs,x<256)(h:(qg4 bs).1=none):
 ∃id l tag,qg4 bs=(none,(id,l,tag))∧id<4294967296∧l.length≤4∧(∀c∈l,qek c.1=true∧c.2<4294967296)∧tag.length=32∧(∀x∈tag,x<256)∧qem id l tag=(0,bs):=by
 unfold qg4 at h ⊢;cases hE:rEnd bs (decT bs (0,none)).1 with
 |some x=>
  rw[hE]at h;cases h
 |none=>
  have hn:(decT bs (0,none)).1.2=none:=by
   unfold rEnd at hE;split at hE
   · cases hE
   assumption
  obtain⟨id,l,tag,e,h1,h2,h3,h4,h5,h6,h7⟩:=qgr bs hb hn;have hlen:bs.length≤37+5*l.length:=by
   rw[e]at hE;unfold rEnd at hE;simp only at hE;split at hE
   · cases hE
   omega
  refine⟨id,l,tag,by simp only[e],h1,h2,h3,h4,h5,?_⟩;rw[List.take_of_length_le hlen]at h7;unfold qem;rw[if_neg (by omega),if_pos (List.all_eq_true.2 fun c hc=>by simpa using (h3 c hc).1),h7]
theorem qgt (bs:List Nat)(hb:∀x∈bs,x<256):(qg4 bs).2.Ok∧(qg4 bs).2.2.1.length≤4:=by
 cases h:(qg4 bs).1 with
 |none=>
  obtain⟨id,l,tag,e,h1,h2,h3,h4,h5,-⟩:=qgs bs hb h;rw[e];exact⟨⟨h1,fun c hc=>(h3 c hc).2,h4,h5⟩,h2⟩
 |some x=>
  have:(qg4 bs).2=qft:=by
   unfold qg4 at h ⊢;split at h
   · cases h
   rfl
  rw[this];exact⟨⟨by decide,fun c hc=>(nomatch hc),by simp[qft],by intro x hx;simp[qft]at hx;omega⟩,by simp[qft]⟩
end
end Go.Proofs.YthomgopipiomhaaGreatDoor

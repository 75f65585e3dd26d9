/-
  Lemmas for ModelNumbers, shortened by program.
-/
import Derived.Test.YthomgopipiomhaaGreatDoorBMN16
namespace Go.Proofs.YthomgopipiomhaaGreatDoor
set_option linter.unusedVariables false
set_option linter.unusedSimpArgs false
set_option maxRecDepth 100000
set_option maxHeartbeats 32000000
section
open Go.RowKit
theorem qqv (w:Nat)(hw:w≤32):∀(m:Nat) (l:List (List Nat)) (i:Nat),l.length≤m→(qe2 w l i).length≤l.length∧∀d∈qe2 w l i,d.length=32∧∀x∈d,x<256
 |0,l,i,h=>by rw[qe3 w i (by omega)];exact⟨by simp,fun d hd=>(nomatch hd)⟩
 |m+1,l,i,h=>by
  by_cases h1:l.length≤1
  · rw[qe3 w i h1];exact⟨by simp,fun d hd=>(nomatch hd)⟩
  obtain⟨a,b,c⟩:=qdw (n:=l.length) (by omega);have l1:(l.take (half l.length)).length=half l.length:=by rw[List.length_take];omega
  have l2:(l.drop (half l.length)).length=l.length - half l.length:=List.length_drop;by_cases hi:i<half l.length
  · obtain⟨h2,h3⟩:=qqv w hw m (l.take (half l.length)) i (by omega)
    rw[qe4 w (by omega) hi];refine⟨by rw[tA6,List.length_singleton];omega,fun d hd=>?_⟩;rcases List.mem_append.1 hd with hd|hd
    · exact h3 d hd
    rw[List.mem_singleton.1 hd];exact qna w hw _
  obtain⟨h2,h3⟩:=qqv w hw m (l.drop (half l.length)) (i - half l.length) (by omega);rw[qe5 w (by omega) hi];refine⟨by rw[tA6,List.length_singleton];omega,fun d hd=>?_⟩;rcases List.mem_append.1 hd with hd|hd
  · exact h3 d hd
  rw[List.mem_singleton.1 hd];exact qna w hw _
theorem qqw (w:Nat)(hw:w≤32):∀(k:Nat) (l:List (List Nat)) (m:Nat) (b:Bool),l.length≤k→(subH w l m b).length≤l.length+1∧∀d∈subH w l m b,d.length=32∧∀x∈d,x<256
 |0,l,m,b,h=>by
  rw[subH,dif_pos (.inl (by omega))];cases b
  · exact⟨by simp,fun d hd=>by rw[List.mem_singleton.1 hd];exact qna w hw _⟩
  exact⟨by simp,fun d hd=>(nomatch hd)⟩
 |k+1,l,m,b,h=>by
  by_cases h1:l.length≤1∨m=l.length
  · rw[subH,dif_pos h1]
    cases b
    · exact⟨by simp,fun d hd=>by rw[List.mem_singleton.1 hd];exact qna w hw _⟩
    exact⟨by simp,fun d hd=>(nomatch hd)⟩
  obtain⟨x,y,z⟩:=qdw (n:=l.length) (by omega);have l1:(l.take (half l.length)).length=half l.length:=by rw[List.length_take];omega
  have l2:(l.drop (half l.length)).length=l.length - half l.length:=List.length_drop;by_cases hi:m≤half l.length
  · obtain⟨h2,h3⟩:=qqw w hw k (l.take (half l.length)) m b (by omega)
    rw[qe7 w b (by omega) (by omega) hi];refine⟨by rw[tA6,List.length_singleton];omega,fun d hd=>?_⟩;rcases List.mem_append.1 hd with hd|hd
    · exact h3 d hd
    rw[List.mem_singleton.1 hd];exact qna w hw _
  obtain⟨h2,h3⟩:=qqw w hw k (l.drop (half l.length)) (m - half l.length) false (by omega);rw[qe8 w b (by omega) (by omega) hi];refine⟨by rw[tA6,List.length_singleton];omega,fun d hd=>?_⟩;rcases List.mem_append.1 hd with hd|hd
  · exact h3 d hd
  rw[List.mem_singleton.1 hd];exact qna w hw _
theorem qqx (W:Int)(pw pf:Nat):∀(m:Nat) (ls:List (List Nat)) (i g o n c:Nat) (w:World),ls.length≤m→1≤n→i<n→TextsR w (some ⟨g,o,none⟩) n ls→n≤c→c≤maxLen→n≤1048576→(∀b∈ls,BsOk b)→
 w.cell? ⟨pw,0,none⟩=some (.int .i64 W)→w.cell? ⟨pf,0,none⟩=some (.func (.func 226) #[] #[.pointer (some ⟨pf,0,none⟩),.pointer (some ⟨pw,0,none⟩)])→Tabs w→
 Calls Tryz.prog 226 #[.slice (some ⟨g,o,none⟩) n c,.int .i64 (i:Int),.pointer (some ⟨pf,0,none⟩),.pointer (some ⟨pw,0,none⟩)] w fun e w'=>∃v,e=.returned v∧OwnD w' w.heap.size v (qe2 (cutW W) ls i)∧Below w.heap.size w w':=by
 intro m;induction m with
 |zero=>
  intro ls i g o n c w hm h1 hi ht;have:=ht.1;omega
 |succ m ih=>
  intro ls i g o n c w hm h1 hi ht hnc hcm hn hok hpw hpf hT;have hlen:=ht.1;have AA:=zh1 ih;clear ih;obtain⟨A3,A0,A5,A6,A7,A2,HL,HM⟩:=zh8 ht hT hpw hpf hok hcm hlen hm;clear hok hcm hlen hm ht hpw hpf hT;by_cases hn1:n=1
  · subst hn1
    have hp:qe2 (cutW W) ls i=[]:=qe3 _ _ (by rw[HL.out];omega);go_enter Tryz.func226,Tryz.ntmps226
    go_wp2_with fail
    go_ret
    exact⟨_,rfl,by rw[hp];exact OwnD.nil _ _,tA5 _ _⟩
  have qn:¬(n:Int)=1:=by omega
  obtain⟨hk1,hk2,hk3⟩:=qdw (n:=n) (by omega);have Hhalf:=zh1 (qod n w (by omega) (by omega));obtain⟨k,hk⟩:=xeq (half n);rw[hk]at hk1 hk2 hk3 Hhalf;have lt1:(ls.take k).length=k:=by rw[List.length_take,HL.out];omega
  have lt2:(ls.drop k).length=n - k:=by rw[List.length_drop,HL.out]
  have hcc:=A2.out;unfold maxLen at hcc;have q1:(0:Int)≤k:=by omega
  have q2:(k:Int)≤n:=by omega
  have q3:(k:Int)≤c:=by omega
  have q4:¬c=k:=by omega
  have R1:∀w1,Below w.heap.size w w1→Calls Tryz.prog 174 #[.int .i64 W,.slice (some ⟨g,o,none⟩) k c] w1 fun e w'=>e=.returned (.agg (byv (qdx (cutW W) (ls.take k))).toArray)∧Below w1.heap.size w1 w':=fun w1 b1=>
   qoi W (ls.take k) _ k c w1 ((A3.out.take (by omega)).call b1) (by omega) A2.out (by omega) (fun b hb=>A7.out b (List.mem_of_mem_take hb)) (A0.out.below b1 A0.out.size)
  have R2:∀w1,Below w.heap.size w w1→Calls Tryz.prog 174 #[.int .i64 W,.slice (some ⟨g,o+k,none⟩) (n - k) (c - k)] w1 fun e w'=>e=.returned (.agg (byv (qdx (cutW W) (ls.drop k))).toArray)∧Below w1.heap.size w1 w':=fun w1 b1=>
   qoi W (ls.drop k) _ (n - k) (c - k) w1 ((A3.out.drop hk2).call b1) (by omega) (by have:=A2.out;omega) (by omega) (fun b hb=>A7.out b (List.mem_of_mem_drop hb)) (A0.out.below b1 A0.out.size)
  by_cases hik:i<k
  ·
   have hp:qe2 (cutW W) ls i=qe2 (cutW W) (ls.take k) i++[qdx (cutW W) (ls.drop k)]:=by
    have:=qe4 (cutW W) (l:=ls) (i:=i) (by rw[HL.out];omega) (by rw[HL.out,hk];exact hik);rwa[HL.out,hk]at this
   have C1:∀w1,Below w.heap.size w w1→Calls Tryz.prog 226 #[.slice (some ⟨g,o,none⟩) k c,.int .i64 (i:Int),.pointer (some ⟨pf,0,none⟩),.pointer (some ⟨pw,0,none⟩)] w1 fun e w'=>∃v,e=.returned v∧OwnD w' w1.heap.size v (qe2 (cutW W) (ls.take k) i)∧Below w1.heap.size w1 w':=fun w1 b1=>
    AA.out (ls.take k) i g o k c w1 (by rw[lt1];have:=HM.out;have:=HL.out;omega) hk1 hik ((A3.out.take (by omega)).call b1) (by omega) A2.out (by omega) (fun b hb=>A7.out b (List.mem_of_mem_take hb)) (qai A5.out b1) (qai A6.out b1) (A0.out.below b1 A0.out.size)
   have hpl:=(qqv (cutW W) (qdt W).2 _ (ls.take k) i (tA4 _)).1;rw[lt1]at hpl;obtain⟨A8,A9,AB,HP⟩:=zh4 hpl C1 R2 hp;have qi:(i:Int)<k:=by omega
   clear C1 R1 R2 hp lt1 lt2 hk hcc hpl;go_enter Tryz.func226,Tryz.ntmps226
   go_wp2_with fail
   refine Hhalf.out.mono ?_;rintro e w' ⟨rfl,rfl⟩;go_upto_region 5 with(fail)
   obtain⟨S,HS⟩:∃S:World→Prop,Hid (∀w',S w'=Below w.heap.size w w'):=⟨_,fun _=>rfl⟩;refine zrs S 14 [(0,false),(1,false),(2,false),(3,false),(4,false),(6,false),(7,false),(8,false),(9,false),(5,true),(10,true),(11,true),(12,true),(13,false)] ((HS.out _).mpr (tA5 _ _).drew) ?_;obtain⟨F0,F1⟩:=zh2 (fun(w':World)(h:S w')=>qai A5.out ((HS.out w').mp h)) (fun(w':World)(h:S w')=>qai A6.out ((HS.out w').mp h));iterate 9 (refine zrd rfl rfl (fun w1 hS=>by have g0:=F0.out w1 hS;have g1:=F1.out w1 hS;clear hS;go_simp;try rfl) ?_;simp only[Act.put,tA0,tA1,tA2])
   obtain⟨Wd,hWd⟩:=eqx w.drew;have bd:Below w.heap.size w Wd:=by rw[hWd];exact(tA5 _ _).drew
   rw[←hWd];clear hWd;refine qbj rfl rfl ?_;go_simp;refine(A9.out Wd bd).mono ?_;rintro e w1 ⟨v1,rfl,o1,b1⟩;have b1':=bd.trans (b1.mono bd.size);obtain⟨A1,n1,c1,rfl,-,-,-,-⟩:=o1.sl;refine⟨(HS.out _).mpr b1',?_⟩;try simp only[Act.put,tA0,tA1,tA2]
   refine qbj rfl rfl ?_;go_simp;refine(AB.out w1 b1').mono ?_;rintro e w2 ⟨rfl,b2⟩;have b2':=b1'.trans (b2.mono b1'.size);have o2:=o1.kept b2;refine⟨(HS.out _).mpr b2',?_⟩;try simp only[Act.put,tA0,tA1,tA2]
   refine qbj rfl rfl ?_;refine qqr (.tmp 27) rfl (qdx (cutW W) (ls.drop k)) (qna _ (qdt W).2 _).1 rfl ?_;have o3:=o2.alloc (.cells (byv (qdx (cutW W) (ls.drop k))).toArray 29);have b3':Below w.heap.size w (w2.alloc (.cells (byv (qdx (cutW W) (ls.drop k))).toArray 29)):=b2'.alloc b2'.size _;refine⟨fun _=>(HS.out _).mpr b3',?_⟩;try simp only[Act.put,tA0,tA1,tA2]
   refine qbj rfl rfl ?_;refine qow (.tmp 22) (.tmp 28) rfl Wd.heap.size _ _ rfl o3 _ 1 1 [qdx (cutW W) (ls.drop k)] rfl rfl (fun d hd=>by rw[List.mem_singleton.1 hd];exact(qna _ (qdt W).2 _).1) (qqt w2 _ (qna _ (qdt W).2 _).1) (by have:=A8.out;omega) (by rw[qar];have:=b1.size;have:=b2.size;omega) ?_;intro v4 w4 o4 b4 _;have b4':Below w.heap.size w w4:=b3'.trans (b4.mono bd.size);obtain⟨A4,n4,c4,rfl,-,-,-,-⟩:=o4.sl;obtain⟨O4,B4⟩:=zh2 (show OwnD w4 w.heap.size _ _ from⟨o4.1,qeq o4.2 bd.size⟩) b4';refine⟨fun _=>(HS.out _).mpr b4',?_⟩;try simp only[Act.put,tA0,tA1,tA2]
   clear o1 o2 o3 o4 b1 b1' b2 b2' b3' b4 b4' bd;iterate 1 (refine zrd rfl rfl (fun w1 hS=>by go_simp;(try go_bits);try rfl) ?_;simp only[Act.put,tA0,tA1,tA2])
   refine qbg ?_;go_wp2_with fail
   go_ret
   exact⟨_,rfl,by rw[HP.out];exact O4.out,B4.out⟩
  have hp:qe2 (cutW W) ls i=qe2 (cutW W) (ls.drop k) (i - k)++[qdx (cutW W) (ls.take k)]:=by
   have:=qe5 (cutW W) (l:=ls) (i:=i) (by rw[HL.out];omega) (by rw[HL.out,hk];exact hik);rwa[HL.out,hk]at this
  have C1:∀w1,Below w.heap.size w w1→Calls Tryz.prog 226 #[.slice (some ⟨g,o+k,none⟩) (n - k) (c - k),.int .i64 ((i - k:Nat):Int),.pointer (some ⟨pf,0,none⟩),.pointer (some ⟨pw,0,none⟩)] w1 fun e w'=>∃v,e=.returned v∧OwnD w' w1.heap.size v (qe2 (cutW W) (ls.drop k) (i - k))∧Below w1.heap.size w1 w':=fun w1 b1=>
   AA.out (ls.drop k) (i - k) g (o+k) (n - k) (c - k) w1 (by rw[lt2];have:=HM.out;have:=HL.out;omega) (by omega) (by omega) ((A3.out.drop hk2).call b1) (by omega) (by have:=A2.out;omega) (by omega) (fun b hb=>A7.out b (List.mem_of_mem_drop hb)) (qai A5.out b1) (qai A6.out b1) (A0.out.below b1 A0.out.size)
  have hpl:=(qqv (cutW W) (qdt W).2 _ (ls.drop k) (i - k) (tA4 _)).1;rw[lt2]at hpl;obtain⟨A8,A9,AC,HP⟩:=zh4 hpl C1 R1 hp;have qi:¬(i:Int)<k:=by omega
  have qs:wrap64 ((i:Int) - k)=((i - k:Nat):Int):=by rw[IntWalk.wrap64_in _ (by omega)];omega
  have qt:IntKind.i64.wrap ((i:Int) - k)=((i - k:Nat):Int):=by rw[IntWalk.i64_in _ (by omega)];omega
  clear C1 R1 R2 hp lt1 lt2 hk hcc hpl;go_enter Tryz.func226,Tryz.ntmps226
  go_wp2_with fail
  refine Hhalf.out.mono ?_;rintro e w' ⟨rfl,rfl⟩;go_upto_region 6 with(fail)
  obtain⟨S,HS⟩:∃S:World→Prop,Hid (∀w',S w'=Below w.heap.size w w'):=⟨_,fun _=>rfl⟩;refine zrs S 16 [(0,false),(1,false),(2,false),(3,false),(4,false),(5,false),(6,false),(8,false),(9,false),(10,false),(11,false),(7,true),(12,true),(13,true),(14,true),(15,false)] ((HS.out _).mpr (tA5 _ _).drew) ?_;obtain⟨F0,F1⟩:=zh2 (fun(w':World)(h:S w')=>qai A5.out ((HS.out w').mp h)) (fun(w':World)(h:S w')=>qai A6.out ((HS.out w').mp h));iterate 11 (refine zrd rfl rfl (fun w1 hS=>by have g0:=F0.out w1 hS;have g1:=F1.out w1 hS;clear hS;go_simp;try rfl) ?_;simp only[Act.put,tA0,tA1,tA2])
  obtain⟨Wd,hWd⟩:=eqx w.drew;have bd:Below w.heap.size w Wd:=by rw[hWd];exact(tA5 _ _).drew
  rw[←hWd];clear hWd;refine qbj rfl rfl ?_;go_simp;refine(A9.out Wd bd).mono ?_;rintro e w1 ⟨v1,rfl,o1,b1⟩;have b1':=bd.trans (b1.mono bd.size);obtain⟨A1,n1,c1,rfl,-,-,-,-⟩:=o1.sl;refine⟨(HS.out _).mpr b1',?_⟩;try simp only[Act.put,tA0,tA1,tA2]
  refine qbj rfl rfl ?_;go_simp;refine(AC.out w1 b1').mono ?_;rintro e w2 ⟨rfl,b2⟩;have b2':=b1'.trans (b2.mono b1'.size);have o2:=o1.kept b2;refine⟨(HS.out _).mpr b2',?_⟩;try simp only[Act.put,tA0,tA1,tA2]
  refine qbj rfl rfl ?_;refine qqr (.tmp 42) rfl (qdx (cutW W) (ls.take k)) (qna _ (qdt W).2 _).1 rfl ?_;have o3:=o2.alloc (.cells (byv (qdx (cutW W) (ls.take k))).toArray 29);have b3':Below w.heap.size w (w2.alloc (.cells (byv (qdx (cutW W) (ls.take k))).toArray 29)):=b2'.alloc b2'.size _;refine⟨fun _=>(HS.out _).mpr b3',?_⟩;try simp only[Act.put,tA0,tA1,tA2]
  refine qbj rfl rfl ?_;refine qow (.tmp 37) (.tmp 43) rfl Wd.heap.size _ _ rfl o3 _ 1 1 [qdx (cutW W) (ls.take k)] rfl rfl (fun d hd=>by rw[List.mem_singleton.1 hd];exact(qna _ (qdt W).2 _).1) (qqt w2 _ (qna _ (qdt W).2 _).1) (by have:=A8.out;omega) (by rw[qar];have:=b1.size;have:=b2.size;omega) ?_;intro v4 w4 o4 b4 _;have b4':Below w.heap.size w w4:=b3'.trans (b4.mono bd.size);obtain⟨A4,n4,c4,rfl,-,-,-,-⟩:=o4.sl;obtain⟨O4,B4⟩:=zh2 (show OwnD w4 w.heap.size _ _ from⟨o4.1,qeq o4.2 bd.size⟩) b4';refine⟨fun _=>(HS.out _).mpr b4',?_⟩;try simp only[Act.put,tA0,tA1,tA2]
  clear o1 o2 o3 o4 b1 b1' b2 b2' b3' b4 b4' bd;iterate 1 (refine zrd rfl rfl (fun w1 hS=>by go_simp;(try go_bits);try rfl) ?_;simp only[Act.put,tA0,tA1,tA2])
  refine qbg ?_;go_wp2_with fail
  go_ret
  exact⟨_,rfl,by rw[HP.out];exact O4.out,B4.out⟩
end
section
open Go.RowKit
theorem OwnD.made1 (w:World)(d:List Nat)(hd:d.length=32):OwnD (w.alloc (.cells (byv d).toArray 29)) w.heap.size (.slice (some ⟨w.heap.size,0,none⟩) 1 1) [d]:=by
 refine⟨fun x hx=>by rw[List.mem_singleton.1 hx];exact hd,?_⟩;have:=World.ownsRow_lit (size:=32) (e:=29) w (byv d).toArray 1 (tA4 _) (by simp[maxLen]) (by simp[qat,hd]);rw[qqs];exact this
theorem qqy (W:Int)(pw pf:Nat):∀(m:Nat) (ls:List (List Nat)) (i g o n c:Nat) (b:Bool) (w:World),ls.length≤m→1≤n→1≤i→i≤n→TextsR w (some ⟨g,o,none⟩) n ls→n≤c→c≤maxLen→n≤1048576→(∀b∈ls,BsOk b)→
 w.cell? ⟨pw,0,none⟩=some (.int .i64 W)→w.cell? ⟨pf,0,none⟩=some (.func (.func 227) #[] #[.pointer (some ⟨pw,0,none⟩),.pointer (some ⟨pf,0,none⟩)])→Tabs w→
 Calls Tryz.prog 227 #[.slice (some ⟨g,o,none⟩) n c,.int .i64 (i:Int),.bool b,.pointer (some ⟨pw,0,none⟩),.pointer (some ⟨pf,0,none⟩)] w fun e w'=>∃v,e=.returned v∧OwnD w' w.heap.size v (subH (cutW W) ls i b)∧Below w.heap.size w w':=by
 intro m;induction m with
 |zero=>
  intro ls i g o n c b w hm h1 hi0 hi ht;have:=ht.1;omega
 |succ m ih=>
  intro ls i g o n c b w hm h1 hi0 hi ht hnc hcm hn hok hpw hpf hT;have hlen:=ht.1;have AA:=zh1 ih;clear ih;obtain⟨A3,A0,A5,A7,A6,A2,HL,HM⟩:=zh8 ht hT hpw hpf hok hcm hlen hm;clear hok hcm hlen hm ht hpw hpf hT;by_cases hn1:i=n
  ·
   subst hn1;have hp:subH (cutW W) ls i b=if b then [] else [qdx (cutW W) ls]:=qe6 _ _ HL.out.symm
   cases b
   ·
    have R:=qoi W ls _ i c w A3.out hnc A2.out hn A6.out A0.out;obtain⟨HR,HP,AB⟩:=zh3 R hp ((qna (cutW W) (qdt W).2 ls).1);clear R hp;go_enter Tryz.func227,Tryz.ntmps227
    have cw:=A5.out;go_wp2_with fail
    refine HR.out.mono ?_;rintro e w1 ⟨rfl,b1⟩;obtain⟨O1,B1,hsz⟩:=zh3 (OwnD.made1 w1 _ AB.out) (b1.alloc b1.size (.cells (byv (qdx (cutW W) ls)).toArray 29)) b1.size;clear b1 cw;go_wp2_with (refine wpList_plain rfl fun K9 hK9=>qqr (.tmp 17) rfl (qdx (cutW W) ls) AB.out rfl (hK9 _ _ ?_))
    go_ret
    exact⟨_,rfl,by rw[HP.out];exact⟨O1.out.1,qeq O1.out.2 hsz.out⟩,B1.out⟩
   have HP:=zh1 hp;clear hp;go_enter Tryz.func227,Tryz.ntmps227
   go_wp2_with fail
   go_ret
   exact⟨_,rfl,by rw[HP.out];exact OwnD.nil _ _,tA5 _ _⟩
  have qn:¬(i:Int)=n:=by omega
  obtain⟨hk1,hk2,hk3⟩:=qdw (n:=n) (by omega);have Hhalf:=zh1 (qod n w (by omega) (by omega));obtain⟨k,hk⟩:=xeq (half n);rw[hk]at hk1 hk2 hk3 Hhalf;have lt1:(ls.take k).length=k:=by rw[List.length_take,HL.out];omega
  have lt2:(ls.drop k).length=n - k:=by rw[List.length_drop,HL.out]
  have hcc:=A2.out;unfold maxLen at hcc;have q1:(0:Int)≤k:=by omega
  have q2:(k:Int)≤n:=by omega
  have q3:(k:Int)≤c:=by omega
  have q4:¬c=k:=by omega
  have R1:∀w1,Below w.heap.size w w1→Calls Tryz.prog 174 #[.int .i64 W,.slice (some ⟨g,o,none⟩) k c] w1 fun e w'=>e=.returned (.agg (byv (qdx (cutW W) (ls.take k))).toArray)∧Below w1.heap.size w1 w':=fun w1 b1=>
   qoi W (ls.take k) _ k c w1 ((A3.out.take (by omega)).call b1) (by omega) A2.out (by omega) (fun b hb=>A6.out b (List.mem_of_mem_take hb)) (A0.out.below b1 A0.out.size)
  have R2:∀w1,Below w.heap.size w w1→Calls Tryz.prog 174 #[.int .i64 W,.slice (some ⟨g,o+k,none⟩) (n - k) (c - k)] w1 fun e w'=>e=.returned (.agg (byv (qdx (cutW W) (ls.drop k))).toArray)∧Below w1.heap.size w1 w':=fun w1 b1=>
   qoi W (ls.drop k) _ (n - k) (c - k) w1 ((A3.out.drop hk2).call b1) (by omega) (by have:=A2.out;omega) (by omega) (fun b hb=>A6.out b (List.mem_of_mem_drop hb)) (A0.out.below b1 A0.out.size)
  by_cases hik:i≤k
  ·
   have hp:subH (cutW W) ls i b=subH (cutW W) (ls.take k) i b++[qdx (cutW W) (ls.drop k)]:=by
    have:=qe7 (cutW W) (l:=ls) (m:=i) b (by rw[HL.out];omega) (by rw[HL.out];omega) (by rw[HL.out,hk];exact hik);rwa[HL.out,hk]at this
   have C1:∀w1,Below w.heap.size w w1→Calls Tryz.prog 227 #[.slice (some ⟨g,o,none⟩) k c,.int .i64 (i:Int),.bool b,.pointer (some ⟨pw,0,none⟩),.pointer (some ⟨pf,0,none⟩)] w1 fun e w'=>∃v,e=.returned v∧OwnD w' w1.heap.size v (subH (cutW W) (ls.take k) i b)∧Below w1.heap.size w1 w':=fun w1 b1=>
    AA.out (ls.take k) i g o k c b w1 (by rw[lt1];have:=HM.out;have:=HL.out;omega) hk1 hi0 hik ((A3.out.take (by omega)).call b1) (by omega) A2.out (by omega) (fun b hb=>A6.out b (List.mem_of_mem_take hb)) (qai A5.out b1) (qai A7.out b1) (A0.out.below b1 A0.out.size)
   have hpl:=(qqw (cutW W) (qdt W).2 _ (ls.take k) i b (tA4 _)).1;rw[lt1]at hpl;obtain⟨A8,A9,AC,HP⟩:=zh4 hpl C1 R2 hp;have qi:(i:Int)≤k:=by omega
   clear C1 R1 R2 hp lt1 lt2 hk hcc hpl;go_enter Tryz.func227,Tryz.ntmps227
   go_wp2_with fail
   refine Hhalf.out.mono ?_;rintro e w' ⟨rfl,rfl⟩;go_upto_region 7 with(fail)
   obtain⟨S,HS⟩:∃S:World→Prop,Hid (∀w',S w'=Below w.heap.size w w'):=⟨_,fun _=>rfl⟩;refine zrs S 15 [(0,false),(1,false),(2,false),(3,false),(4,false),(5,false),(7,false),(8,false),(9,false),(10,false),(6,true),(11,true),(12,true),(13,true),(14,false)] ((HS.out _).mpr (tA5 _ _).drew) ?_;obtain⟨F0,F1⟩:=zh2 (fun(w':World)(h:S w')=>qai A5.out ((HS.out w').mp h)) (fun(w':World)(h:S w')=>qai A7.out ((HS.out w').mp h));iterate 10 (refine zrd rfl rfl (fun w1 hS=>by have g0:=F0.out w1 hS;have g1:=F1.out w1 hS;clear hS;go_simp;try rfl) ?_;simp only[Act.put,tA0,tA1,tA2])
   obtain⟨Wd,hWd⟩:=eqx w.drew;have bd:Below w.heap.size w Wd:=by rw[hWd];exact(tA5 _ _).drew
   rw[←hWd];clear hWd;refine qbj rfl rfl ?_;go_simp;refine(A9.out Wd bd).mono ?_;rintro e w1 ⟨v1,rfl,o1,b1⟩;have b1':=bd.trans (b1.mono bd.size);obtain⟨A1,n1,c1,rfl,-,-,-,-⟩:=o1.sl;refine⟨(HS.out _).mpr b1',?_⟩;try simp only[Act.put,tA0,tA1,tA2]
   refine qbj rfl rfl ?_;go_simp;refine(AC.out w1 b1').mono ?_;rintro e w2 ⟨rfl,b2⟩;have b2':=b1'.trans (b2.mono b1'.size);have o2:=o1.kept b2;refine⟨(HS.out _).mpr b2',?_⟩;try simp only[Act.put,tA0,tA1,tA2]
   refine qbj rfl rfl ?_;refine qqr (.tmp 36) rfl (qdx (cutW W) (ls.drop k)) (qna _ (qdt W).2 _).1 rfl ?_;have o3:=o2.alloc (.cells (byv (qdx (cutW W) (ls.drop k))).toArray 29);have b3':Below w.heap.size w (w2.alloc (.cells (byv (qdx (cutW W) (ls.drop k))).toArray 29)):=b2'.alloc b2'.size _;refine⟨fun _=>(HS.out _).mpr b3',?_⟩;try simp only[Act.put,tA0,tA1,tA2]
   refine qbj rfl rfl ?_;refine qow (.tmp 31) (.tmp 37) rfl Wd.heap.size _ _ rfl o3 _ 1 1 [qdx (cutW W) (ls.drop k)] rfl rfl (fun d hd=>by rw[List.mem_singleton.1 hd];exact(qna _ (qdt W).2 _).1) (qqt w2 _ (qna _ (qdt W).2 _).1) (by have:=A8.out;omega) (by rw[qar];have:=b1.size;have:=b2.size;omega) ?_;intro v4 w4 o4 b4 _;have b4':Below w.heap.size w w4:=b3'.trans (b4.mono bd.size);obtain⟨A4,n4,c4,rfl,-,-,-,-⟩:=o4.sl;obtain⟨O4,B4⟩:=zh2 (show OwnD w4 w.heap.size _ _ from⟨o4.1,qeq o4.2 bd.size⟩) b4';refine⟨fun _=>(HS.out _).mpr b4',?_⟩;try simp only[Act.put,tA0,tA1,tA2]
   clear o1 o2 o3 o4 b1 b1' b2 b2' b3' b4 b4' bd;iterate 1 (refine zrd rfl rfl (fun w1 hS=>by go_simp;(try go_bits);try rfl) ?_;simp only[Act.put,tA0,tA1,tA2])
   refine qbg ?_;go_wp2_with fail
   go_ret
   exact⟨_,rfl,by rw[HP.out];exact O4.out,B4.out⟩
  have hp:subH (cutW W) ls i b=subH (cutW W) (ls.drop k) (i - k) false++[qdx (cutW W) (ls.take k)]:=by
   have:=qe8 (cutW W) (l:=ls) (m:=i) b (by rw[HL.out];omega) (by rw[HL.out];omega) (by rw[HL.out,hk];exact hik);rwa[HL.out,hk]at this
  have C1:∀w1,Below w.heap.size w w1→Calls Tryz.prog 227 #[.slice (some ⟨g,o+k,none⟩) (n - k) (c - k),.int .i64 ((i - k:Nat):Int),.bool false,.pointer (some ⟨pw,0,none⟩),.pointer (some ⟨pf,0,none⟩)] w1 fun e w'=>∃v,e=.returned v∧OwnD w' w1.heap.size v (subH (cutW W) (ls.drop k) (i - k) false)∧Below w1.heap.size w1 w':=fun w1 b1=>
   AA.out (ls.drop k) (i - k) g (o+k) (n - k) (c - k) false w1 (by rw[lt2];have:=HM.out;have:=HL.out;omega) (by omega) (by omega) (by omega) ((A3.out.drop hk2).call b1) (by omega) (by have:=A2.out;omega) (by omega) (fun b hb=>A6.out b (List.mem_of_mem_drop hb)) (qai A5.out b1) (qai A7.out b1) (A0.out.below b1 A0.out.size)
  have hpl:=(qqw (cutW W) (qdt W).2 _ (ls.drop k) (i - k) false (tA4 _)).1;rw[lt2]at hpl;obtain⟨A8,A9,AD,HP⟩:=zh4 hpl C1 R1 hp;have qi:¬(i:Int)≤k:=by omega
  have qs:wrap64 ((i:Int) - k)=((i - k:Nat):Int):=by rw[IntWalk.wrap64_in _ (by omega)];omega
  have qt:IntKind.i64.wrap ((i:Int) - k)=((i - k:Nat):Int):=by rw[IntWalk.i64_in _ (by omega)];omega
  clear C1 R1 R2 hp lt1 lt2 hk hcc hpl;go_enter Tryz.func227,Tryz.ntmps227
  go_wp2_with fail
  refine Hhalf.out.mono ?_;rintro e w' ⟨rfl,rfl⟩;go_upto_region 8 with(fail)
  obtain⟨S,HS⟩:∃S:World→Prop,Hid (∀w',S w'=Below w.heap.size w w'):=⟨_,fun _=>rfl⟩;refine zrs S 16 [(0,false),(1,false),(2,false),(3,false),(4,false),(5,false),(6,false),(8,false),(9,false),(10,false),(11,false),(7,true),(12,true),(13,true),(14,true),(15,false)] ((HS.out _).mpr (tA5 _ _).drew) ?_;obtain⟨F0,F1⟩:=zh2 (fun(w':World)(h:S w')=>qai A5.out ((HS.out w').mp h)) (fun(w':World)(h:S w')=>qai A7.out ((HS.out w').mp h));iterate 11 (refine zrd rfl rfl (fun w1 hS=>by have g0:=F0.out w1 hS;have g1:=F1.out w1 hS;clear hS;go_simp;try rfl) ?_;simp only[Act.put,tA0,tA1,tA2])
  obtain⟨Wd,hWd⟩:=eqx w.drew;have bd:Below w.heap.size w Wd:=by rw[hWd];exact(tA5 _ _).drew
  rw[←hWd];clear hWd;refine qbj rfl rfl ?_;go_simp;refine(A9.out Wd bd).mono ?_;rintro e w1 ⟨v1,rfl,o1,b1⟩;have b1':=bd.trans (b1.mono bd.size);obtain⟨A1,n1,c1,rfl,-,-,-,-⟩:=o1.sl;refine⟨(HS.out _).mpr b1',?_⟩;try simp only[Act.put,tA0,tA1,tA2]
  refine qbj rfl rfl ?_;go_simp;refine(AD.out w1 b1').mono ?_;rintro e w2 ⟨rfl,b2⟩;have b2':=b1'.trans (b2.mono b1'.size);have o2:=o1.kept b2;refine⟨(HS.out _).mpr b2',?_⟩;try simp only[Act.put,tA0,tA1,tA2]
  refine qbj rfl rfl ?_;refine qqr (.tmp 51) rfl (qdx (cutW W) (ls.take k)) (qna _ (qdt W).2 _).1 rfl ?_;have o3:=o2.alloc (.cells (byv (qdx (cutW W) (ls.take k))).toArray 29);have b3':Below w.heap.size w (w2.alloc (.cells (byv (qdx (cutW W) (ls.take k))).toArray 29)):=b2'.alloc b2'.size _;refine⟨fun _=>(HS.out _).mpr b3',?_⟩;try simp only[Act.put,tA0,tA1,tA2]
  refine qbj rfl rfl ?_;refine qow (.tmp 46) (.tmp 52) rfl Wd.heap.size _ _ rfl o3 _ 1 1 [qdx (cutW W) (ls.take k)] rfl rfl (fun d hd=>by rw[List.mem_singleton.1 hd];exact(qna _ (qdt W).2 _).1) (qqt w2 _ (qna _ (qdt W).2 _).1) (by have:=A8.out;omega) (by rw[qar];have:=b1.size;have:=b2.size;omega) ?_;intro v4 w4 o4 b4 _;have b4':Below w.heap.size w w4:=b3'.trans (b4.mono bd.size);obtain⟨A4,n4,c4,rfl,-,-,-,-⟩:=o4.sl;obtain⟨O4,B4⟩:=zh2 (show OwnD w4 w.heap.size _ _ from⟨o4.1,qeq o4.2 bd.size⟩) b4';refine⟨fun _=>(HS.out _).mpr b4',?_⟩;try simp only[Act.put,tA0,tA1,tA2]
  clear o1 o2 o3 o4 b1 b1' b2 b2' b3' b4 b4' bd;iterate 1 (refine zrd rfl rfl (fun w1 hS=>by go_simp;(try go_bits);try rfl) ?_;simp only[Act.put,tA0,tA1,tA2])
  refine qbg ?_;go_wp2_with fail
  go_ret
  exact⟨_,rfl,by rw[HP.out];exact O4.out,B4.out⟩
end
section
open Go.RowKit
theorem qqz (W:Int)(ls:List (List Nat))(A:Option Addr)(i n c:Nat)(w:World)(hi:i<n)(ht:TextsR w A n ls)(hnc:n≤c)(hcm:c≤maxLen)(hn:n≤1048576)(hok:∀b∈ls,BsOk b)(hT:Tabs w):
 Calls Tryz.prog 189 #[.int .i64 W,.slice A n c,.int .u64 (i:Int)] w fun e w'=>∃v,e=.returned (.tuple #[v,.int .i64 0])∧OwnD w' w.heap.size v (qe2 (cutW W) ls i)∧Below w.heap.size w w':=by
 obtain⟨W0,hW0⟩:=eqx (w.alloc (.cells #[.int .i64 W] 3));have c0:Blk W0 w.heap.size 3 #[.int .i64 W]:=by rw[hW0];exact Blk.new w _ _
 have b0:Below w.heap.size w W0:=by rw[hW0];exact qah (tA5 _ _) _
 have s0:W0.heap.size=w.heap.size+1:=by rw[hW0];simp
 have l0:=ht.1;obtain⟨A0,A1⟩:=zh2 (ht.call b0) (hT.below b0 hT.size);obtain⟨g,o,bs,A',n',c',rfl,-⟩:=A0.out.at_ (k:=0) (by omega);obtain⟨W1,hW1⟩:=eqx ((W0.alloc (.cells #[.nilFunc] 341)).setCell ⟨w.heap.size+1,0,none⟩ (.func (.func 226) #[] #[.pointer (some ⟨w.heap.size+1,0,none⟩),.pointer (some ⟨w.heap.size,0,none⟩)]));have hmf:∀(fn:Fn) (first cap:Array Value) (w:World),(Instr.makeFunc fn first cap).run Tryz.prog w=.ok (.func fn first cap) w:=fun _ _ _ _=>rfl
 have f0:Blk (W0.alloc (.cells #[.nilFunc] 341)) (w.heap.size+1) 341 #[.nilFunc]:=by
  have h:=Blk.new W0 341 #[.nilFunc];rw[s0]at h;exact h
 have hst:(store ⟨w.heap.size+1,0,none⟩ (.func (.func 226) #[] #[.pointer (some ⟨w.heap.size+1,0,none⟩),.pointer (some ⟨w.heap.size,0,none⟩)])).run Tryz.prog (W0.alloc (.cells #[.nilFunc] 341))=.ok () W1:=by
  rw[run_store Tryz.prog _ _ _ _ (by rfl),f0.cell 0,f0.frozen 0,hW1];rfl
 have cf:Blk W1 (w.heap.size+1) 341 #[.func (.func 226) #[] #[.pointer (some ⟨w.heap.size+1,0,none⟩),.pointer (some ⟨w.heap.size,0,none⟩)]]:=by
  rw[hW1];exact f0.set_ 0 _
 have b1:Below W0.heap.size W0 W1:=by
  rw[hW1];exact(qah (tA5 _ _) _).setCell (by rw[s0];exact tA4 _) _
 rw[hW0]at hst;have C1:=c0.below b1 c0.lt;have R:=qqx W w.heap.size (w.heap.size+1) n ls i g o n c W1 (by rw[l0];exact tA4 _) (by omega) hi (A0.out.call b1) hnc hcm hn hok (by rw[C1.cell];rfl) (by rw[cf.cell];rfl) (A1.out.below b1 A1.out.size);have HR:=zh1 R;have cc:=cf.cell 0;rw[show (#[Value.func (.func 226) #[] #[.pointer (some ⟨w.heap.size+1,0,none⟩),.pointer (some ⟨w.heap.size,0,none⟩)]]:Array Value)[0]? =some (.func (.func 226) #[] #[.pointer (some ⟨w.heap.size+1,0,none⟩),.pointer (some ⟨w.heap.size,0,none⟩)]) from rfl]at cc;have B1:=zh1 (b0.trans (b1.mono b0.size));have q1:IntKind.u64.wrap (n:Int)=(n:Int):=IntWalk.u64_in _ (by omega);have q2:IntKind.i64.wrap (i:Int)=(i:Int):=IntWalk.i64_in _ (by omega);have q5:wrap64 (i:Int)=(i:Int):=IntWalk.wrap64_in _ (by omega);have q3:¬(n:Int)≤i:=by omega
 clear hW0 c0 b0 ht hT hok l0 s0 f0 cf b1 C1 R hW1 hnc hcm hn;go_enter Tryz.func189,Tryz.ntmps189
 go_wp2_with fail
 refine HR.out.mono ?_;rintro e w4 ⟨v,rfl,o4,b4⟩;obtain⟨A4,n4,c4,rfl,-,-,-,-⟩:=o4.sl;obtain⟨O4,B4⟩:=zh2 (show OwnD w4 w.heap.size _ _ from⟨o4.1,qeq o4.2 B1.out.size⟩) (B1.out.trans (b4.mono B1.out.size));clear b4 cc hst o4;go_wp2_with fail
 go_ret2
 exact⟨_,rfl,O4.out,B4.out⟩
theorem qr0 (W:Int)(ls:List (List Nat))(A:Option Addr)(i n c:Nat)(w:World)(h0:1≤i)(hi:i≤n)(ht:TextsR w A n ls)(hnc:n≤c)(hcm:c≤maxLen)(hn:n≤1048576)(hok:∀b∈ls,BsOk b)(hT:Tabs w):
 Calls Tryz.prog 190 #[.int .i64 W,.slice A n c,.int .u64 (i:Int)] w fun e w'=>∃v,e=.returned (.tuple #[v,.int .i64 0])∧OwnD w' w.heap.size v (subH (cutW W) ls i true)∧Below w.heap.size w w':=by
 obtain⟨W0,hW0⟩:=eqx (w.alloc (.cells #[.int .i64 W] 3));have c0:Blk W0 w.heap.size 3 #[.int .i64 W]:=by rw[hW0];exact Blk.new w _ _
 have b0:Below w.heap.size w W0:=by rw[hW0];exact qah (tA5 _ _) _
 have s0:W0.heap.size=w.heap.size+1:=by rw[hW0];simp
 have l0:=ht.1;obtain⟨A0,A1⟩:=zh2 (ht.call b0) (hT.below b0 hT.size);obtain⟨g,o,bs,A',n',c',rfl,-⟩:=A0.out.at_ (k:=0) (by omega);obtain⟨W1,hW1⟩:=eqx ((W0.alloc (.cells #[.nilFunc] 342)).setCell ⟨w.heap.size+1,0,none⟩ (.func (.func 227) #[] #[.pointer (some ⟨w.heap.size,0,none⟩),.pointer (some ⟨w.heap.size+1,0,none⟩)]));have hmf:∀(fn:Fn) (first cap:Array Value) (w:World),(Instr.makeFunc fn first cap).run Tryz.prog w=.ok (.func fn first cap) w:=fun _ _ _ _=>rfl
 have f0:Blk (W0.alloc (.cells #[.nilFunc] 342)) (w.heap.size+1) 342 #[.nilFunc]:=by
  have h:=Blk.new W0 342 #[.nilFunc];rw[s0]at h;exact h
 have hst:(store ⟨w.heap.size+1,0,none⟩ (.func (.func 227) #[] #[.pointer (some ⟨w.heap.size,0,none⟩),.pointer (some ⟨w.heap.size+1,0,none⟩)])).run Tryz.prog (W0.alloc (.cells #[.nilFunc] 342))=.ok () W1:=by
  rw[run_store Tryz.prog _ _ _ _ (by rfl),f0.cell 0,f0.frozen 0,hW1];rfl
 have cf:Blk W1 (w.heap.size+1) 342 #[.func (.func 227) #[] #[.pointer (some ⟨w.heap.size,0,none⟩),.pointer (some ⟨w.heap.size+1,0,none⟩)]]:=by
  rw[hW1];exact f0.set_ 0 _
 have b1:Below W0.heap.size W0 W1:=by
  rw[hW1];exact(qah (tA5 _ _) _).setCell (by rw[s0];exact tA4 _) _
 rw[hW0]at hst;have C1:=c0.below b1 c0.lt;have R:=qqy W w.heap.size (w.heap.size+1) n ls i g o n c true W1 (by rw[l0];exact tA4 _) (by omega) h0 hi (A0.out.call b1) hnc hcm hn hok (by rw[C1.cell];rfl) (by rw[cf.cell];rfl) (A1.out.below b1 A1.out.size);have HR:=zh1 R;have cc:=cf.cell 0;rw[show (#[Value.func (.func 227) #[] #[.pointer (some ⟨w.heap.size,0,none⟩),.pointer (some ⟨w.heap.size+1,0,none⟩)]]:Array Value)[0]? =some (.func (.func 227) #[] #[.pointer (some ⟨w.heap.size,0,none⟩),.pointer (some ⟨w.heap.size+1,0,none⟩)]) from rfl]at cc;have B1:=zh1 (b0.trans (b1.mono b0.size));have q1:IntKind.u64.wrap (n:Int)=(n:Int):=IntWalk.u64_in _ (by omega);have q2:IntKind.i64.wrap (i:Int)=(i:Int):=IntWalk.i64_in _ (by omega);have q5:wrap64 (i:Int)=(i:Int):=IntWalk.wrap64_in _ (by omega);have q3:¬(n:Int)<i∧¬(i:Int)=0:=by omega
 clear hW0 c0 b0 ht hT hok l0 s0 f0 cf b1 C1 R hW1 hnc hcm hn;go_enter Tryz.func190,Tryz.ntmps190
 go_wp2_with fail
 refine HR.out.mono ?_;rintro e w4 ⟨v,rfl,o4,b4⟩;obtain⟨A4,n4,c4,rfl,-,-,-,-⟩:=o4.sl;obtain⟨O4,B4⟩:=zh2 (show OwnD w4 w.heap.size _ _ from⟨o4.1,qeq o4.2 B1.out.size⟩) (B1.out.trans (b4.mono B1.out.size));clear b4 cc hst o4;go_wp2_with fail
 go_ret2
 exact⟨_,rfl,O4.out,B4.out⟩
end
section
open Go.RowKit
theorem qr1 (n:Int)(A:Option Addr)(m c:Nat):Tryz.prog.built 57 [(1,.int .u64 n),(2,.slice A m c)]=some (Value.int .i64 0::.int .u64 n::.slice A m c::.slice none 0 0::(hdv Hd.zero++tokv qft.1 (.slice none 0 0) qft.2.2)).toArray:=by kernel_rfl
theorem qr2 (n:Int)(A:Option Addr)(m c:Nat):Tryz.prog.built 57 [(1,.int .u64 n),(3,.slice A m c)]=some (Value.int .i64 0::.int .u64 n::.slice none 0 0::.slice A m c::(hdv Hd.zero++tokv qft.1 (.slice none 0 0) qft.2.2)).toArray:=by kernel_rfl
theorem qr3 (c:Cfg)(s:Sta)(L:Loc)(col:Col)(k g:Nat)(css:List (List Value))(n:Nat)(t:Tre)(R:Req)(Ac:Option Addr)(cc:Nat)(Al:Option Addr)(cl:Nat)(w:World)(hk:Kind k)(hs:s.Ok)(h:Mdl w col k g c s L css)
 (hr:Asked w col R Ac cc Al cl)(ht:s.tres[n]? =some t)(hT:Tabs w)(hop:R.op=3∨R.op=4∨R.op=5):
 Calls Tryz.prog 136 #[.pointer (some ⟨g,0,none⟩),.pointer (some ⟨L.rg,n*75,none⟩),.agg (reqv R (.slice Ac R.cavs.length cc) (.slice Al R.leaf.length cl)).toArray] w fun e w'=>∃v col',e=.returned v∧RspV w' col' w.heap.size v (qm5 c s R t)∧Did w col w' col' k g c css s s:=by
 obtain⟨hn16,Ad,cd,Al',cl',Aq,cq,hcs,hcell,hrd,hrl,hrq⟩:=h.st.tree hs ht;have hto:=hs.tre ht;obtain⟨A1,k1,e1,a1,a2,a3⟩:=hrl.reads;injection e1 with e11 e12 e13;subst e11 e13;have rlen:=qis R (.slice Ac R.cavs.length cc) (.slice Al R.leaf.length cl) hr.good.tag;have rest:=qgu R (.slice Ac R.cavs.length cc) (.slice Al R.leaf.length cl) hr.good.tag;obtain⟨Q,hQ⟩:=xeq (reqv R (.slice Ac R.cavs.length cc) (.slice Al R.leaf.length cl));rw[hQ]at rlen rest ⊢;obtain⟨W0,hW0⟩:=eqx ((w.alloc (.cells Q.toArray 34)).alloc (.cells Tryz.zeroCells57 57));have q0:Blk W0 w.heap.size 34 Q.toArray:=by rw[hW0];exact(Blk.new w _ _).alloc _
 have z0:Blk W0 (w.heap.size+1) 57 Tryz.zeroCells57:=by
  have h:=Blk.new (w.alloc (.cells Q.toArray 34)) 57 Tryz.zeroCells57;rw[qar]at h;rw[hW0];exact h
 have b0:Below w.heap.size w W0:=by rw[hW0];exact qah (qah (tA5 _ _) _) _
 have hG0:col (w.heap.size+1)=0:=by
  by_cases e:col (w.heap.size+1)=0
  · exact e
  have:=h.fin _ e;omega
 have D0:=Did.same (css:=css) h b0;obtain⟨H,AP,Q0,Z0,B0,A5,A7,HK⟩:=zh8 h hW0 q0 z0 b0 hG0 D0 hk;obtain⟨HS,HR,RL,AC,HQ⟩:=zh5 hs hr rlen rest hQ;clear h hW0 q0 z0 b0 hG0 D0 hk hs hr rlen rest hQ;obtain⟨AK,AR,AL,A9,AH,HT⟩:=zh6 hto a3 (show t.leaves.length≤cl'∧cl'≤maxLen from⟨a1,a2⟩) (a3.call B0.out) (hT.below B0.out hT.size) ht;obtain⟨nl,hnl⟩:=xeq t.leaves.length;have c5:=qai (hcell 5 (.slice Al' t.leaves.length cl') rfl) B0.out;rw[hnl]at c5 A9 AL;have nb:nl≤1024:=by have:=hto.leaves;omega
 have cb:nl≤cl':=AL.out.1;have cm:cl'≤maxLen:=AL.out.2;obtain⟨lo,hlo⟩:=xeq R.lo;obtain⟨hi,hhi⟩:=xeq R.hi;have lob:lo<18446744073709551616:=by rw[←hlo];exact HR.out.good.lo
 have hib:hi<18446744073709551616:=by rw[←hhi];exact HR.out.good.hi
 obtain⟨op,hop'⟩:=xeq R.op;rw[hop']at hop;have k0:=(Q0.out.cell 0).trans (show Q.toArray[0]? =some (.int .i64 op) by rw[tA3,←hop',←HQ.out];rfl);have k41:=(Q0.out.cell 41).trans (show Q.toArray[41]? =some (.int .u64 (lo:Int)) by rw[tA3,←hlo];exact AC.out 6);have k42:=(Q0.out.cell 42).trans (show Q.toArray[42]? =some (.int .u64 (hi:Int)) by rw[tA3,←hhi];exact AC.out 7);obtain⟨K0,AI,AD,C5,AE,AA,AJ,AB⟩:=zh8 k0 k41 k42 c5 hnl hlo hhi hop';have C0:=zh1 (qai H.out.c0 B0.out);have u1:IntKind.u64.wrap (nl:Int)=(nl:Int):=IntWalk.u64_in _ (by omega);clear hrd hrl hrq a1 a2 a3 hcs hcell hto hT ht hnl hlo hhi hop' k0 k41 k42 c5;have c5:=C5.out;rw[AP.out]at c5;go_enter Tryz.func136,Tryz.ntmps136
 go_upto_region 2 with(fail)
 rw[←AP.out];clear c5 u1;have k0:=K0.out;have k41:=AI.out;have k42:=AD.out;obtain⟨AS,AT,AU⟩:=zh3 nb cb cm;rcases hop with rfl|rfl|rfl
 ·
  by_cases hge:nl≤lo
  ·
   have p1:(nl:Int)≤lo:=by omega
   have hdo:qm5 c s R t=rWhy 25:=by
    unfold qm5;rw[AB.out,if_neg (by decide),if_pos rfl,AA.out,List.getElem?_eq_none (by rw[AE.out];exact hge)]
   have A0:=zh1 hdo;clear hdo hge;go_wp2_with fail
   refine(qpj 25 W0).mono ?_;rintro e w9 ⟨rfl,b9⟩;obtain⟨X,hX,pk⟩:=qpn (rWhy 25) Hd.zero_Ok (by simp[qlz,rWhy,qih,qft]);rw[hX];obtain⟨Z9,HX,DD⟩:=zh3 ((Z0.out).below b9 (Z0.out).lt) hX ((A7.out).call b9);clear hX b9;go_wp2_with (refine qpo (.tmp 6) (.tmp 113) (w.heap.size+1) X Z9.out pk ?_)
   exact qpp (Z9.out.setRow X.toArray) pk ⟨_,col,rfl,(by rw[A0.out,←HX.out];exact RspV.plain _ _ _ _ rfl rfl rfl),(by (try rw[A0.out]);exact DD.out.row0 HK.out X.toArray (A5.out) (by omega))⟩
  have p1:¬(nl:Int)≤lo:=by omega
  obtain⟨g0,o0,bs,A2,n2,c2,rfl,g0lt,hbs,hcb,nc2,cm2,rd2⟩:=A9.out.at_ (k:=lo) (by omega);have en:bs.length=n2:=by have:=rd2.1;simp[byv]at this;omega
  have hdo:qm5 c s R t={qih with n:=lo,bytes:=bs}:=by
   unfold qm5;rw[AB.out,if_neg (by decide),if_pos rfl,AA.out,hbs]
  obtain⟨A0,EN,AM,AQ,AV⟩:=zh5 hdo en hcb rd2 nc2;have q0:(0:Int)≤lo:=by omega
  have q1:(lo:Int)<nl:=by omega
  have q2:lo<nl:=by omega
  clear hdo en hcb rd2 hge nc2;go_upto_region 5 with(fail)
  obtain⟨S,A4⟩:∃S:World→Prop,Hid (∀w',S w'=(Below W0.heap.size W0 w')):=⟨_,fun _=>rfl⟩;refine zrs S 12 [(0,false),(1,false),(2,false),(3,false),(4,false),(5,false),(6,false),(7,false),(8,false),(9,false),(10,true),(11,false),(12,true)] ((A4.out _).mpr ((tA5 _ _).drew)) ?_;obtain⟨F0,F1,F2⟩:=zh3 (fun(w':World)(h:S w')=>qai AI.out ((A4.out w').mp h)) (fun(w':World)(h:S w')=>qai C5.out ((A4.out w').mp h)) (fun(w':World)(h:S w')=>qai AM.out ((A4.out w').mp h));clear k0 k41 k42;iterate 10 (refine zrd rfl rfl (fun w1 hS=>by have g0:=F0.out w1 hS;have g1:=F1.out w1 hS;have g2:=F2.out w1 hS;clear hS;go_simp;try rfl) ?_;simp only[Act.put,tA0,tA1,tA2])
  obtain⟨Wd,hWd⟩:=eqx W0.drew;have BD:=zh1 (show Below W0.heap.size W0 Wd by rw[hWd];exact(tA5 _ _).drew);rw[←hWd];clear hWd;have CL:=zh1 (qqe A2 n2 c2 (byv bs) Wd (AQ.out.call BD.out) (by have:=EN.out;have:=(AK.out.leafb bs (List.mem_of_getElem? hbs)).1;omega) (qau _));refine qbj rfl rfl ?_;go_simp;refine CL.out.mono ?_;rintro e w1 ⟨v1,rfl,o1,b1⟩;have o1':OwnB w1 Wd.heap.size v1 bs:=by unfold OwnB;rw[EN.out];exact o1
  obtain⟨A3,n3,c3,rfl,-,-,-⟩:=o1'.sl;have B1:=zh1 (BD.out.trans (b1.mono BD.out.size));obtain⟨Z9,AF,O1,S9⟩:=zh4 (Z0.out.below B1.out Z0.out.lt) (A7.out.call B1.out) o1' (show w.heap.size+1<Wd.heap.size by have:=BD.out.size;have:=Z0.out.lt;omega);clear o1 o1' b1;refine⟨(A4.out _).mpr B1.out,?_⟩;try simp only[Act.put,tA0,tA1,tA2]
  obtain⟨X,hX⟩:=eqx (rspv (({qih with n:=lo,bytes:=bs}:Rsp)) (.slice A3 n3 c3) (.slice none 0 0) (.slice none 0 0));have lX:X.length=106:=by rw[hX];exact qp0 _ _ _ _ (qmw Hd.zero_Ok) (by simp[qih,qft])
  have oX:∀u∈X,u.oneCell'=true:=by rw[hX];exact qp1 _ _ _ _ rfl rfl rfl
  have bT:Tryz.prog.built 57 [(1,.int .u64 (lo:Int)),(2,.slice A3 n3 c3)]=some X.toArray:=by rw[hX];exact qr1 (lo:Int) A3 n3 c3
  obtain⟨LX,OX,HX,BT,A8,A6⟩:=zh6 lX oX hX bT (zI 57 lX) qph;clear lX oX hX bT;refine qbh rfl rfl ⟨.agg X.toArray,fun w1 hS=>qfq 57 _ rfl _ _ BT.out (by simp[Act.eval]),?_⟩;try simp only[Act.put,tA0,tA1,tA2]
  refine qbj rfl rfl ?_;refine wp_store_row 57 (.tmp 6) (.tmp 37) rfl (w.heap.size+1) X.toArray rfl rfl 57 _ Z9.out (by simpa using A8.out) (by simp[LX.out,A6.out]) (by simpa using OX.out) ?_;refine⟨fun h=>absurd h (by decide),?_⟩;try simp only[Act.put,tA0,tA1,tA2]
  refine qbg ?_;clear A4 F0 F1 F2;go_wp2_with fail
  have z9:=Z9.out.setRow X.toArray;have AG:=qap z9 0 X (fun j u h=>by simpa using h);refine zrt AG Tryz.underlying57 A8.out ?_;have dd9:=AF.out.row0 HK.out X.toArray A5.out (by omega);first
   |exact⟨_,rfl,col,(by rw[A0.out,HX.out];exact⟨_,_,_,rfl,(O1.out.grown (qam _ _ _) S9.out).mono (by have:=S9.out;omega),OwnD.nil _ _,OwnC.nil _ _,(fun g e=>by by_cases h0:col g=0;exact h0;exact absurd ((World.ownsRow.lt O1.out g e).1) (by have:=H.out.fin g h0;have:=S9.out;omega)),(fun g e=>by cases e),(fun g e=>by cases e)⟩),dd9⟩
   |exact⟨_,col,rfl,(by rw[A0.out,HX.out];exact⟨_,_,_,rfl,(O1.out.grown (qam _ _ _) S9.out).mono (by have:=S9.out;omega),OwnD.nil _ _,OwnC.nil _ _,(fun g e=>by by_cases h0:col g=0;exact h0;exact absurd ((World.ownsRow.lt O1.out g e).1) (by have:=H.out.fin g h0;have:=S9.out;omega)),(fun g e=>by cases e),(fun g e=>by cases e)⟩),dd9⟩
 ·
  by_cases hbad:hi≤lo∨nl<hi
  ·
   have hdo:qm5 c s R t=rWhy 25:=by
    unfold qm5;rw[AB.out,if_neg (by decide),if_neg (by decide),if_pos rfl,AA.out,AJ.out,AE.out,if_pos hbad]
   have A0:=zh1 hdo;clear hdo;by_cases h1:hi≤lo
   ·
    have p1:(hi:Int)≤lo:=by omega
    clear hbad h1;go_wp2_with fail
    refine(qpj 25 W0).mono ?_;rintro e w9 ⟨rfl,b9⟩;obtain⟨X,hX,pk⟩:=qpn (rWhy 25) Hd.zero_Ok (by simp[qlz,rWhy,qih,qft]);rw[hX];obtain⟨Z9,HX,DD⟩:=zh3 ((Z0.out).below b9 (Z0.out).lt) hX ((A7.out).call b9);clear hX b9;go_wp2_with (refine qpo (.tmp 6) (.tmp 113) (w.heap.size+1) X Z9.out pk ?_)
    exact qpp (Z9.out.setRow X.toArray) pk ⟨_,col,rfl,(by rw[A0.out,←HX.out];exact RspV.plain _ _ _ _ rfl rfl rfl),(by (try rw[A0.out]);exact DD.out.row0 HK.out X.toArray (A5.out) (by omega))⟩
   have p1:¬(hi:Int)≤lo:=by omega
   have p2:(nl:Int)<hi:=by omega
   clear hbad h1;go_wp2_with fail
   refine(qpj 25 W0).mono ?_;rintro e w9 ⟨rfl,b9⟩;obtain⟨X,hX,pk⟩:=qpn (rWhy 25) Hd.zero_Ok (by simp[qlz,rWhy,qih,qft]);rw[hX];obtain⟨Z9,HX,DD⟩:=zh3 ((Z0.out).below b9 (Z0.out).lt) hX ((A7.out).call b9);clear hX b9;go_wp2_with (refine qpo (.tmp 6) (.tmp 113) (w.heap.size+1) X Z9.out pk ?_)
   exact qpp (Z9.out.setRow X.toArray) pk ⟨_,col,rfl,(by rw[A0.out,←HX.out];exact RspV.plain _ _ _ _ rfl rfl rfl),(by (try rw[A0.out]);exact DD.out.row0 HK.out X.toArray (A5.out) (by omega))⟩
  have p1:¬(hi:Int)≤lo:=by omega
  have p2:¬(nl:Int)<hi:=by omega
  have plo:lo<hi:=by omega
  have pn:hi≤nl:=by omega
  have hdo:qm5 c s R t={qih with n:=hi,hashes:=qe2 (cutW c.width) (t.leaves.take hi) lo}:=by
   unfold qm5;rw[AB.out,if_neg (by decide),if_neg (by decide),if_pos rfl,AA.out,AJ.out,AE.out,if_neg hbad]
  have A0:=zh1 hdo;clear hdo hbad;obtain⟨g0,o0,bs,A2,n2,c2,rfl,-,-,-,-,-,-⟩:=A9.out.at_ (k:=0) (by omega);have AN:=zh1 (A9.out.take (k:=hi) (by omega));have q1:(0:Int)≤hi:=by omega
  have q2:(hi:Int)≤nl:=by omega
  have q3:(hi:Int)≤cl':=by omega
  have q4:hi≤cl':=by omega
  have hok:∀b∈t.leaves.take hi,BsOk b:=fun b hb=>(AK.out.leafb b (List.mem_of_mem_take hb)).bs
  obtain⟨AO,HW⟩:=zh2 hok (show c.width=c.width from rfl);clear hok;go_upto_region 8 with(fail)
  obtain⟨S,A4⟩:∃S:World→Prop,Hid (∀w',S w'=(Below W0.heap.size W0 w')):=⟨_,fun _=>rfl⟩;refine zrs S 20 [(0,false),(1,false),(2,false),(3,false),(4,false),(5,false),(6,false),(7,false),(8,false),(9,false),(10,false),(11,false),(12,false),(13,false),(14,true),(15,false),(16,false),(17,false),(18,false),(19,false)] ((A4.out _).mpr ((tA5 _ _).drew)) ?_;obtain⟨F0,F1,F2,F3⟩:=zh4 (fun(w':World)(h:S w')=>qai AI.out ((A4.out w').mp h)) (fun(w':World)(h:S w')=>qai C5.out ((A4.out w').mp h)) (fun(w':World)(h:S w')=>qai AD.out ((A4.out w').mp h)) (fun(w':World)(h:S w')=>qai C0.out ((A4.out w').mp h));clear k0 k41 k42;iterate 14 (refine zrd rfl rfl (fun w1 hS=>by have g0:=F0.out w1 hS;have g1:=F1.out w1 hS;have g2:=F2.out w1 hS;have g3:=F3.out w1 hS;clear hS;go_simp;try rfl) ?_;simp only[Act.put,tA0,tA1,tA2])
  obtain⟨Wd,hWd⟩:=eqx W0.drew;have BD:=zh1 (show Below W0.heap.size W0 Wd by rw[hWd];exact(tA5 _ _).drew);rw[←hWd];clear hWd;have CL:=zh1 (qqz c.width (t.leaves.take hi) (some ⟨g0,o0,none⟩) lo hi cl' Wd plo (AN.out.call BD.out) q4 (by omega) (by omega) AO.out (AH.out.below BD.out AH.out.size));refine qbj rfl rfl ?_;go_simp;refine CL.out.mono ?_;rintro e w1 ⟨v1,rfl,o1,b1⟩;obtain⟨A3,n3,c3,rfl,-,-,-,-⟩:=o1.sl;have B1:=zh1 (BD.out.trans (b1.mono BD.out.size));obtain⟨Z9,AF,O1,S9⟩:=zh4 (Z0.out.below B1.out Z0.out.lt) (A7.out.call B1.out) o1 (show w.heap.size+1<Wd.heap.size by have:=BD.out.size;have:=Z0.out.lt;omega);clear o1 b1;refine⟨(A4.out _).mpr B1.out,?_⟩;try simp only[Act.put,tA0,tA1,tA2]
  iterate 5 (refine zrd rfl rfl (fun w1 hS=>by go_simp;(try go_bits);try rfl) ?_;simp only[Act.put,tA0,tA1,tA2])
  refine qbg ?_;clear A4 F0 F1 F2 F3;have k42:=qai AD.out B1.out;obtain⟨X,hX⟩:=eqx (rspv (({qih with n:=hi,hashes:=qe2 (cutW c.width) (t.leaves.take hi) lo}:Rsp)) (.slice none 0 0) (.slice A3 n3 c3) (.slice none 0 0));have lX:X.length=106:=by rw[hX];exact qp0 _ _ _ _ (qmw Hd.zero_Ok) (by simp[qih,qft])
  have oX:∀u∈X,u.oneCell'=true:=by rw[hX];exact qp1 _ _ _ _ rfl rfl rfl
  have bT:Tryz.prog.built 57 [(1,.int .u64 (hi:Int)),(3,.slice A3 n3 c3)]=some X.toArray:=by rw[hX];exact qr2 (hi:Int) A3 n3 c3
  obtain⟨LX,OX,HX,BT,A8,A6⟩:=zh6 lX oX hX bT (zI 57 lX) qph;clear lX oX hX bT;go_wp2_with (first
   |(refine qbk rfl ⟨.agg X.toArray,qfq 57 _ rfl _ _ BT.out (by simp[Act.eval]),?_⟩)
   |(refine zst 57 (.tmp 6) (.tmp 72) (w.heap.size+1) X Z9.out A8.out (by simp[LX.out,A6.out]) OX.out ?_))
  have z9:=Z9.out.setRow X.toArray;have AG:=qap z9 0 X (fun j u h=>by simpa using h);refine zrt AG Tryz.underlying57 A8.out ?_;have dd9:=AF.out.row0 HK.out X.toArray A5.out (by omega);first
   |exact⟨_,rfl,col,(by rw[A0.out,HX.out];exact⟨_,_,_,rfl,OwnB.nil _ _,(fun h=>⟨h.1,qeq h.2 (by have:=S9.out;omega)⟩:OwnD _ Wd.heap.size _ _→OwnD _ _ _ _) (O1.out.grown (qam _ _ _) Z9.out (by decide)),OwnC.nil _ _,(fun g e=>by cases e),(fun g e=>by by_cases h0:col g=0;exact h0;exact absurd ((World.ownsRow.lt O1.out.2 g e).1) (by have:=H.out.fin g h0;have:=S9.out;omega)),(fun g e=>by cases e)⟩),dd9⟩
   |exact⟨_,col,rfl,(by rw[A0.out,HX.out];exact⟨_,_,_,rfl,OwnB.nil _ _,(fun h=>⟨h.1,qeq h.2 (by have:=S9.out;omega)⟩:OwnD _ Wd.heap.size _ _→OwnD _ _ _ _) (O1.out.grown (qam _ _ _) Z9.out (by decide)),OwnC.nil _ _,(fun g e=>by cases e),(fun g e=>by by_cases h0:col g=0;exact h0;exact absurd ((World.ownsRow.lt O1.out.2 g e).1) (by have:=H.out.fin g h0;have:=S9.out;omega)),(fun g e=>by cases e)⟩),dd9⟩
 by_cases hbad:lo=0∨hi<lo∨nl<hi
 ·
  have hdo:qm5 c s R t=rWhy 25:=by
   unfold qm5;rw[AB.out,if_neg (by decide),if_neg (by decide),if_neg (by decide),AA.out,AJ.out,AE.out,if_pos hbad]
  have A0:=zh1 hdo;clear hdo;by_cases h0:lo=0
  ·
   subst h0;clear hbad;go_wp2_with fail
   refine(qpj 25 W0).mono ?_;rintro e w9 ⟨rfl,b9⟩;obtain⟨X,hX,pk⟩:=qpn (rWhy 25) Hd.zero_Ok (by simp[qlz,rWhy,qih,qft]);rw[hX];obtain⟨Z9,HX,DD⟩:=zh3 ((Z0.out).below b9 (Z0.out).lt) hX ((A7.out).call b9);clear hX b9;go_wp2_with (refine qpo (.tmp 6) (.tmp 113) (w.heap.size+1) X Z9.out pk ?_)
   exact qpp (Z9.out.setRow X.toArray) pk ⟨_,col,rfl,(by rw[A0.out,←HX.out];exact RspV.plain _ _ _ _ rfl rfl rfl),(by (try rw[A0.out]);exact DD.out.row0 HK.out X.toArray (A5.out) (by omega))⟩
  have p0:((lo:Int)==0)=false:=by simp;omega
  by_cases h1:hi<lo
  ·
   have p1:(hi:Int)<lo:=by omega
   clear hbad h1;go_wp2_with fail
   refine(qpj 25 W0).mono ?_;rintro e w9 ⟨rfl,b9⟩;obtain⟨X,hX,pk⟩:=qpn (rWhy 25) Hd.zero_Ok (by simp[qlz,rWhy,qih,qft]);rw[hX];obtain⟨Z9,HX,DD⟩:=zh3 ((Z0.out).below b9 (Z0.out).lt) hX ((A7.out).call b9);clear hX b9;go_wp2_with (refine qpo (.tmp 6) (.tmp 113) (w.heap.size+1) X Z9.out pk ?_)
   exact qpp (Z9.out.setRow X.toArray) pk ⟨_,col,rfl,(by rw[A0.out,←HX.out];exact RspV.plain _ _ _ _ rfl rfl rfl),(by (try rw[A0.out]);exact DD.out.row0 HK.out X.toArray (A5.out) (by omega))⟩
  have p1:¬(hi:Int)<lo:=by omega
  have p2:(nl:Int)<hi:=by omega
  clear hbad h1;go_wp2_with fail
  refine(qpj 25 W0).mono ?_;rintro e w9 ⟨rfl,b9⟩;obtain⟨X,hX,pk⟩:=qpn (rWhy 25) Hd.zero_Ok (by simp[qlz,rWhy,qih,qft]);rw[hX];obtain⟨Z9,HX,DD⟩:=zh3 ((Z0.out).below b9 (Z0.out).lt) hX ((A7.out).call b9);clear hX b9;go_wp2_with (refine qpo (.tmp 6) (.tmp 113) (w.heap.size+1) X Z9.out pk ?_)
  exact qpp (Z9.out.setRow X.toArray) pk ⟨_,col,rfl,(by rw[A0.out,←HX.out];exact RspV.plain _ _ _ _ rfl rfl rfl),(by (try rw[A0.out]);exact DD.out.row0 HK.out X.toArray (A5.out) (by omega))⟩
 have p0:((lo:Int)==0)=false:=by simp;omega
 have p1:¬(hi:Int)<lo:=by omega
 have p2:¬(nl:Int)<hi:=by omega
 have plo:1≤lo:=by omega
 have plh:lo≤hi:=by omega
 have pn:hi≤nl:=by omega
 have hdo:qm5 c s R t={qih with n:=hi,hashes:=subH (cutW c.width) (t.leaves.take hi) lo true}:=by
  unfold qm5;rw[AB.out,if_neg (by decide),if_neg (by decide),if_neg (by decide),AA.out,AJ.out,AE.out,if_neg hbad]
 have A0:=zh1 hdo;clear hdo hbad;obtain⟨g0,o0,bs,A2,n2,c2,rfl,-,-,-,-,-,-⟩:=A9.out.at_ (k:=0) (by omega);have AN:=zh1 (A9.out.take (k:=hi) (by omega));have q1:(0:Int)≤hi:=by omega
 have q2:(hi:Int)≤nl:=by omega
 have q3:(hi:Int)≤cl':=by omega
 have q4:hi≤cl':=by omega
 have hok:∀b∈t.leaves.take hi,BsOk b:=fun b hb=>(AK.out.leafb b (List.mem_of_mem_take hb)).bs
 obtain⟨AO,HW⟩:=zh2 hok (show c.width=c.width from rfl);clear hok;go_upto_region 12 with(fail)
 obtain⟨S,A4⟩:∃S:World→Prop,Hid (∀w',S w'=(Below W0.heap.size W0 w')):=⟨_,fun _=>rfl⟩;refine zrs S 20 [(0,false),(1,false),(2,false),(3,false),(4,false),(5,false),(6,false),(7,false),(8,false),(9,false),(10,false),(11,false),(12,false),(13,false),(14,true),(15,false),(16,false),(17,false),(18,false),(19,false)] ((A4.out _).mpr ((tA5 _ _).drew)) ?_;obtain⟨F0,F1,F2,F3⟩:=zh4 (fun(w':World)(h:S w')=>qai AI.out ((A4.out w').mp h)) (fun(w':World)(h:S w')=>qai C5.out ((A4.out w').mp h)) (fun(w':World)(h:S w')=>qai AD.out ((A4.out w').mp h)) (fun(w':World)(h:S w')=>qai C0.out ((A4.out w').mp h));clear k0 k41 k42;iterate 14 (refine zrd rfl rfl (fun w1 hS=>by have g0:=F0.out w1 hS;have g1:=F1.out w1 hS;have g2:=F2.out w1 hS;have g3:=F3.out w1 hS;clear hS;go_simp;try rfl) ?_;simp only[Act.put,tA0,tA1,tA2])
 obtain⟨Wd,hWd⟩:=eqx W0.drew;have BD:=zh1 (show Below W0.heap.size W0 Wd by rw[hWd];exact(tA5 _ _).drew);rw[←hWd];clear hWd;have CL:=zh1 (qr0 c.width (t.leaves.take hi) (some ⟨g0,o0,none⟩) lo hi cl' Wd plo plh (AN.out.call BD.out) q4 (by omega) (by omega) AO.out (AH.out.below BD.out AH.out.size));refine qbj rfl rfl ?_;go_simp;refine CL.out.mono ?_;rintro e w1 ⟨v1,rfl,o1,b1⟩;obtain⟨A3,n3,c3,rfl,-,-,-,-⟩:=o1.sl;have B1:=zh1 (BD.out.trans (b1.mono BD.out.size));obtain⟨Z9,AF,O1,S9⟩:=zh4 (Z0.out.below B1.out Z0.out.lt) (A7.out.call B1.out) o1 (show w.heap.size+1<Wd.heap.size by have:=BD.out.size;have:=Z0.out.lt;omega);clear o1 b1;refine⟨(A4.out _).mpr B1.out,?_⟩;try simp only[Act.put,tA0,tA1,tA2]
 iterate 5 (refine zrd rfl rfl (fun w1 hS=>by go_simp;(try go_bits);try rfl) ?_;simp only[Act.put,tA0,tA1,tA2])
 refine qbg ?_;clear A4 F0 F1 F2 F3;have k42:=qai AD.out B1.out;obtain⟨X,hX⟩:=eqx (rspv (({qih with n:=hi,hashes:=subH (cutW c.width) (t.leaves.take hi) lo true}:Rsp)) (.slice none 0 0) (.slice A3 n3 c3) (.slice none 0 0));have lX:X.length=106:=by rw[hX];exact qp0 _ _ _ _ (qmw Hd.zero_Ok) (by simp[qih,qft])
 have oX:∀u∈X,u.oneCell'=true:=by rw[hX];exact qp1 _ _ _ _ rfl rfl rfl
 have bT:Tryz.prog.built 57 [(1,.int .u64 (hi:Int)),(3,.slice A3 n3 c3)]=some X.toArray:=by rw[hX];exact qr2 (hi:Int) A3 n3 c3
 obtain⟨LX,OX,HX,BT,A8,A6⟩:=zh6 lX oX hX bT (zI 57 lX) qph;clear lX oX hX bT;go_wp2_with (first
  |(refine qbk rfl ⟨.agg X.toArray,qfq 57 _ rfl _ _ BT.out (by simp[Act.eval]),?_⟩)
  |(refine zst 57 (.tmp 6) (.tmp 112) (w.heap.size+1) X Z9.out A8.out (by simp[LX.out,A6.out]) OX.out ?_))
 have z9:=Z9.out.setRow X.toArray;have AG:=qap z9 0 X (fun j u h=>by simpa using h);refine zrt AG Tryz.underlying57 A8.out ?_;have dd9:=AF.out.row0 HK.out X.toArray A5.out (by omega);first
  |exact⟨_,rfl,col,(by rw[A0.out,HX.out];exact⟨_,_,_,rfl,OwnB.nil _ _,(fun h=>⟨h.1,qeq h.2 (by have:=S9.out;omega)⟩:OwnD _ Wd.heap.size _ _→OwnD _ _ _ _) (O1.out.grown (qam _ _ _) Z9.out (by decide)),OwnC.nil _ _,(fun g e=>by cases e),(fun g e=>by by_cases h0:col g=0;exact h0;exact absurd ((World.ownsRow.lt O1.out.2 g e).1) (by have:=H.out.fin g h0;have:=S9.out;omega)),(fun g e=>by cases e)⟩),dd9⟩
  |exact⟨_,col,rfl,(by rw[A0.out,HX.out];exact⟨_,_,_,rfl,OwnB.nil _ _,(fun h=>⟨h.1,qeq h.2 (by have:=S9.out;omega)⟩:OwnD _ Wd.heap.size _ _→OwnD _ _ _ _) (O1.out.grown (qam _ _ _) Z9.out (by decide)),OwnC.nil _ _,(fun g e=>by cases e),(fun g e=>by by_cases h0:col g=0;exact h0;exact absurd ((World.ownsRow.lt O1.out.2 g e).1) (by have:=H.out.fin g h0;have:=S9.out;omega)),(fun g e=>by cases e)⟩),dd9⟩
end
end Go.Proofs.YthomgopipiomhaaGreatDoor

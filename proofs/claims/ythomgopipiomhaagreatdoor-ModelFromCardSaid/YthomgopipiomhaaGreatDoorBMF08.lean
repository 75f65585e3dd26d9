/- Lemmas. -/
import Derived.Test.YthomgopipiomhaaGreatDoorBMF07
namespace Go.Proofs.YthomgopipiomhaaGreatDoor
open Go.RowKit
set_option linter.unusedVariables false
set_option linter.unusedSimpArgs false
set_option maxRecDepth 100000
set_option maxHeartbeats 32000000
variable {s s' s1 s2:Sta}{css:List (List Value)}{c:Cfg}{col col' col'':Col}{G k g n g' c' d clk:Nat}{w W1 w' W W':World}{cs new:List Value}{t:Tre}{L:Loc}{P:Program}{Q:Exit→Act→World→Prop}{K:Act→World→Prop}{a:Act}{o:Oper}{v' vd vl vq:Value}{R:Req}{tr:Int}
theorem qry (w:Nat)(hw:w≤32):∀(m:Nat) (l:List (List Nat)) (i:Nat),l.length≤m→(qfw w l i).length≤l.length∧∀d∈qfw w l i,d.length=32∧∀x∈d,x<256
 |0,l,i,h=>by rw[qfx w i zo];exact⟨by simp,fun d hd=>(nomatch hd)⟩
 |m+1,l,i,h=>by
  by_cases h1:l.length≤1
  · rw[qfx w i h1];exact⟨by simp,fun d hd=>(nomatch hd)⟩
  obtain⟨a,b,c⟩:=qfr (n:=l.length) zo;have l1:(l.take (half l.length)).length=half l.length:=by rw[tBd];omega
  have l2:(l.drop (half l.length)).length=l.length - half l.length:=tBk;by_cases hi:i<half l.length
  · obtain⟨h2,h3⟩:=qry w hw m (l.take (half l.length)) i zo
    rw[qfy w zo hi];refine⟨by rw[tA6,List.length_singleton];omega,fun d hd=>?_⟩;rcases List.mem_append.1 hd with hd|hd
    · exact h3 d hd
    rw[List.mem_singleton.1 hd];exact qo7 w hw _
  obtain⟨h2,h3⟩:=qry w hw m (l.drop (half l.length)) (i - half l.length) zo;rw[qfz w zo hi];refine⟨by rw[tA6,List.length_singleton];omega,fun d hd=>?_⟩;rcases List.mem_append.1 hd with hd|hd
  · exact h3 d hd
  rw[List.mem_singleton.1 hd];exact qo7 w hw _
theorem qrz (w:Nat)(hw:w≤32):∀(k:Nat) (l:List (List Nat)) (m:Nat) (b:Bool),l.length≤k→(subH w l m b).length≤l.length+1∧∀d∈subH w l m b,d.length=32∧∀x∈d,x<256
 |0,l,m,b,h=>by
  rw[subH,dif_pos (.inl zo)];cases b
  · exact⟨by simp,fun d hd=>by rw[List.mem_singleton.1 hd];exact qo7 w hw _⟩
  exact⟨by simp,fun d hd=>(nomatch hd)⟩
 |k+1,l,m,b,h=>by
  by_cases h1:l.length≤1∨m=l.length
  · rw[subH,dif_pos h1]
    cases b
    · exact⟨by simp,fun d hd=>by rw[List.mem_singleton.1 hd];exact qo7 w hw _⟩
    exact⟨by simp,fun d hd=>(nomatch hd)⟩
  obtain⟨x,y,z⟩:=qfr (n:=l.length) zo;have l1:(l.take (half l.length)).length=half l.length:=by rw[tBd];omega
  have l2:(l.drop (half l.length)).length=l.length - half l.length:=tBk;by_cases hi:m≤half l.length
  · obtain⟨h2,h3⟩:=qrz w hw k (l.take (half l.length)) m b zo
    rw[qg1 w b zo zo hi];refine⟨by rw[tA6,List.length_singleton];omega,fun d hd=>?_⟩;rcases List.mem_append.1 hd with hd|hd
    · exact h3 d hd
    rw[List.mem_singleton.1 hd];exact qo7 w hw _
  obtain⟨h2,h3⟩:=qrz w hw k (l.drop (half l.length)) (m - half l.length) false zo;rw[qg2 w b zo zo hi];refine⟨by rw[tA6,List.length_singleton];omega,fun d hd=>?_⟩;rcases List.mem_append.1 hd with hd|hd
  · exact h3 d hd
  rw[List.mem_singleton.1 hd];exact qo7 w hw _
theorem qs0(W:Int)(pw pf:Nat):∀(m:Nat) (ls:List (List Nat)) (i g o n c:Nat) (w:World),ls.length≤m→1≤n→i<n→TextsR w (some ⟨g,o,none⟩) n ls→n≤c→c≤maxLen→n≤1048576→(∀b∈ls,BsOk b)→
 w.cell? ⟨pw,0,none⟩=some (.int .i64 W)→w.cell? ⟨pf,0,none⟩=some (.func (.func 226) #[] #[.pointer (some ⟨pf,0,none⟩),.pointer (some ⟨pw,0,none⟩)])→Tabs w→
 Zc 226 #[.slice (some ⟨g,o,none⟩) n c,.int .i64 (i:Int),.pointer (some ⟨pf,0,none⟩),.pointer (some ⟨pw,0,none⟩)] w fun e w'=>∃v,e=.returned v∧OwnD w' w.heap.size v (qfw (cutW W) ls i)∧Zb w w':=by
 intro m;induction m with
 |zero=>
  intro ls i g o n c w hm h1 hi ht;have:=ht.1;omega
 |succ m ih=>
  intro ls i g o n c w hm h1 hi ht hnc hcm hn hok hpw hpf hT;have hlen:=ht.1;have AA:=zh1 ih;clear ih;obtain⟨A3,A0,A5,A6,A7,A2,HL,HM⟩:=zh8 ht hT hpw hpf hok hcm hlen hm;clear hok hcm hlen hm ht hpw hpf hT;by_cases hn1:n=1
  · subst hn1
    have hp:qfw (cutW W) ls i=[]:=qfx _ _ (by rw[HL.o];omega);go_enter Tryz.func226,Tryz.ntmps226
    go_wp2
    go_ret
    exact⟨_,rfl,by rw[hp];exact OwnD.nil _ _,tA5 _ _⟩
  have qn:¬(n:Int)=1:=zo;obtain⟨hk1,hk2,hk3⟩:=qfr (n:=n) zo;have Hhalf:=zh1 (qpf n w zo zo);obtain⟨k,hk⟩:=xeq (half n);rw[hk]at hk1 hk2 hk3 Hhalf;have lt1:(ls.take k).length=k:=by rw[tBd,HL.o];omega
  have lt2:(ls.drop k).length=n - k:=by rw[tBk,HL.o]
  have hcc:=A2.o;unfold maxLen at hcc;have q1:(0:Int)≤k:=zo;have q2:(k:Int)≤n:=zo;have q3:(k:Int)≤c:=zo;have q4:¬c=k:=zo;have R1:∀w1,Zb w w1→Zc 174 #[.int .i64 W,.slice (some ⟨g,o,none⟩) k c] w1 fun e w'=>e=.returned (.agg (byv (qfs (cutW W) (ls.take k))).toArray)∧Zb w1 w':=fun w1 b1=>
   qpk W (ls.take k) _ k c w1 ((A3.take zo).call b1) zo A2.o zo (fun b hb=>A7.o b (tB7 hb)) (A0.below b1 A0.size)
  have R2:∀w1,Zb w w1→Zc 174 #[.int .i64 W,.slice (some ⟨g,o+k,none⟩) (n - k) (c - k)] w1 fun e w'=>e=.returned (.agg (byv (qfs (cutW W) (ls.drop k))).toArray)∧Zb w1 w':=fun w1 b1=>
   qpk W (ls.drop k) _ (n - k) (c - k) w1 ((A3.drop hk2).call b1) zo (by have:=A2.o;omega) zo (fun b hb=>A7.o b (List.mem_of_mem_drop hb)) (A0.below b1 A0.size)
  by_cases hik:i<k
  ·
   have hp:qfw (cutW W) ls i=qfw (cutW W) (ls.take k) i++[qfs (cutW W) (ls.drop k)]:=by
    have:=qfy (cutW W) (l:=ls) (i:=i) (by rw[HL.o];omega) (by rw[HL.o,hk];exact hik);rwa[HL.o,hk]at this
   have C1:∀w1,Zb w w1→Zc 226 #[.slice (some ⟨g,o,none⟩) k c,.int .i64 (i:Int),.pointer (some ⟨pf,0,none⟩),.pointer (some ⟨pw,0,none⟩)] w1 fun e w'=>∃v,e=.returned v∧OwnD w' w1.heap.size v (qfw (cutW W) (ls.take k) i)∧Zb w1 w':=fun w1 b1=>
    AA.o (ls.take k) i g o k c w1 (by rw[lt1];have:=HM.o;have:=HL.o;omega) hk1 hik ((A3.take zo).call b1) zo A2.o zo (fun b hb=>A7.o b (tB7 hb)) (qai A5.o b1) (qai A6.o b1) (A0.below b1 A0.size)
   have hpl:=(qry (cutW W) (qfo W).2 _ (ls.take k) i (tA4 _)).1;rw[lt1]at hpl;obtain⟨A8,A9,AB,HP⟩:=zh4 hpl C1 R2 hp;have qi:(i:Int)<k:=zo;clear C1 R1 R2 hp lt1 lt2 hk hcc hpl;go_enter Tryz.func226,Tryz.ntmps226
   go_wp2_with fail
   refine Hhalf.o.mono ?_;rintro e w' ⟨rfl,rfl⟩;go_upto_region 5 with(fail)
   obtain⟨S,HS⟩:=zS fun w'=>Zb w w'
   refine zrs S 14 (zq 0 5 (zq 6 4 [(5,true),(10,true),(11,true),(12,true),(13,false)])) ((HS.o _).mpr (tA5 _ _).drew) ?_;obtain⟨F0,F1⟩:=zh2 (zF HS A5.o) (zF HS A6.o);iterate 9 (refine zr2 ?_)
   obtain⟨Wd,hWd,bd⟩:=zdr w;rw[←hWd];clear hWd;refine zw ?_;go_simp;refine(A9.o Wd bd).mono ?_;rintro e w1 ⟨v1,rfl,o1,b1⟩;have b1':=bd.trans (b1.mono bd.size);obtain⟨A1,n1,c1,rfl,-,-,-,-⟩:=o1.sl;refine⟨(HS.o _).mpr b1',zput ?_⟩;refine zw ?_;go_simp;refine zcb (AB.o w1 b1') fun w2 b2=>?_
   have b2':=b1'.trans (b2.mono b1'.size);have o2:=o1.kept b2;refine⟨(HS.o _).mpr b2',zput ?_⟩;refine zw ?_;refine qru (.tmp 27) rfl (qfs (cutW W) (ls.drop k)) (qo7 _ (qfo W).2 _).1 rfl ?_;have o3:=o2.alloc (.cells (byv (qfs (cutW W) (ls.drop k))).toArray 29);have b3':Zb w (w2.alloc (.cells (byv (qfs (cutW W) (ls.drop k))).toArray 29)):=b2'.alloc b2'.size _;refine⟨fun _=>(HS.o _).mpr b3',zput ?_⟩;refine zw ?_;refine qpz (.tmp 22) (.tmp 28) rfl Wd.heap.size _ _ rfl o3 _ 1 1 [qfs (cutW W) (ls.drop k)] rfl rfl (fun d hd=>by rw[List.mem_singleton.1 hd];exact(qo7 _ (qfo W).2 _).1) (qrw w2 _ (qo7 _ (qfo W).2 _).1) (by have:=A8.o;omega) (by rw[qar];have:=b1.size;have:=b2.size;omega) ?_;intro v4 w4 o4 b4 _;have b4':Zb w w4:=b3'.trans (b4.mono bd.size);obtain⟨A4,n4,c4,rfl,-,-,-,-⟩:=o4.sl;obtain⟨O4,B4⟩:=zh2 (show OwnD w4 w.heap.size _ _ from⟨o4.1,qde o4.2 bd.size⟩) b4';refine⟨fun _=>(HS.o _).mpr b4',zput ?_⟩;clear o1 o2 o3 o4 b1 b1' b2 b2' b3' b4 b4' bd;iterate 1 (refine zrb ?_)
   refine qbf ?_;go_wp2
   go_ret
   exact⟨_,rfl,by rw[HP.o];exact O4.o,B4.o⟩
  have hp:qfw (cutW W) ls i=qfw (cutW W) (ls.drop k) (i - k)++[qfs (cutW W) (ls.take k)]:=by
   have:=qfz (cutW W) (l:=ls) (i:=i) (by rw[HL.o];omega) (by rw[HL.o,hk];exact hik);rwa[HL.o,hk]at this
  have C1:∀w1,Zb w w1→Zc 226 #[.slice (some ⟨g,o+k,none⟩) (n - k) (c - k),.int .i64 ((i - k:Nat):Int),.pointer (some ⟨pf,0,none⟩),.pointer (some ⟨pw,0,none⟩)] w1 fun e w'=>∃v,e=.returned v∧OwnD w' w1.heap.size v (qfw (cutW W) (ls.drop k) (i - k))∧Zb w1 w':=fun w1 b1=>
   AA.o (ls.drop k) (i - k) g (o+k) (n - k) (c - k) w1 (by rw[lt2];have:=HM.o;have:=HL.o;omega) zo zo ((A3.drop hk2).call b1) zo (by have:=A2.o;omega) zo (fun b hb=>A7.o b (List.mem_of_mem_drop hb)) (qai A5.o b1) (qai A6.o b1) (A0.below b1 A0.size)
  have hpl:=(qry (cutW W) (qfo W).2 _ (ls.drop k) (i - k) (tA4 _)).1;rw[lt2]at hpl;obtain⟨A8,A9,AC,HP⟩:=zh4 hpl C1 R1 hp;have qi:¬(i:Int)<k:=zo;have qs:wrap64 ((i:Int) - k)=((i - k:Nat):Int):=by rw[IntWalk.wrap64_in _ zo];omega
  have qt:IntKind.i64.wrap ((i:Int) - k)=((i - k:Nat):Int):=by rw[tBb _ zo];omega
  clear C1 R1 R2 hp lt1 lt2 hk hcc hpl;go_enter Tryz.func226,Tryz.ntmps226
  go_wp2_with fail
  refine Hhalf.o.mono ?_;rintro e w' ⟨rfl,rfl⟩;go_upto_region 6 with(fail)
  obtain⟨S,HS⟩:=zS fun w'=>Zb w w'
  refine zrs S 16 (zq 0 7 (zq 8 4 [(7,true),(12,true),(13,true),(14,true),(15,false)])) ((HS.o _).mpr (tA5 _ _).drew) ?_;obtain⟨F0,F1⟩:=zh2 (zF HS A5.o) (zF HS A6.o);iterate 11 (refine zr2 ?_)
  obtain⟨Wd,hWd,bd⟩:=zdr w;rw[←hWd];clear hWd;refine zw ?_;go_simp;refine(A9.o Wd bd).mono ?_;rintro e w1 ⟨v1,rfl,o1,b1⟩;have b1':=bd.trans (b1.mono bd.size);obtain⟨A1,n1,c1,rfl,-,-,-,-⟩:=o1.sl;refine⟨(HS.o _).mpr b1',zput ?_⟩;refine zw ?_;go_simp;refine zcb (AC.o w1 b1') fun w2 b2=>?_
  have b2':=b1'.trans (b2.mono b1'.size);have o2:=o1.kept b2;refine⟨(HS.o _).mpr b2',zput ?_⟩;refine zw ?_;refine qru (.tmp 42) rfl (qfs (cutW W) (ls.take k)) (qo7 _ (qfo W).2 _).1 rfl ?_;have o3:=o2.alloc (.cells (byv (qfs (cutW W) (ls.take k))).toArray 29);have b3':Zb w (w2.alloc (.cells (byv (qfs (cutW W) (ls.take k))).toArray 29)):=b2'.alloc b2'.size _;refine⟨fun _=>(HS.o _).mpr b3',zput ?_⟩;refine zw ?_;refine qpz (.tmp 37) (.tmp 43) rfl Wd.heap.size _ _ rfl o3 _ 1 1 [qfs (cutW W) (ls.take k)] rfl rfl (fun d hd=>by rw[List.mem_singleton.1 hd];exact(qo7 _ (qfo W).2 _).1) (qrw w2 _ (qo7 _ (qfo W).2 _).1) (by have:=A8.o;omega) (by rw[qar];have:=b1.size;have:=b2.size;omega) ?_;intro v4 w4 o4 b4 _;have b4':Zb w w4:=b3'.trans (b4.mono bd.size);obtain⟨A4,n4,c4,rfl,-,-,-,-⟩:=o4.sl;obtain⟨O4,B4⟩:=zh2 (show OwnD w4 w.heap.size _ _ from⟨o4.1,qde o4.2 bd.size⟩) b4';refine⟨fun _=>(HS.o _).mpr b4',zput ?_⟩;clear o1 o2 o3 o4 b1 b1' b2 b2' b3' b4 b4' bd;iterate 1 (refine zrb ?_)
  refine qbf ?_;go_wp2
  go_ret
  exact⟨_,rfl,by rw[HP.o];exact O4.o,B4.o⟩
theorem OwnD.made1(w:World)(d:List Nat)(hd:d.length=32):OwnD (w.alloc (.cells (byv d).toArray 29)) w.heap.size (.slice (some ⟨w.heap.size,0,none⟩) 1 1) [d]:=by
 refine⟨fun x hx=>by rw[List.mem_singleton.1 hx];exact hd,?_⟩;have:=World.ownsRow_lit (size:=32) (e:=29) w (byv d).toArray 1 (tA4 _) (by simp[maxLen]) (by simp[qat,hd]);rw[qrv];exact this
theorem qs1(W:Int)(pw pf:Nat):∀(m:Nat) (ls:List (List Nat)) (i g o n c:Nat) (b:Bool) (w:World),ls.length≤m→1≤n→1≤i→i≤n→TextsR w (some ⟨g,o,none⟩) n ls→n≤c→c≤maxLen→n≤1048576→(∀b∈ls,BsOk b)→
 w.cell? ⟨pw,0,none⟩=some (.int .i64 W)→w.cell? ⟨pf,0,none⟩=some (.func (.func 227) #[] #[.pointer (some ⟨pw,0,none⟩),.pointer (some ⟨pf,0,none⟩)])→Tabs w→
 Zc 227 #[.slice (some ⟨g,o,none⟩) n c,.int .i64 (i:Int),.bool b,.pointer (some ⟨pw,0,none⟩),.pointer (some ⟨pf,0,none⟩)] w fun e w'=>∃v,e=.returned v∧OwnD w' w.heap.size v (subH (cutW W) ls i b)∧Zb w w':=by
 intro m;induction m with
 |zero=>
  intro ls i g o n c b w hm h1 hi0 hi ht;have:=ht.1;omega
 |succ m ih=>
  intro ls i g o n c b w hm h1 hi0 hi ht hnc hcm hn hok hpw hpf hT;have hlen:=ht.1;have AA:=zh1 ih;clear ih;obtain⟨A3,A0,A5,A7,A6,A2,HL,HM⟩:=zh8 ht hT hpw hpf hok hcm hlen hm;clear hok hcm hlen hm ht hpw hpf hT;by_cases hn1:i=n
  ·
   subst hn1;have hp:subH (cutW W) ls i b=if b then [] else [qfs (cutW W) ls]:=qg0 _ _ HL.symm
   cases b
   ·
    have R:=qpk W ls _ i c w A3.o hnc A2.o hn A6.o A0.o;obtain⟨HR,HP,AB⟩:=zh3 R hp ((qo7 (cutW W) (qfo W).2 ls).1);clear R hp;go_enter Tryz.func227,Tryz.ntmps227
    have cw:=A5.o;go_wp2_with fail
    refine zcb HR.o fun w1 b1=>?_
    obtain⟨O1,B1,hsz⟩:=zh3 (OwnD.made1 w1 _ AB.o) (b1.alloc b1.size (.cells (byv (qfs (cutW W) ls)).toArray 29)) b1.size;clear b1 cw;go_wp2_with (refine wpList_plain rfl fun K9 hK9=>qru (.tmp 17) rfl (qfs (cutW W) ls) AB.o rfl (hK9 _ _ ?_))
    go_ret
    exact⟨_,rfl,by rw[HP.o];exact⟨O1.o.1,qde O1.o.2 hsz.o⟩,B1.o⟩
   have HP:=zh1 hp;clear hp;go_enter Tryz.func227,Tryz.ntmps227
   go_wp2
   go_ret
   exact⟨_,rfl,by rw[HP.o];exact OwnD.nil _ _,tA5 _ _⟩
  have qn:¬(i:Int)=n:=zo;obtain⟨hk1,hk2,hk3⟩:=qfr (n:=n) zo;have Hhalf:=zh1 (qpf n w zo zo);obtain⟨k,hk⟩:=xeq (half n);rw[hk]at hk1 hk2 hk3 Hhalf;have lt1:(ls.take k).length=k:=by rw[tBd,HL.o];omega
  have lt2:(ls.drop k).length=n - k:=by rw[tBk,HL.o]
  have hcc:=A2.o;unfold maxLen at hcc;have q1:(0:Int)≤k:=zo;have q2:(k:Int)≤n:=zo;have q3:(k:Int)≤c:=zo;have q4:¬c=k:=zo;have R1:∀w1,Zb w w1→Zc 174 #[.int .i64 W,.slice (some ⟨g,o,none⟩) k c] w1 fun e w'=>e=.returned (.agg (byv (qfs (cutW W) (ls.take k))).toArray)∧Zb w1 w':=fun w1 b1=>
   qpk W (ls.take k) _ k c w1 ((A3.take zo).call b1) zo A2.o zo (fun b hb=>A6.o b (tB7 hb)) (A0.below b1 A0.size)
  have R2:∀w1,Zb w w1→Zc 174 #[.int .i64 W,.slice (some ⟨g,o+k,none⟩) (n - k) (c - k)] w1 fun e w'=>e=.returned (.agg (byv (qfs (cutW W) (ls.drop k))).toArray)∧Zb w1 w':=fun w1 b1=>
   qpk W (ls.drop k) _ (n - k) (c - k) w1 ((A3.drop hk2).call b1) zo (by have:=A2.o;omega) zo (fun b hb=>A6.o b (List.mem_of_mem_drop hb)) (A0.below b1 A0.size)
  by_cases hik:i≤k
  ·
   have hp:subH (cutW W) ls i b=subH (cutW W) (ls.take k) i b++[qfs (cutW W) (ls.drop k)]:=by
    have:=qg1 (cutW W) (l:=ls) (m:=i) b (by rw[HL.o];omega) (by rw[HL.o];omega) (by rw[HL.o,hk];exact hik);rwa[HL.o,hk]at this
   have C1:∀w1,Zb w w1→Zc 227 #[.slice (some ⟨g,o,none⟩) k c,.int .i64 (i:Int),.bool b,.pointer (some ⟨pw,0,none⟩),.pointer (some ⟨pf,0,none⟩)] w1 fun e w'=>∃v,e=.returned v∧OwnD w' w1.heap.size v (subH (cutW W) (ls.take k) i b)∧Zb w1 w':=fun w1 b1=>
    AA.o (ls.take k) i g o k c b w1 (by rw[lt1];have:=HM.o;have:=HL.o;omega) hk1 hi0 hik ((A3.take zo).call b1) zo A2.o zo (fun b hb=>A6.o b (tB7 hb)) (qai A5.o b1) (qai A7.o b1) (A0.below b1 A0.size)
   have hpl:=(qrz (cutW W) (qfo W).2 _ (ls.take k) i b (tA4 _)).1;rw[lt1]at hpl;obtain⟨A8,A9,AC,HP⟩:=zh4 hpl C1 R2 hp;have qi:(i:Int)≤k:=zo;clear C1 R1 R2 hp lt1 lt2 hk hcc hpl;go_enter Tryz.func227,Tryz.ntmps227
   go_wp2_with fail
   refine Hhalf.o.mono ?_;rintro e w' ⟨rfl,rfl⟩;go_upto_region 7 with(fail)
   obtain⟨S,HS⟩:=zS fun w'=>Zb w w'
   refine zrs S 15 (zq 0 6 (zq 7 4 [(6,true),(11,true),(12,true),(13,true),(14,false)])) ((HS.o _).mpr (tA5 _ _).drew) ?_;obtain⟨F0,F1⟩:=zh2 (zF HS A5.o) (zF HS A7.o);iterate 10 (refine zr2 ?_)
   obtain⟨Wd,hWd,bd⟩:=zdr w;rw[←hWd];clear hWd;refine zw ?_;go_simp;refine(A9.o Wd bd).mono ?_;rintro e w1 ⟨v1,rfl,o1,b1⟩;have b1':=bd.trans (b1.mono bd.size);obtain⟨A1,n1,c1,rfl,-,-,-,-⟩:=o1.sl;refine⟨(HS.o _).mpr b1',zput ?_⟩;refine zw ?_;go_simp;refine zcb (AC.o w1 b1') fun w2 b2=>?_
   have b2':=b1'.trans (b2.mono b1'.size);have o2:=o1.kept b2;refine⟨(HS.o _).mpr b2',zput ?_⟩;refine zw ?_;refine qru (.tmp 36) rfl (qfs (cutW W) (ls.drop k)) (qo7 _ (qfo W).2 _).1 rfl ?_;have o3:=o2.alloc (.cells (byv (qfs (cutW W) (ls.drop k))).toArray 29);have b3':Zb w (w2.alloc (.cells (byv (qfs (cutW W) (ls.drop k))).toArray 29)):=b2'.alloc b2'.size _;refine⟨fun _=>(HS.o _).mpr b3',zput ?_⟩;refine zw ?_;refine qpz (.tmp 31) (.tmp 37) rfl Wd.heap.size _ _ rfl o3 _ 1 1 [qfs (cutW W) (ls.drop k)] rfl rfl (fun d hd=>by rw[List.mem_singleton.1 hd];exact(qo7 _ (qfo W).2 _).1) (qrw w2 _ (qo7 _ (qfo W).2 _).1) (by have:=A8.o;omega) (by rw[qar];have:=b1.size;have:=b2.size;omega) ?_;intro v4 w4 o4 b4 _;have b4':Zb w w4:=b3'.trans (b4.mono bd.size);obtain⟨A4,n4,c4,rfl,-,-,-,-⟩:=o4.sl;obtain⟨O4,B4⟩:=zh2 (show OwnD w4 w.heap.size _ _ from⟨o4.1,qde o4.2 bd.size⟩) b4';refine⟨fun _=>(HS.o _).mpr b4',zput ?_⟩;clear o1 o2 o3 o4 b1 b1' b2 b2' b3' b4 b4' bd;iterate 1 (refine zrb ?_)
   refine qbf ?_;go_wp2
   go_ret
   exact⟨_,rfl,by rw[HP.o];exact O4.o,B4.o⟩
  have hp:subH (cutW W) ls i b=subH (cutW W) (ls.drop k) (i - k) false++[qfs (cutW W) (ls.take k)]:=by
   have:=qg2 (cutW W) (l:=ls) (m:=i) b (by rw[HL.o];omega) (by rw[HL.o];omega) (by rw[HL.o,hk];exact hik);rwa[HL.o,hk]at this
  have C1:∀w1,Zb w w1→Zc 227 #[.slice (some ⟨g,o+k,none⟩) (n - k) (c - k),.int .i64 ((i - k:Nat):Int),.bool false,.pointer (some ⟨pw,0,none⟩),.pointer (some ⟨pf,0,none⟩)] w1 fun e w'=>∃v,e=.returned v∧OwnD w' w1.heap.size v (subH (cutW W) (ls.drop k) (i - k) false)∧Zb w1 w':=fun w1 b1=>
   AA.o (ls.drop k) (i - k) g (o+k) (n - k) (c - k) false w1 (by rw[lt2];have:=HM.o;have:=HL.o;omega) zo zo zo ((A3.drop hk2).call b1) zo (by have:=A2.o;omega) zo (fun b hb=>A6.o b (List.mem_of_mem_drop hb)) (qai A5.o b1) (qai A7.o b1) (A0.below b1 A0.size)
  have hpl:=(qrz (cutW W) (qfo W).2 _ (ls.drop k) (i - k) false (tA4 _)).1;rw[lt2]at hpl;obtain⟨A8,A9,AD,HP⟩:=zh4 hpl C1 R1 hp;have qi:¬(i:Int)≤k:=zo;have qs:wrap64 ((i:Int) - k)=((i - k:Nat):Int):=by rw[IntWalk.wrap64_in _ zo];omega
  have qt:IntKind.i64.wrap ((i:Int) - k)=((i - k:Nat):Int):=by rw[tBb _ zo];omega
  clear C1 R1 R2 hp lt1 lt2 hk hcc hpl;go_enter Tryz.func227,Tryz.ntmps227
  go_wp2_with fail
  refine Hhalf.o.mono ?_;rintro e w' ⟨rfl,rfl⟩;go_upto_region 8 with(fail)
  obtain⟨S,HS⟩:=zS fun w'=>Zb w w'
  refine zrs S 16 (zq 0 7 (zq 8 4 [(7,true),(12,true),(13,true),(14,true),(15,false)])) ((HS.o _).mpr (tA5 _ _).drew) ?_;obtain⟨F0,F1⟩:=zh2 (zF HS A5.o) (zF HS A7.o);iterate 11 (refine zr2 ?_)
  obtain⟨Wd,hWd,bd⟩:=zdr w;rw[←hWd];clear hWd;refine zw ?_;go_simp;refine(A9.o Wd bd).mono ?_;rintro e w1 ⟨v1,rfl,o1,b1⟩;have b1':=bd.trans (b1.mono bd.size);obtain⟨A1,n1,c1,rfl,-,-,-,-⟩:=o1.sl;refine⟨(HS.o _).mpr b1',zput ?_⟩;refine zw ?_;go_simp;refine zcb (AD.o w1 b1') fun w2 b2=>?_
  have b2':=b1'.trans (b2.mono b1'.size);have o2:=o1.kept b2;refine⟨(HS.o _).mpr b2',zput ?_⟩;refine zw ?_;refine qru (.tmp 51) rfl (qfs (cutW W) (ls.take k)) (qo7 _ (qfo W).2 _).1 rfl ?_;have o3:=o2.alloc (.cells (byv (qfs (cutW W) (ls.take k))).toArray 29);have b3':Zb w (w2.alloc (.cells (byv (qfs (cutW W) (ls.take k))).toArray 29)):=b2'.alloc b2'.size _;refine⟨fun _=>(HS.o _).mpr b3',zput ?_⟩;refine zw ?_;refine qpz (.tmp 46) (.tmp 52) rfl Wd.heap.size _ _ rfl o3 _ 1 1 [qfs (cutW W) (ls.take k)] rfl rfl (fun d hd=>by rw[List.mem_singleton.1 hd];exact(qo7 _ (qfo W).2 _).1) (qrw w2 _ (qo7 _ (qfo W).2 _).1) (by have:=A8.o;omega) (by rw[qar];have:=b1.size;have:=b2.size;omega) ?_;intro v4 w4 o4 b4 _;have b4':Zb w w4:=b3'.trans (b4.mono bd.size);obtain⟨A4,n4,c4,rfl,-,-,-,-⟩:=o4.sl;obtain⟨O4,B4⟩:=zh2 (show OwnD w4 w.heap.size _ _ from⟨o4.1,qde o4.2 bd.size⟩) b4';refine⟨fun _=>(HS.o _).mpr b4',zput ?_⟩;clear o1 o2 o3 o4 b1 b1' b2 b2' b3' b4 b4' bd;iterate 1 (refine zrb ?_)
  refine qbf ?_;go_wp2
  go_ret
  exact⟨_,rfl,by rw[HP.o];exact O4.o,B4.o⟩
theorem qs2(W:Int)(ls:List (List Nat))(A:Option Addr)(i n c:Nat)(w:World)(hi:i<n)(ht:TextsR w A n ls)(hnc:n≤c)(hcm:c≤maxLen)(hn:n≤1048576)(hok:∀b∈ls,BsOk b)(hT:Tabs w):
 Zc 189 #[.int .i64 W,.slice A n c,.int .u64 (i:Int)] w fun e w'=>∃v,e=.returned (.tuple #[v,.int .i64 0])∧OwnD w' w.heap.size v (qfw (cutW W) ls i)∧Below w.heap.size w w':=by
 obtain⟨W0,hW0⟩:=eqx (w.alloc (.cells #[.int .i64 W] 3));have c0:=zNa hW0;have b0:=zMa hW0;have s0:W0.heap.size=w.heap.size+1:=by rw[hW0];simp
 have l0:=ht.1;obtain⟨A0,A1⟩:=zh2 (ht.call b0) (hT.below b0 hT.size);obtain⟨g,o,bs,A',n',c',rfl,-⟩:=A0.at_ (k:=0) zo;obtain⟨W1,hW1⟩:=eqx ((W0.alloc (.cells #[.nilFunc] 341)).setCell ⟨w.heap.size+1,0,none⟩ (.func (.func 226) #[] #[.pointer (some ⟨w.heap.size+1,0,none⟩),.pointer (some ⟨w.heap.size,0,none⟩)]));have hmf:=zmf;have f0:Blk (W0.alloc (.cells #[.nilFunc] 341)) (w.heap.size+1) 341 #[.nilFunc]:=by
  have h:=Blk.new W0 341 #[.nilFunc];rw[s0]at h;exact h
 have hst:(store ⟨w.heap.size+1,0,none⟩ (.func (.func 226) #[] #[.pointer (some ⟨w.heap.size+1,0,none⟩),.pointer (some ⟨w.heap.size,0,none⟩)])).run Tryz.prog (W0.alloc (.cells #[.nilFunc] 341))=.ok () W1:=by
  rw[run_store Tryz.prog _ _ _ _ (by rfl),f0.cell 0,f0.frozen 0,hW1];rfl
 have cf:Blk W1 (w.heap.size+1) 341 #[.func (.func 226) #[] #[.pointer (some ⟨w.heap.size+1,0,none⟩),.pointer (some ⟨w.heap.size,0,none⟩)]]:=by
  rw[hW1];exact f0.set_ 0 _
 have b1:Below W0.heap.size W0 W1:=by
  rw[hW1];exact(qah (tA5 _ _) _).setCell (by rw[s0];exact tA4 _) _
 rw[hW0]at hst;have C1:=c0.below b1 c0.lt;have R:=qs0 W w.heap.size (w.heap.size+1) n ls i g o n c W1 (by rw[l0];exact tA4 _) zo hi (A0.call b1) hnc hcm hn hok (by rw[C1.cell];rfl) (by rw[cf.cell];rfl) (A1.below b1 A1.size);have HR:=zh1 R;have cc:=cf.cell 0;rw[show (#[Value.func (.func 226) #[] #[.pointer (some ⟨w.heap.size+1,0,none⟩),.pointer (some ⟨w.heap.size,0,none⟩)]]:Array Value)[0]? =some (.func (.func 226) #[] #[.pointer (some ⟨w.heap.size+1,0,none⟩),.pointer (some ⟨w.heap.size,0,none⟩)]) from rfl]at cc;have B1:=zh1 (b0.trans (b1.mono b0.size));have q1:IntKind.u64.wrap (n:Int)=(n:Int):=tBa _ zo;have q2:IntKind.i64.wrap (i:Int)=(i:Int):=tBb _ zo;have q5:wrap64 (i:Int)=(i:Int):=IntWalk.wrap64_in _ zo;have q3:¬(n:Int)≤i:=zo;clear hW0 c0 b0 ht hT hok l0 s0 f0 cf b1 C1 R hW1 hnc hcm hn;go_enter Tryz.func189,Tryz.ntmps189
 go_wp2_with fail
 refine HR.o.mono ?_;rintro e w4 ⟨v,rfl,o4,b4⟩;obtain⟨A4,n4,c4,rfl,-,-,-,-⟩:=o4.sl;obtain⟨O4,B4⟩:=zh2 (show OwnD w4 w.heap.size _ _ from⟨o4.1,qde o4.2 B1.size⟩) (B1.trans (b4.mono B1.size));clear b4 cc hst o4;go_wp2
 go_ret2
 exact⟨_,rfl,O4.o,B4.o⟩
theorem qs3(W:Int)(ls:List (List Nat))(A:Option Addr)(i n c:Nat)(w:World)(h0:1≤i)(hi:i≤n)(ht:TextsR w A n ls)(hnc:n≤c)(hcm:c≤maxLen)(hn:n≤1048576)(hok:∀b∈ls,BsOk b)(hT:Tabs w):
 Zc 190 #[.int .i64 W,.slice A n c,.int .u64 (i:Int)] w fun e w'=>∃v,e=.returned (.tuple #[v,.int .i64 0])∧OwnD w' w.heap.size v (subH (cutW W) ls i true)∧Below w.heap.size w w':=by
 obtain⟨W0,hW0⟩:=eqx (w.alloc (.cells #[.int .i64 W] 3));have c0:=zNa hW0;have b0:=zMa hW0;have s0:W0.heap.size=w.heap.size+1:=by rw[hW0];simp
 have l0:=ht.1;obtain⟨A0,A1⟩:=zh2 (ht.call b0) (hT.below b0 hT.size);obtain⟨g,o,bs,A',n',c',rfl,-⟩:=A0.at_ (k:=0) zo;obtain⟨W1,hW1⟩:=eqx ((W0.alloc (.cells #[.nilFunc] 342)).setCell ⟨w.heap.size+1,0,none⟩ (.func (.func 227) #[] #[.pointer (some ⟨w.heap.size,0,none⟩),.pointer (some ⟨w.heap.size+1,0,none⟩)]));have hmf:=zmf;have f0:Blk (W0.alloc (.cells #[.nilFunc] 342)) (w.heap.size+1) 342 #[.nilFunc]:=by
  have h:=Blk.new W0 342 #[.nilFunc];rw[s0]at h;exact h
 have hst:(store ⟨w.heap.size+1,0,none⟩ (.func (.func 227) #[] #[.pointer (some ⟨w.heap.size,0,none⟩),.pointer (some ⟨w.heap.size+1,0,none⟩)])).run Tryz.prog (W0.alloc (.cells #[.nilFunc] 342))=.ok () W1:=by
  rw[run_store Tryz.prog _ _ _ _ (by rfl),f0.cell 0,f0.frozen 0,hW1];rfl
 have cf:Blk W1 (w.heap.size+1) 342 #[.func (.func 227) #[] #[.pointer (some ⟨w.heap.size,0,none⟩),.pointer (some ⟨w.heap.size+1,0,none⟩)]]:=by
  rw[hW1];exact f0.set_ 0 _
 have b1:Below W0.heap.size W0 W1:=by
  rw[hW1];exact(qah (tA5 _ _) _).setCell (by rw[s0];exact tA4 _) _
 rw[hW0]at hst;have C1:=c0.below b1 c0.lt;have R:=qs1 W w.heap.size (w.heap.size+1) n ls i g o n c true W1 (by rw[l0];exact tA4 _) zo h0 hi (A0.call b1) hnc hcm hn hok (by rw[C1.cell];rfl) (by rw[cf.cell];rfl) (A1.below b1 A1.size);have HR:=zh1 R;have cc:=cf.cell 0;rw[show (#[Value.func (.func 227) #[] #[.pointer (some ⟨w.heap.size,0,none⟩),.pointer (some ⟨w.heap.size+1,0,none⟩)]]:Array Value)[0]? =some (.func (.func 227) #[] #[.pointer (some ⟨w.heap.size,0,none⟩),.pointer (some ⟨w.heap.size+1,0,none⟩)]) from rfl]at cc;have B1:=zh1 (b0.trans (b1.mono b0.size));have q1:IntKind.u64.wrap (n:Int)=(n:Int):=tBa _ zo;have q2:IntKind.i64.wrap (i:Int)=(i:Int):=tBb _ zo;have q5:wrap64 (i:Int)=(i:Int):=IntWalk.wrap64_in _ zo;have q3:¬(n:Int)<i∧¬(i:Int)=0:=zo;clear hW0 c0 b0 ht hT hok l0 s0 f0 cf b1 C1 R hW1 hnc hcm hn;go_enter Tryz.func190,Tryz.ntmps190
 go_wp2_with fail
 refine HR.o.mono ?_;rintro e w4 ⟨v,rfl,o4,b4⟩;obtain⟨A4,n4,c4,rfl,-,-,-,-⟩:=o4.sl;obtain⟨O4,B4⟩:=zh2 (show OwnD w4 w.heap.size _ _ from⟨o4.1,qde o4.2 B1.size⟩) (B1.trans (b4.mono B1.size));clear b4 cc hst o4;go_wp2
 go_ret2
 exact⟨_,rfl,O4.o,B4.o⟩
theorem qs4{args:Array Value}{fn:FuncId}{K:Ending→World→Prop}{a:Rsp}{f:Rsp}(hdo:Hid (f=a))(hk:Hid (Kind k))(hG:col' G=0)
 (hc:Zc fn args W1 fun e w'=>e=.returned (.agg (qqd a).toArray)∧Zb W1 w')(Z:Blk W1 G 57 Tryz.zeroCells57)(D:Did w col W1 col' k g c css s s')(hb:w.heap.size≤G:=by omega)
 (ha:a.hd=Hd.zero∧a.tok=qgt∧a.bytes=[]∧a.hashes=[]:=by exact⟨rfl,rfl,rfl,rfl⟩)
 (h:∀X w9,Hid (Blk w9 G 57 Tryz.zeroCells57)→RspK X→Hid (RspV (w9.setRow G X.toArray) col' w.heap.size (.agg X.toArray) f∧Did w col (w9.setRow G X.toArray) col' k g c css s s')→K (.returned (.agg X.toArray)) w9:=by
  (intro X w9 Z9 pk RD
   go_wp2_with (refine qqn _ _ _ X Z9.o pk ?_)
   exact qqo (Z9.setRow X.toArray) pk ⟨_,_,rfl,RD.o⟩)):Zc fn args W1 K:=
 qra (f:=(s',f)) (hdo:=show Hid ((s',f)=(s',a)) from zh1 (by rw[hdo.o])) hk hG hc Z D hb ha h
theorem qs5(n:Int)(A:Option Addr)(m c:Nat):Tryz.prog.built 57 [(1,.int .u64 n),(2,.slice A m c)]=some (Value.int .i64 0::.int .u64 n::.slice A m c::.slice none 0 0::(hdv Hd.zero++tokv qgt.1 (.slice none 0 0) qgt.2.2)).toArray:=by kernel_rfl
theorem qs6(n:Int)(A:Option Addr)(m c:Nat):Tryz.prog.built 57 [(1,.int .u64 n),(3,.slice A m c)]=some (Value.int .i64 0::.int .u64 n::.slice none 0 0::.slice A m c::(hdv Hd.zero++tokv qgt.1 (.slice none 0 0) qgt.2.2)).toArray:=by kernel_rfl
theorem qs7(c:Cfg)(s:Sta)(L:Loc)(col:Col)(k g:Nat)(css:List (List Value))(n:Nat)(t:Tre)(R:Req)(Ac:Option Addr)(cc:Nat)(Al:Option Addr)(cl:Nat)(w:World)(hk:Kind k)(hs:s.Ok)(h:Mdl w col k g c s L css)
 (hr:Asked w col R Ac cc Al cl)(ht:s.tres[n]? =some t)(hT:Tabs w)(hop:R.op=3∨R.op=4∨R.op=5):
 Zc 136 #[.pointer (some ⟨g,0,none⟩),.pointer (some ⟨L.rg,n*75,none⟩),.agg (reqv R (.slice Ac R.cavs.length cc) (.slice Al R.leaf.length cl)).toArray] w fun e w'=>∃v col',e=.returned v∧RspV w' col' w.heap.size v (qmr c s R t)∧Did w col w' col' k g c css s s:=by
 obtain⟨hn16,Ad,cd,Al',cl',Aq,cq,hcs,hcell,hrd,hrl,hrq⟩:=h.st.tree hs ht;have hto:=hs.tre ht;obtain⟨A1,k1,e1,a1,a2,a3⟩:=hrl.reads;injection e1 with e11 e12 e13;subst e11 e13;obtain⟨Q,hQ,rlen,rest,W0,hW0,q0,z0,b0⟩:=qr9 R Ac cc Al cl w hr.good.tag;rw[hQ];have hG0:=h.fin.none (b:=w.heap.size+1) zo;have D0:=Did.same (css:=css) h b0;obtain⟨H,AO,Q0,Z0,B0,A5,A6,HK⟩:=zh8 h hW0 q0 z0 b0 hG0 D0 hk;obtain⟨HS,HR,RL,AB,HQ⟩:=zh5 hs hr rlen rest hQ;clear h hW0 q0 z0 b0 hG0 D0 hk hs hr rlen rest hQ;obtain⟨AJ,AQ,AK,A8,AG,HT⟩:=zh6 hto a3 (show t.leaves.length≤cl'∧cl'≤maxLen from⟨a1,a2⟩) (a3.call B0.o) (hT.below B0.o hT.size) ht;obtain⟨nl,hnl⟩:=xeq t.leaves.length;have c5:=qai (hcell 5 (.slice Al' t.leaves.length cl') rfl) B0.o;rw[hnl]at c5 A8 AK;have nb:nl≤1024:=by have:=hto.leaves;omega
 have cb:nl≤cl':=AK.o.1;have cm:cl'≤maxLen:=AK.o.2;obtain⟨lo,hlo⟩:=xeq R.lo;obtain⟨hi,hhi⟩:=xeq R.hi;have lob:lo<18446744073709551616:=by rw[←hlo];exact HR.good.lo
 have hib:hi<18446744073709551616:=by rw[←hhi];exact HR.good.hi
 obtain⟨op,hop'⟩:=xeq R.op;rw[hop']at hop;have k0:=(Q0.cell 0).trans (show Q.toArray[0]? =some (.int .i64 op) by rw[tA3,←hop',←HQ.o];rfl);have k41:=(Q0.cell 41).trans (show Q.toArray[41]? =some (.int .u64 (lo:Int)) by rw[tA3,←hlo];exact AB.o 6);have k42:=(Q0.cell 42).trans (show Q.toArray[42]? =some (.int .u64 (hi:Int)) by rw[tA3,←hhi];exact AB.o 7);obtain⟨K0,AH,AC,C5,AD,A9,AI,AA⟩:=zh8 k0 k41 k42 c5 hnl hlo hhi hop';have C0:=zh1 (qai H.c0 B0.o);have u1:IntKind.u64.wrap (nl:Int)=(nl:Int):=tBa _ zo;clear hrd hrl hrq a1 a2 a3 hcs hcell hto hT ht hnl hlo hhi hop' k0 k41 k42 c5;have c5:=C5.o;rw[AO.o]at c5;go_enter Tryz.func136,Tryz.ntmps136
 go_upto_region 2 with(fail)
 rw[←AO.o];clear c5 u1;have k0:=K0.o;have k41:=AH.o;have k42:=AC.o;obtain⟨AR,AS,AT⟩:=zh3 nb cb cm;rcases hop with rfl|rfl|rfl
 ·
  by_cases hge:nl≤lo
  ·
   have p1:(nl:Int)≤lo:=zo;have hdo:qmr c s R t=rWhy 25:=by
    unfold qmr;rw[AA.o,if_neg zdc,if_pos rfl,A9.o,List.getElem?_eq_none (by rw[AD.o];exact hge)]
   have A0:=zh1 hdo;clear hdo hge;go_wp2_with fail
   exact qs4 A0 HK (A5.o) (qqi 25 W0) (Z0.o) (A6.o)
  have p1:¬(nl:Int)≤lo:=zo;obtain⟨g0,o0,bs,A2,n2,c2,rfl,g0lt,hbs,hcb,nc2,cm2,rd2⟩:=A8.at_ (k:=lo) zo;have en:bs.length=n2:=by have:=rd2.1;simp[byv]at this;omega
  have hdo:qmr c s R t={qiu with n:=lo,bytes:=bs}:=by
   unfold qmr;rw[AA.o,if_neg zdc,if_pos rfl,A9.o,hbs]
  obtain⟨A0,EN,AL,AP,AU⟩:=zh5 hdo en hcb rd2 nc2;have q0:(0:Int)≤lo:=zo;have q1:(lo:Int)<nl:=zo;have q2:lo<nl:=zo;clear hdo en hcb rd2 hge nc2;go_upto_region 5 with(fail)
  obtain⟨S,HS9⟩:=zS fun w'=>Zb W0 w'
  refine zrs S 12 (zq 0 10 [(10,true),(11,false),(12,true)]) ((HS9.o _).mpr ((tA5 _ _).drew)) ?_;obtain⟨F0,F1,F2⟩:=zh3 (zF HS9 AH.o) (zF HS9 C5.o) (zF HS9 AL.o);clear k0 k41 k42;iterate 10 (refine zr3 ?_)
  obtain⟨Wd,hWd,BD⟩:=zdr W0;rw[←hWd];clear hWd;have CL:=zh1 (qrh A2 n2 c2 (byv bs) Wd (AP.call BD.o) (by have:=EN.o;have:=(AJ.leafb bs (tB2 hbs)).1;omega) (qau _));refine zw ?_;go_simp;refine CL.o.mono ?_;rintro e w1 ⟨v1,rfl,o1,b1⟩;have o1':OwnB w1 Wd.heap.size v1 bs:=by unfold OwnB;rw[EN.o];exact o1
  obtain⟨A3,n3,c3,rfl,-,-,-⟩:=o1'.sl;have B1:=zh1 (BD.trans (b1.mono BD.size));obtain⟨Z9,AE,O1,S9⟩:=zh4 (Z0.below B1.o Z0.lt) (A6.call B1.o) o1' (show w.heap.size+1<Wd.heap.size by have:=BD.size;have:=Z0.lt;omega);clear o1 o1' b1;refine⟨(HS9.o _).mpr B1.o,zput ?_⟩;obtain⟨X,hX⟩:=eqx (rspv (({qiu with n:=lo,bytes:=bs}:Rsp)) (.slice A3 n3 c3) (.slice none 0 0) (.slice none 0 0));have lX:X.length=106:=by rw[hX];exact qq0 _ _ _ _ (qnm Hd.zero_Ok) (by simp[qiu,qgt])
  have oX:∀u∈X,u.oneCell'=true:=by rw[hX];exact qq1 _ _ _ _ rfl rfl rfl
  have bT:Tryz.prog.built 57 [(1,.int .u64 (lo:Int)),(2,.slice A3 n3 c3)]=some X.toArray:=by rw[hX];exact qs5 (lo:Int) A3 n3 c3
  obtain⟨LX,OX,HX,BT,A7,A4⟩:=zh6 lX oX hX bT (zI 57 lX) qqg;clear lX oX hX bT;refine qbg rfl rfl ⟨.agg X.toArray,fun w1 hS=>qgq 57 _ rfl _ _ BT.o (by simp[Act.eval]),?_⟩;refine zP ?_;refine zw ?_;refine wp_store_row 57 (.tmp 6) (.tmp 37) rfl (w.heap.size+1) X.toArray rfl rfl 57 _ Z9.o (by simpa using A7.o) (by simp[LX.o,A4.o]) (by simpa using OX.o) ?_;refine⟨fun h=>absurd h zdc,zput ?_⟩;refine qbf ?_;clear HS9 F0 F1 F2;go_wp2_with fail
  have z9:=Z9.setRow X.toArray;have AF:=qap z9 0 X zjq;refine zrt AF zu57 A7.o ?_;have dd9:=AE.row0 HK.o X.toArray A5.o zo;first
   |exact⟨_,rfl,col,(by rw[A0.o,HX.o];exact⟨_,_,_,rfl,(O1.grown (qam _ _ _) S9.o).mono (by have:=S9.o;omega),OwnD.nil _ _,OwnC.nil _ _,(fun g e=>by by_cases h0:col g=0;exact h0;exact absurd ((World.ownsRow.lt O1.o g e).1) (by have:=H.fin g h0;have:=S9.o;omega)),(fun g e=>by cases e),(fun g e=>by cases e)⟩),dd9⟩
   |exact⟨_,col,rfl,(by rw[A0.o,HX.o];exact⟨_,_,_,rfl,(O1.grown (qam _ _ _) S9.o).mono (by have:=S9.o;omega),OwnD.nil _ _,OwnC.nil _ _,(fun g e=>by by_cases h0:col g=0;exact h0;exact absurd ((World.ownsRow.lt O1.o g e).1) (by have:=H.fin g h0;have:=S9.o;omega)),(fun g e=>by cases e),(fun g e=>by cases e)⟩),dd9⟩
 ·
  by_cases hbad:hi≤lo∨nl<hi
  ·
   have hdo:qmr c s R t=rWhy 25:=by
    unfold qmr;rw[AA.o,if_neg zdc,if_neg zdc,if_pos rfl,A9.o,AI.o,AD.o,if_pos hbad]
   have A0:=zh1 hdo;clear hdo;by_cases h1:hi≤lo
   · have p1:(hi:Int)≤lo:=zo
     clear hbad h1;go_wp2_with fail
     exact qs4 A0 HK (A5.o) (qqi 25 W0) (Z0.o) (A6.o)
   have p1:¬(hi:Int)≤lo:=zo;have p2:(nl:Int)<hi:=zo;clear hbad h1;go_wp2_with fail
   exact qs4 A0 HK (A5.o) (qqi 25 W0) (Z0.o) (A6.o)
  have p1:¬(hi:Int)≤lo:=zo;have p2:¬(nl:Int)<hi:=zo;have plo:lo<hi:=zo;have pn:hi≤nl:=zo;have hdo:qmr c s R t={qiu with n:=hi,hashes:=qfw (cutW c.width) (t.leaves.take hi) lo}:=by
   unfold qmr;rw[AA.o,if_neg zdc,if_neg zdc,if_pos rfl,A9.o,AI.o,AD.o,if_neg hbad]
  have A0:=zh1 hdo;clear hdo hbad;obtain⟨g0,o0,bs,A2,n2,c2,rfl,-,-,-,-,-,-⟩:=A8.at_ (k:=0) zo;have AM:=zh1 (A8.take (k:=hi) zo);have q1:(0:Int)≤hi:=zo;have q2:(hi:Int)≤nl:=zo;have q3:(hi:Int)≤cl':=zo;have q4:hi≤cl':=zo;have hok:∀b∈t.leaves.take hi,BsOk b:=fun b hb=>(AJ.leafb b (tB7 hb)).bs
  obtain⟨AN,HW⟩:=zh2 hok (show c.width=c.width from rfl);clear hok;go_upto_region 8 with(fail)
  obtain⟨S,HS9⟩:=zS fun w'=>Zb W0 w'
  refine zrs S 20 (zq 0 14 ((14,true)::zq 15 5 [])) ((HS9.o _).mpr ((tA5 _ _).drew)) ?_;obtain⟨F0,F1,F2,F3⟩:=zh4 (zF HS9 AH.o) (zF HS9 C5.o) (zF HS9 AC.o) (zF HS9 C0.o);clear k0 k41 k42;iterate 14 (refine zr4 ?_)
  obtain⟨Wd,hWd,BD⟩:=zdr W0;rw[←hWd];clear hWd;have CL:=zh1 (qs2 c.width (t.leaves.take hi) (some ⟨g0,o0,none⟩) lo hi cl' Wd plo (AM.call BD.o) q4 zo zo AN.o (AG.below BD.o AG.size));refine zw ?_;go_simp;refine CL.o.mono ?_;rintro e w1 ⟨v1,rfl,o1,b1⟩;obtain⟨A3,n3,c3,rfl,-,-,-,-⟩:=o1.sl;have B1:=zh1 (BD.trans (b1.mono BD.size));obtain⟨Z9,AE,O1,S9⟩:=zh4 (Z0.below B1.o Z0.lt) (A6.call B1.o) o1 (show w.heap.size+1<Wd.heap.size by have:=BD.size;have:=Z0.lt;omega);clear o1 b1;refine⟨(HS9.o _).mpr B1.o,zput ?_⟩;iterate 5 (refine zrb ?_)
  refine qbf ?_;clear HS9 F0 F1 F2 F3;have k42:=qai AC.o B1.o;obtain⟨X,hX⟩:=eqx (rspv (({qiu with n:=hi,hashes:=qfw (cutW c.width) (t.leaves.take hi) lo}:Rsp)) (.slice none 0 0) (.slice A3 n3 c3) (.slice none 0 0));have lX:X.length=106:=by rw[hX];exact qq0 _ _ _ _ (qnm Hd.zero_Ok) (by simp[qiu,qgt])
  have oX:∀u∈X,u.oneCell'=true:=by rw[hX];exact qq1 _ _ _ _ rfl rfl rfl
  have bT:Tryz.prog.built 57 [(1,.int .u64 (hi:Int)),(3,.slice A3 n3 c3)]=some X.toArray:=by rw[hX];exact qs6 (hi:Int) A3 n3 c3
  obtain⟨LX,OX,HX,BT,A7,A4⟩:=zh6 lX oX hX bT (zI 57 lX) qqg;clear lX oX hX bT;go_wp2_with (first
   |(refine qbj rfl ⟨.agg X.toArray,qgq 57 _ rfl _ _ BT.o (by simp[Act.eval]),?_⟩)
   |(refine zst Z9.o A7.o (by simp[LX.o,A4.o]) OX.o ?_))
  have z9:=Z9.setRow X.toArray;have AF:=qap z9 0 X zjq;refine zrt AF zu57 A7.o ?_;have dd9:=AE.row0 HK.o X.toArray A5.o zo;first
   |exact⟨_,rfl,col,(by rw[A0.o,HX.o];exact⟨_,_,_,rfl,OwnB.nil _ _,(fun h=>⟨h.1,qde h.2 (by have:=S9.o;omega)⟩:OwnD _ Wd.heap.size _ _→OwnD _ _ _ _) (O1.grown (qam _ _ _) Z9.o zdc),OwnC.nil _ _,(fun g e=>by cases e),(fun g e=>by by_cases h0:col g=0;exact h0;exact absurd ((World.ownsRow.lt O1.o.2 g e).1) (by have:=H.fin g h0;have:=S9.o;omega)),(fun g e=>by cases e)⟩),dd9⟩
   |exact⟨_,col,rfl,(by rw[A0.o,HX.o];exact⟨_,_,_,rfl,OwnB.nil _ _,(fun h=>⟨h.1,qde h.2 (by have:=S9.o;omega)⟩:OwnD _ Wd.heap.size _ _→OwnD _ _ _ _) (O1.grown (qam _ _ _) Z9.o zdc),OwnC.nil _ _,(fun g e=>by cases e),(fun g e=>by by_cases h0:col g=0;exact h0;exact absurd ((World.ownsRow.lt O1.o.2 g e).1) (by have:=H.fin g h0;have:=S9.o;omega)),(fun g e=>by cases e)⟩),dd9⟩
 by_cases hbad:lo=0∨hi<lo∨nl<hi
 ·
  have hdo:qmr c s R t=rWhy 25:=by
   unfold qmr;rw[AA.o,if_neg zdc,if_neg zdc,if_neg zdc,A9.o,AI.o,AD.o,if_pos hbad]
  have A0:=zh1 hdo;clear hdo;by_cases h0:lo=0
  · subst h0
    clear hbad;go_wp2_with fail
    exact qs4 A0 HK (A5.o) (qqi 25 W0) (Z0.o) (A6.o)
  have p0:((lo:Int)==0)=false:=by simp;omega
  by_cases h1:hi<lo
  · have p1:(hi:Int)<lo:=zo
    clear hbad h1;go_wp2_with fail
    exact qs4 A0 HK (A5.o) (qqi 25 W0) (Z0.o) (A6.o)
  have p1:¬(hi:Int)<lo:=zo;have p2:(nl:Int)<hi:=zo;clear hbad h1;go_wp2_with fail
  exact qs4 A0 HK (A5.o) (qqi 25 W0) (Z0.o) (A6.o)
 have p0:((lo:Int)==0)=false:=by simp;omega
 have p1:¬(hi:Int)<lo:=zo;have p2:¬(nl:Int)<hi:=zo;have plo:1≤lo:=zo;have plh:lo≤hi:=zo;have pn:hi≤nl:=zo;have hdo:qmr c s R t={qiu with n:=hi,hashes:=subH (cutW c.width) (t.leaves.take hi) lo true}:=by
  unfold qmr;rw[AA.o,if_neg zdc,if_neg zdc,if_neg zdc,A9.o,AI.o,AD.o,if_neg hbad]
 have A0:=zh1 hdo;clear hdo hbad;obtain⟨g0,o0,bs,A2,n2,c2,rfl,-,-,-,-,-,-⟩:=A8.at_ (k:=0) zo;have AM:=zh1 (A8.take (k:=hi) zo);have q1:(0:Int)≤hi:=zo;have q2:(hi:Int)≤nl:=zo;have q3:(hi:Int)≤cl':=zo;have q4:hi≤cl':=zo;have hok:∀b∈t.leaves.take hi,BsOk b:=fun b hb=>(AJ.leafb b (tB7 hb)).bs
 obtain⟨AN,HW⟩:=zh2 hok (show c.width=c.width from rfl);clear hok;go_upto_region 12 with(fail)
 obtain⟨S,HS9⟩:=zS fun w'=>Zb W0 w'
 refine zrs S 20 (zq 0 14 ((14,true)::zq 15 5 [])) ((HS9.o _).mpr ((tA5 _ _).drew)) ?_;obtain⟨F0,F1,F2,F3⟩:=zh4 (zF HS9 AH.o) (zF HS9 C5.o) (zF HS9 AC.o) (zF HS9 C0.o);clear k0 k41 k42;iterate 14 (refine zr4 ?_)
 obtain⟨Wd,hWd,BD⟩:=zdr W0;rw[←hWd];clear hWd;have CL:=zh1 (qs3 c.width (t.leaves.take hi) (some ⟨g0,o0,none⟩) lo hi cl' Wd plo plh (AM.call BD.o) q4 zo zo AN.o (AG.below BD.o AG.size));refine zw ?_;go_simp;refine CL.o.mono ?_;rintro e w1 ⟨v1,rfl,o1,b1⟩;obtain⟨A3,n3,c3,rfl,-,-,-,-⟩:=o1.sl;have B1:=zh1 (BD.trans (b1.mono BD.size));obtain⟨Z9,AE,O1,S9⟩:=zh4 (Z0.below B1.o Z0.lt) (A6.call B1.o) o1 (show w.heap.size+1<Wd.heap.size by have:=BD.size;have:=Z0.lt;omega);clear o1 b1;refine⟨(HS9.o _).mpr B1.o,zput ?_⟩;iterate 5 (refine zrb ?_)
 refine qbf ?_;clear HS9 F0 F1 F2 F3;have k42:=qai AC.o B1.o;obtain⟨X,hX⟩:=eqx (rspv (({qiu with n:=hi,hashes:=subH (cutW c.width) (t.leaves.take hi) lo true}:Rsp)) (.slice none 0 0) (.slice A3 n3 c3) (.slice none 0 0));have lX:X.length=106:=by rw[hX];exact qq0 _ _ _ _ (qnm Hd.zero_Ok) (by simp[qiu,qgt])
 have oX:∀u∈X,u.oneCell'=true:=by rw[hX];exact qq1 _ _ _ _ rfl rfl rfl
 have bT:Tryz.prog.built 57 [(1,.int .u64 (hi:Int)),(3,.slice A3 n3 c3)]=some X.toArray:=by rw[hX];exact qs6 (hi:Int) A3 n3 c3
 obtain⟨LX,OX,HX,BT,A7,A4⟩:=zh6 lX oX hX bT (zI 57 lX) qqg;clear lX oX hX bT;go_wp2_with (first
  |(refine qbj rfl ⟨.agg X.toArray,qgq 57 _ rfl _ _ BT.o (by simp[Act.eval]),?_⟩)
  |(refine zst Z9.o A7.o (by simp[LX.o,A4.o]) OX.o ?_))
 have z9:=Z9.setRow X.toArray;have AF:=qap z9 0 X zjq;refine zrt AF zu57 A7.o ?_;have dd9:=AE.row0 HK.o X.toArray A5.o zo;first
  |exact⟨_,rfl,col,(by rw[A0.o,HX.o];exact⟨_,_,_,rfl,OwnB.nil _ _,(fun h=>⟨h.1,qde h.2 (by have:=S9.o;omega)⟩:OwnD _ Wd.heap.size _ _→OwnD _ _ _ _) (O1.grown (qam _ _ _) Z9.o zdc),OwnC.nil _ _,(fun g e=>by cases e),(fun g e=>by by_cases h0:col g=0;exact h0;exact absurd ((World.ownsRow.lt O1.o.2 g e).1) (by have:=H.fin g h0;have:=S9.o;omega)),(fun g e=>by cases e)⟩),dd9⟩
  |exact⟨_,col,rfl,(by rw[A0.o,HX.o];exact⟨_,_,_,rfl,OwnB.nil _ _,(fun h=>⟨h.1,qde h.2 (by have:=S9.o;omega)⟩:OwnD _ Wd.heap.size _ _→OwnD _ _ _ _) (O1.grown (qam _ _ _) Z9.o zdc),OwnC.nil _ _,(fun g e=>by cases e),(fun g e=>by by_cases h0:col g=0;exact h0;exact absurd ((World.ownsRow.lt O1.o.2 g e).1) (by have:=H.fin g h0;have:=S9.o;omega)),(fun g e=>by cases e)⟩),dd9⟩
theorem qs8(h:cs.length=new.length):over cs 0 new=new:=by
 unfold over;simp[h]
theorem Mdl.treSet(h:Mdl w col k g c s L css)(hk:Kind k)(hs:s.Ok)(ht:s.tres[n]? =some t)
 (hT:Turns (fun _=>false) w col w' col')(hf:Fin_ col' w')(f:Tre→Tre)(new:List Value)(hl:new.length=75)(hnew:TreAt w' col' n new (f t)):
 Mdl (w'.setCells L.rg (n*75) new) col' k g c (s.setT n f) L (css.modify n fun _=>new)∧TrsAt (w'.setCells L.rg (n*75) new) col' css s.tres∧Turns (inP k) w col (w'.setCells L.rg (n*75) new) col':=by
 have hn:n<s.tres.length:=by obtain⟨h,_⟩:=tA8 ht;exact h
 have hn16:n<16:=by rw[←hs.tresn];exact hn
 have hlen:=h.st.trs.lens (fun t ht=>(hs.tres t ht).hd);have hcl:css.length=16:=by rw[h.st.trs.1,hs.tresn]
 have hfl:css.flatten.length=1200:=by rw[qnh hlen,hcl]
 have mA:Mdl w' col' k g c s L css:=h.keep hT rfl rfl rfl rfl rfl (fun _ _=>rfl) hf;obtain⟨cs,hcs,-⟩:=mA.st.trs.2 n t ht;have hT2:Turns (· ==k+1) w' col' (w'.setCells L.rg (n*75) new) col':=Turns.setCells new (by simp[mA.st.tres.1]);have keepB:∀i,i≠k+1→KeepsCol i w' col' (w'.setCells L.rg (n*75) new) col':=fun i hi=>hT2.keeps (by simpa using hi)
 have hbig:∀i,i=5∨10≤i→i≠k+1:=fun i hi=>by rcases hk with rfl|rfl<;>omega
 have hne:g≠L.rg:=by
  intro e;have a:=mA.own;rw[e,mA.st.tres.1]at a;rcases hk with rfl|rfl<;>cases a
 refine⟨⟨?_,mA.own,⟨tB1 mA.base.1 hT2.size,mA.base.2⟩,mA.fin.mono hT2.size,mA.seed.keep (keepB 5 (hbig 5 (.inl rfl))),?_⟩,mA.st.trs.keep fun i hi=>keepB i (hbig i hi),?_⟩
 · exact mA.blk.grown (qn9 L.rg new _ w') (by intro e;injection e with e;exact hne e)
 ·
  refine⟨mA.st.tens.keep (keepB k zo),?_,mA.st.gras.keep (keepB (k+2) zo),?_⟩
  · have h1:=mA.st.tres.over (o:=n*75) (cs:=new) (by rw[hfl];omega)
    have h2:=qni new hlen (n:=n) (j:=0) (by rw[hcl];exact hn16) zo;rw[Nat.add_zero]at h2;rw[h2]at h1;have e:(css.modify n fun x=>over x 0 new)=css.modify n fun _=>new:=qrb fun x hx=>qs8 (by rw[hlen x (tB2 hx),hl])
    rwa[e]at h1
  refine⟨by rw[List.length_modify,h.st.trs.1];simp[Sta.setT],fun i t' ht'=>?_⟩;by_cases e:n=i
  · subst e
    rw[show (s.setT n f).tres=s.tres.modify n f from rfl,qo9 f ht]at ht';injection ht' with ht';subst ht';exact⟨new,qo9 _ hcs,hnew.keep fun i hi=>keepB i (hbig i hi)⟩
  rw[show (s.setT n f).tres=s.tres.modify n f from rfl,qoa _ f e]at ht';obtain⟨c0,h1,h2⟩:=mA.st.trs.2 i t' ht';exact⟨c0,by rw[qoa _ _ e];exact h1,h2.keep fun i hi=>keepB i (hbig i hi)⟩
 refine(hT.mono (q:=inP k) fun i hi=>by cases hi).trans (hT2.mono (q:=inP k) fun i hi=>?_);obtain rfl:i=k+1:=by simpa using hi
 unfold inP;simp
theorem qs9(tn wg:Int)(A:Option Addr)(n c:Nat):Tryz.prog.built 74 [(0,.int .i64 1),(1,.int .i64 tn),(2,.int .i64 wg),(4,.slice A n c)]=some (trev {Tre.zero with state:=1,tenant:=tn,weight:=wg} (.slice A n c) (.slice none 0 0) (.slice none 0 0)).toArray:=by kernel_rfl
theorem qsa(c:Cfg)(s:Sta)(L:Loc)(col:Col)(k g:Nat)(css:List (List Value))(R:Req)(Ac:Option Addr)(cc:Nat)(Al:Option Addr)(cl:Nat)(w:World)(hk:Kind k)(hc:c.Ok)(hs:s.Ok)(h:Mdl w col k g c s L css)
 (hr:Asked w col R Ac cc Al cl)(hT:Tabs w)(hpos:0≤R.tree):
 Zc 132 #[.pointer (some ⟨g,0,none⟩),.agg (reqv R (.slice Ac R.cavs.length cc) (.slice Al R.leaf.length cl)).toArray] w fun e w'=>∃v col',e=.returned v∧RspV w' col' w.heap.size v (qms c s R).2∧Did w col w' col' k g c css s (qms c s R).1:=by
 obtain⟨Q,hQ,rlen,rest,W0,hW0,q0,z0,b0⟩:=qr9 R Ac cc Al cl w hr.good.tag;rw[hQ];have hG0:=h.fin.none (b:=w.heap.size+1) zo;have D0:=Did.same (css:=css) h b0;obtain⟨H,AC,Q0,Z0,B0,A2,A7,HK⟩:=zh8 h hW0 q0 z0 b0 hG0 D0 hk;obtain⟨HS,HR,RL,A4,HQ⟩:=zh5 hs hr rlen rest hQ;clear h hW0 q0 z0 b0 hG0 D0 hk hs hr rlen rest hQ;obtain⟨HC,TT⟩:=zh2 hc hT;clear hc hT;obtain⟨n,hn⟩:∃i:Nat,R.tree=i:=⟨R.tree.toNat,by omega⟩;obtain⟨tn,htn⟩:=xeq R.tenant;obtain⟨wg,hwg⟩:=xeq R.weight;have k35:=(Q0.cell 35).trans (show Q.toArray[35]? =some (.int .i64 (n:Int)) by rw[tA3,←hn];exact A4.o 0);have k36:=(Q0.cell 36).trans (show Q.toArray[36]? =some (.int .i64 tn) by rw[tA3,←htn];exact A4.o 1);have k39:=(Q0.cell 39).trans (show Q.toArray[39]? =some (.int .i64 wg) by rw[tA3,←hwg];exact A4.o 4);obtain⟨A8,AJ,AD,C8,AK,HN,A5,A6⟩:=zh8 k35 k36 k39 (qai H.c8 B0.o) (qqj tn c s L col k g css W0 (H.call B0.o)) hn htn hwg;rw[AC.o]at k36;clear hn htn hwg k35 k39 hpos;go_enter Tryz.func132,Tryz.ntmps132
 go_wp2_with fail
 rw[←AC.o];refine AK.o.mono ?_;rintro e w' ⟨rfl,rfl⟩;clear k36;obtain⟨pv,hpv⟩:∃p:Value × Bool,p=if 0≤tn∧tn<16 then(.pointer (some ⟨L.tg,tn.toNat*6,none⟩),true) else(.pointer none,false):=⟨_,rfl⟩
 obtain⟨pt,pb⟩:=pv;rw[show (if 0≤tn∧tn<16 then Value.tuple #[.pointer (some ⟨L.tg,tn.toNat*6,none⟩),.bool true] else .tuple #[.pointer none,.bool false])=.tuple #[pt,.bool pb] by
  by_cases h:0≤tn∧tn<16
  · rw[if_pos h]at hpv ⊢;injection hpv with a b;subst a b;rfl
  rw[if_neg h]at hpv ⊢;injection hpv with a b;subst a b;rfl]
 have AE:=zh1 hpv;clear hpv;go_upto_region 2 with(fail)
 obtain⟨S,HS9⟩:=zS fun w'=>Zb W0 w'
 refine zrs S 25 (zq 0 25 []) ((HS9.o _).mpr ((tA5 _ _).drew)) ?_;obtain⟨F0,F1,F2⟩:=zh3 (zF HS9 A8.o) (zF HS9 AD.o) (zF HS9 C8.o);by_cases h0:n=0
 ·
  subst h0;iterate 25 (first|refine zsk ?_|refine zr3 ?_)
  refine qbf ?_;clear HS9 F0 F1 F2;obtain⟨W1,hW1,B1⟩:=zdr W0;rw[←hW1];clear hW1;obtain⟨Z1,A3⟩:=zh2 (Z0.below B1.o Z0.lt) (A7.call B1.o);have hdo:qms c s R=(s,rWhy 25):=by
   unfold qms;rw[if_pos (by rw[HN.o,A6.o,HS.tresn];omega)]
  have A0:=zh1 hdo;clear hdo;go_wp2_with fail
  exact qra A0 HK (A2.o) (qqi 25 W1) (Z1.o) (A3.o)
 have q0:((n:Int)==0)=false:=by simp;omega
 by_cases h16:16≤n
 ·
  have q1:(16:Int)≤n:=zo;iterate 25 (first|refine zsk ?_|refine zr3 ?_)
  refine qbf ?_;clear HS9 F0 F1 F2;obtain⟨W1,hW1,B1⟩:=zdr W0;rw[←hW1];clear hW1;obtain⟨Z1,A3⟩:=zh2 (Z0.below B1.o Z0.lt) (A7.call B1.o);have hdo:qms c s R=(s,rWhy 25):=by
   unfold qms;rw[if_pos (by rw[HN.o,A6.o,HS.tresn];omega)]
  have A0:=zh1 hdo;clear hdo;go_wp2_with fail
  exact qra A0 HK (A2.o) (qqi 25 W1) (Z1.o) (A3.o)
 have q1:¬(16:Int)≤n:=zo;by_cases hw1:wg<1
 ·
  iterate 25 (first|refine zsk ?_|refine zr3 ?_)
  refine qbf ?_;clear HS9 F0 F1 F2;obtain⟨W1,hW1,B1⟩:=zdr W0;rw[←hW1];clear hW1;obtain⟨Z1,A3⟩:=zh2 (Z0.below B1.o Z0.lt) (A7.call B1.o);have hdo:qms c s R=(s,rWhy 25):=by
   unfold qms;rw[if_pos (by rw[HN.o,A6.o,HS.tresn];omega)]
  have A0:=zh1 hdo;clear hdo;go_wp2_with fail
  exact qra A0 HK (A2.o) (qqi 25 W1) (Z1.o) (A3.o)
 by_cases hw4:4<wg
 ·
  iterate 25 (refine zr3 ?_)
  refine qbf ?_;clear HS9 F0 F1 F2;obtain⟨W1,hW1,B1⟩:=zdr W0;rw[←hW1];clear hW1;obtain⟨Z1,A3⟩:=zh2 (Z0.below B1.o Z0.lt) (A7.call B1.o);have hdo:qms c s R=(s,rWhy 25):=by
   unfold qms;rw[if_pos (by rw[HN.o,A6.o,HS.tresn];omega)]
  have A0:=zh1 hdo;clear hdo;go_wp2_with fail
  exact qra A0 HK (A2.o) (qqi 25 W1) (Z1.o) (A3.o)
 iterate 25 (refine zr3 ?_)
 refine qbf ?_;clear HS9 F0 F1 F2;obtain⟨W1,hW1,B1⟩:=zdr W0;rw[←hW1];clear hW1;obtain⟨Z1,A3⟩:=zh2 (Z0.below B1.o Z0.lt) (A7.call B1.o);have h16':n<16:=zo;obtain⟨t,ht⟩:∃t,s.tres[n]? =some t:=⟨_,tA7 (by rw[HS.tresn];exact h16')⟩;obtain⟨-,Ad,cd,Al',cl',Aq,cq,hcs,hcell,-,-,-⟩:=H.st.tree HS.o ht;have C0:=zh1 (qai (hcell 0 (.int .i64 t.state) rfl) B0.o);simp only[Nat.add_zero]at C0;obtain⟨HT,AN⟩:=zh2 ht (HS.tre ht);have n1:1≤n:=zo;have HB:=zh1 (⟨n1,h16',hw1,hw4⟩:1≤n∧n<16∧¬wg<1∧¬4<wg);have hd1:qms c s R=(if t.state≠0 then(s,rWhy 27)
  else match s.tenant R.tenant with
   |none=>(s,rWhy 23)
   |some x=>if !x.on then(s,rWhy 23) else((s.setT R.tree.toNat fun _=>{Tre.zero with state:=1,tenant:=R.tenant,weight:=R.weight,draws:=[s.draw]}).pub c R.tree.toNat,qmo R.tree.toNat)):=by
  unfold qms;rw[if_neg (by rw[HN.o,A6.o,HS.tresn];omega),HN.o,tBe,ht];rfl
 have A9:=zh1 hd1;clear ht hcs hcell hd1 hw1 hw4 h0 h16;have q2:(0:Int)≤n:=zo;have q3:(n:Int)<16:=zo;go_upto_region 4 with(fail)
 obtain⟨S,HS9⟩:=zS fun w'=>Zb W1 w'
 refine zrs S 12 (zq 0 12 []) ((HS9.o _).mpr ((tA5 _ _).drew)) ?_;obtain⟨F0,F1,F2⟩:=zh3 (zF HS9 (qai A8.o B1.o)) (zF HS9 (qai C0.o B1.o)) (zF HS9 (qai C8.o B1.o));obtain⟨ts,hts⟩:=xeq t.state;rw[hts]at C0 F1 A9;iterate 12 (refine zr3 ?_)
 refine qbf ?_;clear HS9 F0 F1 F2;obtain⟨W2,hW2,B2⟩:=zdr W1;rw[←hW2];clear hW2;obtain⟨Z2,AA,A1⟩:=zh3 (Z1.below B2.o Z1.lt) (A3.call B2.o) (B1.trans (B2.mono B1.size));by_cases hs0:ts=0
 ·
  subst hs0;have hd2:=A9.o;rw[if_neg zm]at hd2;have AB:=zh1 hd2;clear hd2;by_cases hok:0≤tn∧tn<16
  ·
   have hpv:=AE.o;rw[if_pos hok]at hpv;injection hpv with hp1 hp2;subst hp1 hp2;obtain⟨m,rfl⟩:∃m:Nat,tn=m:=⟨tn.toNat,by omega⟩;rw[tBe];obtain⟨x,hx⟩:∃x,s.tens[m]? =some x:=⟨_,tA7 (by rw[HS.tensn];omega)⟩;have hten:s.tenant R.tenant=some x:=by unfold Sta.tenant;rw[A5.o,if_pos zo,tBe];exact hx
   have con:w.cell? ⟨L.tg,m*6,none⟩=some (.bool x.on):=H.st.tens.cell ((qno hx (by omega:(0:Nat)<6)).trans rfl);have con2:=qai (qai con B0.o) A1.o;obtain⟨on,hon⟩:=xeq x.on;rw[hon]at con2;cases on with
   |false=>
    have hdo:qms c s R=(s,rWhy 23):=by
     rw[AB.o,hten];simp[hon]
    have A0:=zh1 hdo;clear hdo hx hten con;go_wp2_with fail
    clear con2;exact qra A0 HK (A2.o) (qqi 23 W2) (Z2.o) (AA.o)
   |true=>
    have hdo:qms c s R=((s.setT n fun _=>{Tre.zero with state:=1,tenant:=(m:Int),weight:=wg,draws:=[s.draw]}).pub c n,qmo n):=by
     rw[AB.o,hten];simp only[hon];rw[HN.o,A5.o,A6.o,tBe];rfl
    have A0:=zh1 hdo;clear hdo hx hten con;go_upto_region 8 with(fail)
    clear con2;have C5:=zh1 (qai (qai H.c5 B0.o) A1.o);have cW:col w.heap.size=0:=by
     by_cases e:col w.heap.size=0
     · exact e
     have:=H.fin _ e;omega
    have CW:=zh1 cW;obtain⟨dr,hdr⟩:=xeq s.draw;have hdb:dr<4294967296:=by rw[←hdr];exact HS.draw
    rw[hdr]at C5 A0;have AO:=zh1 hdr;clear cW hdr;obtain⟨S,HS9⟩:=zS fun w'=>Zb W2 w'
    refine zrs S 19 (zq 0 16 [(16,true),(17,false),(18,false),(19,true)]) ((HS9.o _).mpr ((tA5 _ _).drew)) ?_;obtain⟨F0,F1,F2,F3,F4⟩:=zh5 (zF HS9 (qai A8.o A1.o)) (zF HS9 (qai AD.o A1.o)) (zF HS9 (qai C8.o A1.o)) (zF HS9 (qai AJ.o A1.o)) (zF HS9 C5.o);iterate 16 (refine zr5 ?_)
    obtain⟨Wd,hWd,BD⟩:=zdr W2;rw[←hWd];clear hWd;refine zw ?_;go_simp;obtain⟨wB,hwB⟩:=eqx (Wd.alloc (.cells #[.int .u32 (dr:Int)] 22));rw[←hwB];have bB:=zMa hwB;have blB:=zNa hwB;have BB:=zh1 (BD.trans (bB.mono BD.size));obtain⟨AF,SW,AG⟩:=zh3 (B0.trans ((A1.trans (BB.mono A1.size)).mono B0.size)) (show w.heap.size+1<Wd.heap.size by have:=BD.size;have:=A1.size;have:=Z0.lt;omega) blB;clear hwB bB blB;refine⟨(HS9.o _).mpr BB.o,zput ?_⟩;obtain⟨X,hX⟩:=eqx (trev {Tre.zero with state:=1,tenant:=(m:Int),weight:=wg,draws:=[dr]} (.slice (some ⟨Wd.heap.size,0,none⟩) 1 1) (.slice none 0 0) (.slice none 0 0));have bT:Tryz.prog.built 74 [(0,.int .i64 1),(1,.int .i64 (m:Int)),(2,.int .i64 wg),(4,.slice (some ⟨Wd.heap.size,0,none⟩) 1 1)]=some X.toArray:=by rw[hX];exact qs9 (m:Int) wg _ 1 1
    obtain⟨BT,HX,LX,OX⟩:=zh4 bT hX (show X.length=75 by rw[hX];exact qnn _ _ _ Hd.zero_Ok) (show ∀u∈X,u.oneCell'=true by rw[hX];exact qqp _ _ _ _ rfl rfl rfl);clear bT hX;refine qbg rfl rfl ⟨.agg X.toArray,fun w1 hS=>qgq 74 _ rfl _ _ BT.o (by simp[Act.eval]),?_⟩;refine zP ?_;iterate 1 (refine zrb ?_)
    obtain⟨col1,hcol⟩:∃f:Col,f=fun b=>if b=Wd.heap.size then 10+3*n else col b:=⟨_,rfl⟩
    have cd1:col1 Wd.heap.size=10+3*n:=by rw[hcol];simp
    have cl1:∀b,b<Wd.heap.size→col1 b=col b:=fun b hb=>by rw[hcol];simp;omega
    have fin1:Fin_ col1 wB:=by
     intro b hb;rw[hcol]at hb;by_cases e:b=Wd.heap.size
     · rw[e];exact AG.lt
     simp[e]at hb;have:=H.fin b hb;have:=AF.size;omega
    have TB:Turns (fun _=>false) w col wB col1:=(Turns.of_below _ AF.o).recolour fun b hb=>cl1 b (by have:=SW.o;omega)
    have hnew:TreAt wB col1 n X ({Tre.zero with state:=1,tenant:=(m:Int),weight:=wg,draws:=[dr]}:Tre):=
     ⟨_,_,_,HX.o,⟨rfl,.inr ⟨Wd.heap.size,0,1,[.int .u32 (dr:Int)],rfl,cd1,AG.o,tA4 _,by simp[maxLen],by simp,rfl⟩⟩,TextsC.nil _ _ _,TextsC.nil _ _ _⟩
    obtain⟨N1,N2,N3⟩:=H.treSet HK.o HS.o HT.o TB fin1 (fun _=>{Tre.zero with state:=1,tenant:=(m:Int),weight:=wg,draws:=[dr]}) X LX.o hnew;have MB:=H.keep TB rfl rfl rfl rfl rfl (fun _ _=>rfl) fin1;have hth:=MB.st.tres.there (o:=n*75) (m:=75) (by rw[qnh (MB.st.trs.lens (fun t ht=>(HS.tres t ht).hd)),MB.st.trs.1,HS.tresn];have:=HB.o;omega);have hfok:({Tre.zero with state:=1,tenant:=(m:Int),weight:=wg,draws:=[dr]}:Tre).Ok:=by
     have hz:=Tre.zero_ok;have hb:=HB.o;exact⟨⟨by simp,by simp⟩,⟨by simp,by simp;omega⟩,⟨by simp;omega,by simp;omega⟩,rfl,fun _=>⟨by simp;omega,by simp⟩,by simp,by simp;exact hdb,hz.leaves,hz.leafb,hz.queue,hz.queueb,hz.hd,hz.hdt,hz.hde,hz.hds⟩
    have sok:(s.setT n fun _=>{Tre.zero with state:=1,tenant:=(m:Int),weight:=wg,draws:=[dr]}).Ok:=HS.setT (fun _ _ _=>hfok) (fun e=>absurd e (by have:=HB.o;omega));have ht2:(s.setT n fun _=>{Tre.zero with state:=1,tenant:=(m:Int),weight:=wg,draws:=[dr]}).tres[n]? =some {Tre.zero with state:=1,tenant:=(m:Int),weight:=wg,draws:=[dr]}:=qo9 _ HT.o;have AH:=TT.turns N3 (qr6 HK.o) H.base;have AI:=zh1 (qpn c _ L col1 k g _ n _ _ HK.o HC.o sok N1 ht2 zm AH);have z4:Blk (wB.setCells L.rg (n*75) X) (w.heap.size+1) 57 Tryz.zeroCells57:=
     ((Z2.below BB.o Z2.lt)).grown (qn9 L.rg X _ wB) (by
      intro e;injection e with e;have:=A2.o;rw[e,H.st.tres.1]at this;omega)
    have k35:(wB.setCells L.rg (n*75) X).cell? ⟨w.heap.size,35,none⟩=some (.int .i64 (n:Int)):=
     qob (p:=(· ==k+1)) (col:=col) (qai (qai A8.o A1.o) BB.o) (Turns.setCells X (by simp[H.st.tres.1])) (by rw[CW.o];simp)
    have g1:col1 (w.heap.size+1)=0:=(cl1 _ SW.o).trans A2.o;refine zw ?_;refine wp_store_mid 74 (.tmp 82) (.tmp 81) rfl L.rg (n*75) X.toArray rfl rfl (by rw[tB6,LX.o];exact hth) (by rw[tB6,LX.o];kernel_rfl) (by simpa using OX.o) ?_;refine⟨fun h=>absurd h zdc,zput ?_⟩;refine qbf ?_;obtain⟨W4,hW4⟩:=eqx (wB.setCells L.rg (n*75) X);obtain⟨K4,Z4,N2',N3',G1,G2⟩:=zh6 k35 z4 N2 N3 g1 ((cl1 w.heap.size (by have:=SW.o;omega)).trans CW.o);have e9:(wB.setCells L.rg (n*75) X.toArray.toList)=W4:=by rw[hW4]
    rw[e9];rw[←hW4]at K4 Z4 N2' N3' AI;clear HS9 F0 F1 F2 F3 F4 hcol cd1 cl1 fin1 TB hnew N1 N2 N3 MB hth hfok sok ht2 AH z4 k35 g1 hW4 e9;have k35:=K4.o;go_wp2_with fail
    refine AI.o.mono ?_;rintro e W5 ⟨rfl,⟨css5,M5⟩,T5⟩;have D5:Did w col W5 col1 k g c css s ((s.setT n fun _=>{Tre.zero with state:=1,tenant:=(m:Int),weight:=wg,draws:=[dr]}).pub c n):=
     ⟨⟨L,css5,M5⟩,N2'.keep fun i hi=>T5.keeps (by have:=HK.o;rcases this with rfl|rfl<;>simp<;>omega),N3'.trans (T5.mono fun i hi=>(show i=k+1 by simpa using hi)▸(by unfold inP;simp))⟩
    have z5:Blk W5 (w.heap.size+1) 57 Tryz.zeroCells57:=(T5.block _ Z4.lt (by rw[G1.o];simp)).trans Z4.o;have k35:=qob K4.o T5 (by rw[G2.o];simp);obtain⟨AL,AM⟩:=zh2 D5 z5;clear D5 z5 M5 T5;have hnb:n<16:=HB.o.2.1;go_wp2_with fail
    exact qra A0 HK (G1.o) (qqh n W5 zo) (AM.o) (AL.o)
  have hpv:=AE.o;rw[if_neg hok]at hpv;injection hpv with hp1 hp2;subst hp1 hp2;have hdo:qms c s R=(s,rWhy 23):=by
   rw[AB.o];unfold Sta.tenant;rw[A5.o];by_cases h0:0≤tn
   · rw[if_pos h0,List.getElem?_eq_none (by rw[HS.tensn];omega)]
   rw[if_neg h0]
  have A0:=zh1 hdo;clear hdo hok;go_wp2_with fail
  exact qra A0 HK (A2.o) (qqi 23 W2) (Z2.o) (AA.o)
 have qs:(ts==0)=false:=by simp;exact hs0
 have hdo:qms c s R=(s,rWhy 27):=by rw[A9.o,if_pos hs0]
 have A0:=zh1 hdo;clear hdo;go_wp2_with fail
 exact qra A0 HK (A2.o) (qqi 27 W2) (Z2.o) (AA.o)
theorem qsb(w:World)(col:Col)(k:Nat)(t tx ty e:TypeId)(i:TypeInfo)(z:Value)(size bytes:Nat)(ht:P.underlying t=some (.slice e))(hi:P.info? e=some i)(hz:i.zero=some z)
 (hsize:i.size=size)(hby:i.bytes=bytes)(hzs:z.cells.size=size)
 (g c n:Nat)(xs:List Value)(h:TopAt w col k e g c size n xs)(x:Value)(m:Nat)(news:List Value)(hsrc:Src P size tx x m news w)
 (h63:n+m≤maxLen)(hbytes:(n+m)*bytes≤140737488355328):
 ∃g' c' w' col',(Builtin.append_ #[t,tx] ty #[.slice (some ⟨g,0,none⟩) n c,x]).run P w=.ok (.slice (some ⟨g',0,none⟩) (n+m) c') w'∧TopAt w' col' k e g' c' size (n+m) (xs++news)∧Turns (· ==k) w col w' col'∧(Fin_ col w→Fin_ col' w'):=by
 obtain⟨hk,sp,hb,hxl,hn,hm,hsp⟩:=h;have hnl:=hsrc.newsLen;have hr:Row w (.slice (some ⟨g,0,none⟩) n c) e size n xs:=⟨hxl,.inr ⟨g,0,c,xs++sp,rfl,hb,hn,hm,by rw[tA6];omega,by rw[List.drop_zero,←hxl,List.take_left]⟩⟩;rcases qnc (P:=P) w t tx ty e i z size bytes ht hi hz hsize hby hzs _ n xs hr x m news hsrc h63 hbytes with⟨-,hv,-⟩|⟨g1,o,c1,cur,hv,hc,hb1,hf,hrun,hrw⟩|⟨c',cs,hc,hm',hl,htk,hrun,hrw⟩
 · cases hv
 ·
  injection hv with e1 e2 e3;injection e1 with e1;injection e1 with e4 e5;subst e3 e4 e5;have hcn:(n+m)*size≤c*size:=Nat.mul_le_mul_right _ hc;rw[Nat.add_mul]at hcn;refine⟨g,c,_,col,hrun,⟨hk,sp.drop news.length,?_,by rw[tA6,hxl,hnl,Nat.add_mul],hc,hm,?_⟩,Turns.setCells news (by simp[hk]),fun hf=>hf.mono (Turns.setCells (p:=(· ==k)) (col:=col) news (by simp[hk])).size⟩
  · have h2:=qn8 news (0+n*size) w _ hb (by rw[tA6];omega)
    have e9:over (xs++sp) (0+n*size) news=xs++news++sp.drop news.length:=by
     unfold over;rw[Nat.zero_add,←hxl,List.take_left,List.append_assoc,List.drop_append,List.drop_eq_nil_of_le zo];simp
    rwa[e9]at h2
  rw[tA6,tBk];omega
 refine⟨w.heap.size,c',_,col.put w.heap.size k,hrun,⟨Col.put_at ..,cs.drop ((n+m)*size),?_,by rw[tA6,hxl,hnl,Nat.add_mul],hc,hm',?_⟩,?_,fun hf=>hf.put zm zm⟩
 · rw[←htk,List.take_append_drop]
   exact Blk.new w.drew e _
 · have:(xs++news).length=(n+m)*size:=by rw[tA6,hxl,hnl,Nat.add_mul]
   rw[this,tBk,hl];have:=Nat.mul_le_mul_right size hc;omega
 exact⟨rfl,rfl,rfl,by simp,fun b hb _=>Below.heap_alloc w.drew _ b hb,fun b hb=>Col.put_old _ _ hb⟩
theorem qsc(w:World)(s x:Operand)(t tx:TypeId)
 (ho:o.op=.call {callee:=.builtin .append,args:=#[s,x],argTypes:=#[t,tx]})
 (col:Col)(k:Nat)(e:TypeId)(i:TypeInfo)(z:Value)(size bytes:Nat)(ht:P.underlying t=some (.slice e))(hi:P.info? e=some i)(hz:i.zero=some z)
 (hsize:i.size=size)(hby:i.bytes=bytes)(hzs:z.cells.size=size)
 (g c n:Nat)(xs:List Value)(hs:a.eval s=.slice (some ⟨g,0,none⟩) n c)(hrow:TopAt w col k e g c size n xs)(xv:Value)(m:Nat)(news:List Value)(hx:a.eval x=xv)(hsrc:Src P size tx xv m news w)
 (h63:n+m≤maxLen)(hbytes:(n+m)*bytes≤140737488355328)
 (h:∀g' c' w' col',TopAt w' col' k e g' c' size (n+m) (xs++news)→Turns (· ==k) w col w' col'→(Fin_ col w→Fin_ col' w')→K (a.put o.dst (.slice (some ⟨g',0,none⟩) (n+m) c')) w'):o.wp P a w K Q:=by
 obtain⟨g',c',w',col',hrun,h2,h3,h4⟩:=qsb (P:=P) w col k t tx o.type e i z size bytes ht hi hz hsize hby hzs g c n xs hrow xv m news hsrc h63 hbytes;unfold Oper.wp execOp;simp only[ho,resolve,invoke,builtin,Sem.run_bind,Sem.run_pure,Result.andThen_ok,List.map_toArray,List.map_cons,List.map_nil,hs,hx,hrun];exact h g' c' w' col' h2 h3 h4
theorem qsd(l:List Gra)(x:Gra):(l++[x]).flatMap grav=l.flatMap grav++grav x:=by simp
theorem Mdl.graAdd(h:Mdl w col k g c s L css)(hk:Kind k){x:Gra}
 (ha:TopAt w' col' (k+2) 66 g' c' 4 (s.gras.length+1) (s.gras.flatMap grav++grav x))(hT:Turns (· ==k+2) w col w' col')(hf:Fin_ col' w'):
 Mdl (w'.setCell ⟨g,9,none⟩ (.slice (some ⟨g',0,none⟩) (s.gras.length+1) c')) col' k g c {s with gras:=s.gras++[x]} {L with gg:=g',gc:=c'} css:=by
 have keepA:∀i,i≠k+2→KeepsCol i w col w' col':=fun i hi=>hT.keeps (by simpa using hi)
 have own':col' g=1:=(hT.same g h.blk.lt).trans h.own;have blk':Blk w' g 117 (mdlv c s L):=(hT.block g h.blk.lt (by rw[h.own];rcases hk with rfl|rfl<;>rfl)).trans h.blk;have hT2:Turns (· ==1) w' col' (w'.setCell ⟨g,9,none⟩ (.slice (some ⟨g',0,none⟩) (s.gras.length+1) c')) col':=Turns.setCell _ (by simp[own']);have keepB:∀i,i≠1→KeepsCol i w' col' (w'.setCell ⟨g,9,none⟩ (.slice (some ⟨g',0,none⟩) (s.gras.length+1) c')) col':=fun i hi=>hT2.keeps (by simpa using hi)
 have k1:k≠1∧k+1≠1∧k+2≠1:=by rcases hk with rfl|rfl<;>omega
 refine⟨?_,own',⟨tB1 (tB1 h.base.1 hT.size) hT2.size,fun b hb=>(hT.same b (tB0 hb h.base.1)).trans (h.base.2 b hb)⟩,hf.mono hT2.size,(h.seed.keep (keepA 5 (by rcases hk with rfl|rfl<;>omega))).keep (keepB 5 zo),?_⟩
 · have h2:=blk'.set_ 9 (.slice (some ⟨g',0,none⟩) (s.gras.length+1) c')
   have e:(mdlv c s L).setIfInBounds 9 (.slice (some ⟨g',0,none⟩) (s.gras.length+1) c')=mdlv c {s with gras:=s.gras++[x]} {L with gg:=g',gc:=c'}:=by
    unfold mdlv;simp
   rwa[e]at h2
 refine⟨(h.st.tens.keep (keepA k zo)).keep (keepB k k1.1),(h.st.tres.keep (keepA (k+1) zo)).keep (keepB (k+1) k1.2.1),?_,?_⟩
 · have h2:=ha.keep (keepB (k+2) k1.2.2)
   rw[←qsd]at h2;simpa using h2
 exact(h.st.trs.keep fun i hi=>keepA i (by rcases hk with rfl|rfl<;>omega)).keep fun i hi=>keepB i zo
theorem qse(n:Int)(id:Nat)(a0 a1 a2 a3 a4 a5 a6 a7 a8 a9 a10 a11 a12 a13 a14 a15 a16 a17 a18 a19 a20 a21 a22 a23 a24 a25 a26 a27 a28 a29 a30 a31:Nat):Tryz.prog.built 57 [(1,.int .u64 n),(5,.agg (tokv id (.slice none 0 0) [a0,a1,a2,a3,a4,a5,a6,a7,a8,a9,a10,a11,a12,a13,a14,a15,a16,a17,a18,a19,a20,a21,a22,a23,a24,a25,a26,a27,a28,a29,a30,a31]).toArray)]=some (Value.int .i64 0::.int .u64 n::.slice none 0 0::.slice none 0 0::(hdv Hd.zero++tokv id (.slice none 0 0) [a0,a1,a2,a3,a4,a5,a6,a7,a8,a9,a10,a11,a12,a13,a14,a15,a16,a17,a18,a19,a20,a21,a22,a23,a24,a25,a26,a27,a28,a29,a30,a31])).toArray:=by kernel_rfl
theorem qsf(n:Int)(id:Nat):∀(tag:List Nat),tag.length=32→Tryz.prog.built 57 [(1,.int .u64 n),(5,.agg (tokv id (.slice none 0 0) tag).toArray)]=some (Value.int .i64 0::.int .u64 n::.slice none 0 0::.slice none 0 0::(hdv Hd.zero++tokv id (.slice none 0 0) tag)).toArray
 |[a0,a1,a2,a3,a4,a5,a6,a7,a8,a9,a10,a11,a12,a13,a14,a15,a16,a17,a18,a19,a20,a21,a22,a23,a24,a25,a26,a27,a28,a29,a30,a31],_=>qse n id a0 a1 a2 a3 a4 a5 a6 a7 a8 a9 a10 a11 a12 a13 a14 a15 a16 a17 a18 a19 a20 a21 a22 a23 a24 a25 a26 a27 a28 a29 a30 a31
theorem qsg(tn ro:Int)(ex:Nat):Tryz.prog.built 66 [(0,.int .i64 tn),(1,.int .i64 ro),(2,.int .u64 (ex:Int))]=some (grav ⟨tn,ro,ex,false⟩).toArray:=by kernel_rfl
theorem Tryz.gra_info:(Tryz.prog.info? 66).map (fun i=>(i.zero,i.size,i.bytes))=some (some (.agg #[.int .i64 0,.int .i64 0,.int .u64 0,.bool false]),4,32):=by kernel_rfl
theorem qsh(c:Cfg)(s:Sta)(L:Loc)(col:Col)(k g:Nat)(css:List (List Value))(R:Req)(Ac:Option Addr)(cc:Nat)(Al:Option Addr)(cl:Nat)(w:World)(hk:Kind k)(hc:c.Ok)(hs:s.Ok)(h:Mdl w col k g c s L css)
 (hr:Asked w col R Ac cc Al cl)(hT:Tabs w):
 Zc 138 #[.pointer (some ⟨g,0,none⟩),.agg (reqv R (.slice Ac R.cavs.length cc) (.slice Al R.leaf.length cl)).toArray] w fun e w'=>∃v col',e=.returned v∧RspV w' col' w.heap.size v (qmw c s R).2∧Did w col w' col' k g c css s (qmw c s R).1:=by
 obtain⟨Q,hQ,rlen,rest,W0,hW0,q0,z0,b0⟩:=qr9 R Ac cc Al cl w hr.good.tag;rw[hQ];have hG0:=h.fin.none (b:=w.heap.size+1) zo;have D0:=Did.same (css:=css) h b0;obtain⟨H,AE,Q0,Z0,B0,A1,A7,HK⟩:=zh8 h hW0 q0 z0 b0 hG0 D0 hk;obtain⟨HS,HR,RL,A2,HQ⟩:=zh5 hs hr rlen rest hQ;clear h hW0 q0 z0 b0 hG0 D0 hk hs hr rlen rest hQ;obtain⟨HC,TT⟩:=zh2 hc hT;clear hc hT;obtain⟨tn,htn⟩:=xeq R.tenant;obtain⟨ro,hro⟩:=xeq R.role;obtain⟨ex,hex⟩:=xeq R.expires;obtain⟨ng,hng⟩:=xeq s.gras.length;have k36:=(Q0.cell 36).trans (show Q.toArray[36]? =some (.int .i64 tn) by rw[tA3,←htn];exact A2.o 1);have k37:=(Q0.cell 37).trans (show Q.toArray[37]? =some (.int .i64 ro) by rw[tA3,←hro];exact A2.o 2);have k46:=(Q0.cell 46).trans (show Q.toArray[46]? =some (.int .u64 (ex:Int)) by rw[tA3,←hex];exact A2.o 11);have c9:=H.c9;rw[hng]at c9;obtain⟨A9,A8,AA,C9,AG⟩:=zh5 k36 k37 k46 (qai c9 B0.o) (qqj tn c s L col k g css W0 (H.call B0.o));have gb:ng≤64:=by rw[←hng];exact HS.grasn
 obtain⟨A3,A5,AH,A6⟩:=zh4 htn hro hex hng;rw[AE.o]at k36;clear htn hro hex hng k37 k46 c9;go_enter Tryz.func138,Tryz.ntmps138
 go_wp2_with fail
 rw[←AE.o];refine AG.o.mono ?_;rintro e w' ⟨rfl,rfl⟩;clear k36;have k37:=A8.o;by_cases hrole:ro<1∨4<ro
 ·
  have hdo:qmw c s R=(s,rWhy 25):=by unfold qmw;rw[if_pos (by rw[A5.o];exact hrole)]
  have A0:=zh1 hdo;clear hdo;by_cases h16:0≤tn∧tn<16
  all_goals
   first|rw[if_pos h16]|rw[if_neg h16]
   clear h16;by_cases h1:ro<1
   · clear hrole
     go_wp2_with fail
     exact qra A0 HK (A1.o) (qqi 25 W0) (Z0.o) (A7.o)
   have h4:4<ro:=zo;clear hrole;go_wp2_with fail
   exact qra A0 HK (A1.o) (qqi 25 W0) (Z0.o) (A7.o)
 have h1:¬ro<1:=zo;have h4:¬4<ro:=zo;have A4:=zh1 hrole;by_cases h16:0≤tn∧tn<16
 ·
  rw[if_pos h16];obtain⟨m,rfl⟩:∃m:Nat,tn=m:=⟨tn.toNat,by omega⟩;rw[tBe];have hm16:m<16:=zo;obtain⟨x,hx⟩:∃x,s.tens[m]? =some x:=⟨_,tA7 (by rw[HS.tensn];omega)⟩;have hten:s.tenant R.tenant=some x:=by unfold Sta.tenant;rw[A3.o,if_pos zo,tBe];exact hx
  have con:w.cell? ⟨L.tg,m*6,none⟩=some (.bool x.on):=H.st.tens.cell ((qno hx (by omega:(0:Nat)<6)).trans rfl);have con2:=qai con B0.o;obtain⟨on,hon⟩:=xeq x.on;rw[hon]at con2;clear hrole con;cases on with
  |false=>
   have hdo:qmw c s R=(s,rWhy 23):=by
    unfold qmw;rw[if_neg (by rw[A5.o];exact A4.o),hten];simp[hon]
   have A0:=zh1 hdo;clear hdo hx hten;go_wp2_with fail
   exact qra A0 HK (A1.o) (qqi 23 W0) (Z0.o) (A7.o)
  |true=>
   have c9:=C9.o;by_cases h64:64≤ng
   ·
    have p1:(64:Int)≤ng:=zo;have hdo:qmw c s R=(s,rWhy 4):=by
     unfold qmw;rw[if_neg (by rw[A5.o];exact A4.o),hten];simp only[hon];rw[if_neg zm,if_pos (by rw[A6.o];exact h64)]
    have A0:=zh1 hdo;clear hdo hx hten;go_wp2_with fail
    exact qra A0 HK (A1.o) (qqi 4 W0) (Z0.o) (A7.o)
   have p1:¬(64:Int)≤ng:=zo;have hdo:qmw c s R=({s with gras:=s.gras++[⟨(m:Int),ro,ex,false⟩]},{qmo ng with tok:=(ng,[],qjy (qmg c.seed) ng)}):=by
    unfold qmw;rw[if_neg (by rw[A5.o];exact A4.o),hten];simp only[hon];rw[if_neg zm,if_neg (by rw[A6.o];exact h64),A3.o,A5.o,AH.o,A6.o]
   have A0:=zh1 hdo;clear hdo hx hten;go_upto_region 9 with(fail)
   clear con2 c9 k37;have cW:col w.heap.size=0:=by
    by_cases e:col w.heap.size=0
    · exact e
    have:=H.fin _ e;omega
   obtain⟨CW,BG⟩:=zh2 cW (qsg (m:Int) ro ex);obtain⟨i0,hi0,hz0,hz1,hz2⟩:=info_parts Tryz.gra_info;clear cW;obtain⟨S,HS9⟩:=zS fun w'=>w'.cell? ⟨g,9,none⟩=some (.slice (some ⟨L.gg,0,none⟩) ng L.gc)∧w'.cell? ⟨w.heap.size,36,none⟩=some (.int .i64 (m:Int))∧w'.cell? ⟨w.heap.size,37,none⟩=some (.int .i64 ro)∧w'.cell? ⟨w.heap.size,46,none⟩=some (.int .u64 (ex:Int))
   refine zrs S 18 (zq 0 13 ((13,true)::(14,true)::zq 15 3 [(18,true)])) ((HS9.o _).mpr (⟨C9.o,A9.o,A8.o,AA.o⟩)) ?_;obtain⟨F0,F1,F2,F3⟩:=zh4 (fun(w':World)(h:S w')=>((HS9.o w').mp h).1) (fun(w':World)(h:S w')=>((HS9.o w').mp h).2.1) (fun(w':World)(h:S w')=>((HS9.o w').mp h).2.2.1) (fun(w':World)(h:S w')=>((HS9.o w').mp h).2.2.2);iterate 12 (refine zr4 ?_)
   refine qbg rfl rfl ⟨.agg (grav ⟨(m:Int),ro,ex,false⟩).toArray,fun w1 hS=>qgq 66 _ rfl _ _ BG.o (by simp[Act.eval]),?_⟩;refine zP ?_;obtain⟨Wd,hWd,BD⟩:=zdr W0;rw[←hWd];clear hWd;refine zw ?_;refine qrt 47 66 (.tmp 63) rfl (grav ⟨(m:Int),ro,ex,false⟩) rfl i0 _ 4 Tryz.underlying47 hi0 hz0 hz1 rfl rfl zdc zdc ?_;obtain⟨wB,hwB⟩:=eqx (Wd.alloc (.cells (grav ⟨(m:Int),ro,ex,false⟩).toArray 66));rw[←hwB];have bB:=zMa hwB;have blB:=zNa hwB;have BB:=zh1 (BD.trans (bB.mono BD.size));have AB:=zh1 (B0.trans (BB.mono B0.size));have hr1:Reads wB wB.heap.size 4 (some ⟨Wd.heap.size,0,none⟩) 1 (grav ⟨(m:Int),ro,ex,false⟩):=⟨rfl,fun _=>⟨_,rfl,blB.lt,fun j u hu=>by rw[Addr.add_mid,blB.cell (0+j)];simpa using hu⟩⟩;clear hwB bB blB;refine⟨fun _=>(HS9.o _).mpr ⟨qai C9.o BB.o,qai A9.o BB.o,qai A8.o BB.o,qai AA.o BB.o⟩,zput ?_⟩;have HB:=H.call AB.o;have htop:=HB.st.gras;rw[A6.o]at htop;refine zw ?_;refine qsc wB (.tmp 56) (.tmp 64) _ _ rfl col (k+2) 66 i0 _ 4 32 Tryz.underlying47 hi0 hz0 hz1 hz2 rfl L.gg L.gc ng _ rfl htop (.slice (some ⟨Wd.heap.size,0,none⟩) 1 1) 1 (grav ⟨(m:Int),ro,ex,false⟩) rfl (Src.reads wB Tryz.underlying47 hr1 (by simp[grav,Value.oneCell']) zdc) (by simp only[maxLen];omega) zo ?_;intro g9 c9 wC col2 ha hTC hfC;rw[←A6.o]at ha;have N1:=HB.graAdd HK.o (x:=⟨(m:Int),ro,ex,false⟩) ha hTC (hfC HB.fin);have own2:col2 g=1:=(hTC.same g HB.blk.lt).trans H.own;have blkC:Blk wC g 117 (mdlv c s L):=(hTC.block g HB.blk.lt (by rw[H.own];have:=HK.o;rcases this with rfl|rfl<;>rfl)).trans HB.blk;rw[A6.o]at N1;have f9:=blkC.frozen 9;have cg:w.heap.size<wB.heap.size:=by have:=AB.size;have:=Z0.lt;have:=BB.size;omega
   have x9:=qob (qai C9.o BB.o) hTC (by rw[H.own];have:=HK.o;rcases this with rfl|rfl<;>rfl);have x36:=qob (qai A9.o BB.o) hTC (by rw[CW.o];simp);have x37:=qob (qai A8.o BB.o) hTC (by rw[CW.o];simp);have x46:=qob (qai AA.o BB.o) hTC (by rw[CW.o];simp);have T1:Turns (· ==1) wC col2 (wC.setCell ⟨g,9,none⟩ (.slice (some ⟨g9,0,none⟩) (ng+1) c9)) col2:=Turns.setCell _ (by simp[own2]);have AC:Turns (inP k) w col (wC.setCell ⟨g,9,none⟩ (.slice (some ⟨g9,0,none⟩) (ng+1) c9)) col2:=
    ((Turns.of_below (inP k) AB.o).trans (hTC.mono fun i hi=>(show i=k+2 by simpa using hi)▸(by unfold inP;simp))).trans (T1.mono fun i hi=>(show i=1 by simpa using hi)▸rfl)
   have old1:TrsAt (wC.setCell ⟨g,9,none⟩ (.slice (some ⟨g9,0,none⟩) (ng+1) c9)) col2 css s.tres:=
    (HB.st.trs.keep fun i hi=>hTC.keeps (by have:=HK.o;rcases this with rfl|rfl<;>simp<;>omega)).keep fun i hi=>T1.keeps (by simp;omega)
   have D1:Did w col (wC.setCell ⟨g,9,none⟩ (.slice (some ⟨g9,0,none⟩) (ng+1) c9)) col2 k g c css s {s with gras:=s.gras++[⟨(m:Int),ro,ex,false⟩]}:=⟨⟨_,_,N1⟩,old1,AC⟩;have z1:Blk (wC.setCell ⟨g,9,none⟩ (.slice (some ⟨g9,0,none⟩) (ng+1) c9)) (w.heap.size+1) 57 Tryz.zeroCells57:=by
    have z2:=Z0.below BB.o Z0.lt;have z3:=(hTC.block _ z2.lt (by rw[A1.o];simp)).trans z2;exact(T1.block _ (show w.heap.size+1<wC.heap.size from tB0 z2.lt hTC.size) (by rw[(hTC.same _ z2.lt).trans A1.o];rfl)).trans z3
   have g1:col2 (w.heap.size+1)=0:=(hTC.same _ (Z0.below BB.o Z0.lt).lt).trans A1.o;have ttt:=TT.turns AC (qr6 HK.o) H.base;refine⟨fun _=>(HS9.o _).mpr ⟨x9,x36,x37,x46⟩,zput ?_⟩;iterate 3 (refine zr1 ?_)
   clear x36 x37 x46;refine zw ?_;go_simp;refine qbf ?_;clear HS9 F0 F1 F2 F3 hi0 hz0 hz1 hz2;obtain⟨W4,hW4⟩:=eqx (wC.setCell ⟨g,9,none⟩ (.slice (some ⟨g9,0,none⟩) (ng+1) c9));rw[←hW4]at N1 D1 z1 ttt ⊢;obtain⟨CR,SR,Z4,D4,G4,T4⟩:=zh6 N1.cfgRange N1.seedR z1 D1 g1 ttt;clear hW4 N1 own2 blkC f9 cg x9 T1 AC old1 D1 z1 g1 ttt ha hTC hfC hr1 HB htop;have u1:IntKind.u64.wrap (ng:Int)=(ng:Int):=tBa _ zo;have u2:IntKind.u32.wrap (ng:Int)=(ng:Int):=tBf _ zo;have IC:=zh1 (show (Tryz.prog.info? 25).map (·.size)=some 4 by kernel_rfl);go_wp2_with (refine qaq rfl 25 (.tmp 73) rfl g 0 rfl [.int .i64 c.width,.int .i64 c.quantum,.int .u32 (c.store:Int),.slice L.sa L.sn L.sc] _ CR.o Tryz.underlying25 rfl IC.o ?_)
   refine(qoq c (.slice L.sa L.sn L.sc) L.sa L.sn L.sc W4 SR.o HC.seedb (by have:=HC.seed;have:=SR.o.1;simp[byv]at this;omega) T4.o).mono ?_;rintro e W5 ⟨rfl,b5⟩;obtain⟨Z5,D5,T5,S5⟩:=zh4 (Z4.below b5 Z4.lt) (D4.call b5) (T4.below b5 T4.size) b5.size;clear b5;go_wp2_with fail
   refine zcb (qk4 (qmg c.seed) ng W5 (qjz _ _) (qk1 _ _) zo T5.o) fun W6 b6=>?_
   obtain⟨Z6,D6⟩:=zh2 (Z5.below b6 Z5.lt) (D5.call b6);clear b6;have ltg:(qjy (qmg c.seed) ng).length=32:=qjz _ _;obtain⟨tg,htg⟩:=xeq (qjy (qmg c.seed) ng);rw[htg]at ltg A0 ⊢;obtain⟨X,hX⟩:=eqx (qqd ({qmo ng with tok:=(ng,[],tg)}:Rsp));have lX:X.length=106:=by rw[hX];exact qqe _ Hd.zero_Ok ltg
   have oX:∀u∈X,u.oneCell'=true:=by rw[hX];exact qqf _
   have bT:Tryz.prog.built 57 [(1,.int .u64 (ng:Int)),(5,.agg (tokv ng (.slice none 0 0) tg).toArray)]=some X.toArray:=by rw[hX];exact qsf (ng:Int) ng tg ltg
   obtain⟨LX,OX,HX,BT,AF,AD⟩:=zh6 lX oX hX bT (zI 57 lX) qqg;clear lX oX hX bT htg ltg;go_wp2_with (first
    |(refine qbj rfl ⟨.agg X.toArray,qgq 57 _ rfl _ _ BT.o (by simp[Act.eval]),?_⟩)
    |(refine zst Z6.o AF.o (by simp[LX.o,AD.o]) OX.o ?_))
   have z9:=Z6.setRow X.toArray;have AI:=qap z9 0 X zjq;refine zrt AI zu57 AF.o ?_;have dd9:=D6.row0 HK.o X.toArray G4.o zo;have rr9:RspV (W6.setRow (w.heap.size+1) X.toArray) col2 w.heap.size (.agg X.toArray) (qmw c s R).2:=by rw[A0.o,HX.o];exact RspV.plain _ _ _ _ rfl rfl rfl
   have dd8:Did w col (W6.setRow (w.heap.size+1) X.toArray) col2 k g c css s (qmw c s R).1:=by rw[A0.o];exact dd9
   first
    |exact⟨_,rfl,col2,rr9,dd8⟩
    |exact⟨_,col2,rfl,rr9,dd8⟩
 rw[if_neg h16];have hdo:qmw c s R=(s,rWhy 25):=by
  unfold qmw;rw[if_neg (by rw[A5.o];exact hrole)];unfold Sta.tenant;rw[A3.o];by_cases h0:0≤tn
  · rw[if_pos h0,List.getElem?_eq_none (by rw[HS.tensn];omega)]
  rw[if_neg h0]
 have A0:=zh1 hdo;clear hdo h16 hrole;go_wp2_with fail
 exact qra A0 HK (A1.o) (qqi 25 W0) (Z0.o) (A7.o)
theorem qsi(c:Cfg)(s:Sta)(L:Loc)(col:Col)(k g:Nat)(css:List (List Value))(n:Nat)(t:Tre)(R:Req)(Ac:Option Addr)(cc:Nat)(Al:Option Addr)(cl:Nat)(w:World)(hk:Kind k)(hs:s.Ok)(h:Mdl w col k g c s L css)
 (hr:Asked w col R Ac cc Al cl)(ht:s.tres[n]? =some t)(hrt:R.tree=(n:Int))(hn0:n≠0)(hop:R.op=8):
 Zc 137 #[.pointer (some ⟨g,0,none⟩),.pointer (some ⟨L.rg,n*75,none⟩),.agg (reqv R (.slice Ac R.cavs.length cc) (.slice Al R.leaf.length cl)).toArray] w fun e w'=>∃v col',e=.returned v∧RspV w' col' w.heap.size v (qmu s R).2∧Did w col w' col' k g c css s (qmu s R).1:=by
 obtain⟨hn16,Ad,cd,Al',cl',Aq,cq,hcs,hcell,hrd,hrl,hrq⟩:=h.st.tree hs ht;obtain⟨Q,hQ,rlen,rest,W0,hW0,q0,z0,b0⟩:=qr9 R Ac cc Al cl w hr.good.tag;rw[hQ];have hG0:=h.fin.none (b:=w.heap.size+1) zo;have D0:=Did.same (css:=css) h b0;obtain⟨H,A5,Q0,Z0,B0,A0,A6,HK⟩:=zh8 h hW0 q0 z0 b0 hG0 D0 hk;obtain⟨HS,HR,RL,A2,HQ⟩:=zh5 hs hr rlen rest hQ;clear h hW0 q0 z0 b0 hG0 D0 hk hs hr rlen rest hQ;obtain⟨wg,hwg⟩:=xeq R.weight;have k0:=(Q0.cell 0).trans (show Q.toArray[0]? =some (.int .i64 8) by rw[tA3,←hop,←HQ.o];rfl);have k39:=(Q0.cell 39).trans (show Q.toArray[39]? =some (.int .i64 wg) by rw[tA3,←hwg];exact A2.o 4);obtain⟨K0,A7,HT,A3,A8,A4,E2,E3⟩:=zh8 k0 k39 ht hrt hn0 hwg (qai (hcell 2 (.int .i64 t.weight) rfl) B0.o) (qai (hcell 3 (.int .i64 t.deficit) rfl) B0.o);have k0:=K0.o;rw[A5.o]at k0;clear hrt hn0 hop hwg ht hcs hcell hrd hrl hrq k39;go_enter Tryz.func137,Tryz.ntmps137
 go_upto_region 19 with(fail)
 rw[←A5.o];clear k0;have k39:=A7.o;by_cases hbad:wg<1∨4<wg
 ·
  have hdo:qmu s R=(s,rWhy 25):=by
   unfold qmu;rw[if_neg (by rw[A3.o];have:=A8.o;omega),if_pos (by rw[A4.o];exact hbad)]
  have A1:=zh1 hdo;clear hdo;by_cases h1:wg<1
  · clear hbad
    go_wp2_with fail
    exact qra A1 HK (A0.o) (qqi 25 W0) (Z0.o) (A6.o)
  have h4:4<wg:=zo;clear hbad;go_wp2_with fail
  exact qra A1 HK (A0.o) (qqi 25 W0) (Z0.o) (A6.o)
 have h1:¬wg<1:=zo;have h4:¬4<wg:=zo;obtain⟨m,rfl⟩:∃m:Nat,wg=m:=⟨wg.toNat,by omega⟩;have hm4:m≤4:=zo;have hdo:qmu s R=(s.setT n fun t=>{t with weight:=(m:Int),deficit:=0},qmo m):=by
  unfold qmu;rw[if_neg (by rw[A3.o];have:=A8.o;omega),if_neg (by rw[A4.o];exact hbad),A4.o,A3.o,tBe,tBe]
 have A1:=zh1 hdo;clear hdo hbad;have H0:=H.call B0.o;have e2:=E2.o;have f2:=H0.st.tres.frozen (n*75+2);have M1:=H0.treOver HK.o HS.o HT.o (j:=2) (cs:=[.int .i64 (m:Int),.int .i64 0]) (f:=fun t=>{t with weight:=(m:Int),deficit:=0}) zm (fun vd vl vq=>by simp[over,trev]) rfl rfl rfl;have T1:Turns (· ==k+1) W0 col (W0.setCells L.rg (n*75+2) [.int .i64 (m:Int),.int .i64 0]) col:=Turns.setCells _ (by simp[H0.st.tres.1]);rw[show W0.setCells L.rg (n*75+2) [.int .i64 (m:Int),.int .i64 0]=(W0.setCell ⟨L.rg,n*75+2,none⟩ (.int .i64 (m:Int))).setCell ⟨L.rg,n*75+3,none⟩ (.int .i64 0) from rfl]at M1 T1;have f3:=(H0.st.tres.set1 (o:=n*75+2) (.int .i64 (m:Int)) (by rw[qnh (H0.st.trs.lens (fun t ht=>(HS.tres t ht).hd)),H0.st.trs.1,HS.tresn];omega)).frozen (n*75+3);have e3:=(World.cell?_setCell_other W0 ⟨L.rg,n*75+2,none⟩ ⟨L.rg,n*75+3,none⟩ (.int .i64 (m:Int)) (by intro e;injection e with e1 e2;omega)).trans E3.o;have cW:col w.heap.size=0:=by
  by_cases e:col w.heap.size=0
  · exact e
  have:=H.fin _ e;omega
 have x39:=qob A7.o T1 (by rw[cW];simp);have z1:Blk ((W0.setCell ⟨L.rg,n*75+2,none⟩ (.int .i64 (m:Int))).setCell ⟨L.rg,n*75+3,none⟩ (.int .i64 0)) (w.heap.size+1) 57 Tryz.zeroCells57:=(T1.block _ Z0.lt (by rw[A0.o];simp)).trans Z0.o;have D1:=Did.turned H.o B0.o T1 (by unfold inP;simp) (by have:=HK.o;rcases this with rfl|rfl<;>omega) M1;obtain⟨A9,AA,AB⟩:=zh3 x39 D1 z1;clear M1 T1 H0 x39 z1 D1 cW;go_upto_region 22 with(fail)
 clear f3 e3 f2 e2 k39;obtain⟨W9,hW9⟩:=eqx ((W0.setCell ⟨L.rg,n*75+2,none⟩ (.int .i64 (m:Int))).setCell ⟨L.rg,n*75+3,none⟩ (.int .i64 0));rw[←hW9]at AA AB A9 ⊢;clear hW9;have k39:=A9.o;go_wp2_with fail
 exact qra A1 HK (A0.o) (qqh m W9 zo) (AB.o) (AA.o)
theorem Mdl.drawAdd(h:Mdl w col k g c s L css)(hk:Kind k)(hs:s.Ok)(ht:s.tres[n]? =some t)(hcs:css[n]? =some (trev t vd vl vq))
 (ha:AppendedC w col w' col' (10+3*n) vd v' 22 1 t.draws.length 1 (drwv t.draws) [.int .u32 (d:Int)]):
 Mdl (w'.setCell ⟨L.rg,n*75+4,none⟩ v') col' k g c (s.setT n fun t=>{t with draws:=t.draws++[d]}) L (css.modify n fun x=>x.set 4 v')∧TrsAt (w'.setCell ⟨L.rg,n*75+4,none⟩ v') col' css s.tres∧Turns (inP k) w col (w'.setCell ⟨L.rg,n*75+4,none⟩ v') col':=by
 obtain⟨r1,r2,r3⟩:=h.rows ht hcs;have kp:∀i,i≠10+3*n→KeepsCol i w col w' col':=fun i hi=>ha.turns.keeps (by simpa using hi)
 have hrow:=ha.row;rw[show drwv t.draws++[Value.int .u32 (d:Int)]=drwv (t.draws++[d]) by simp[drwv],show t.draws.length+1=(t.draws++[d]).length by simp]at hrow;exact h.treRow hk hs ht hcs (.inl rfl) ha.turns (ha.fin h.fin) _ v' zo
  ⟨vd,vl,vq,rfl,ha.old,r2.keep (kp _ zo) (kp 5 zo),r3.keep (kp _ zo) (kp 5 zo)⟩
  ⟨v',vl,vq,rfl,hrow,r2.keep (kp _ zo) (kp 5 zo),r3.keep (kp _ zo) (kp 5 zo)⟩
theorem Tryz.mrot_info:(Tryz.prog.info? 22).map (fun i=>(i.zero,i.size,i.bytes))=some (some (.int .u32 0),1,4):=by kernel_rfl
theorem qsj(c:Cfg)(s:Sta)(L:Loc)(col:Col)(k g:Nat)(css:List (List Value))(n:Nat)(t:Tre)(R:Req)(Ac:Option Addr)(cc:Nat)(Al:Option Addr)(cl:Nat)(w:World)(hk:Kind k)(hc:c.Ok)(hs:s.Ok)(h:Mdl w col k g c s L css)
 (hr:Asked w col R Ac cc Al cl)(hT:Tabs w)(ht:s.tres[n]? =some t)(hrt:R.tree=(n:Int))(hop:R.op=9):
 Zc 137 #[.pointer (some ⟨g,0,none⟩),.pointer (some ⟨L.rg,n*75,none⟩),.agg (reqv R (.slice Ac R.cavs.length cc) (.slice Al R.leaf.length cl)).toArray] w fun e w'=>∃v col',e=.returned v∧RspV w' col' w.heap.size v (qmv c s R t).2∧Did w col w' col' k g c css s (qmv c s R t).1:=by
 obtain⟨hn16,Ad,cd,Al',cl',Aq,cq,hcs,hcell,hrd,hrl,hrq⟩:=h.st.tree hs ht;obtain⟨Q,hQ,rlen,rest,W0,hW0,q0,z0,b0⟩:=qr9 R Ac cc Al cl w hr.good.tag;rw[hQ];have hG0:=h.fin.none (b:=w.heap.size+1) zo;have D0:=Did.same (css:=css) h b0;obtain⟨H,A6,Q0,Z0,B0,A1,AH,HK⟩:=zh8 h hW0 q0 z0 b0 hG0 D0 hk;obtain⟨HS,HR,RL,A2,HQ⟩:=zh5 hs hr rlen rest hQ;clear h hW0 q0 z0 b0 hG0 D0 hk hs hr rlen rest hQ;obtain⟨HC,TT,AI⟩:=zh3 hc hT (HS.tre ht);clear hc hT;obtain⟨nd,hnd⟩:=xeq t.draws.length;obtain⟨dr,hdr⟩:=xeq s.draw;have k0:=(Q0.cell 0).trans (show Q.toArray[0]? =some (.int .i64 9) by rw[tA3,←hop,←HQ.o];rfl);have k35:=(Q0.cell 35).trans (show Q.toArray[35]? =some (.int .i64 (n:Int)) by rw[tA3,←hrt];exact A2.o 0);obtain⟨K0,A3,HT,AJ,A0,A7,A8⟩:=zh7 k0 k35 ht hrt hnd hdr hcs;have e4:=qai (hcell 4 (.slice Ad t.draws.length cd) rfl) B0.o;rw[hnd]at e4;have c5:=qai H.c5 B0.o;rw[hdr]at c5;obtain⟨E4,C5⟩:=zh2 e4 c5;have k0:=K0.o;rw[A6.o]at k0;clear hrt hop ht hcs hcell hrd hrl hrq k35 hnd hdr e4 c5;go_enter Tryz.func137,Tryz.ntmps137
 go_upto_region 23 with(fail)
 rw[←A6.o];clear k0;have e4:=E4.o;by_cases hbad:32≤nd
 ·
  have p1:(32:Int)≤nd:=zo;have hdo:qmv c s R t=(s,rWhy 4):=by
   unfold qmv;rw[if_pos (by rw[A0.o];exact hbad)]
  have A4:=zh1 hdo;clear hdo;go_wp2_with fail
  clear e4;exact qra A4 HK (A1.o) (qqi 4 W0) (Z0.o) (AH.o)
 have p1:¬(32:Int)≤nd:=zo;have hdo:qmv c s R t=((s.setT n fun t=>{t with draws:=t.draws++[dr]}).pub c n,qmo nd):=by
  unfold qmv;rw[if_neg (by rw[A0.o];exact hbad),AJ.o,tBe,A7.o,A0.o]
 have A4:=zh1 hdo;clear hdo;go_upto_region 25 with(fail)
 clear e4;obtain⟨S,HS9⟩:=zS fun w'=>w'.cell? ⟨L.rg,n*75+4,none⟩=some (.slice Ad nd cd)∧w'.cell? ⟨g,5,none⟩=some (.int .u32 (dr:Int))∧w'.cell? ⟨w.heap.size,35,none⟩=some (.int .i64 (n:Int))
 refine zrs S 14 (zq 0 10 [(10,true),(11,true),(12,false),(13,false),(14,true)]) ((HS9.o _).mpr (⟨E4.o,C5.o,A3.o⟩)) ?_;obtain⟨F0,F1⟩:=zh2 (fun(w':World)(h:S w')=>((HS9.o w').mp h).1) (fun(w':World)(h:S w')=>((HS9.o w').mp h).2.1);iterate 10 (refine zr2 ?_)
 obtain⟨Wd,hWd,BD⟩:=zdr W0;rw[←hWd];clear hWd;refine zw ?_;go_simp;obtain⟨wB,hwB⟩:=eqx (Wd.alloc (.cells #[.int .u32 (dr:Int)] 22));rw[←hwB];have bB:=zMa hwB;have blB:=zNa hwB;have BB:=zh1 (BD.trans (bB.mono BD.size));have AA:=zh1 (B0.trans (BB.mono B0.size));have hr1:Reads wB wB.heap.size 1 (some ⟨Wd.heap.size,0,none⟩) 1 [.int .u32 (dr:Int)]:=⟨rfl,fun _=>⟨_,rfl,blB.lt,fun j u hu=>by rw[Addr.add_mid,blB.cell (0+j)];simpa using hu⟩⟩;clear hwB bB blB;refine⟨(HS9.o _).mpr ⟨qai E4.o BB.o,qai C5.o BB.o,qai A3.o BB.o⟩,zput ?_⟩;have HB:=H.call AA.o;have hrow:=(HB.rows HT.o A8.o).1;rw[A0.o]at hrow;obtain⟨i0,hi0,hz0,hz1,hz2⟩:=info_parts Tryz.mrot_info;refine zw ?_;refine qnf wB (.tmp 117) (.tmp 123) _ _ rfl col (10+3*n) 22 i0 _ 1 4 Tryz.underlying71 hi0 hz0 hz1 hz2 rfl (.slice Ad nd cd) nd _ rfl hrow (.slice (some ⟨Wd.heap.size,0,none⟩) 1 1) 1 [.int .u32 (dr:Int)] rfl (Src.reads wB Tryz.underlying71 hr1 (by simp[Value.oneCell']) zdc) (by simp only[maxLen];omega) zo ?_;intro v' wC col2 ap;obtain⟨A9,c9,rfl,-,-,-,-⟩:=ap.row.sl;have ap2:AppendedC wB col wC col2 (10+3*n) (.slice Ad t.draws.length cd) (.slice A9 (nd+1) c9) 22 1 t.draws.length 1 (drwv t.draws) [.int .u32 (dr:Int)]:=by rw[A0.o];exact ap
 obtain⟨N1,N2,N3⟩:=HB.drawAdd HK.o HS.o HT.o A8.o ap2;have colR:col L.rg=k+1:=H.st.tres.1;have cW:col w.heap.size=0:=by
  by_cases e:col w.heap.size=0
  · exact e
  have:=H.fin _ e;omega
 have hkk:=HK.o;have x4:=qob (qai E4.o BB.o) ap.turns (by rw[colR];rcases hkk with rfl|rfl<;>simp<;>omega);have x5:=qob (qai C5.o BB.o) ap.turns (by rw[H.own];simp;omega);have x35:=qob (qai A3.o BB.o) ap.turns (by rw[cW];simp;omega);have f4:=(HB.st.tres.keep (ap.turns.keeps (k:=k+1) (by rcases hkk with rfl|rfl<;>simp<;>omega))).frozen (n*75+4);have zB:=Z0.below BB.o Z0.lt;have g2:col2 (w.heap.size+1)=0:=(ap.turns.same _ zB.lt).trans A1.o;have zC:Blk wC (w.heap.size+1) 57 Tryz.zeroCells57:=(ap.turns.block _ zB.lt (by rw[A1.o];simp;omega)).trans zB;have z9:Blk (wC.setCell ⟨L.rg,n*75+4,none⟩ (.slice A9 (nd+1) c9)) (w.heap.size+1) 57 Tryz.zeroCells57:=zC.far (by intro e;have e':w.heap.size+1=L.rg:=e;rw[←e']at colR;have:=A1.o;omega) _;have cW2:col2 w.heap.size=0:=(ap.turns.same _ (by have:=zB.lt;omega)).trans cW;have cR2:col2 L.rg=k+1:=(ap.turns.same _ (HB.st.tres.lt)).trans colR;have k9:(wC.setCell ⟨L.rg,n*75+4,none⟩ (.slice A9 (nd+1) c9)).cell? ⟨w.heap.size,35,none⟩=some (.int .i64 (n:Int)):=qob (p:=(· ==k+1)) (col:=col2) x35 (Turns.setCell _ (by simp[cR2])) (by rw[cW2];simp);have hto:=AI.o;have sok:(s.setT n fun t=>{t with draws:=t.draws++[dr]}).Ok:=HS.setT (fun y hy o=>by
  rw[HT.o]at hy;injection hy with hy;subst hy;exact⟨o.state,o.tenant,o.weight,o.deficit,fun h=>⟨(o.live h).1,by simp⟩,by simp;have:=A0.o;omega,by
   intro x hx;rcases List.mem_append.1 hx with h|h
   · exact o.drawb x h
   have:=HS.draw;have:=A7.o;simp at h;omega,o.leaves,o.leafb,o.queue,o.queueb,o.hd,o.hdt,o.hde,o.hds⟩) (fun _ y _ h1 h2=>⟨h1,h2⟩)
 have ht2:(s.setT n fun t=>{t with draws:=t.draws++[dr]}).tres[n]? =some {t with draws:=t.draws++[dr]}:=qo9 _ HT.o;have T9:=(Turns.of_below (inP k) AA.o).trans N3;have AB:=TT.turns T9 (qr6 HK.o) H.base;obtain⟨AC,AD,AE,A5,AF,AG,AO,AK⟩:=zh8 (qpn c _ L col2 k g _ n _ _ HK.o HC.o sok N1 ht2 zm AB) N2 T9 z9 k9 g2 cW2 sok;have AL:=zh1 ht2;clear N1 N2 N3 T9 AB z9 k9 g2 cW2 cR2 sok ht2 zC zB cW colR ap ap2 hi0 hz0 hz1 hz2 hr1 hrow HB hkk hto;refine⟨fun _=>(HS9.o _).mpr ⟨x4,x5,x35⟩,zput ?_⟩;iterate 2 (refine zr1 ?_)
 clear x5 x35;refine zw ?_;go_simp;refine qbf ?_;clear HS9 F0 F1 x4 f4;obtain⟨W9,hW9⟩:=eqx (wC.setCell ⟨L.rg,n*75+4,none⟩ (.slice A9 (nd+1) c9));rw[←hW9]at AC AD AE A5 AF ⊢;clear hW9;have k35:=AF.o;go_wp2_with fail
 refine AC.o.mono ?_;rintro e W5 ⟨rfl,⟨css5,M5⟩,T5⟩;have sok2:=AK.pub c (n:=n) hn16;have ht5:((s.setT n fun t=>{t with draws:=t.draws++[dr]}).pub c n).tres[n]? =some _:=qo9 _ AL.o;obtain⟨-,Ad5,cd5,Al5,cl5,Aq5,cq5,-,hcell5,-,-,-⟩:=M5.st.tree sok2 ht5;have e5:=hcell5 4 (.slice Ad5 (t.draws++[dr]).length cd5) rfl;rw[show (t.draws++[dr]).length=nd+1 by simp[A0.o]]at e5;have D5:Did w col W5 col2 k g c css s ((s.setT n fun t=>{t with draws:=t.draws++[dr]}).pub c n):=
  ⟨⟨L,css5,M5⟩,AD.keep fun i hi=>T5.keeps (by have:=HK.o;rcases this with rfl|rfl<;>simp<;>omega),AE.trans (T5.mono fun i hi=>(show i=k+1 by simpa using hi)▸(by unfold inP;simp))⟩
 have z5:Blk W5 (w.heap.size+1) 57 Tryz.zeroCells57:=(T5.block _ A5.lt (by rw[AG.o];simp)).trans A5.o;obtain⟨AM,AN⟩:=zh2 D5 z5;clear D5 z5 M5 T5 hcell5 ht5 sok2 k35;have v1:wrap64 (((nd+1:Nat):Int) - 1)=(nd:Int):=by rw[IntWalk.wrap64_in _ zo];omega
 have v2:IntKind.i64.wrap (((nd+1:Nat):Int) - 1)=(nd:Int):=by rw[tBb _ zo];omega
 have v3:((nd:Int)+1) - 1=(nd:Int):=zo;go_wp2_with fail
 clear e5;exact qra A4 HK (AG.o) (qqh nd W5 zo) (AN.o) (AM.o)
theorem qsk {α:Type}{f:α→α}(h:∀x,f x=x):∀(l:List α) (n:Nat),l.modify n f=l
 |[],n=>by simp
 |x::l,0=>by simp[h]
 |x::l,n+1=>by simp[qsk h l n]
theorem Did.step(h:Did w col W col' k g c css s s1)(hT:Turns (inP k) W col' W' col'')(ho:∀i,i=5∨10≤i→KeepsCol i W col' W' col'')(hm:∃L' css',Mdl W' col'' k g c s2 L' css'):Did w col W' col'' k g c css s s2:=
 ⟨hm,h.old.keep ho,h.turns.trans hT⟩
theorem Mdl.state1(h:Mdl w col k g c s L css)(hk:Kind k)(hs:s.Ok)(ht:s.tres[n]? =some t)(x:Int):
 Mdl (w.setCell ⟨L.rg,n*75,none⟩ (.int .i64 x)) col k g c (s.setT n fun t=>{t with state:=x}) L (css.modify n fun cs=>over cs 0 [.int .i64 x]):=
 h.treOver hk hs ht (j:=0) (cs:=[.int .i64 x]) (fun t=>{t with state:=x}) zm (fun vd vl vq=>by simp[over,trev]) rfl rfl rfl
theorem Mdl.deficit1(h:Mdl w col k g c s L css)(hk:Kind k)(hs:s.Ok)(ht:s.tres[n]? =some t)(x:Int):
 Mdl (w.setCell ⟨L.rg,n*75+3,none⟩ (.int .i64 x)) col k g c (s.setT n fun t=>{t with deficit:=x}) L (css.modify n fun cs=>over cs 3 [.int .i64 x]):=
 h.treOver hk hs ht (j:=3) (cs:=[.int .i64 x]) (fun t=>{t with deficit:=x}) zm (fun vd vl vq=>by simp[over,trev]) rfl rfl rfl
theorem Mdl.queueNil(h:Mdl w col k g c s L css)(hk:Kind k)(hs:s.Ok)(ht:s.tres[n]? =some t):
 ∃css',Mdl (w.setCell ⟨L.rg,n*75+6,none⟩ (.slice none 0 0)) col k g c (s.setT n fun t=>{t with queue:=[]}) L css'∧TrsAt (w.setCell ⟨L.rg,n*75+6,none⟩ (.slice none 0 0)) col css s.tres∧Turns (inP k) w col (w.setCell ⟨L.rg,n*75+6,none⟩ (.slice none 0 0)) col:=by
 obtain⟨hn16,Ad,cd,Al,cl,Aq,cq,hcs,-,r1,r2,r3⟩:=h.st.tree hs ht;exact⟨_,h.treRow hk hs ht hcs (.inr (.inr rfl)) (Turns.refl _ w col) h.fin (fun t=>{t with queue:=[]}) (.slice none 0 0) zo ⟨_,_,_,rfl,r1,r2,r3⟩ ⟨_,_,_,rfl,r1,r2,TextsC.nil _ _ _⟩⟩
theorem qsl(c:Cfg)(s:Sta)(L:Loc)(col:Col)(k g:Nat)(css:List (List Value))(n:Nat)(t:Tre)(R:Req)(Ac:Option Addr)(cc:Nat)(Al:Option Addr)(cl:Nat)(w:World)(hk:Kind k)(hs:s.Ok)(h:Mdl w col k g c s L css)
 (hr:Asked w col R Ac cc Al cl)(ht:s.tres[n]? =some t)(hrt:R.tree=(n:Int))(hn0:n≠0)(hop:R.op=7):
 Zc 137 #[.pointer (some ⟨g,0,none⟩),.pointer (some ⟨L.rg,n*75,none⟩),.agg (reqv R (.slice Ac R.cavs.length cc) (.slice Al R.leaf.length cl)).toArray] w fun e w'=>∃v col',e=.returned v∧RspV w' col' w.heap.size v (qmt c s R t).2∧Did w col w' col' k g c css s (qmt c s R t).1:=by
 obtain⟨hn16,Ad,cd,Al',cl',Aq,cq,hcs,hcell,hrd,hrl,hrq⟩:=h.st.tree hs ht;obtain⟨Q,hQ,rlen,rest,W0,hW0,q0,z0,b0⟩:=qr9 R Ac cc Al cl w hr.good.tag;rw[hQ];have hG0:=h.fin.none (b:=w.heap.size+1) zo;have D0:=Did.same (css:=css) h b0;obtain⟨H,AQ,Q0,Z0,B0,A3,AV,HK⟩:=zh8 h hW0 q0 z0 b0 hG0 D0 hk;obtain⟨HS,HR,RL,AL,HQ⟩:=zh5 hs hr rlen rest hQ;clear h hW0 q0 z0 b0 hG0 D0 hk hs hr rlen rest hQ;obtain⟨st,hst⟩:=xeq R.state;obtain⟨t0,ht0⟩:=xeq t.state;obtain⟨nq,hnq⟩:=xeq t.queue.length;have k0:=(Q0.cell 0).trans (show Q.toArray[0]? =some (.int .i64 7) by rw[tA3,←hop,←HQ.o];rfl);have k38:=(Q0.cell 38).trans (show Q.toArray[38]? =some (.int .i64 st) by rw[tA3,←hst];exact AL.o 3);obtain⟨K0,AR,HT,AA,AC,A8,AD,A7⟩:=zh8 k0 k38 ht hrt hn0 hst ht0 hnq;have e0:=hcell 0 (.int .i64 t.state) rfl;have e6:=hcell 6 (.slice Aq t.queue.length cq) rfl;rw[ht0,Nat.add_zero]at e0;rw[hnq]at e6;obtain⟨E0,E6,B7⟩:=zh3 (qai e0 B0.o) (qai e6 B0.o) hrq;have k0:=K0.o;rw[AQ.o]at k0;clear hrt hn0 hop hst ht0 hnq ht hcs hcell hrd hrl hrq k38 e0 e6;go_enter Tryz.func137,Tryz.ntmps137
 go_upto_region 3 with(fail)
 rw[←AQ.o];clear k0;obtain⟨S,HS9⟩:=zS fun w'=>Zb W0 w'
 refine zrs S 13 (zq 0 11 [(11,true),(12,false)]) ((HS9.o _).mpr ((tA5 _ _).drew)) ?_;obtain⟨F0,F1,F2⟩:=zh3 (zF HS9 E0.o) (zF HS9 E6.o) (zF HS9 AR.o);iterate 11 (refine zr3 ?_)
 obtain⟨Wd,hWd,BD⟩:=zdr W0;rw[←hWd];clear hWd;refine zw ?_;go_simp;refine(qku t0 st (nq:Int) Wd).mono ?_;rintro e w1 ⟨rfl,rfl⟩;refine⟨(HS9.o _).mpr BD.o,zput ?_⟩;iterate 1 (refine zrb ?_)
 refine qbf ?_;clear HS9 F0 F1 F2;obtain⟨Z1,AW⟩:=zh2 (Z0.below BD.o Z0.lt) (AV.call BD.o);obtain⟨mb,hmb⟩:=xeq (mayB t0 st (nq:Int));rw[hmb];cases mb with
 |false=>
  have hdo:qmt c s R t=(s,rWhy 24):=by
   unfold qmt;rw[if_pos (.inr (by rw[AD.o,A8.o,A7.o,hmb];rfl))]
  have A4:=zh1 hdo;clear hdo hmb;go_wp2_with fail
  exact qra A4 HK (A3.o) (qqi 24 Wd) (Z1.o) (AW.o)
 |true=>
  have hst:st=1∨st=2∨st=3∨st=4:=by
   unfold mayB at hmb;split at hmb
   · simp at hmb;omega
   split at hmb
   · simp at hmb;omega
   split at hmb
   · simp at hmb;omega
   cases hmb
  have H1:=H.call (B0.trans (BD.mono B0.size));have e0:=qai E0.o BD.o;have f0:=H1.st.tres.frozen (n*75);have k38:=qai AR.o BD.o;have M2:=H1.state1 HK.o HS.o HT.o st;have T2:Turns (· ==k+1) Wd col (Wd.setCell ⟨L.rg,n*75,none⟩ (.int .i64 st)) col:=Turns.setCell _ (by simp[H1.st.tres.1]);obtain⟨A5,AG,AH⟩:=zh3 M2 T2 hmb;clear hmb M2 T2 H1;go_upto_region 6 with(fail)
  obtain⟨W2,hW2⟩:=eqx (Wd.setCell ⟨L.rg,n*75,none⟩ (.int .i64 st));rw[←hW2]at A5 AG ⊢;clear hW2 e0 f0;have cW:col w.heap.size=0:=by
   by_cases e:col w.heap.size=0
   · exact e
   have:=H.fin _ e;omega
  have sok2:(s.setT n fun t=>{t with state:=st}).Ok:=HS.setT (fun y hy o=>by
   rw[HT.o]at hy;injection hy with hy;subst hy;exact {o with state:=by show 0≤st∧st≤4;omega,live:=fun _=>o.live (by intro e;rw[AD.o]at e;subst e;have h:=AH.o;unfold mayB at h;simp at h)}) (fun e=>absurd e AC.o)
  have ht2:(s.setT n fun t=>{t with state:=st}).tres[n]? =some {t with state:=st}:=qo9 _ HT.o;have x38:W2.cell? ⟨w.heap.size,38,none⟩=some (.int .i64 st):=qob k38 AG.o (by rw[cW];simp);have z2:Blk W2 (w.heap.size+1) 57 Tryz.zeroCells57:=(AG.block _ Z1.lt (by rw[A3.o];simp)).trans Z1.o;have dd2:Did w col W2 col k g c css s (s.setT n fun t=>{t with state:=st}):=Did.turned H.o (B0.trans (BD.mono B0.size)) AG.o (by unfold inP;simp) (by have:=HK.o;rcases this with rfl|rfl<;>omega) A5.o;have hto:=HS.tre HT.o;obtain⟨A6,A2,AM,Z2,AI,AJ,AK⟩:=zh7 sok2 ht2 x38 z2 dd2 hto cW;clear sok2 ht2 x38 z2 dd2 hto cW k38;have k38:=AM.o;have plain:∀m:Nat,st=m→m≠4→m≠2→qmt c s R t=(s.setT n (fun t=>{t with state:=st}),qmo m):=by
   intro m hm h4 h2;unfold qmt;rw[if_neg (by rw[AD.o,A8.o,A7.o,AH.o,AA.o];simp;exact AC.o),A8.o,AA.o,tBe];simp only[show ¬st=4 by omega,show ¬st=2 by omega,if_false,or_self];rw[show st.toNat=m by omega]
  rcases hst with rfl|rfl|rfl|rfl
  · have A4:=zh1 (plain 1 rfl zdc zdc)
    clear plain;go_wp2_with fail
    exact qra A4 HK (A3.o) (qqh 1 W2 zo) (Z2.o) (AI.o)
  ·
   clear plain;have hdo:qmt c s R t=((s.setT n (fun t=>{t with state:=2})).setT n (fun t=>{t with deficit:=0}),qmo 2):=by
    unfold qmt;rw[if_neg (by rw[AD.o,A8.o,A7.o,AH.o,AA.o];simp;exact AC.o),A8.o,AA.o,tBe];simp only[show ¬(2:Int)=4 by decide,if_false,false_or,if_true];unfold Sta.setT;rw[qrq];rfl
   have A4:=zh1 hdo;clear hdo;obtain⟨-,Ad2,cd2,Al2,cl2,Aq2,cq2,hcs2,hcell2,-,-,-⟩:=A5.st.tree A6.o A2.o;have e3:=hcell2 3 (.int .i64 t.deficit) rfl;have f3:=A5.st.tres.frozen (n*75+3);have M3:=A5.deficit1 HK.o A6.o A2.o 0;have T3:Turns (· ==k+1) W2 col (W2.setCell ⟨L.rg,n*75+3,none⟩ (.int .i64 0)) col:=Turns.setCell _ (by simp[A5.st.tres.1]);have z3:Blk (W2.setCell ⟨L.rg,n*75+3,none⟩ (.int .i64 0)) (w.heap.size+1) 57 Tryz.zeroCells57:=(T3.block _ Z2.lt (by rw[A3.o];simp)).trans Z2.o;have x3:=qob AM.o T3 (by rw[AK.o];simp);have D3:=AI.step (T3.mono (q:=inP k) fun i hi=>(show i=k+1 by simpa using hi)▸(by unfold inP;simp)) (fun i hi=>T3.keeps (by have:=HK.o;rcases this with rfl|rfl<;>simp<;>omega)) ⟨_,_,M3⟩;obtain⟨Z3,X3,AS⟩:=zh3 z3 x3 D3;clear M3 T3 z3 x3 D3 hcell2 hcs2;go_upto_region 17 with(fail)
   clear e3 f3 k38;obtain⟨W9,hW9⟩:=eqx (W2.setCell ⟨L.rg,n*75+3,none⟩ (.int .i64 0));rw[←hW9]at Z3 X3 AS ⊢;clear hW9;have k38:=X3.o;go_wp2_with fail
   exact qra A4 HK (A3.o) (qqh 2 W9 zo) (Z3.o) (AS.o)
  · have A4:=zh1 (plain 3 rfl zdc zdc)
    clear plain;go_wp2_with fail
    exact qra A4 HK (A3.o) (qqh 3 W2 zo) (Z2.o) (AI.o)
  clear plain;obtain⟨tn,htn⟩:∃m:Nat,t.tenant=m:=⟨t.tenant.toNat,by have:=AJ.tenant;omega⟩;have tn16:tn<16:=by have:=AJ.tenant;omega
  obtain⟨x,hx⟩:∃x,s.tens[tn]? =some x:=⟨_,tA7 (by rw[HS.tensn];exact tn16)⟩;have hxo:=HS.ten hx;have hdo:qmt c s R t=(((((s.setT n (fun t=>{t with state:=4})).setX tn fun x=>{x with used:=x.used - qmi t.queue}).setT n fun t=>{t with queue:=[]}).setT n fun t=>{t with deficit:=0}),qmo 4):=by
   unfold qmt;rw[if_neg (by rw[AD.o,A8.o,A7.o,AH.o,AA.o];simp;exact AC.o),A8.o,AA.o,htn,tBe,tBe];simp only[if_true,true_or];unfold Sta.setT Sta.setX;simp only;rw[qrq,qrq];rfl
  obtain⟨A4,HX,AX,B8⟩:=zh4 hdo hx hxo htn;clear hdo hx hxo;obtain⟨-,Ad2,cd2,Al2,cl2,Aq2,cq2,hcs2,hcell2,-,-,-⟩:=A5.st.tree A6.o A2.o;have e1:=hcell2 1 (.int .i64 t.tenant) rfl;have e6:=hcell2 6 (.slice Aq2 t.queue.length cq2) rfl;rw[htn]at e1;rw[A7.o]at e6;have c7:=A5.c7;obtain⟨AE,E1,E6,C7⟩:=zh4 hcs2 e1 e6 c7;clear hcs2 hcell2 e1 e6 c7 htn;obtain⟨css2,hc2⟩:=xeq (css.modify n fun cs=>over cs 0 [.int .i64 4]);rw[hc2]at A5 AE;clear hc2;have qt0:(0:Int)≤tn:=zo;have qt1:(tn:Int)<16:=zo;go_upto_region 9 with(fail)
  obtain⟨S,HS9⟩:=zS fun w'=>Zb W2 w'
  refine zrs S 11 (zq 0 11 []) ((HS9.o _).mpr ((tA5 _ _).drew)) ?_;obtain⟨F0,F1⟩:=zh2 (zF HS9 C7.o) (zF HS9 E1.o);iterate 11 (refine zr2 ?_)
  refine qbf ?_;clear HS9 F0 F1;obtain⟨W3,hW3,AN⟩:=zdr W2;rw[←hW3];clear hW3;have e6:=qai E6.o AN.o;have AO:=zh1 (show nq≤64 by have:=AJ.queue;rw[A7.o]at this;exact this);clear k38;go_wp2_with fail
  clear e6;go_loopw [54] (fun i wr=>∃j:Nat,j≤nq∧i=.int .i64 j∧Hid (Mdl wr col k g c ((s.setT n fun t=>{t with state:=4}).setX tn fun x=>{x with used:=x.used - qmi (t.queue.take j)}) L css2∧Turns (· ==k) W3 col wr col)) (fun i _=>nq - (intOf i).toNat)
  case atStart=>
   refine⟨0,by omega,rfl,?_⟩;have e0:((s.setT n fun t=>{t with state:=4}).setX tn fun x=>{x with used:=x.used - qmi (t.queue.take 0)})=s.setT n fun t=>{t with state:=4}:=by
    unfold Sta.setX;rw[qsk (fun x=>by simp[qmi])]
   show Mdl _ _ _ _ _ _ _ _∧_;rw[e0];exact⟨A5.call AN.o,Turns.refl _ _ _⟩
  case round=>
   obtain⟨j,hj,rfl,hl⟩:=hrel;have hx':((s.setT n fun t=>{t with state:=4}).setX tn fun x=>{x with used:=x.used - qmi (t.queue.take j)}).tens[tn]? =some {x with used:=x.used - qmi (t.queue.take j)}:=qo9 _ HX.o;have sokj:((s.setT n fun t=>{t with state:=4}).setX tn fun x=>{x with used:=x.used - qmi (t.queue.take j)}).Ok:=A6.setX fun y _ o=>{o with used:=by have:=o.used;show y.used - _<_;omega}
   obtain⟨-,-,r3⟩:=hl.o.1.rows (t:={t with state:=4}) A2.o AE.o;obtain⟨A1,k1,e1,a1,a2,a3⟩:=r3.reads;injection e1 with e11 e12 e13;subst e11 e13;dsimp only at a1 a3;rw[A7.o]at a1 a3;obtain⟨AP,A0,AY⟩:=zh3 hx' sokj a3;have qj0:(0:Int)≤j:=zo;clear hx' sokj a3 r3 e12;by_cases hjn:j<nq
   ·
    have qj:(j:Int)<nq:=zo;obtain⟨g0,o0,bs,A',n',c',rfl,-,hi,hc,-,-,h5⟩:=AY.at_ hjn;have hst:=qqr hi;have hbl:=(AJ.queueb bs (tB2 hi)).1;rw[qb4 h5]at hst hbl;have hub:=AX.used;obtain⟨u,hu⟩:=xeq (x.used - qmi (t.queue.take j));have hu1:x.used - qmi (t.queue.take (j+1))=u - (n'+16):=zo;have ub:u<4294967296:=zo;have c5:wr.cell? ⟨L.tg,tn*6+5,none⟩=some (.int .u32 (u:Int)):=hl.o.1.st.tens.cell ((qno AP.o zo).trans (by rw[hu];rfl));obtain⟨C5,AZ,HU⟩:=zh3 c5 hu1 hu;have p1:IntKind.u32.wrap (n':Int)=(n':Int):=tBf _ zo;have p2:IntKind.u32.wrap ((n':Int)+16)=(n':Int)+16:=tBf _ zo;clear hst h5 hub hu1 c5 hi hu;have B9:=zh1 hc;go_upto_region 13 with(fail)
    clear hc;obtain⟨S,HS9⟩:=zS fun w'=>Zb wr w'
    refine zrs S 16 (zq 0 16 [(16,true)]) ((HS9.o _).mpr ((tA5 _ _).drew)) ?_;have F0:=zh1 (zF HS9 C5.o);obtain⟨v,hv,hvu⟩:∃v:Nat,v=u - (n'+16)∧v≤u:=⟨_,rfl,by omega⟩;have M4:=fun(w':World)(hb:Zb wr w')=>(hl.o.1.call hb).tenOver HK.o A0.o AP.o (j:=5) (cs:=[.int .u32 (v:Int)]) (fun x=>{x with used:=v}) zm (by simp[over,tenv])
    have e4:(((s.setT n fun t=>{t with state:=4}).setX tn fun x=>{x with used:=x.used - qmi (t.queue.take j)}).setX tn fun x=>{x with used:=v})=(s.setT n fun t=>{t with state:=4}).setX tn fun x=>{x with used:=x.used - qmi (t.queue.take (j+1))}:=by
     unfold Sta.setX;dsimp only;rw[qrq];rw[qrb (f:=fun y:Ten=>{y with used:=v}) (g:=fun x=>{x with used:=x.used - qmi (t.queue.take (j+1))}) fun y hy=>by
      have h0:s.tens[tn]? =some y:=hy;rw[HX.o]at h0;injection h0 with h0;subst h0;rw[AZ.o,hv]]
    rw[e4]at M4;obtain⟨A9,FZ,TG,B1⟩:=zh4 M4 (fun(w':World)(hb:Zb wr w')=>(hl.o.1.call hb).st.tens.frozen (tn*6+5)) (show col L.tg=k from hl.o.1.st.tens.1) hl.o.2;clear M4 e4 hl;have wv:(u:Int) - min (u:Int) ((n':Int)+16)=(v:Int):=zo;have wv2:IntKind.u32.wrap ((u:Int) - min (u:Int) ((n':Int)+16))=(v:Int):=by rw[tBf _ zo];omega
    have HV:=zh1 hv;clear hv hvu;iterate 16 (refine zr1 ?_)
    obtain⟨W4,hW4,B4⟩:=zdr wr;rw[←hW4];clear hW4;have c5:=qai C5.o B4.o;have f5:=FZ.o W4 B4.o;have M5:=A9.o W4 B4.o;rw[show W4.setCells L.tg (tn*6+5) [.int .u32 (v:Int)]=W4.setCell ⟨L.tg,tn*6+5,none⟩ (.int .u32 (v:Int)) from rfl]at M5;have T5:Turns (· ==k) W3 col (W4.setCell ⟨L.tg,tn*6+5,none⟩ (.int .u32 (v:Int))) col:=(B1.trans (Turns.of_below _ B4.o)).trans (Turns.setCell _ (by simp[TG.o]));obtain⟨B2,B3⟩:=zh2 M5 T5;clear M5 T5;refine zw ?_;go_simp;refine qbf ?_;clear HS9 F0 c5 f5;have hnb:=AO.o;go_wp2
    go_roundw
    case rel=>exact⟨j+1,by omega,by go_num,zh1 ⟨B2.o,B3.o⟩⟩
    case measure=>simp[intOf];omega
   have qj:¬(j:Int)<nq:=zo;obtain rfl:j=nq:=zo;have htk:t.queue.take j=t.queue:=tB5 (by have:=A7.o;omega);rw[htk]at hl A0 AP;obtain⟨AB,B5⟩:=zh2 hl.o.1 hl.o.2;clear htk hl;obtain⟨s3,hs3⟩:=xeq ((s.setT n fun t=>{t with state:=4}).setX tn fun x=>{x with used:=x.used - qmi t.queue});rw[hs3]at AB A0 A4;have ht3:s3.tres[n]? =some {t with state:=4}:=by rw[←hs3];exact A2.o
   have AF:Turns (· ==k) W2 col wr col:=(Turns.of_below _ AN.o).trans B5.o;have D3:=AI.step (AF.mono (q:=inP k) fun i hi=>(show i=k by simpa using hi)▸(by unfold inP;simp)) (fun i hi=>AF.keeps (by have:=HK.o;rcases this with rfl|rfl<;>simp<;>omega)) ⟨_,_,AB.o⟩;have z3:Blk wr (w.heap.size+1) 57 Tryz.zeroCells57:=(AF.block _ Z2.lt (by rw[A3.o];have:=HK.o;rcases this with rfl|rfl<;>rfl)).trans Z2.o;have x3:=qob AM.o AF (by rw[AK.o];have:=HK.o;rcases this with rfl|rfl<;>rfl);obtain⟨-,Ad3,cd3,Al3,cl3,Aq3,cq3,-,hcell3,-,-,-⟩:=AB.st.tree A0.o ht3;have e6:=hcell3 6 (.slice Aq3 t.queue.length cq3) rfl;have f6:=AB.st.tres.frozen (n*75+6);obtain⟨css4,M4,-,-⟩:=AB.queueNil HK.o A0.o ht3;have T4:Turns (· ==k+1) wr col (wr.setCell ⟨L.rg,n*75+6,none⟩ (.slice none 0 0)) col:=Turns.setCell _ (by simp[AB.st.tres.1]);have D4:=D3.step (T4.mono (q:=inP k) fun i hi=>(show i=k+1 by simpa using hi)▸(by unfold inP;simp)) (fun i hi=>T4.keeps (by have:=HK.o;rcases this with rfl|rfl<;>simp<;>omega)) ⟨_,_,M4⟩;have z4:Blk (wr.setCell ⟨L.rg,n*75+6,none⟩ (.slice none 0 0)) (w.heap.size+1) 57 Tryz.zeroCells57:=(T4.block _ z3.lt (by rw[A3.o];simp)).trans z3;have x4:=qob x3 T4 (by rw[AK.o];simp);obtain⟨A9,AT,Z4,X4,B6,BA⟩:=zh6 M4 D4 z4 x4 ht3 hs3;clear M4 D4 z4 x4 D3 z3 x3 AF T4 hcell3 ht3 hs3;go_upto_region 16 with(fail)
   obtain⟨W6,hW6⟩:=eqx (wr.setCell ⟨L.rg,n*75+6,none⟩ (.slice none 0 0));rw[←hW6]at A9 AT Z4 X4 ⊢;clear hW6 e6 f6;have sok4:(s3.setT n fun t=>{t with queue:=[]}).Ok:=A0.setT (fun y hy o=>{o with leaves:=by have:=o.leaves;dsimp only;simp;omega,queue:=by simp,queueb:=fun b hb=>(nomatch hb)}) (fun e=>absurd e AC.o);have ht4:(s3.setT n fun t=>{t with queue:=[]}).tres[n]? =some {({t with state:=4}:Tre) with queue:=[]}:=qo9 _ B6.o;obtain⟨-,Ad4,cd4,Al4,cl4,Aq4,cq4,-,hcell4,-,-,-⟩:=A9.st.tree sok4 ht4;have e3:=hcell4 3 (.int .i64 t.deficit) rfl;have f3:=A9.st.tres.frozen (n*75+3);have M5:=A9.deficit1 HK.o sok4 ht4 0;have T5:Turns (· ==k+1) W6 col (W6.setCell ⟨L.rg,n*75+3,none⟩ (.int .i64 0)) col:=Turns.setCell _ (by simp[A9.st.tres.1]);have D5:=AT.step (T5.mono (q:=inP k) fun i hi=>(show i=k+1 by simpa using hi)▸(by unfold inP;simp)) (fun i hi=>T5.keeps (by have:=HK.o;rcases this with rfl|rfl<;>simp<;>omega)) ⟨_,_,M5⟩;have z5:Blk (W6.setCell ⟨L.rg,n*75+3,none⟩ (.int .i64 0)) (w.heap.size+1) 57 Tryz.zeroCells57:=(T5.block _ Z4.lt (by rw[A3.o];simp)).trans Z4.o;have x5:=qob X4.o T5 (by rw[AK.o];simp);obtain⟨AU,Z5,X5⟩:=zh3 D5 z5 x5;clear M5 D5 z5 x5 T5 sok4 ht4 hcell4;go_upto_region 17 with(fail)
   clear e3 f3;obtain⟨W9,hW9⟩:=eqx (W6.setCell ⟨L.rg,n*75+3,none⟩ (.int .i64 0));rw[←hW9]at AU Z5 X5 ⊢;clear hW9;have k38:=X5.o;go_wp2_with fail
   exact qra A4 HK (A3.o) (qqh 4 W9 zo) (Z5.o) (AU.o)
def qsm (c:Cfg)(s:Sta)(R:Req):Bool:=
 match s.gras[R.tid]? with
 |none=>false
 |some g=>qkd (qmg c.seed) (R.tid,R.cavs,R.tag)&&(!g.revoked&&(decide (s.clock<g.expires)&&qkl R.op (if qdl R.op then R.tree else 0) s.clock R.cavs))
theorem qsn:Tryz.prog.built 66 []=some (grav ⟨0,0,0,false⟩).toArray:=by kernel_rfl
theorem qso{y:Gra}(hy:s.gras[R.tid]? =some y)(h:y.revoked=true):qsm c s R=false:=by
 unfold qsm;rw[hy];simp[h]
theorem qsp{y:Gra}(hy:s.gras[R.tid]? =some y)(h:¬s.clock<y.expires):qsm c s R=false:=by
 unfold qsm;rw[hy];simp[h]
theorem qsq{y:Gra}(hc:s.clock=clk)(hy:s.gras[R.tid]? =some y)(hg:qkd (qmg c.seed) (R.tid,R.cavs,R.tag)=true)(h:y.revoked=false)(he:s.clock<y.expires)(ht:(if qdl R.op then R.tree else 0)=tr):qsm c s R=qkl R.op tr clk R.cavs:=by
 subst hc;unfold qsm;rw[hy,ht];simp[h,hg,he]
theorem qsr(hg:qkd (qmg c.seed) (R.tid,R.cavs,R.tag)=false):qsm c s R=false:=by
 unfold qsm;cases s.gras[R.tid]? with
 |none=>rfl
 |some y=>simp[hg]
theorem qss(c:Cfg)(s:Sta)(L:Loc)(col:Col)(k g:Nat)(css:List (List Value))(R:Req)(Ac:Option Addr)(cc:Nat)(Al:Option Addr)(cl:Nat)(w:World)(hk:Kind k)(hc:c.Ok)(hs:s.Ok)(h:Mdl w col k g c s L css)
 (hr:Asked w col R Ac cc Al cl)(hT:Tabs w)(h4:R.cavs.length≤4):
 Zc 125 #[.pointer (some ⟨g,0,none⟩),.agg (reqv R (.slice Ac R.cavs.length cc) (.slice Al R.leaf.length cl)).toArray] w fun e w'=>∃y:Gra,e=.returned (.tuple #[.agg #[.int .i64 y.tenant,.int .i64 y.role,.int .u64 (y.expires:Int),.bool y.revoked],.bool (qsm c s R)])∧(qsm c s R=true→s.gras[R.tid]? =some y)∧Below w.heap.size w w':=by
 have rlen:=qix R (.slice Ac R.cavs.length cc) (.slice Al R.leaf.length cl) hr.good.tag;have rest:=qdk R (.slice Ac R.cavs.length cc) (.slice Al R.leaf.length cl) hr.good.tag;have rtok:=qiy R (.slice Ac R.cavs.length cc) (.slice Al R.leaf.length cl);obtain⟨Q,hQ⟩:=xeq (reqv R (.slice Ac R.cavs.length cc) (.slice Al R.leaf.length cl));rw[hQ]at rlen rest rtok ⊢;obtain⟨W0,hW0⟩:=eqx ((w.alloc (.cells Q.toArray 34)).alloc (.cells #[.int .i64 0,.int .i64 0,.int .u64 0,.bool false] 66));have q0:=zNb hW0;have z0:=zNc hW0;have b0:=zMb hW0;obtain⟨ti,hti⟩:=xeq R.tid;have tb:ti<4294967296:=by rw[←hti];exact hr.good.tid
 obtain⟨ng,hng⟩:=xeq s.gras.length;have gb:ng≤64:=by rw[←hng];exact hs.grasn
 have c9:=h.c9;rw[hng]at c9;have k1:W0.cell? ⟨w.heap.size,1,none⟩=some (.int .u32 (ti:Int)):=(q0.cell 1).trans (by rw[tA3,←hti];exact rtok 0 _ rfl);have k35:W0.cell? ⟨w.heap.size,35,none⟩=some (.int .i64 R.tree):=(q0.cell 35).trans (by rw[tA3];exact rest 0);have kop:Q.toArray[0]? =some (.int .i64 R.op):=by rw[tA3,←hQ];rfl
 have htk:Tok.Ok (R.tid,R.cavs,R.tag):=⟨hr.good.tid,hr.good.cavn,hr.good.tag,hr.good.tagb⟩;obtain⟨H,AO,Q0,Z0,B0,HK,HC,HS⟩:=zh8 h hW0 q0 z0 b0 hk hc hs;obtain⟨HR,RL,HQ,TT,AB,K1,AP,AC⟩:=zh8 hr rlen hQ hT h4 k1 k35 kop;obtain⟨C9,AD,AE,AF,AG,CI⟩:=zh6 (qai c9 b0) hti hng htk (show (Tryz.prog.info? 31).map (·.size)=some (tokv R.tid (.slice Ac R.cavs.length cc) R.tag).length by rw[qdf _ _ _ hr.good.tag];kernel_rfl) (show (Tryz.prog.info? 25).map (·.size)=some 4 by kernel_rfl);clear h hW0 q0 z0 b0 hk hc hs hr rlen rest rtok hQ hT h4 k1 k35 kop hti hng htk c9;have u1:IntKind.u64.wrap (ti:Int)=(ti:Int):=tBa _ zo;have u2:IntKind.u64.wrap (ng:Int)=(ng:Int):=tBa _ zo;go_enter Tryz.func125,Tryz.ntmps125
 go_upto_region 1 with(fail)
 rw[←AO.o];obtain⟨gn,hgn⟩:=xeq (qkd (qmg c.seed) (R.tid,R.cavs,R.tag));have A9:=zh1 hgn;clear hgn;obtain⟨S,HS9⟩:=zS fun w'=>Below W0.heap.size W0 w'
 refine zrs S 23 (zq 0 17 [(18,false),(19,false),(17,true),(20,true),(21,false),(22,false)]) ((HS9.o _).mpr ((tA5 _ _).drew)) ?_;obtain⟨F0,F1,FC,FT⟩:=zh4 (zF HS9 K1.o) (zF HS9 C9.o) (fun(w':World)(h:S w')=>((H.call B0.o).call ((HS9.o w').mp h)).cfgRange) (fun(w':World)(h:S w')=>qap (l:=Q) (Q0.below ((HS9.o w').mp h) Q0.lt) 1 (tokv R.tid (.slice Ac R.cavs.length cc) R.tag) (fun j u hu=>by rw[←HQ.o];exact qiy R _ _ j u hu));by_cases hge:ng≤ti
 ·
  have p1:(ng:Int)≤ti:=zo;have hno:qsm c s R=false:=by
   unfold qsm;rw[AD.o,List.getElem?_eq_none (by rw[AE.o];exact hge)]
  have A4:=zh1 hno;clear hno hge;iterate 19 (first|refine zsk ?_|refine zr2 ?_)
  refine qr5 rfl rfl ⟨(HS9.o _).mpr (tA5 _ _).drew,?_⟩;refine zP ?_;refine qr5 rfl rfl ⟨(HS9.o _).mpr (tA5 _ _).drew,?_⟩;refine zP ?_;iterate 2 (first|refine zsk ?_|refine zrb ?_)
  refine qbf ?_;clear HS9 F0 F1 FC FT u1 u2;obtain⟨W1,hW1,B1⟩:=zdr W0;rw[←hW1];clear hW1;obtain⟨X,hX⟩:=xeq (grav ⟨0,0,0,false⟩);have lX:X.length=4:=by rw[←hX];rfl
  have oX:∀u∈X,u.oneCell'=true:=by
   rw[←hX];intro u hu;unfold grav at hu;simp only[List.mem_cons,List.not_mem_nil,or_false]at hu;rcases hu with rfl|rfl|rfl|rfl<;>rfl
  obtain⟨BT,A3,LX,OX⟩:=zh4 (show Tryz.prog.built 66 []=some X.toArray by rw[←hX];exact qsn) hX lX oX;obtain⟨A0,Z1,BB⟩:=zh3 (zI 66 LX.o) (Z0.below B1.o Z0.lt) (below_setRow (B0.trans (B1.mono B0.size)) (by omega:w.heap.size≤w.heap.size+1) X.toArray);clear hX lX oX;go_wp2_with (first
   |(refine qbj rfl ⟨.agg X.toArray,qgq 66 _ rfl _ _ BT.o (by simp[Act.eval]),?_⟩)
   |(refine zst Z1.o A0.o (by simp[LX.o]) OX.o ?_))
  have A2:=qap (Z1.setRow X.toArray) 0 X zjq;refine bodyPost_ret (qgu rfl rfl (run_loadVar_mid _ _ 0 _ X _ A2 Tryz.underlying66 rfl A0.o)) rfl ⟨⟨0,0,0,false⟩,?_,fun h=>(by rw[A4.o]at h;cases h),BB.o⟩;rw[A4.o,←A3.o];rfl
 have p1:¬(ng:Int)≤ti:=zo;have plt:ti<ng:=zo;have plt2:(ti:Int)<ng:=zo;have q0:(0:Int)≤ti:=zo;obtain⟨y,hy⟩:∃y,s.gras[ti]? =some y:=⟨_,tA7 (by rw[AE.o];exact plt)⟩;have HY:=zh1 (show s.gras[R.tid]? =some y by rw[AD.o];exact hy);clear hge;iterate 16 (refine zr2 ?_)
 refine qoc rfl rfl 25 (.tmp 23) rfl g 0 rfl _ _ FC.o Tryz.underlying25 rfl CI.o ?_;refine zP ?_;iterate 1 (refine zrb ?_)
 refine qoc rfl rfl 31 (.tmp 26) rfl w.heap.size 1 rfl (tokv R.tid (.slice Ac R.cavs.length cc) R.tag) _ FT.o Tryz.underlying31 rfl AG.o ?_;refine zP ?_;obtain⟨Wd,hWd,BD⟩:=zdr W0;rw[←hWd];clear hWd;have AH:=zh1 (B0.trans (BD.mono B0.size));refine zw ?_;go_simp;refine(qoq c (.slice L.sa L.sn L.sc) L.sa L.sn L.sc Wd (H.call AH.o).seedR HC.seedb (by have:=HC.seed;have:=(H.seedR).1;simp[byv]at this;omega) (TT.below AH.o TT.size)).mono ?_;rintro e w1 ⟨rfl,b1⟩;have B1:=zh1 (BD.trans (b1.mono BD.size));clear b1;have AI:=zh1 (B0.trans (B1.mono B0.size));refine⟨(HS9.o _).mpr B1.o,zput ?_⟩;refine zw ?_;go_simp;refine(qkj (qmg c.seed) (R.tid,R.cavs,R.tag) Ac R.cavs.length cc w1 (qjz _ _) (qk1 _ _) (HR.cavs.call AI.o) HR.cavc (by have:=AB.o;omega) AF.o (TT.below AI.o TT.size)).mono ?_;rintro e w2 ⟨rfl,b2⟩;rw[A9.o];have B2:=zh1 (B1.trans (b2.mono B1.size));clear b2;refine⟨(HS9.o _).mpr B2.o,zput ?_⟩;iterate 2 (refine zrb ?_)
 refine qbf ?_;clear HS9 F0 F1 FC FT u1 u2;cases gn with
 |false=>
  have A4:=zh1 (qsr (c:=c) (s:=s) A9.o);obtain⟨W1,hW1⟩:=eqx w2;rw[←hW1];have B1:=zh1 (show Below W0.heap.size W0 W1 by rw[hW1];exact B2.o);clear hW1;obtain⟨X,hX⟩:=xeq (grav ⟨0,0,0,false⟩);have lX:X.length=4:=by rw[←hX];rfl
  have oX:∀u∈X,u.oneCell'=true:=by
   rw[←hX];intro u hu;unfold grav at hu;simp only[List.mem_cons,List.not_mem_nil,or_false]at hu;rcases hu with rfl|rfl|rfl|rfl<;>rfl
  obtain⟨BT,A3,LX,OX⟩:=zh4 (show Tryz.prog.built 66 []=some X.toArray by rw[←hX];exact qsn) hX lX oX;obtain⟨A0,Z1,BB⟩:=zh3 (zI 66 LX.o) (Z0.below B1.o Z0.lt) (below_setRow (B0.trans (B1.mono B0.size)) (by omega:w.heap.size≤w.heap.size+1) X.toArray);clear hX lX oX;go_wp2_with (first
   |(refine qbj rfl ⟨.agg X.toArray,qgq 66 _ rfl _ _ BT.o (by simp[Act.eval]),?_⟩)
   |(refine zst Z1.o A0.o (by simp[LX.o]) OX.o ?_))
  have A2:=qap (Z1.setRow X.toArray) 0 X zjq;refine bodyPost_ret (qgu rfl rfl (run_loadVar_mid _ _ 0 _ X _ A2 Tryz.underlying66 rfl A0.o)) rfl ⟨⟨0,0,0,false⟩,?_,fun h=>(by rw[A4.o]at h;cases h),BB.o⟩;rw[A4.o,←A3.o];rfl
 |true=>
  obtain⟨W1,hW1⟩:=eqx w2;rw[←hW1];have BW:=zh1 (show Below W0.heap.size W0 W1 by rw[hW1];exact B2.o);clear hW1;have AJ:=zh1 (B0.trans (BW.mono B0.size));obtain⟨rv,hrv⟩:=xeq y.revoked;obtain⟨ex,hex⟩:=xeq y.expires;obtain⟨clk,hclk⟩:=xeq s.clock;have exb:ex<18446744073709551616:=by rw[←hex];exact(HS.gra hy).expires
  have clb:clk<18446744073709551616:=by rw[←hclk];exact HS.clock
  obtain⟨X,hX⟩:=xeq (grav y);have lX:X.length=4:=by rw[←hX];rfl
  have oX:∀u∈X,u.oneCell'=true:=by
   rw[←hX];intro u hu;unfold grav at hu;simp only[List.mem_cons,List.not_mem_nil,or_false]at hu;rcases hu with rfl|rfl|rfl|rfl<;>rfl
  obtain⟨X2,X3,A3,LX,OX,AK,AL,A1⟩:=zh8 (show X.toArray[2]? =some (.int .u64 (ex:Int)) by rw[←hX,←hex];rfl) (show X.toArray[3]? =some (.bool rv) by rw[←hX,←hrv];rfl) hX lX oX hrv hex hclk;have AQ:=A9;have AR:=zh1 (fun(w':World)(hb:Below w.heap.size w w')=>(show w'.rangeAt L.gg (ti*4) X from fun j u hu=>by
   obtain⟨hj,_⟩:=tA8 hu;refine(H.call hb).st.gras.cell ?_;rw[qnp hy zo,A3.o];exact hu))
  have A5:=zh1 (zI 66 LX.o);clear hX lX oX hrv hex hclk;go_upto_region 3 with(fail)
  obtain⟨S,HS9⟩:=zS fun w'=>Below W1.heap.size W1 w'
  refine zrs S 11 (zq 0 10 [(10,true),(11,true)]) ((HS9.o _).mpr ((tA5 _ _).drew)) ?_;obtain⟨F0,F1,FG⟩:=zh3 (zF HS9 (qai K1.o BW.o)) (zF HS9 (qai C9.o BW.o)) (fun(w':World)(h:S w')=>AR.o w' (AJ.trans (((HS9.o w').mp h).mono AJ.size)));iterate 9 (refine zr2 ?_)
  refine qoc rfl rfl 66 (.tmp 40) rfl L.gg (ti*4) rfl X _ FG.o Tryz.underlying66 rfl A5.o ?_;refine zP ?_;obtain⟨We,hWe,BE⟩:=zdr W1;rw[←hWe];clear hWe;refine zw ?_;go_simp;obtain⟨W2,hW2⟩:=eqx (We.alloc (.cells #[.int .i64 0,.int .i64 0,.int .u64 0,.bool false] 66));rw[←hW2];obtain⟨G,hG⟩:=eqx We.heap.size;have g2:Blk W2 G 66 #[.int .i64 0,.int .i64 0,.int .u64 0,.bool false]:=by rw[hW2,hG];exact Blk.new _ _ _
  have b2':Below W1.heap.size W1 W2:=by rw[hW2];exact BE.alloc BE.size _
  have gs:W1.heap.size≤G:=by rw[hG];exact BE.size
  rw[←hG];obtain⟨G2,AM,GS⟩:=zh3 g2 b2' gs;clear hW2 hG g2 b2' gs;refine⟨(HS9.o _).mpr AM.o,zput ?_⟩;refine zw ?_;refine wp_store_row 66 (.tmp 6) (.tmp 41) rfl G X.toArray rfl rfl 66 _ G2.o (by simpa using A5.o) (by simp[LX.o]) (by simpa using OX.o) ?_;obtain⟨W3,hW3⟩:=eqx (W2.setRow G X.toArray);rw[←hW3];have g3:Blk W3 G 66 X.toArray:=by rw[hW3];exact G2.setRow _
  have b3:Below W1.heap.size W1 W3:=by rw[hW3];exact below_setRow AM.o GS.o _
  obtain⟨G3,AS⟩:=zh2 g3 b3;clear hW3 g3 b3;refine⟨fun h=>absurd h zdc,zput ?_⟩;refine qbf ?_;clear HS9 F0 F1 FG;obtain⟨AA,A7⟩:=zh2 (show G≠w.heap.size+1 by have:=GS.o;have:=BW.size;have:=Z0.lt;omega) (BW.trans (AS.mono BW.size));obtain⟨B3,Q3,Z3⟩:=zh3 (B0.trans (A7.mono B0.size)) (Q0.below A7.o Q0.lt) (Z0.below A7.o Z0.lt);have kop:=(Q3.cell 0).trans AC.o;have k35:=qai AP.o A7.o;clear p1 plt plt2 q0 hy;go_wp2_with fail
  refine zca (qdn R.op W3) ?_;obtain⟨tr,htr⟩:∃x:Int,(if qdl R.op then R.tree else 0)=x:=⟨_,rfl⟩;have A6:=zh1 htr;clear htr;go_upto_if 44 with(fail)
  go_cut [7] (fun s7 wx=>s7=.int .i64 tr∧wx=W3)
  case first=>
   have e:=A6.o;cases htb:qdl R.op with
   |true=>
    rw[htb]at e;subst e;go_wp2
    go_meet
    case rel=>exact⟨rfl,rfl⟩
   |false=>
    rw[htb]at e;subst e;go_wp2
    go_meet
    case rel=>exact⟨rfl,rfl⟩
  case rest=>
   obtain⟨rfl,rfl⟩:=hcut;obtain⟨W3,rfl⟩:=eqx wc;clear kop k35;go_upto_region 7 with(fail)
   obtain⟨S,HS9⟩:=zS fun w'=>Below w.heap.size w w'∧Blk w' w.heap.size 34 Q.toArray∧Blk w' G 66 X.toArray
   refine zrs S 29 (zq 0 25 [(25,true),(26,false),(27,true),(28,false)]) ((HS9.o _).mpr ⟨B3.drew,Q3.o,G3.o⟩) ?_;obtain⟨FX,AT,F0,F1,F2,F3,A0⟩:=zh7 (fun(w':World)(h:S w')=>qap ((HS9.o w').mp h).2.2 0 X zjq) (fun(w':World)(h:S w')=>qap (l:=Q) ((HS9.o w').mp h).2.1 1 (tokv R.tid (.slice Ac R.cavs.length cc) R.tag) (fun j u hu=>by rw[←HQ.o];exact qiy R _ _ j u hu)) (fun(w':World)(h:S w')=>(((HS9.o w').mp h).2.2.cell 3).trans X3.o) (fun(w':World)(h:S w')=>(((HS9.o w').mp h).2.2.cell 2).trans X2.o) (fun(w':World)(h:S w')=>(H.call ((HS9.o w').mp h).1).c4) (fun(w':World)(h:S w')=>(((HS9.o w').mp h).2.1.cell 0).trans AC.o) (zI 66 LX.o);refine qoc rfl rfl 66 (.tmp 6) rfl G 0 rfl X _ FX.o Tryz.underlying66 rfl A0.o ?_;refine zP ?_;obtain⟨W4,hW4,B4⟩:=zdr W3;rw[←hW4];clear hW4;obtain⟨A8,Q4,G4,Z4⟩:=zh4 (B3.trans (B4.mono B3.size)) (Q3.below B4.o Q3.lt) (G3.below B4.o G3.lt) (Z3.below B4.o Z3.lt);cases rv with
   |true=>
    iterate 12 (first|refine zsk ?_|refine zr1 ?_)
    iterate 12 (first|refine zsk ?_|refine zrb ?_)
    refine qr5 rfl rfl ⟨(HS9.o _).mpr ⟨A8.o,Q4.o,G4.o⟩,?_⟩;refine zP ?_;iterate 1 (refine zrb ?_)
    refine zw ?_;refine wp_store_row 66 (.tmp 4) (.tmp 47) rfl (w.heap.size+1) X.toArray rfl rfl 66 _ (Z4.o) (by simpa using A0.o) (by simp[LX.o]) (by simpa using OX.o) ?_;have zz:=(Z4.o).setRow X.toArray;obtain⟨ZZ,BB⟩:=zh2 zz (below_setRow (A8.o) (by omega:w.heap.size≤w.heap.size+1) X.toArray);have gx:=(G4.o).grown (qam _ (w.heap.size+1) X.toArray) (by intro e;injection e with e;exact AA.o e);have qx:=(Q4.o).grown (qam _ (w.heap.size+1) X.toArray) (by intro e;injection e with e;omega);refine⟨fun _=>(HS9.o _).mpr ⟨BB.o,qx,gx⟩,?_⟩;clear zz gx qx;refine zP ?_;iterate 1 (refine zrb ?_)
    refine qbf ?_;go_wp2_with fail
    have A2:=qap ZZ.o 0 X zjq;refine bodyPost_ret (qgu rfl rfl (run_loadVar_mid _ _ 0 _ X _ A2 Tryz.underlying66 rfl A0.o)) rfl ⟨y,?_,fun _=>HY.o,BB.o⟩;rw[qso HY.o AK.o,←A3.o];rfl
   |false=>
    by_cases hex:clk<ex
    ·
     have qx:(clk:Int)<ex:=zo;iterate 15 (refine zre rfl rfl (fun w1 hS=>by have g0:=F0.o w1 hS;have g1:=F1.o w1 hS;have g2:=F2.o w1 hS;rw[A1.o]at g2;clear hS;go_simp;try rfl) ?_)
     refine qoc rfl rfl 31 (.tmp 62) rfl w.heap.size 1 rfl (tokv R.tid (.slice Ac R.cavs.length cc) R.tag) _ AT.o Tryz.underlying31 rfl AG.o ?_;refine zP ?_;iterate 8 (refine zre rfl rfl (fun w1 hS=>by have g2:=F2.o w1 hS;rw[A1.o]at g2;have g3:=F3.o w1 hS;clear hS;go_simp;try rfl) ?_)
     refine zw ?_;go_simp;refine(qko R.op tr clk (R.tid,R.cavs,R.tag) Ac R.cavs.length cc W4 ((HR.cavs.call (B3.o)).call B4.o) HR.cavc (by have:=AB.o;omega) AF.o).mono ?_;rintro e w5 ⟨rfl,b5⟩;have B5:=zh1 (B4.trans (b5.mono B4.size));clear b5;obtain⟨AN,Q5,G5,Z5⟩:=zh4 (B3.trans (B5.mono B3.size)) (Q3.below B5.o Q3.lt) (G3.below B5.o G3.lt) (Z3.below B5.o Z3.lt);refine⟨(HS9.o _).mpr ⟨AN.o,Q5.o,G5.o⟩,zput ?_⟩;iterate 1 (refine zrb ?_)
     refine zw ?_;refine wp_store_row 66 (.tmp 4) (.tmp 47) rfl (w.heap.size+1) X.toArray rfl rfl 66 _ (Z5.o) (by simpa using A0.o) (by simp[LX.o]) (by simpa using OX.o) ?_;have zz:=(Z5.o).setRow X.toArray;obtain⟨ZZ,BB⟩:=zh2 zz (below_setRow (AN.o) (by omega:w.heap.size≤w.heap.size+1) X.toArray);have gx:=(G5.o).grown (qam _ (w.heap.size+1) X.toArray) (by intro e;injection e with e;exact AA.o e);have qx:=(Q5.o).grown (qam _ (w.heap.size+1) X.toArray) (by intro e;injection e with e;omega);refine⟨fun _=>(HS9.o _).mpr ⟨BB.o,qx,gx⟩,?_⟩;clear zz gx qx;refine zP ?_;iterate 1 (refine zrb ?_)
     refine qbf ?_;go_wp2_with fail
     have A2:=qap ZZ.o 0 X zjq;refine bodyPost_ret (qgu rfl rfl (run_loadVar_mid _ _ 0 _ X _ A2 Tryz.underlying66 rfl A0.o)) rfl ⟨y,?_,fun _=>HY.o,BB.o⟩;rw[(qsq A1.o HY.o AQ.o AK.o (by rw[A1.o,AL.o];exact hex) A6.o),←A3.o];rfl
    have qx:¬(clk:Int)<ex:=zo;iterate 14 (refine zre rfl rfl (fun w1 hS=>by have g0:=F0.o w1 hS;have g1:=F1.o w1 hS;have g2:=F2.o w1 hS;rw[A1.o]at g2;clear hS;go_simp;try rfl) ?_)
    iterate 10 (refine zsk ?_)
    refine qr5 rfl rfl ⟨(HS9.o _).mpr ⟨A8.o,Q4.o,G4.o⟩,?_⟩;refine zP ?_;iterate 1 (refine zrb ?_)
    refine zw ?_;refine wp_store_row 66 (.tmp 4) (.tmp 47) rfl (w.heap.size+1) X.toArray rfl rfl 66 _ (Z4.o) (by simpa using A0.o) (by simp[LX.o]) (by simpa using OX.o) ?_;have zz:=(Z4.o).setRow X.toArray;obtain⟨ZZ,BB⟩:=zh2 zz (below_setRow (A8.o) (by omega:w.heap.size≤w.heap.size+1) X.toArray);have gx:=(G4.o).grown (qam _ (w.heap.size+1) X.toArray) (by intro e;injection e with e;exact AA.o e);have qx:=(Q4.o).grown (qam _ (w.heap.size+1) X.toArray) (by intro e;injection e with e;omega);refine⟨fun _=>(HS9.o _).mpr ⟨BB.o,qx,gx⟩,?_⟩;clear zz gx qx;refine zP ?_;iterate 1 (refine zrb ?_)
    refine qbf ?_;go_wp2_with fail
    have A2:=qap ZZ.o 0 X zjq;refine bodyPost_ret (qgu rfl rfl (run_loadVar_mid _ _ 0 _ X _ A2 Tryz.underlying66 rfl A0.o)) rfl ⟨y,?_,fun _=>HY.o,BB.o⟩;rw[(qsp HY.o (by rw[A1.o,AL.o];exact hex)),←A3.o];rfl
theorem qst(c:Cfg)(s:Sta)(L:Loc)(col:Col)(k g:Nat)(css:List (List Value))(R:Req)(cav leafv:Value)(own ro ex rv:Value)(tn:Int)(w:World)(hk:Kind k)(hs:s.Ok)(h:Mdl w col k g c s L css)
 (ht:R.tag.length=32)(hid:R.id<4294967296):
 Zc 128 #[.pointer (some ⟨g,0,none⟩),.agg (reqv R cav leafv).toArray,.agg #[.int .i64 tn,ro,ex,rv]] w fun e w'=>e=.returned (.int .i64 (qml s R tn))∧Zb w w':=by
 have rest:=qdk R cav leafv ht;have r0:(reqv R cav leafv)[0]? =some (.int .i64 R.op):=rfl;obtain⟨Q,hQ⟩:=xeq (reqv R cav leafv);rw[hQ]at rest r0 ⊢;obtain⟨W0,hW0⟩:=eqx ((w.alloc (.cells Q.toArray 34)).alloc (.cells #[.int .i64 tn,ro,ex,rv] 66));have q0:=zNb hW0;have z0:W0.cell? ⟨w.heap.size+1,0,none⟩=some (.int .i64 tn):=by
  have h:=Blk.new (w.alloc (.cells Q.toArray 34)) 66 #[.int .i64 tn,ro,ex,rv];rw[qar]at h;rw[hW0];exact(h.cell 0).trans rfl
 have b0:=zMb hW0;obtain⟨op,hop⟩:=xeq R.op;obtain⟨i,hi⟩:=xeq R.id;obtain⟨ng,hng⟩:=xeq s.gras.length;have gb:ng≤64:=by rw[←hng];exact hs.grasn
 have ib:i<4294967296:=by rw[←hi];exact hid
 have c9:=h.c9;rw[hng]at c9;have k0:W0.cell? ⟨w.heap.size,0,none⟩=some (.int .i64 op):=(q0.cell 0).trans (by rw[tA3,←hop];exact r0);have k35:W0.cell? ⟨w.heap.size,35,none⟩=some (.int .i64 R.tree):=(q0.cell 35).trans (by rw[tA3];exact rest 0);have k36:W0.cell? ⟨w.heap.size,36,none⟩=some (.int .i64 R.tenant):=(q0.cell 36).trans (by rw[tA3];exact rest 1);have k40:W0.cell? ⟨w.heap.size,40,none⟩=some (.int .u32 (i:Int)):=(q0.cell 40).trans (by rw[tA3,←hi];exact rest 5);obtain⟨H,A3,Z0,B0,HS,K0,A8,A9⟩:=zh8 h hW0 z0 b0 hs k0 k35 k36;obtain⟨A5,C9,A6,HI,A4,H0⟩:=zh6 k40 (qai c9 b0) hop hi hng (h.call b0);obtain⟨av,hav⟩:=xeq (qml s R tn);rw[hav];have A2:=zh1 hav;clear hav;rw[hW0]at k0;clear h hW0 q0 z0 b0 hs hop hi hng k35 k36 k40 c9 rest r0 ht hid hQ;have u1:IntKind.u64.wrap (i:Int)=(i:Int):=tBa _ zo;have u2:IntKind.u64.wrap (ng:Int)=(ng:Int):=tBa _ zo;go_enter Tryz.func128,Tryz.ntmps128
 by_cases hm:op=6∨op=10∨op=12
 ·
  have ha:qml s R tn=R.tenant:=by
   unfold qml;rw[A6.o,if_pos hm]
  have HA:=zh1 ha;have k36:=A9.o;rw[A3.o]at k36;rcases hm with rfl|rfl|rfl
  · go_wp2
    go_ret
    exact⟨by rw[←A2.o,HA.o];rfl,by rw[←A3.o];exact B0.o⟩
  · go_wp2
    go_ret
    exact⟨by rw[←A2.o,HA.o];rfl,by rw[←A3.o];exact B0.o⟩
  go_wp2
  go_ret
  exact⟨by rw[←A2.o,HA.o];rfl,by rw[←A3.o];exact B0.o⟩
 have e6:(op==6)=false:=by simp;omega
 have e10:(op==10)=false:=by simp;omega
 have e12:(op==12)=false:=by simp;omega
 have HM:=zh1 hm;clear hm;go_upto_region 3 with(fail)
 rw[←A3.o];clear k0;obtain⟨S,HS9⟩:=zS fun w'=>Zb W0 w'
 refine zrs S 17 (zq 0 17 []) ((HS9.o _).mpr ((tA5 _ _).drew)) ?_;obtain⟨F0,F1,F2⟩:=zh3 (zF HS9 K0.o) (zF HS9 A5.o) (zF HS9 C9.o);have rest:qml s R tn=(if op=11∧i<ng then((s.gras[i]?).getD ⟨0,0,0,false⟩).tenant else if qdl op then(match s.tree R.tree with|some t=>t.tenant|none=>tn) else tn):=by
  unfold qml;rw[A6.o,if_neg HM.o,HI.o];by_cases h11:op=11
  · rw[if_pos h11]
    by_cases hl:i<ng
    · rw[if_pos ⟨h11,hl⟩,tA7 (by rw[A4.o];exact hl)]
      rfl
    rw[if_neg zo,List.getElem?_eq_none (by rw[A4.o];omega),if_neg (by rw[h11];decide)]
  rw[if_neg h11,if_neg (c:=op=11∧i<ng) zo];rfl
 have A0:=zh1 rest;clear rest;by_cases h11:op=11
 ·
  subst h11;iterate 15 (refine zr3 ?_)
  by_cases hl:i<ng
  ·
   have q1:(i:Int)<ng:=zo;have q0:(0:Int)≤i:=zo;iterate 2 (refine zrb ?_)
   refine qbf ?_;clear HS9 F0 F1 F2 u1 u2 e6 e10 e12;obtain⟨x,hx⟩:∃x,s.gras[i]? =some x:=⟨_,tA7 (by rw[A4.o];exact hl)⟩;have ha:qml s R tn=x.tenant:=by rw[A0.o,if_pos ⟨rfl,hl⟩,hx];rfl
   have HA:=zh1 ha;obtain⟨W1,hW1⟩:=eqx W0.drew;have B1:=zh1 (show Zb W0 W1 by rw[hW1];exact(tA5 _ _).drew);rw[←hW1];clear hW1 ha;obtain⟨A1,XC⟩:=zh2 (B0.trans (B1.mono B0.size)) (fun(w':World)(hb:Zb w w')=>(show w'.cell? ⟨L.gg,i*4,none⟩=some (.int .i64 x.tenant) from(H.call hb).st.gras.cell ((qnp (j:=0) hx zo).trans rfl)));clear hx hl;go_upto_region 4 with(fail)
   obtain⟨S,HS9⟩:=zS fun w'=>Zb W1 w'
   refine zrs S 11 (zq 0 11 []) ((HS9.o _).mpr ((tA5 _ _).drew)) ?_;obtain⟨F1,F2,F3⟩:=zh3 (zF HS9 (qai A5.o B1.o)) (zF HS9 (qai C9.o B1.o)) (fun(w':World)(h:S w')=>XC.o w' (A1.trans (((HS9.o w').mp h).mono A1.size)));iterate 11 (refine zre rfl rfl (fun w1 hS=>by have g1:=F1.o w1 hS;have g2:=F2.o w1 hS;have g3:=F3.o w1 hS;clear hS;go_simp;try rfl) ?_)
   refine qbf ?_;clear HS9 F1 F2 F3;go_wp2
   go_ret
   exact⟨by rw[←A2.o,HA.o];rfl,A1.drew⟩
  have q1:¬(i:Int)<ng:=zo;iterate 2 (refine zrb ?_)
  refine qbf ?_;clear HS9 F0 F1 F2 u1 u2 e6 e10 e12;have ha:qml s R tn=tn:=by
   rw[A0.o,if_neg zo];rfl
  have HA:=zh1 ha;obtain⟨W1,hW1⟩:=eqx W0.drew;have B1:=zh1 (show Zb W0 W1 by rw[hW1];exact(tA5 _ _).drew);rw[←hW1];clear hW1 ha;have A1:=zh1 (B0.trans (B1.mono B0.size));have k0:=qai K0.o B1.o;have z0:=qai Z0.o B1.o;go_wp2_with fail
  refine zca (qdn 11 W1) ?_;rw[show qdl 11=false from rfl];go_wp2
  go_ret
  exact⟨by rw[←A2.o,HA.o];rfl,A1.o⟩
 have e11:(op==11)=false:=by simp;omega
 iterate 15 (first|refine zsk ?_|refine zr1 ?_)
 iterate 2 (refine zrb ?_)
 refine qbf ?_;clear HS9 F0 F1 F2 u1 u2 e6 e10 e12 e11;obtain⟨W1,hW1,B1⟩:=zdr W0;rw[←hW1];clear hW1;have A1:=zh1 (B0.trans (B1.mono B0.size));have k0:=qai K0.o B1.o;have z0:=qai Z0.o B1.o;have k35:=qai A8.o B1.o;obtain⟨HN,H1⟩:=zh2 h11 (H0.call B1.o);clear h11;go_wp2_with fail
 refine zca (qdn op W1) ?_;cases htb:qdl op with
 |false=>
  have ha:qml s R tn=tn:=by
   rw[A0.o,if_neg (by have:=HN.o;omega),htb];rfl
  have HA:=zh1 ha;clear ha htb;go_wp2
  go_ret
  exact⟨by rw[←A2.o,HA.o];rfl,A1.o⟩
 |true=>
  have A7:=zh1 htb;clear htb;cases htr:s.tree R.tree with
  |none=>
   have ha:qml s R tn=tn:=by
    rw[A0.o,if_neg (by have:=HN.o;omega),A7.o,htr];rfl
   have HA:=zh1 ha;clear ha;have CT:=zh1 (qqk R.tree c s L col k g css W1 HS.o H1.o htr);clear htr;go_wp2_with fail
   refine CT.o.mono ?_;rintro e w' ⟨rfl,rfl⟩;go_wp2
   go_ret
   exact⟨by rw[←A2.o,HA.o];rfl,A1.o⟩
  |some t=>
   have ha:qml s R tn=t.tenant:=by
    rw[A0.o,if_neg (by have:=HN.o;omega),A7.o,htr];rfl
   have HA:=zh1 ha;clear ha;obtain⟨n,hn,ht,h0,h4⟩:∃n:Nat,R.tree=n∧s.tres[n]? =some t∧t.state≠0∧t.state≠4:=by
    unfold Sta.tree at htr;split at htr
    ·
     rename_i h0
     split at htr
     · cases htr
     rename_i x hx
     split at htr
     · cases htr
     rename_i hne
     injection htr with htr;subst htr;exact⟨R.tree.toNat,by omega,hx,fun e=>hne (.inl e),fun e=>hne (.inr e)⟩
    cases htr
   have CT:=zh1 (qql n t c s L col k g css W1 HS.o H1.o ht h0 h4);obtain⟨-,Ad,cd,Al,cl,Aq,cq,-,hcell,-,-,-⟩:=H1.st.tree HS.o ht;have e1:=hcell 1 (.int .i64 t.tenant) rfl;rw[hn]at k35;clear htr hn ht h0 h4 hcell;go_wp2_with fail
   refine CT.o.mono ?_;rintro e w' ⟨rfl,rfl⟩;go_wp2
   go_ret
   exact⟨by rw[←A2.o,HA.o];rfl,A1.o⟩
theorem qsu(role op:Int)(w:World):
 Zc 185 #[.int .i64 role,.int .i64 op] w fun e w'=>e=.returned (.bool (qmj role op))∧w=w':=by
 by_cases h4:role=4
 ·
  subst h4;go_enter Tryz.func185,Tryz.ntmps185
  go_wp2
  all_goals
   go_ret
   exact⟨qdb (by simp_all [qmj]),rfl⟩
 by_cases h3:role=3
 ·
  subst h3;go_enter Tryz.func185,Tryz.ntmps185
  go_wp2
  all_goals
   go_ret
   exact⟨qdb (by simp_all [qmj]),rfl⟩
 by_cases h2:role=2
 ·
  subst h2;go_enter Tryz.func185,Tryz.ntmps185
  go_wp2
  all_goals
   go_ret
   exact⟨qdb (by simp_all [qmj]),rfl⟩
 by_cases h1:role=1
 ·
  subst h1;go_enter Tryz.func185,Tryz.ntmps185
  go_wp2
  all_goals
   go_ret
   exact⟨qdb (by simp_all [qmj]),rfl⟩
 have e:qmj role op=false:=by
  unfold qmj;rw[decide_eq_false h4,decide_eq_false (by omega:¬(3≤role∧role≤4)),decide_eq_false (by omega:¬(2≤role∧role≤4)),decide_eq_false (by omega:¬(1≤role∧role≤4))];rfl
 rw[e];go_enter Tryz.func185,Tryz.ntmps185
 go_wp2
 all_goals
  go_ret
  exact⟨rfl,rfl⟩
theorem qsv(role op own asked:Int)(w:World):
 Zc 127 #[.int .i64 role,.int .i64 op,.int .i64 own,.int .i64 asked] w fun e w'=>∃v,e=.returned v∧Zb w w'∧(qmk role op own asked=true→v=.nilIface)∧
  (qmk role op own asked=false→∃g,v=.iface 218 (.pointer (some ⟨g,0,none⟩))∧Blk w' g 224 #[.int .i64 op,.int .i64 role,.int .i64 21]∧w.heap.size≤g):=by
 obtain⟨b,hb⟩:=xeq (qmj role op);have hd:qmk role op own asked=(b&&(own==asked||role==4)):=by rw[←hb];rfl
 rw[hd];have HB:=zh1 hb;clear hb hd;go_enter Tryz.func127,Tryz.ntmps127
 go_wp2_with fail
 refine(qsu role op w).mono ?_;rintro e w1 ⟨rfl,rfl⟩;rw[HB.o];cases b with
 |false=>
  go_wp2
  go_ret
  exact⟨_,rfl,qah (tA5 _ _) _,fun h=>(by cases h),fun _=>⟨_,rfl,Blk.new _ _ _,tA4 _⟩⟩
 |true=>
  by_cases h1:own=asked
  · have e1:(own==asked)=true:=by simpa using h1
    go_wp2
    go_ret
    exact⟨_,rfl,tA5 _ _,fun _=>rfl,fun h=>(by rw[e1]at h;cases h)⟩
  have e1:(own==asked)=false:=by simpa using h1
  by_cases h4:role=4
  · have e4:(role==4)=true:=by simpa using h4
    go_wp2
    go_ret
    exact⟨_,rfl,tA5 _ _,fun _=>rfl,fun h=>(by rw[e1,e4]at h;cases h)⟩
  have e4:(role==4)=false:=by simpa using h4
  go_wp2
  go_ret
  exact⟨_,rfl,qah (tA5 _ _) _,fun h=>(by rw[e1,e4]at h;cases h),fun _=>⟨_,rfl,Blk.new _ _ _,tA4 _⟩⟩
end Go.Proofs.YthomgopipiomhaaGreatDoor

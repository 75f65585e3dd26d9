/- Lemmas. -/
import Derived.Test.YthomgopipiomhaaGreatDoorBMF02
import Derived.Deep.AppendSrc
namespace Go.Proofs.YthomgopipiomhaaGreatDoor
open Go.RowKit
set_option linter.unusedVariables false
set_option linter.unusedSimpArgs false
set_option maxRecDepth 100000
set_option maxHeartbeats 32000000
variable {k fuel id i j g B base clock d p n m size b:Nat}{K:Act→World→Prop}{w w':World}{a:Act}{o o':Oper}{l rest:List Oper}{Q:Exit→Act→World→Prop}{bs:List Nat}{v u:Value}{x:Int}{P:Program}{cs xs news sp:List Value}{A:Option Addr}{tx e' tt rt gt:TypeId}
def qiw (R:Req):Nat × List Nat:=
 if (qi2 R).1=0 then(if (qda R.tid R.cavs R.tag).1=0 then(0,txt (qda R.tid R.cavs R.tag).2++(qi2 R).2) else((qda R.tid R.cavs R.tag).1,[]))
 else((qi2 R).1,[])
theorem Tryz.req_info:(Tryz.prog.info? 34).map (·.size)=some 48:=by kernel_rfl
theorem qix(R:Req)(cav leafv:Value)(ht:R.tag.length=32):(reqv R cav leafv).length=48:=by
 unfold reqv;rw[tA6,tBi,qdf _ _ _ ht];rfl
theorem qiy(R:Req)(cav leafv:Value):∀j u,(tokv R.tid cav R.tag)[j]? =some u→(reqv R cav leafv)[1+j]? =some u:=by
 intro j u h;have hl:j<(tokv R.tid cav R.tag).length:=by
  rcases Nat.lt_or_ge j (tokv R.tid cav R.tag).length with h1|h1
  · exact h1
  rw[List.getElem?_eq_none h1]at h;cases h
 unfold reqv;rw[tBm (by simp;omega),show 1+j=j+1 from by omega,tBc];exact h
theorem qiz(R:Req):(qi2 R).2.length≤4294967296:=by
 have hg:∀l acc,(qi1 R l acc).2=[]∨((qi1 R l acc).2=acc++l.flatMap (fldB R)∧(qi1 R l acc).1=0):=by
  intro l;induction l with
  |nil=>intro acc;right;simp[qi1]
  |cons f l ih=>
   intro acc;rw[qi1];split
   · rcases ih (acc++fldB R f) with h|⟨h,h0⟩
     · exact .inl h
     exact .inr ⟨by rw[h];simp,h0⟩
   exact .inl rfl
 unfold qi2;cases ho:fieldsOf R.op with
 |none=>simp
 |some l=>
  simp only;rcases hg l (be R.op.toNat 1) with h|⟨h,-⟩
  · rw[h];simp
  have:=qib R R.op.toNat l (fun f hf=>qi6 R.op l ho f hf) (qi8 R.op l ho).2.2 l.length;rw[List.take_length]at this;rw[h];exact this
theorem qj1(l:List Nat):(txt l).length≤2+l.length:=by
 unfold txt;rw[tA6,qaw,tBd];omega
theorem qj2(R:Req)(Ac:Option Addr)(cc:Nat)(Al:Option Addr)(cl:Nat)(w:World)(hR:R.Fit)(hleaf:Reads w w.heap.size 1 Al R.leaf.length (byv R.leaf))(hlc:R.leaf.length≤cl)(hc:cl≤maxLen)
 (hcav:Reads w w.heap.size 2 Ac R.cavs.length (cavv R.cavs))(hcc:R.cavs.length≤cc)(hcm:cc≤maxLen)(hid:R.tid<4294967296)(hln:∀x∈R.cavs,x.2<4294967296):
 Zc 124 #[.agg (reqv R (.slice Ac R.cavs.length cc) (.slice Al R.leaf.length cl)).toArray] w fun e w'=>∃v,e=.returned (.tuple #[v,.int .i64 ((qiw R).1:Int)])∧OwnB w' w.heap.size v (qiw R).2∧Zb w w':=by
 have hbody:=fun w' h=>qic R (.slice Ac R.cavs.length cc) Al cl w' hR h hlc hc
 have htok:=fun w' h=>qdj R.tid R.cavs Ac cc R.tag w' h hcc hcm hid hln hR.tag
 have hrt:=qiy R (.slice Ac R.cavs.length cc) (.slice Al R.leaf.length cl);have hlen:=qix R (.slice Ac R.cavs.length cc) (.slice Al R.leaf.length cl) hR.tag;have hlen2:=qdf R.tid (.slice Ac R.cavs.length cc) R.tag hR.tag;obtain⟨L,hL⟩:=xeq (reqv R (.slice Ac R.cavs.length cc) (.slice Al R.leaf.length cl));obtain⟨T,hT⟩:=xeq (tokv R.tid (.slice Ac R.cavs.length cc) R.tag);rw[hL]at hrt hlen ⊢;rw[hT]at hrt hlen2;simp only[hL]at hbody;simp only[hT]at htok;have hi1:(Tryz.prog.info? 34).map (·.size)=some L.length:=by rw[hlen];exact Tryz.req_info
 have hi2:(Tryz.prog.info? 31).map (·.size)=some T.length:=by rw[hlen2];exact Tryz.tok_info
 obtain⟨A3,A4,HB,HT,A5⟩:=zh5 hi1 hi2 hbody htok hrt;clear hi1 hi2 hL hT hlen hlen2 hbody htok hrt;have t0:Blk (w.alloc (.cells L.toArray 34)) w.heap.size 34 L.toArray:=Blk.new w _ _;have hrg:=qap t0 0 L zjq;have A0:=zh1 hrg;clear hrg;go_enter Tryz.func124,Tryz.ntmps124
 go_wp2_with (refine wpList_load_mid rfl 34 (.tmp 1) rfl w.heap.size 0 rfl L _ A0.o Tryz.underlying34 rfl A3.o ?_)
 refine(HB.o _ (hleaf.laid _)).mono ?_;rintro e w1 ⟨v1,rfl,hown1,hb1⟩;simp only[qar,Zb]at hown1 hb1;have hown1:OwnB w1 (w.heap.size+1) v1 (qi2 R).2:=hown1;have B1:Zb w w1:=((tA5 _ _).alloc (tA4 _) _).trans (hb1.mono zo);have t1:=t0.below hb1 zo;have hcav1:=hcav.call B1;clear hb1 A0 hcav hleaf t0;obtain⟨bw,hbw⟩:=xeq ((qi2 R).1);obtain⟨bb,hbb⟩:=xeq ((qi2 R).2);rw[hbw];rw[hbb]at hown1;have hbl:=qiz R;rw[hbb]at hbl;obtain⟨A1,A6⟩:=zh2 hbw hbb;clear hbw hbb;by_cases h0:bw=0
 ·
  subst h0;have hrg:=qap t1 1 T A5.o;have A0:=zh1 hrg;clear hrg;go_wp2_with (refine wpList_load_mid rfl 31 (.tmp 17) rfl w.heap.size 1 rfl T _ A0.o Tryz.underlying31 rfl A4.o ?_)
  refine(HT.o _ hcav1).mono ?_;rintro e w2 ⟨v2,rfl,hown2,hb2⟩;have hown2:OwnB w2 w1.heap.size v2 (qda R.tid R.cavs R.tag).2:=hown2;have B2:=B1.trans (hb2.mono B1.size);have hownb:=hown1.kept hb2;have htl:=qea R.tid R.cavs R.tag hR.tag;obtain⟨tw,htw⟩:=xeq ((qda R.tid R.cavs R.tag).1);obtain⟨tb,htb⟩:=xeq ((qda R.tid R.cavs R.tag).2);rw[htw];rw[htb]at hown2 htl;obtain⟨A2,A7⟩:=zh2 htw htb;clear htw htb A0 hown1 hcav1 hb2;by_cases h1:tw=0
  ·
   subst h1;obtain⟨At,nt,ct,rfl,ht1,ht2,hrt⟩:=hown2.sl;obtain⟨Ab,nb,cb,rfl,hb1,hb2,hrb⟩:=hownb.sl;have H:Hid (qiw R=(0,txt tb++bb)):=by
    unfold Hid qiw;rw[if_pos A1.o,if_pos A2.o,A7.o,A6.o]
   go_wp2_with fail
   refine(qd2 _).mono ?_;rintro e w3 ⟨rfl,hw3,hb3⟩;have B3:=B2.trans (hb3.mono B2.size);have hrt3:=hrt.call hb3;have hrb3:=hrb.call hb3;go_wp2_with fail
   refine(qd6 _ _ [] tb At nt ct _ hw3 zm (hrt.below hb3) ht1 ht2).mono ?_;rintro e w4 ⟨rfl,hw4,hb4,-⟩;have hrb4:=(hrb.below (hb3.trans hb4));have B4:=B3.trans (hb4.mono B2.size);rw[List.nil_append]at hw4;go_wp2_with fail
   have htx:=qj1 tb;refine(qd4 _ _ _ _ hw4 zo).mono ?_;rintro e w5 ⟨v5,rfl,hown5,hb5⟩;have hown5:OwnB w5 w4.heap.size v5 (txt tb):=hown5;have hrb5:=(hrb4.more (show w2.heap.size≤w4.heap.size from by have:=hb4.size;have:=hb3.size;omega)).call hb5;have B5:=B4.trans (hb5.mono B4.size);have hbl5:=qb4 hrb5;clear hw4 hw3 hrb4 hrb3 hrt3 hrb hrt hown2 hownb;go_wp2_with (at_builtin;refine qe2 rfl (.tmp 30) (.tmp 31) rfl w4.heap.size _ _ rfl hown5 Ab nb cb bb rfl hrb5 zo hb5.size ?_)
   intro v6 w6 hown6 hb6 hg6;obtain⟨HO,A8⟩:=zh2 (hown6.mono B4.size) (B5.trans (hb6.mono B4.size));clear hown6 hb6 hg6 hown5 hrb5 hb5 hb4 hb3;go_wp2
   go_ret2
   exact⟨_,by rw[H.o];rfl,by rw[H.o];exact HO.o,A8.o⟩
  have H:Hid (qiw R=(tw,[])):=by
   unfold Hid qiw;rw[if_pos A1.o,A2.o,if_neg h1]
  have hn:((tw:Int)==0)=false:=by simpa using h1
  have hn2:((tw:Int) != 0)=true:=by simpa using h1
  go_wp2
  go_ret2
  exact⟨_,by rw[H.o];rfl,by rw[H.o];exact OwnB.nil _ _,B2⟩
 have H:Hid (qiw R=(bw,[])):=by
  unfold Hid qiw;rw[A1.o,if_neg h0]
 have hn:((bw:Int)==0)=false:=by simpa using h0
 have hn2:((bw:Int) != 0)=true:=by simpa using h0
 go_wp2
 go_ret2
 exact⟨_,by rw[H.o];rfl,by rw[H.o];exact OwnB.nil _ _,B1⟩
def qj3 (a b:List Nat)(k:Nat):List Nat:=if k=0 then [] else if k=1 then a else a++b
def qj4 (key:List Nat)(c:Nat):List Nat:=(key++List.replicate (64 - key.length) 0).map fun x=>x^^^c
def mac (key b:List Nat):List Nat:=sha (qj4 key 92++sha (qj4 key 54++b))
def mapK (f:Nat→Nat)(L:List Nat)(k:Nat):List Nat:=(L.take k).map f++L.drop k
theorem qj5(f:Nat→Nat)(L:List Nat):mapK f L 0=L:=by simp[mapK]
theorem qj6(f:Nat→Nat)(L:List Nat):mapK f L L.length=L.map f:=by simp[mapK]
theorem qj7{L:List Nat}{x:Nat}(f:Nat→Nat)(h:L[k]? =some x):mapK f L k=(L.take k).map f++x::L.drop (k+1):=by
 obtain⟨hk,rfl⟩:=tA8 h;unfold mapK;rw[List.drop_eq_getElem_cons hk]
theorem qj8{L:List Nat}{x:Nat}(f:Nat→Nat)(h:L[k]? =some x):(byv (mapK f L k)).toArray[k]? =some (.int .u8 (x:Int)):=by
 obtain⟨hk,_⟩:=tA8 h;rw[qj7 f h];exact qf3 (by rw[tBl,tBd];omega)
theorem qj9{L:List Nat}{x:Nat}(f:Nat→Nat)(h:L[k]? =some x):(byv (mapK f L k)).toArray.setIfInBounds k (.int .u8 (f x:Nat))=(byv (mapK f L (k+1))).toArray:=by
 obtain⟨hk,_⟩:=tA8 h;rw[qj7 f h];have e:=qf1 ((L.take k).map f) (L.drop (k+1)) x (f x);rw[show ((L.take k).map f).length=k by rw[tBl,tBd];omega]at e;rw[e];unfold mapK;rw[List.take_add_one,h];simp
theorem qja(bs:List Nat):(sha bs).length=32:=by simp[sha,qf9]
theorem qjb(bs:List Nat):∀b∈sha bs,b<256:=by
 intro b hb;simp only[sha,qf9,List.mem_map]at hb;obtain⟨_,_,rfl⟩:=hb;exact Nat.mod_lt _ zdc
theorem qjc(key:List Nat)(h:∀b∈key,b<256)(c:Nat)(hc:c<256):∀b∈qj4 key c,b<256:=by
 intro b hb;simp only[qj4,List.mem_map,tBg,List.mem_replicate]at hb;obtain⟨x,hx,rfl⟩:=hb;rcases hx with hx|⟨_,rfl⟩
 · exact Nat.xor_lt_two_pow (n:=8) (h x hx) hc
 exact Nat.xor_lt_two_pow (n:=8) zdc hc
theorem qjd(key:List Nat)(h:key.length≤64)(c:Nat):(qj4 key c).length=64:=by simp[qj4];omega
theorem qje(g n1 c1 n2 c2:Nat)(A1 A2:Option Addr)(b1 b2:List Nat)(w:World)(h0:w.cell? ⟨g,0,none⟩=some (.slice A1 n1 c1))(h1:w.cell? ⟨g,1,none⟩=some (.slice A2 n2 c2))
 (hr1:Reads w w.heap.size 1 A1 n1 (byv b1))(hr2:Reads w w.heap.size 1 A2 n2 (byv b2))(hn:n1+n2≤8589934592):
 Zc 142 #[.slice (some ⟨g,0,none⟩) 2 2] w fun e w'=>∃v,e=.returned v∧OwnB w' w.heap.size v (b1++b2)∧Zb w w':=by
 have l1:=qb4 hr1;have l2:=qb4 hr2;obtain⟨L1,L2,R1,R2,H0,H1⟩:=zh6 l1 l2 hr1 hr2 h0 h1;clear l1 l2 hr1 hr2 h0 h1;go_enter Tryz.func142,Tryz.ntmps142
 go_wp2_with fail
 go_loopw [3,8] (fun v i wr=>∃k:Nat,k≤2∧i=.int .i64 k∧OwnB wr w.heap.size v (qj3 b1 b2 k)∧Zb w wr) (fun v i _=>2 - (intOf i).toNat)
 case atStart=>exact⟨0,by omega,rfl,OwnB.nil _ _,tA5 _ _⟩
 case round=>
  obtain⟨k,hk,rfl,hown,hb⟩:=hrel;have hk3:k=0∨k=1∨k=2:=zo;rcases hk3 with rfl|rfl|rfl
  ·
   have hc:=qai H0.o hb;have hr:=R1.call hb;have hl:(qj3 b1 b2 0).length+n1≤140737488355328:=by simp[qj3];omega
   have hsz:=hb.size;go_wp2_with (at_builtin;refine qe2 rfl _ _ rfl w.heap.size _ _ rfl hown A1 n1 c1 b1 rfl hr hl hsz ?_)
   intro v' w' ho' hb' _;go_wp2
   go_roundw
   case rel=>exact⟨1,by omega,rfl,by simpa [qj3] using ho',hb.trans hb'⟩
   case measure=>simp[intOf]
  ·
   have hc:=qai H1.o hb;have hr:=R2.call hb;have hl:(qj3 b1 b2 1).length+n2≤140737488355328:=by simp[qj3];have:=L1.o;omega
   have hsz:=hb.size;go_wp2_with (at_builtin;refine qe2 rfl _ _ rfl w.heap.size _ _ rfl hown A2 n2 c2 b2 rfl hr hl hsz ?_)
   intro v' w' ho' hb' _;go_wp2
   go_roundw
   case rel=>exact⟨2,by omega,rfl,by simpa [qj3] using ho',hb.trans hb'⟩
   case measure=>simp[intOf]
  go_wp2
  go_ret
  exact⟨_,rfl,by simpa [qj3] using hown,hb⟩
theorem qjf(nk ck n cc:Nat)(Ak A:Option Addr)(key b:List Nat)(w:World)(hk:Reads w w.heap.size 1 Ak nk (byv key))(hb:Reads w w.heap.size 1 A n (byv b))(hk2:∀x∈key,x<256)(hb2:∀x∈b,x<256)
 (hnk:nk≤64)(hn:n≤4294967296)(ht:Tabs w):
 Zc 216 #[.slice Ak nk ck,.slice A n cc] w fun e w'=>e=.returned (.agg (byv (mac key b)).toArray)∧Zb w w':=by
 have lk:=qb4 hk;have lb:=qb4 hb;have qk:¬(nk:Int)>64:=zo;obtain⟨K0,hK0⟩:=xeq (key++List.replicate (64 - nk) 0);have lK:K0.length=64:=by rw[←hK0];simp;omega
 have HKb:∀x∈K0,x<256:=by
  rw[←hK0];intro x hx;simp only[tBg,List.mem_replicate]at hx;rcases hx with hx|⟨_,rfl⟩
  · exact hk2 x hx
  decide
 obtain⟨Hk,Hb,Hk2,Hb2,Ht,A2,A4,Hlk⟩:=zh8 hk hb hk2 hb2 ht hK0 lK lk;obtain⟨Hlb,AC⟩:=zh2 lb HKb;clear hk hb hk2 hb2 ht hK0 lK lk lb HKb;go_enter Tryz.func216,Tryz.ntmps216
 go_upto_region 5 with(fail)
 obtain⟨W1,hW1⟩:=eqx (((w.alloc (.cells zLD 29)).alloc (.cells zLH 349)).alloc (.cells zLH 349));rw[←hW1];have Z1:=zNd hW1;have I1:Blk W1 (w.heap.size+1) 349 (byv (List.replicate 64 0)).toArray:=by
  have h:=(Blk.new (w.alloc (.cells zLD 29)) 349 zLH).alloc (.cells zLH 349);rw[qar]at h;rw[hW1];exact h
 have O1:Blk W1 (w.heap.size+1+1) 349 (byv (List.replicate 64 0)).toArray:=by
  have h:=Blk.new ((w.alloc (.cells zLD 29)).alloc (.cells zLH 349)) 349 zLH;rw[qar,qar]at h;rw[hW1];exact h
 have B1:=zMc hW1;have L1:w.heap.size+1+1<W1.heap.size:=O1.lt;obtain⟨AW,AD,AE,AF,A5⟩:=zh5 hW1 Z1 I1 O1 B1;clear hW1 Z1 I1 O1 B1;have hpos:∀W2,Zb w W2→0<(byv key).length→∃ad,Ak=some ad∧∀j v,(byv key)[j]? =some v→W2.cell? (ad.add j)=some v:=by
  intro W2 hb h0;rw[qat,Hlk.o]at h0;obtain⟨ad,h1,h2,h3⟩:=(Hk.below hb).2 h0;exact⟨ad,h1,h3⟩
 have Hpos:=zh1 hpos;clear hpos;refine wp_region_lit ?_;iterate 2 (refine qbj rfl ⟨?_,?_,?_⟩;rotate_left;(focus(go_simp;(try go_bits);try rfl));simp only[Act.put,tA0,tA1,tA2])
 refine qez rfl (.tmp 16) (.tmp 17) 23 23 rfl 5 zk zk _ _ _ _ _ _ rfl rfl (w.heap.size+1) 0 (byv (List.replicate 64 0)) 349 AE.o (byv key) (by rw[qat,Hlk.o];show nk=min nk 64;omega) (fun h0=>⟨rfl,Hpos.o _ A5.o h0⟩) (by rw[qat,qat,Hlk.o,List.length_replicate];omega) (qau _) ?_;intro w2 HG2 hG2;rw[show (byv key).length=nk by rw[qat,Hlk.o]];refine zP ?_;have i2:Blk w2 (w.heap.size+1) 349 (byv K0).toArray:=by
  have h:=HG2.o;rw[qey,Hlk.o,A2.o]at h;exact h
 have o2:=AF.grown hG2 (by intro e;injection e with e;omega);have z2:=AD.grown hG2 (by intro e;injection e with e;omega);have b2:=A5.grown hG2 zo (by intro g hg;injection hg with hg;omega);have s2:=hG2.size;obtain⟨AG,AH,AI,A0⟩:=zh4 i2 o2 z2 b2;clear i2 o2 z2 b2 hG2 HG2;go_upto_region 6 with(fail)
 refine wp_region_lit ?_;iterate 2 (refine qbj rfl ⟨?_,?_,?_⟩;rotate_left;(focus(go_simp;(try go_bits);try rfl));simp only[Act.put,tA0,tA1,tA2])
 refine qez rfl (.tmp 19) (.tmp 20) 23 23 rfl 5 zk zk _ _ _ _ _ _ rfl rfl (w.heap.size+1+1) 0 (byv (List.replicate 64 0)) 349 AH.o (byv key) (by rw[qat,Hlk.o];show nk=min nk 64;omega) (fun h0=>⟨rfl,Hpos.o _ A0.o h0⟩) (by rw[qat,qat,Hlk.o,List.length_replicate];omega) (qau _) ?_;intro w3 HG3 hG3;rw[show (byv key).length=nk by rw[qat,Hlk.o]];refine zP ?_;have o3:Blk w3 (w.heap.size+1+1) 349 (byv K0).toArray:=by
  have h:=HG3.o;rw[qey,Hlk.o,A2.o]at h;exact h
 have i3:=AG.grown hG3 (by intro e;injection e with e;omega);have z3:=AI.grown hG3 (by intro e;injection e with e;omega);have b3:=A0.grown hG3 zo (by intro g hg;injection hg with hg;omega);obtain⟨AJ,AK,AL,AM⟩:=zh4 i3 o3 z3 b3;clear i3 o3 z3 b3 hG3 HG3;go_wp2_with fail
 go_loopw [22] (fun i wr=>∃k:Nat,k≤64∧i=.int .i64 k∧Blk wr (w.heap.size+1) 349 (byv (mapK (· ^^^54) K0 k)).toArray∧Blk wr (w.heap.size+1+1) 349 (byv (mapK (· ^^^92) K0 k)).toArray∧Blk wr w.heap.size 29 zLD∧Zb w wr) (fun i _=>64 - (intOf i).toNat)
 case atStart=>exact⟨0,by omega,rfl,by rw[qj5];exact AJ.o,by rw[qj5];exact AK.o,AL.o,AM.o⟩
 case round=>
  obtain⟨k,hk,rfl,hi,ho,hz,hb⟩:=hrel;by_cases hk64:k<64
  ·
   have qk:(k:Int)<64:=zo;obtain⟨x,hx⟩:∃x,K0[k]? =some x:=⟨_,tA7 (by rw[A4.o];exact hk64)⟩;have lx:x<256:=AC.o x (tB2 hx);have ci:=hi.cell k;have co:=ho.cell k;rw[qj8 _ hx]at ci co;have fi:=hi.frozen k;have fo:=ho.frozen k;obtain⟨y1,hy1,oy1⟩:∃y:Nat,x^^^54=y∧bits .xor .u8 (x:Int) 54=y:=⟨_,rfl,u8_xor_nat x 54 lx zdc⟩;obtain⟨y2,hy2,oy2⟩:∃y:Nat,x^^^92=y∧bits .xor .u8 (x:Int) 92=y:=⟨_,rfl,u8_xor_nat x 92 lx zdc⟩;obtain⟨Hi,Ho,Hz,Hbb,Hx,Hy1,Hy2⟩:=zh7 hi ho hz hb hx hy1 hy2;have ne1:w.heap.size+1≠w.heap.size+1+1:=zo;clear hi ho hz hb hx hy1 hy2;go_wp2
   go_roundw
   case rel=>
    refine⟨k+1,by omega,by go_num,?_,?_,?_,?_⟩
    · rw[←qj9 (· ^^^54) Hx.o,Hy1.o]
      exact(Hi.set_ k _).far (by show w.heap.size+1≠w.heap.size+1+1;omega) _
    · rw[←qj9 (· ^^^92) Hx.o,Hy2.o]
      exact(Ho.far (by show w.heap.size+1+1≠w.heap.size+1;omega) _).set_ k _
    · exact(Hz.far (by show w.heap.size≠w.heap.size+1;omega) _).far (by show w.heap.size≠w.heap.size+1+1;omega) _
    exact(Hbb.setCell (by show w.heap.size≤w.heap.size+1;omega) _).setCell (by show w.heap.size≤w.heap.size+1+1;omega) _
   case measure=>simp[intOf];omega
  have qk:¬(k:Int)<64:=zo;have hk':k=K0.length:=by rw[A4.o];omega
  have hP:∀c,K0.map (fun x=>x^^^c)=qj4 key c:=by
   intro c;unfold qj4;rw[Hlk.o,A2.o]
  rw[hk',qj6,hP]at hi ho;obtain⟨P1,hP1⟩:=xeq (qj4 key 54);obtain⟨P2,hP2⟩:=xeq (qj4 key 92);rw[hP1]at hi;rw[hP2]at ho;have lP1:P1.length=64:=by rw[←hP1];exact qjd key (by rw[Hlk.o];exact hnk) _
  have lP2:P2.length=64:=by rw[←hP2];exact qjd key (by rw[Hlk.o];exact hnk) _
  have bP1:∀x∈P1,x<256:=by rw[←hP1];exact qjc key Hk2.o _ zdc
  have bP2:∀x∈P2,x<256:=by rw[←hP2];exact qjc key Hk2.o _ zdc
  obtain⟨W4,rfl⟩:=eqx wr;obtain⟨W5,hW5⟩:=eqx (W4.alloc (.cells #[.slice (some ⟨w.heap.size+1,0,none⟩) 64 64,.slice A n cc] 23));have l5:W4.heap.size+1=W5.heap.size:=by rw[hW5];simp
  have x0:W5.cell? ⟨W4.heap.size,0,none⟩=some (.slice (some ⟨w.heap.size+1,0,none⟩) 64 64):=by rw[hW5,qak];rfl
  have x1:W5.cell? ⟨W4.heap.size,1,none⟩=some (.slice A n cc):=by rw[hW5,qak];rfl
  have b5:Zb w W5:=by rw[hW5];exact qah hb _
  have i5:Blk W5 (w.heap.size+1) 349 (byv P1).toArray:=by rw[hW5];exact hi.alloc _
  have o5:Blk W5 (w.heap.size+1+1) 349 (byv P2).toArray:=by rw[hW5];exact ho.alloc _
  have z5:Blk W5 w.heap.size 29 zLD:=by rw[hW5];exact hz.alloc _
  have r5:=qfb i5 (p:=0) zo;rw[lP1,List.drop_zero]at r5;have J1:=qje W4.heap.size 64 64 n cc _ _ P1 b W5 x0 x1 r5 (Hb.call b5) zo;obtain⟨AN,A7,A8,A9,AO,AP,HlP1,HlP2⟩:=zh8 J1 b5 o5 z5 hP1 hP2 lP1 lP2;obtain⟨HbP1,HbP2,A1⟩:=zh3 bP1 bP2 (Ht.below b5 Ht.size);have l45:=hb.size;have AQ:=zh1 hW5;clear hi ho hz hb hP hk' hk64 J1 r5 i5 o5 z5 b5 x0 x1 hP1 hP2 lP1 lP2 bP1 bP2 hW5;go_wp2_with fail
  rw[←AQ.o];refine AN.o.mono ?_;rintro e w6 ⟨v6,rfl,own6,b6⟩;obtain⟨A6,n6,c6,rfl,nc6,-,r6⟩:=own6.sl;have ln6:=qb4 r6;rw[tA6,HlP1.o,Hlb.o]at ln6;have S1:=qfn n6 c6 A6 (P1++b) w6 (by intro x hx;rcases List.mem_append.1 hx with h|h;exact HbP1.o x h;exact Hb2.o x h) r6 nc6 zo (A1.below b6 A1.size);obtain⟨AR,A3⟩:=zh2 S1 b6;clear S1 b6 own6 r6;go_wp2_with fail
  refine zcb AR.o fun w7 b7=>?_
  obtain⟨D,hD⟩:=xeq (sha (P1++b));have lD:(byv D).length=32:=by rw[←hD,qat,qja]
  have bD:∀x∈D,x<256:=by rw[←hD];exact qjb _
  have oD:=qau D;obtain⟨V,hV⟩:=xeq (byv D);rw[hD];rw[hV]at lD oD ⊢;obtain⟨HD,HlD,HbD,HoD,HV⟩:=zh5 hD lD bD oD hV;clear hD lD bD oD hV;have HI:=zh1 (zI 29 HlD.o);have z8:=Blk.new w7 29 zLD;obtain⟨Hz8,Hb7⟩:=zh2 z8 b7;clear z8 b7;go_upto_region 14 with(refine zst Hz8.o HI.o (by simp[HlD.o]) HoD.o ?_)
  obtain⟨w8,hw8⟩:=eqx ((w7.alloc (.cells zLD 29)).setRow w7.heap.size V.toArray);rw[←hw8];have d8:Blk w8 w7.heap.size 29 V.toArray:=by rw[hw8];exact Hz8.setRow _
  have b78:Zb w7 w8:=by rw[hw8];exact below_setRow ((tA5 _ _).alloc (tA4 _) _) (tA4 _) _
  have b58:Zb W5 w8:=(A3.trans (Hb7.mono A3.size)).trans (b78.mono (tB1 A3.size Hb7.size));have o8:=A8.below b58 A8.lt;have z8:=A9.below b58 A9.lt;have b8:Zb w w8:=A7.trans (b58.mono A7.size);obtain⟨w9,hw9⟩:=eqx ((w8.alloc (.cells #[.slice (some ⟨w.heap.size+1+1,0,none⟩) 64 64,.slice (some ⟨w7.heap.size,0,none⟩) 32 32] 23)).drew);have s89:w8.heap.size+1=w9.heap.size:=by rw[hw9,qe4,qar]
  have x0:w9.cell? ⟨w8.heap.size,0,none⟩=some (.slice (some ⟨w.heap.size+1+1,0,none⟩) 64 64):=by rw[hw9];exact(qak w8 _ _ 0).trans rfl
  have x1:w9.cell? ⟨w8.heap.size,1,none⟩=some (.slice (some ⟨w7.heap.size,0,none⟩) 32 32):=by rw[hw9];exact(qak w8 _ _ 1).trans rfl
  have b89:Zb w8 w9:=by rw[hw9];exact((tA5 _ w8).alloc (tA4 _) _).drew
  have o9:=o8.below b89 o8.lt;have z9:=z8.below b89 z8.lt;have d9:=d8.below b89 d8.lt;have ro:=qfb o9 (p:=0) zo;rw[HlP2.o,List.drop_zero]at ro;rw[←HV.o]at d9;have rd:=qfb d9 (p:=0) zo;have lD32:D.length=32:=by rw[←qat,HV.o,HlD.o]
  rw[lD32,List.drop_zero]at rd;have J2:=qje w8.heap.size 64 64 32 32 _ _ P2 D w9 x0 x1 ro rd zo;have T9:=(A1.below b58 A1.size).below b89 (tB1 A1.size b58.size);obtain⟨AS,AA,Hb8,Hb89,Hz9,Hw9,Hl32⟩:=zh7 J2 T9 b8 b89 z9 hw9 lD32;clear J2 T9 b8 b89 z9 hw9 o9 d9 ro rd x0 x1 o8 z8 d8 b58 b78 hw8 lD32;obtain⟨S,HS⟩:∃S:World→Prop,Hid (∀w',S w'):=⟨fun _=>True,fun _=>trivial⟩;refine zrs S 2 [(0,false),(1,false),(2,true),(3,true),(4,true),(5,true)] (HS.o _) ?_;iterate 2 (refine zrb ?_)
  refine zw ?_;go_simp;rw[←Hw9.o];refine zw ?_;go_simp;refine AS.o.mono ?_;rintro e w10 ⟨v10,rfl,own10,b10⟩;obtain⟨AT,n10,c10,rfl,nc10,-,r10⟩:=own10.sl;have ln10:=qb4 r10;rw[tA6,HlP2.o,Hl32.o]at ln10;have S2:=qfn n10 c10 AT (P2++D) w10 (by intro x hx;rcases List.mem_append.1 hx with h|h;exact HbP2.o x h;exact HbD.o x h) r10 nc10 zo (AA.below b10 AA.size);obtain⟨AU,Hb10⟩:=zh2 S2 b10;clear S2 b10 own10 r10;refine zP ?_;refine zw ?_;go_simp;refine zcb AU.o fun w11 b11=>?_
  have hm:sha (P2++D)=mac key b:=by unfold mac;rw[←HD.o,←AO.o,←AP.o]
  rw[hm];have lM:(byv (mac key b)).length=32:=by rw[qat];exact qja _
  have oM:=qau (mac key b);obtain⟨M,hM⟩:=xeq (byv (mac key b));rw[hM]at lM oM ⊢;refine zP ?_;have z11:=(Hz9.below Hb10.o Hz9.lt).below b11 (tB0 Hz9.lt Hb10.size);have AB:=zh1 (zI 29 lM);have b12:Zb w w11:=((Hb8.trans (Hb89.mono Hb8.size)).trans (Hb10.mono (tB1 Hb8.size Hb89.size))).trans (b11.mono (tB1 (tB1 Hb8.size Hb89.size) Hb10.size));refine zw ?_;refine wp_store_row 29 (.tmp 4) (.tmp 45) rfl w.heap.size M.toArray rfl rfl 29 _ z11 (by simpa using AB.o) (by simp[lM]) (by simpa using oM) ?_;refine⟨fun h=>absurd h zo,?_⟩;refine qbf ?_;go_wp2_with fail
  have z12:=z11.setRow M.toArray;have AV:=qap z12 0 M zjq;refine zrt AV zu29 AB.o ⟨by rw[hM],below_setRow b12 (tA4 _) _⟩
section
open Go
section
variable {P : Program} {ops : Array Oper} {Q : Exit → Act → World → Prop} {md : Region.Mode} {S : World → Prop} {n : Nat}
def qjg (md:Region.Mode)(ops:Array Oper)(n:Nat):List (Nat × Bool)→Array Bool→Option (Array Bool)
 |[],listed=>some listed
 |(i,false)::r,listed=>if decide (i<n)&&(Region.ready md ops listed).contains i&&Region.free md ops listed i then qjg md ops n r (listed.setIfInBounds i true) else none
 |(i,true)::r,listed=>if decide (i<n)&&(Region.ready md ops listed==[i]) then qjg md ops n r (listed.setIfInBounds i true) else none
def qjh (P:Program)(ops:Array Oper)(Q:Exit→Act→World→Prop)(S:World→Prop)(K:Act→World→Prop):List (Nat × Bool)→Act→World→Prop
 |[],a,w=>K a w
 |(i,false)::r,a,w=>∃o v,ops[i]? =some o∧YieldsIf P ops S o v a∧qjh P ops Q S K r (a.put o.dst v) w
 |(i,true)::r,a,w=>wpOp P ops Q i (fun a' w'=>S w'∧qjh P ops Q S K r a' w') a w
theorem qji{L':Array Bool}(hsel:Region.noSelect ops=true)(hQ:∀c a d v w,Q (.panic c) (a.put d v) w→Q (.panic c) a w)(ht:Tails md ops n)
 (hK:∀a w,S w→HeadInv md ops n L'→K a w→wpAnyS P md ops Q S n fuel L' a w):
 ∀(r:List (Nat × Bool)) (listed:Array Bool) (a:Act) (w:World),HeadInv md ops n listed→S w→qjg md ops n r listed=some L'→qjh P ops Q S K r a w→wpAnyS P md ops Q S n (r.length+fuel) listed a w:=by
 intro r;induction r with
 |nil=>
  intro listed a w inv hS ho h;simp only[qjg,Option.some.injEq]at ho;subst ho;simpa using hK a w hS inv h
 |cons x r ih=>
  obtain⟨i,b⟩:=x;intro listed a w inv hS ho h;rw[tBi,Nat.add_right_comm];cases b with
  |false=>
   simp only[qjg,Option.ite_none_right_eq_some,Bool.and_eq_true,decide_eq_true_eq]at ho;obtain⟨⟨⟨hin,hr⟩,hf⟩,ho⟩:=ho;obtain⟨o,v,hi,hy,h⟩:=h;have hr':i∈Region.ready md ops listed:=by simpa using hr
   exact qb6 hi (Region.noSelect_spec hsel) (fun c a w=>hQ c a o.dst v w) ht hin (r.length+fuel) listed a w inv (Region.free_spec hi hf) hr' hy hS (ih _ _ _ (inv.set hr' hin) hS ho h)
  |true=>
   simp only[qjg,Option.ite_none_right_eq_some,Bool.and_eq_true,decide_eq_true_eq,beq_iff_eq]at ho;obtain⟨⟨hin,hr⟩,ho⟩:=ho;have hr':i∈Region.ready md ops listed:=by rw[hr];simp
   refine⟨fun h0=>(by rw[hr]at h0;cases h0),fun j hj=>?_⟩;obtain rfl:j=i:=by rw[hr]at hj;simpa using hj
   exact wpOp_mono (fun a' w' h'=>⟨fun _=>h'.1,ih _ _ _ (inv.set hr' hin) h'.1 ho h'.2⟩) h
def puts:Act→List Nat→List Value→Act
 |a,d::ds,v::vs=>puts (a.put (some d) v) ds vs
 |a,_,_=>a
inductive OTree where
 |done
 |read (i:Nat) (t:OTree)
 |one (i:Nat) (t:OTree)
 |two (i:Nat) (t:OTree) (j:Nat) (u:OTree)
def qjj (md:Region.Mode)(ops:Array Oper)(n:Nat)(L1:Array Bool):Nat→OTree→Array Bool→Bool
 |0,.done,listed=>listed==L1
 |m+1,.read i t,listed=>decide (i<n)&&(Region.ready md ops listed).contains i&&Region.free md ops listed i&&qjj md ops n L1 m t (listed.setIfInBounds i true)
 |m+1,.one i t,listed=>decide (i<n)&&(Region.ready md ops listed==[i])&&qjj md ops n L1 m t (listed.setIfInBounds i true)
 |m+1,.two i t j u,listed=>decide (i<n)&&decide (j<n)&&(Region.ready md ops listed==[i,j])&&qjj md ops n L1 m t (listed.setIfInBounds i true)&&qjj md ops n L1 m u (listed.setIfInBounds j true)
 |_,_,_=>false
def qjk (P:Program)(ops:Array Oper)(Q:Exit→Act→World→Prop)(S:World→Prop)(K:Act→World→Prop):OTree→Act→World→Prop
 |.done,a,w=>K a w
 |.read i t,a,w=>∃o v,ops[i]? =some o∧YieldsIf P ops S o v a∧qjk P ops Q S K t (a.put o.dst v) w
 |.one i t,a,w=>wpOp P ops Q i (fun a' w'=>S w'∧qjk P ops Q S K t a' w') a w
 |.two i t j u,a,w=>wpOp P ops Q i (fun a' w'=>S w'∧qjk P ops Q S K t a' w') a w∧wpOp P ops Q j (fun a' w'=>S w'∧qjk P ops Q S K u a' w') a w
theorem qjl{L1:Array Bool}(hsel:Region.noSelect ops=true)(hQ:∀c a d v w,Q (.panic c) (a.put d v) w→Q (.panic c) a w)(ht:Tails md ops n)
 (hK:∀a w,S w→HeadInv md ops n L1→K a w→wpAnyS P md ops Q S n fuel L1 a w):
 ∀(m:Nat) (t:OTree) (listed:Array Bool) (a:Act) (w:World),HeadInv md ops n listed→S w→qjj md ops n L1 m t listed=true→qjk P ops Q S K t a w→wpAnyS P md ops Q S n (m+fuel) listed a w:=by
 intro m;induction m with
 |zero=>
  intro t listed a w inv hS ho h;cases t with
  |done=>
   simp only[qjj,beq_iff_eq]at ho;subst ho;simpa using hK a w hS inv h
  |_=>simp[qjj]at ho
 |succ m ih=>
  intro t listed a w inv hS ho h;rw[Nat.add_right_comm];cases t with
  |done=>simp[qjj]at ho
  |read i t=>
   simp only[qjj,Bool.and_eq_true,decide_eq_true_eq]at ho;obtain⟨⟨⟨hin,hr⟩,hf⟩,ho⟩:=ho;obtain⟨o,v,hi,hy,h⟩:=h;have hr':i∈Region.ready md ops listed:=by simpa using hr
   exact qb6 hi (Region.noSelect_spec hsel) (fun c a w=>hQ c a o.dst v w) ht hin (m+fuel) listed a w inv (Region.free_spec hi hf) hr' hy hS (ih _ _ _ _ (inv.set hr' hin) hS ho h)
  |one i t=>
   simp only[qjj,Bool.and_eq_true,decide_eq_true_eq,beq_iff_eq]at ho;obtain⟨⟨hin,hr⟩,ho⟩:=ho;have hr':i∈Region.ready md ops listed:=by rw[hr];simp
   refine⟨fun h0=>(by rw[hr]at h0;cases h0),fun j hj=>?_⟩;obtain rfl:j=i:=by rw[hr]at hj;simpa using hj
   exact wpOp_mono (fun a' w' h'=>⟨fun _=>h'.1,ih _ _ _ _ (inv.set hr' hin) h'.1 ho h'.2⟩) h
  |two i t j u=>
   simp only[qjj,Bool.and_eq_true,decide_eq_true_eq,beq_iff_eq]at ho;obtain⟨⟨⟨⟨hin,hjn⟩,hr⟩,ho1⟩,ho2⟩:=ho;refine⟨fun h0=>(by rw[hr]at h0;cases h0),fun q hq=>?_⟩;have hq':=hq;rw[hr]at hq';simp only[List.mem_cons,List.not_mem_nil,or_false]at hq';rcases hq' with rfl|rfl
   · exact wpOp_mono (fun a' w' h'=>⟨fun _=>h'.1,ih _ _ _ _ (inv.set hq hin) h'.1 ho1 h'.2⟩) h.1
   exact wpOp_mono (fun a' w' h'=>⟨fun _=>h'.1,ih _ _ _ _ (inv.set hq hjn) h'.1 ho2 h'.2⟩) h.2
def qjm (P:Program)(ops:Array Oper)(Q:Exit→Act→World→Prop)(S:World→Prop)(n:Nat)(ds:List Nat)(t:OTree)(post:List (Nat × Bool))(a:Act)(w:World):Prop:=
 ∃R:List Value→World→Prop,qjk P ops Q S (fun a' w'=>∃vs,a'=puts a ds vs∧R vs w') t a w∧∀vs w',S w'→R vs w'→qb9 P ops Q S n post (puts a ds vs) w'
theorem qjn(S:World→Prop)(n:Nat)(ds:List Nat)(pre:List (Nat × Bool))(m:Nat)(t:OTree)(post:List (Nat × Bool))(L0 L1:Array Bool)
 (hm:P.follows .mixedOrders=true)(hlen:(pre.length+(m+post.length)==ops.size)=true)(hsel:Region.noSelect ops=true)(ht:qbd .any ops n=true)
 (ho:qjg .any ops n pre (Array.replicate ops.size false)=some L0)(h1:qjj .any ops n L1 m t L0=true)
 (hp:qb7 .any ops n post L1=true)(hQ:∀c a d v w,Q (.panic c) (a.put d v) w→Q (.panic c) a w)(hS:S w.drew)
 (h:qjh P ops Q S (qjm P ops Q S n ds t post) pre a w.drew):(Code.region id ops true).wp P Q a w:=by
 have ht':Tails .any ops n:=by
  unfold qbd at ht;simp only[Bool.or_eq_true,beq_iff_eq,Bool.and_eq_true,decide_eq_true_eq]at ht;exact ht.imp (fun h=>h) fun ⟨⟨a,b⟩,c⟩=>⟨a,b,c⟩
 have hl:pre.length+(m+post.length)=ops.size:=by simpa using hlen
 refine wp_region_any hm (qb5 (n:=n) (S:=S) _ _ _ _ ?_);rw[←hl];rw[hl];have key:=qji (P:=P) (Q:=Q) (S:=S) (K:=qjm P ops Q S n ds t post) (L':=L0) (fuel:=m+post.length) hsel hQ ht' (fun a w hS inv hk=>by
  obtain⟨R,k1,k3⟩:=hk;refine qjl hsel hQ ht' ?_ m t L0 a w inv hS h1 k1;rintro a' w' hS' inv' ⟨vs,rfl,hR⟩;exact qba qbb hsel hQ ht' post L1 _ _ inv' hS' hp (k3 vs w' hS' hR))
  pre (Array.replicate ops.size false) a w.drew qbc hS ho h
 rw[hl]at key;exact key
theorem qjo(h:K a w):qjk P ops Q S K .done a w:=h
theorem qjp{t:OTree}(hi:nth l i=some o)(hw:Region.wanted o (yielded l.toArray a.tmps)=true)
 (h:∃v,(∀w,S w→(execOp a.eval o).run P w=.ok (.value v) w)∧qjk P l.toArray Q S K t (a.put o.dst v) w):qjk P l.toArray Q S K (.read i t) a w:=
 h.elim fun v hv=>⟨o,v,(qb8 l i).symm.trans hi,.inl ⟨hw,hv.1⟩,hv.2⟩
theorem qjq(hi:nth l i=some o)(hw:Region.wanted o (yielded l.toArray a.tmps)=true)
 (h:o.wp P a w K Q):wpOp P l.toArray Q i K a w:=by
 unfold wpOp;simp only[(qb8 l i).symm.trans hi,hw,if_true];exact .inl h
theorem qjr{t:OTree}(hi:nth l i=some o)(hw:Region.wanted o (yielded l.toArray a.tmps)=true)
 (h:o.wp P a w (fun a' w'=>S w'∧qjk P l.toArray Q S K t a' w') Q):qjk P l.toArray Q S K (.one i t) a w:=qjq hi hw h
theorem qjs{t u:OTree}(hi:nth l i=some o)(hw:Region.wanted o (yielded l.toArray a.tmps)=true)
 (hj:nth l j=some o')(hw':Region.wanted o' (yielded l.toArray a.tmps)=true)
 (h:o.wp P a w (fun a' w'=>S w'∧qjk P l.toArray Q S K t a' w') Q)(h':o'.wp P a w (fun a' w'=>S w'∧qjk P l.toArray Q S K u a' w') Q):qjk P l.toArray Q S K (.two i t j u) a w:=⟨qjq hi hw h,qjq hj hw' h'⟩
theorem qjt(h:K a w):qjh P ops Q S K [] a w:=h
theorem qju{r:List (Nat × Bool)}(hi:nth l i=some o)(hw:Region.wanted o (yielded l.toArray a.tmps)=true)
 (h:∃v,(∀w,S w→(execOp a.eval o).run P w=.ok (.value v) w)∧qjh P l.toArray Q S K r (a.put o.dst v) w):qjh P l.toArray Q S K ((i,false)::r) a w:=
 h.elim fun v hv=>⟨o,v,(qb8 l i).symm.trans hi,.inl ⟨hw,hv.1⟩,hv.2⟩
theorem qjv{r:List (Nat × Bool)}(hi:nth l i=some o)(hw:Region.wanted o (yielded l.toArray a.tmps)=true)
 (h:o.wp P a w (fun a' w'=>S w'∧qjh P l.toArray Q S K r a' w') Q):qjh P l.toArray Q S K ((i,true)::r) a w:=by
 show wpOp P l.toArray Q i _ a w;unfold wpOp;simp only[(qb8 l i).symm.trans hi,hw,if_true];exact .inl h
end
section
variable {P : Program} {Q : Exit → Act → World → Prop} {S : World → Prop} {K : Act → World → Prop} {l : List Oper} {i : Nat} {r : List (Nat × Bool)} {a a' : Act} {w : World} {o : Oper} {v : Value} {t : OTree}
theorem zjs(h2:qjh P l.toArray Q S K r a' w) (hi:nth l i=some o:=by rfl) (hw:Region.wanted o (yielded l.toArray a.tmps)=true:=by rfl) (h1:∀w,S w→(execOp a.eval o).run P w=.ok (.value v) w:=by(intro w1 hS;go_simp;(try go_bits);try rfl)) (he:a.put o.dst v=a':=by(simp only[Act.put,tA0,tA1,tA2];exact rfl)):qjh P l.toArray Q S K ((i,false)::r) a w:=qju hi hw ⟨v,h1,he.symm▸h2⟩
theorem ztr(h2:qjk P l.toArray Q S K t a' w) (hi:nth l i=some o:=by rfl) (hw:Region.wanted o (yielded l.toArray a.tmps)=true:=by rfl) (h1:∀w,S w→(execOp a.eval o).run P w=.ok (.value v) w:=by(intro w1 hS;go_simp;(try go_bits);try rfl)) (he:a.put o.dst v=a':=by(simp only[Act.put,tA0,tA1,tA2];exact rfl)):qjk P l.toArray Q S K (.read i t) a w:=qjp hi hw ⟨v,h1,he.symm▸h2⟩
end
end
def qjw:List Nat:=[116,111,107,101,110]
theorem qjx:∀x∈qjw,x<256:=by decide
def qjy (root:List Nat)(id:Nat):List Nat:=mac root (qjw++be id 4)
theorem qjz(k b:List Nat):(mac k b).length=32:=qja _
theorem qk1(k b:List Nat):∀x∈mac k b,x<256:=qjb _
def Lies (w:World)(g:Nat)(C:Array Value):Prop:=∃fr,w.heap[g]? =some (.cells C 5 fr)
theorem Lies.lt{C:Array Value}(h:Lies w g C):g<w.heap.size:=by
 obtain⟨fr,h⟩:=h;rcases Nat.lt_or_ge g w.heap.size with hlt|hge
 · exact hlt
 rw[Array.getElem?_eq_none hge]at h;cases h
theorem Lies.below{C:Array Value}(h:Lies w g C)(hb:Below B w w')(hg:g<B):Lies w' g C:=by
 obtain⟨fr,h⟩:=h;exact⟨fr,(hb.block g hg).trans h⟩
theorem Lies.reads{l:List Nat}(h:Lies w g (byv l).toArray):Reads w w.heap.size 1 (some ⟨g,0,none⟩) l.length (byv l):=by
 refine⟨by simp[byv],fun _=>⟨_,rfl,h.lt,fun j u hu=>?_⟩⟩;obtain⟨fr,h⟩:=h;rw[Addr.add_mid,cell_of_row w g _ _ _ _ h];simpa using hu
theorem qk2(w:World)(g:Nat)(C:Array Value)(n c:Nat)(h:w.heap[g]? =some (.cells C 5 (0,0))):
 ∃w',(convert 23 23 (.slice (some ⟨g,0,none⟩) n c)).run Tryz.prog w=.ok (.slice (some ⟨g,0,none⟩) n c) w'∧w.grownBy w' (some g)∧Lies w' g C:=by
 have hsh:w.shape? g=some (5,C.size):=by
  unfold World.shape?;rw[h]
 refine⟨w.freeze ⟨g,C.size,none⟩ 1,?_,⟨rfl,rfl,rfl,?_,?_⟩,?_⟩
 · simp[convert,run_underlying Tryz.underlying23,run_underlying Tryz.underlying5,markStringish,hsh]
 · simp[World.freeze]
 · intro i hi hne
   unfold World.freeze;rw[if_neg zdc];simp only[Array.getElem?_modify];rw[if_neg (fun e=>hne (by rw[e]))]
 unfold Lies World.freeze;rw[if_neg zdc];simp only[Array.getElem?_modify,if_true,h,Option.map_some];exact⟨_,rfl⟩
theorem qk3(x:Operand)(ho:o.op=.convert 23 23 x)(g n c:Nat)(hx:a.eval x=.slice (some ⟨g,0,none⟩) n c)
 (C:Array Value)(h:w.heap[g]? =some (.cells C 5 (0,0)))
 (k:∀w',w.grownBy w' (some g)→Lies w' g C→K (a.put o.dst (.slice (some ⟨g,0,none⟩) n c)) w'):o.wp Tryz.prog a w K Q:=by
 obtain⟨w',h1,h2,h3⟩:=qk2 w g C n c h;unfold Oper.wp execOp;simp only[ho,hx,Sem.run_bind,Sem.run_pure,Result.andThen_ok,h1];exact k w' h2 h3
theorem OwnB.grown(h:OwnB w base v bs)(hg:w.grownBy w' (some g))(hlt:g<base):OwnB w' base v bs:=
 tB3 h hg (.inr fun e=>by have:=(World.ownsRow.lt h g e).1;omega)
theorem qk4(root:List Nat)(id:Nat)(w:World)(hl:root.length=32)(hr:∀x∈root,x<256)(hid:id<4294967296)(ht:Tabs w):
 Zc 192 #[.agg (byv root).toArray,.int .u32 id] w fun e w'=>e=.returned (.agg (tokv id (.slice none 0 0) (qjy root id)).toArray)∧Zb w w':=by
 have lR:(byv root).length=32:=by rw[qat];exact hl
 obtain⟨V,hV⟩:=xeq (byv root);rw[hV]at lR ⊢;obtain⟨W0,hW0⟩:=eqx ((w.alloc (.cells V.toArray 29)).alloc (.cells zLT 31));have k0:=zNb hW0;have z0:=zNc hW0;have b0:=zMb hW0;have u0:IntKind.u64.wrap (id:Int)=id:=by rw[IntKind.wrap_u64];omega
 have e4:qb0 4=4:=rfl;obtain⟨A7,HV,A1,Ht,Hr,Hl⟩:=zh6 lR hV hW0 ht hr hl;clear lR hV hW0 ht hr hl;go_enter Tryz.func192,Tryz.ntmps192
 go_wp2_with fail
 rw[←A1.o];refine(qd2 W0).mono ?_;rintro e w1 ⟨rfl,hw1,hb1⟩;have lW:w.heap.size+1<W0.heap.size:=z0.lt;have k1:=k0.below hb1 k0.lt;have z1:=z0.below hb1 z0.lt;have b1:=b0.trans (hb1.mono b0.size);clear k0 z0 b0 hb1;go_wp2_with fail
 refine(qd1 _ _ id 4 [] w1 hw1 zo zm).mono ?_;rintro e w2 ⟨rfl,hw2,hb2,-⟩;rw[e4,List.nil_append]at hw2;have k2:=k1.below hb2 zo;have z2:=z1.below hb2 lW;have b2:=b1.trans (hb2.mono zo);clear k1 z1 b1 hb2 hw1;go_wp2_with fail
 obtain⟨S,HS⟩:∃S:World→Prop,Hid (∀w',S w'):=⟨fun _=>True,fun _=>trivial⟩;refine qjn S 10 [13,14,16] [(0,false),(1,false),(4,false)] 3 (.two 2 (.two 3 (.one 5 .done) 5 (.one 3 .done)) 5 (.one 2 (.one 3 .done))) [(6,true),(7,true),(8,true),(9,false),(10,true)] #[true,true,false,false,true,false,false,false,false,false,false] #[true,true,true,true,true,true,false,false,false,false,false] zk rfl zk zk zk zk zk (fun _ _ d _ _ h=>by cases d<;>exact h) (HS.o _) ?_;iterate 3 (refine zjs ?_)
 refine qjt ?_;have hwd:Wri w2.drew W0.heap.size W0.heap.size (be id 4):=hw2.kept_call (tA5 _ _).drew;have bd:Zb w2 w2.drew:=(tA5 _ _).drew;have hl4:(be id 4).length≤140737488355328:=by rw[qaw];omega
 clear hw2;refine⟨fun vs w'=>∃g v,vs=[.slice (some ⟨g,0,none⟩) 5 5,.slice (some ⟨g,0,none⟩) 5 5,v]∧Reads w' w'.heap.size 1 (some ⟨g,0,none⟩) 5 (byv qjw)∧OwnB w' w2.heap.size v (be id 4)∧Zb w2 w',?_,?_⟩
 ·
  refine qjs rfl rfl rfl rfl ?_ ?_
  ·
   go_simp;refine⟨HS.o _,?_⟩;obtain⟨w3,hw3⟩:=eqx ((w2.alloc (.cells (byv qjw).toArray 5)).drew);have e3:w3.heap[w2.heap.size]? =some (.cells (byv qjw).toArray 5 (0,0)):=by rw[hw3];exact heap_alloc_new w2 _
   have b3:Zb w2 w3:=by rw[hw3];exact((tA5 _ _).alloc (tA4 _) _).drew
   have s3:w3.heap.size=w2.heap.size+1:=by rw[hw3,qe4,qar]
   have h3:=hwd.kept_call (w1:=w3) ⟨b3.os,b3.tape,b3.output,b3.size,b3.block⟩;have E3:=zh1 hw3;change qjk _ _ _ _ _ _ _ ((w2.alloc (.cells (byv qjw).toArray 5)).drew);rw[←E3.o];clear hw3;refine qjs rfl rfl rfl rfl ?_ ?_
   ·
    refine qk3 (.tmp 13) rfl w2.heap.size 5 5 rfl _ e3 ?_;intro w4 g4 l4;refine⟨HS.o _,?_⟩;refine zP ?_;refine qjr rfl rfl ?_;go_simp;have b4:Zb w2 w4:=b3.grown g4 zo (by intro g hg;injection hg with hg;omega);have h4:Wri w4 W0.heap.size W0.heap.size (be id 4):=hwd.kept_call (w1:=w4) ⟨b4.os,b4.tape,b4.output,b4.size,b4.block⟩;refine(qd4 _ _ _ _ h4 hl4).mono ?_;rintro e w5 ⟨v,rfl,ho,hb⟩;refine⟨HS.o _,qjo ⟨[.slice (some ⟨w2.heap.size,0,none⟩) 5 5,.slice (some ⟨w2.heap.size,0,none⟩) 5 5,v],rfl,w2.heap.size,v,rfl,(l4.below hb l4.lt).reads,?_,?_⟩⟩
    · have:=(show OwnB w5 w4.heap.size v (be id 4) from ho).mono (base':=w2.heap.size) (by have:=g4.size;omega)
      exact this
    exact((b3.grown g4 zo (by intro g hg;injection hg with hg;omega))).trans (hb.mono (by have:=g4.size;omega))
   go_simp;refine(qd4 _ _ _ _ h3 hl4).mono ?_;rintro e w4 ⟨v,rfl,ho,hb⟩;refine⟨HS.o _,?_⟩;refine zP ?_;refine qjr rfl rfl ?_;refine qk3 (.tmp 13) rfl w2.heap.size 5 5 rfl _ ((hb.block _ zo).trans e3) ?_;intro w5 g5 l5;refine⟨HS.o _,qjo ⟨[.slice (some ⟨w2.heap.size,0,none⟩) 5 5,.slice (some ⟨w2.heap.size,0,none⟩) 5 5,v],rfl,w2.heap.size,v,rfl,l5.reads,?_,?_⟩⟩
   · exact((show OwnB w4 w3.heap.size v (be id 4) from ho).grown g5 zo).mono zo
   exact(b3.trans (hb.mono zo)).grown g5 (by have:=hb.size;omega) (by intro g hg;injection hg with hg;omega)
  go_simp;refine(qd4 _ _ _ _ hwd hl4).mono ?_;rintro e w3 ⟨v,rfl,ho,hb⟩;have hb':Zb w2 w3:=⟨hb.os,hb.tape,hb.output,hb.size,hb.block⟩;have ho':OwnB w3 w2.heap.size v (be id 4):=ho;refine⟨HS.o _,?_⟩;refine zP ?_;refine qjr rfl rfl ?_;go_simp;refine⟨HS.o _,?_⟩;have e4:(w3.alloc (.cells (byv qjw).toArray 5)).heap[w3.heap.size]? =some (.cells (byv qjw).toArray 5 (0,0)):=heap_alloc_new w3 _;refine qjr rfl rfl ?_;refine qk3 (.tmp 13) rfl w3.heap.size 5 5 rfl _ e4 ?_;intro w5 g5 l5;refine⟨HS.o _,qjo ⟨[.slice (some ⟨w3.heap.size,0,none⟩) 5 5,.slice (some ⟨w3.heap.size,0,none⟩) 5 5,v],rfl,w3.heap.size,v,rfl,l5.reads,?_,?_⟩⟩
  · have h4:OwnB (w3.alloc (.cells (byv qjw).toArray 5)) w2.heap.size v (be id 4):=ho'.alloc _
    refine tB3 h4 g5 (.inr fun e=>?_);have:=(World.ownsRow.lt ho' _ e).2;omega
  exact(hb'.alloc hb'.size _).grown g5 (by have:=hb'.size;simp only[qar];omega) (by intro g hg;injection hg with hg;have:=hb'.size;omega)
 rintro vs w4 - ⟨g,v,rfl,r4,o4,b4⟩;simp only[puts,Act.put,tA0,tA1,tA2];obtain⟨A4,n4,c4,rfl,nc4,-,rv⟩:=o4.sl;have ln4:=qb4 rv;rw[qaw]at ln4;obtain⟨w5,hw5⟩:=eqx (w4.alloc (.cells #[.slice (some ⟨g,0,none⟩) 5 5,.slice A4 n4 c4] 23));have x0:w5.cell? ⟨w4.heap.size,0,none⟩=some (.slice (some ⟨g,0,none⟩) 5 5):=by rw[hw5];exact(qak w4 _ _ 0).trans rfl
 have x1:w5.cell? ⟨w4.heap.size,1,none⟩=some (.slice A4 n4 c4):=by rw[hw5];exact(qak w4 _ _ 1).trans rfl
 have b5:=zMa hw5;have J:=qje w4.heap.size 5 5 n4 c4 _ _ qjw (be id 4) w5 x0 x1 (r4.call b5) (rv.call b5) zo;have A8:=zh1 ln4;clear ln4;have k5:=(k2.below b4 k2.lt).below b5 (tB0 k2.lt b4.size);have z5:=(z2.below b4 z2.lt).below b5 (tB0 z2.lt b4.size);have b25:=(b2.trans (b4.mono b2.size)).trans (b5.mono (tB1 b2.size b4.size));have t5:Tabs w5:=Ht.below b25 Ht.size;obtain⟨HJ,K5,Z5,A0,T5,Hw5⟩:=zh6 J k5 z5 b25 t5 hw5;clear J k5 z5 b25 t5 hw5 x0 x1 r4 o4 b4 rv b5 k2 z2 b2 hwd bd;refine qbi rfl rfl ?_;go_simp;refine⟨HS.o _,?_⟩;rw[←Hw5.o];refine qbi rfl rfl ?_;go_simp;refine HJ.o.mono ?_;rintro e w6 ⟨v6,rfl,own6,b6⟩;obtain⟨A6,n6,c6,rfl,nc6,-,r6⟩:=own6.sl;have ln6:=qb4 r6;rw[tA6,qaw,show qjw.length=5 from rfl]at ln6;have k6:=K5.below b6 K5.lt;rw[←HV.o]at k6;have rk:=qfb k6 (p:=0) zo;rw[Hl.o,List.drop_zero]at rk;have M6:=qjf 32 32 n6 c6 _ A6 root (qjw++be id 4) w6 rk r6 Hr.o (by intro x hx;rcases List.mem_append.1 hx with h|h;exact qjx x h;exact qaz _ _ x h) zo zo (T5.below b6 T5.size);have A2:=zh1 M6;clear ln6;have B6:=zh1 b6;clear M6 b6 own6 r6 rk k6;refine⟨HS.o _,?_⟩;refine zP ?_;refine qbi rfl rfl ?_;go_simp;refine zcb A2.o fun w7 b7=>?_
 rw[show mac root (qjw++be id 4)=qjy root id from rfl];have lM:(byv (qjy root id)).length=32:=by rw[qat];exact qjz _ _
 have oT:=qeg id (.slice none 0 0) rfl (qjy root id);have bT:=qgr id (byv (qjy root id)) lM (qau _);have hT:(Value.int .u32 (id:Int)::Value.slice none 0 0::byv (qjy root id))=tokv id (.slice none 0 0) (qjy root id):=rfl;have lT:=qdf id (.slice none 0 0) (qjy root id) (qjz _ _);rw[hT]at bT;obtain⟨T,hTT⟩:=xeq (tokv id (.slice none 0 0) (qjy root id));rw[hTT]at bT oT lT;obtain⟨D,hD⟩:=xeq (byv (qjy root id));rw[hD]at bT ⊢;obtain⟨BT,A3,HI⟩:=zh3 bT hTT (zI 31 lT);have z7:=(Z5.below B6.o Z5.lt).below b7 (tB0 Z5.lt B6.size);have b77:=(A0.trans (B6.mono A0.size)).trans (b7.mono (tB1 A0.size B6.size));clear bT hTT hD hT lM;refine⟨HS.o _,?_⟩;refine zP ?_;refine qbg rfl rfl ⟨.agg T.toArray,fun w1 hS=>?_,?_⟩
 · exact qgq 31 _ rfl _ _ BT.o (by simp[Act.eval])
 refine zP ?_;refine qbi rfl rfl ?_;refine wp_store_row 31 (.tmp 4) (.tmp 20) rfl (w.heap.size+1) T.toArray rfl rfl 31 _ z7 (by simpa using HI.o) (by simp[lT]) (by simpa using oT) ?_;refine⟨fun h=>absurd h zo,?_⟩;refine qbf ?_;go_wp2_with fail
 have z8:=z7.setRow T.toArray;have A5:=qap z8 0 T zjq;exact zrt A5 zu31 HI.o ⟨by rw[A3.o],below_setRow b77 zo _⟩
def qk5 (c:Int × Nat):List Nat:=be c.1.toNat 1++be c.2 4
def qk6 (t:Tok)(c:Int × Nat):Tok × Nat:=
 if qd8 c.1 then(if t.2.1.length<4 then((t.1,t.2.1++[c],mac t.2.2 (qk5 c)),0) else(qgt,4)) else(qgt,1)
theorem qk7(A:Option Addr)(n c:Nat)(l:List (Int × Nat))(w:World)(hr:Reads w w.heap.size 2 A n (cavv l))(hn:n≤8796093022208):
 Zc 248 #[.slice A n c] w fun e w'=>∃v,e=.returned v∧OwnC w' w.heap.size v l∧Zb w w':=by
 have qn:∀(w:World) (a:Option Addr) (n c n' c':Nat),(binOp .eql 27 (.slice a n c) (.slice none n' c')).run Tryz.prog w=.ok (.bool a.isNone) w:=fun w a n c n' c'=>Lib.run_eql_slice_nil w _ _ a n c n' c' Tryz.underlying27
 have hl:l.length=n:=by have:=hr.1;rw[qed]at this;omega
 cases A with
 |none=>
  obtain rfl:n=0:=by
   rcases Nat.eq_zero_or_pos n with h|h
   · exact h
   obtain⟨ad,e,_⟩:=hr.2 h;cases e
  obtain rfl:l=[]:=tB8 hl;go_enter Tryz.func248,Tryz.ntmps248
  go_wp2
  go_ret
  exact⟨_,rfl,OwnC.nil ..,tA5 _ _⟩
 |some ad=>
  have h0:OwnC (w.alloc (.cells #[] 132)) w.heap.size (.slice (some ⟨w.heap.size,0,none⟩) 0 0) []:=OwnC.made w [] (by simp[maxLen]);have hr1:=hr.laid (.cells #[] 132);clear hl;go_enter Tryz.func248,Tryz.ntmps248
  go_wp2_with (at_builtin;refine qee rfl (.tmp 5) (.tmp 6) rfl w.heap.size _ [] rfl h0 (some ad) n c l rfl hr1 (by simp;omega) zm ?_)
  intro v1 w1 hown1 hb1 hg1;go_wp2
  go_ret
  exact⟨_,rfl,by simpa using hown1,((tA5 _ _).alloc (tA4 _) _).trans hb1⟩
theorem qk9(t:Tok)(A:Option Addr)(n c:Nat)(k:Int)(N:Nat)(w:World)(hr:Reads w w.heap.size 2 A n (cavv t.2.1))(hnc:n≤c)(hn:n≤8796093022000)(ht:t.2.2.length=32)(hb:∀x∈t.2.2,x<256)(hN:N<4294967296)(hT:Tabs w):
 Zc 220 #[.agg (tokv t.1 (.slice A n c) t.2.2).toArray,.agg #[.int .i64 k,.int .u32 N]] w fun e w'=>∃v,e=.returned (.tuple #[.agg (tokv (qk6 t (k,N)).1.1 v (qk6 t (k,N)).1.2.2).toArray,.int .i64 ((qk6 t (k,N)).2:Nat)])∧OwnC w' w.heap.size v (qk6 t (k,N)).1.2.1∧Zb w w':=by
 have hl:t.2.1.length=n:=by have:=hr.1;rw[qed]at this;omega
 have hlen:=qdf t.1 (.slice A n c) t.2.2 ht;have d0:(tokv t.1 (.slice A n c) t.2.2)[0]? =some (.int .u32 (t.1:Int)):=rfl;have d1:(tokv t.1 (.slice A n c) t.2.2)[1]? =some (.slice A n c):=rfl;have d2:∀j u,(byv t.2.2)[j]? =some u→(tokv t.1 (.slice A n c) t.2.2)[2+j]? =some u:=fun j u h=>by
  unfold tokv;rw[show 2+j=j+1+1 by omega,tBc,tBc];exact h
 obtain⟨D,hD⟩:=xeq (tokv t.1 (.slice A n c) t.2.2);rw[hD]at hlen d0 d1 d2 ⊢;obtain⟨W0,hW0⟩:=eqx (((w.alloc (.cells D.toArray 31)).alloc (.cells #[.int .i64 k,.int .u32 N] 132)).alloc (.cells zLT 31));have t0:=zNd hW0;have v0:=zNe hW0;have z0:=zNf hW0;have b0:=zMc hW0;have lW:w.heap.size+1+1<W0.heap.size:=z0.lt;have ck:=v0.cell 0;have cs:=t0.cell 1;rw[show (#[Value.int .i64 k,.int .u32 N]:Array Value)[0]? =some (.int .i64 k) from rfl]at ck;rw[tA3,d1]at cs;obtain⟨A4,HD,A7,D0,D1,D2,T0,V0⟩:=zh8 hW0 hD hlen d0 d1 d2 t0 v0;obtain⟨Z0,B0,HR,HT,Hl⟩:=zh5 z0 b0 hr hT hl;clear hW0 hD hlen d0 d1 d2 t0 v0 z0 b0 hr hT hl;go_enter Tryz.func220,Tryz.ntmps220
 go_upto_region 1 with(fail)
 rw[←A4.o];by_cases hk:qd8 k=true
 ·
  go_upto_region 3 with((with_reducible refine(qdc k _).mono ?_);(rintro _ _ ⟨rfl,rfl⟩))
  by_cases h4:n<4
  ·
   have hres:qk6 t (k,N)=((t.1,t.2.1++[(k,N)],mac t.2.2 (qk5 (k,N))),0):=by unfold qk6;rw[if_pos hk,if_pos (by rw[Hl.o];exact h4)]
   have k13:=qd9 hk;have q4:¬(n:Int) ≥ 4:=zo;have Hres:=zh1 hres;clear hres hk ck;go_wp2_with fail
   refine(qd2 W0).mono ?_;rintro e w1 ⟨rfl,hw1,hb1⟩;have v1:=V0.below hb1 V0.lt;have cv0:=v1.cell 0;have cv1:=v1.cell 1;rw[show (#[Value.int .i64 k,Value.int .u32 N]:Array Value)[0]? =some (.int .i64 k) from rfl]at cv0;rw[show (#[Value.int .i64 k,Value.int .u32 N]:Array Value)[1]? =some (.int .u32 N) from rfl]at cv1;have B1:=zh1 hb1;clear v1 hb1 cs;go_wp2_with fail
   refine(qdd W0.heap.size W0.heap.size [] k N w1 hw1 zm k13.1 k13.2 hN).mono ?_;rintro e w2 ⟨rfl,hw2,hb2,-⟩;rw[List.nil_append,show be k.toNat 1++be N 4=qk5 (k,N) from rfl]at hw2;have b2:=B0.trans ((B1.mono B0.size).trans (hb2.mono B0.size));have t2:=(T0.below B1.o T0.lt).below hb2 T0.lt;have v2:=(V0.below B1.o V0.lt).below hb2 V0.lt;have z2:=(Z0.below B1.o Z0.lt).below hb2 Z0.lt;have l02:W0.heap.size≤w2.heap.size:=tB1 B1.size hb2.size;have b02:Zb W0 w2:=B1.trans hb2;obtain⟨A0,T2,V2,Z2,W2⟩:=zh5 b2 t2 v2 z2 hw2;clear b2 t2 v2 z2 hw2 hb2 cv0 cv1 hw1 b02;go_upto_region 7 with(fail)
   obtain⟨S,HS⟩:=zS fun w'=>Below (w.heap.size+1+1) w2 w'
   have hle:w.heap.size+1+1≤w2.heap.size:=zo;have f0:∀w',S w'→w'.cell? ⟨w.heap.size,0,none⟩=some (.int .u32 (t.1:Int)):=fun w' h=>by
    rw[HS.o]at h;rw[(T2.below h zo).cell,tA3,D0.o]
   have f1:∀w',S w'→w'.cell? ⟨w.heap.size,1,none⟩=some (.slice A n c):=fun w' h=>by
    rw[HS.o]at h;rw[(T2.below h zo).cell,tA3,D1.o]
   have f2:∀w',S w'→w'.cell? ⟨w.heap.size+1,0,none⟩=some (.int .i64 k):=fun w' h=>by
    rw[HS.o]at h;rw[(V2.below h zo).cell];rfl
   have f3:∀w',S w'→w'.cell? ⟨w.heap.size+1,1,none⟩=some (.int .u32 N):=fun w' h=>by
    rw[HS.o]at h;rw[(V2.below h zo).cell];rfl
   obtain⟨F0,F1,F2,F3⟩:=zh4 f0 f1 f2 f3;clear f0 f1 f2 f3;refine qjn S 16 [27,29] [(0,false),(1,false),(2,false),(3,false),(5,false),(8,false),(9,false),(10,false)] 2 (.two 4 (.one 6 .done) 6 (.one 4 .done)) [(7,true),(11,true),(12,true),(13,false),(14,true),(15,false)] #[true,true,true,true,false,true,false,false,true,true,true,false,false,false,false,false] #[true,true,true,true,true,true,true,false,true,true,true,false,false,false,false,false] zk rfl zk zk zk zk zk (fun _ _ d _ _ h=>by cases d<;>exact h) ((HS.o _).mpr (tA5 _ w2).drew) ?_;iterate 8 (refine qju rfl rfl ⟨?_,fun w1 hS=>?_,?_⟩;rotate_left;(focus(have g0:=F0.o w1 hS;have g1:=F1.o w1 hS;have g2:=F2.o w1 hS;have g3:=F3.o w1 hS;go_simp;try rfl));simp only[Act.put,tA0,tA1,tA2])
   refine qjt ?_;have hrd:Reads w2.drew w2.drew.heap.size 2 A n (cavv t.2.1):=(HR.call A0.o).drewS;have hwd:Wri w2.drew W0.heap.size W0.heap.size (qk5 (k,N)):=W2.kept_call (tA5 _ _).drew;refine⟨fun vs w'=>∃v g,vs=[v,.slice (some ⟨g,0,none⟩) 1 1]∧OwnC w' w2.heap.size v t.2.1∧Reads w' w'.heap.size 2 (some ⟨g,0,none⟩) 1 (cavv [(k,N)])∧Zb w2 w',?_,?_⟩
   ·
    refine qjs rfl rfl rfl rfl ?_ ?_
    ·
     go_simp;refine(qk7 A n c t.2.1 w2.drew hrd zo).mono ?_;rintro e w3 ⟨v,rfl,ho,hb⟩;have hb':Zb w2 w3:=⟨hb.os,hb.tape,hb.output,hb.size,hb.block⟩;have ho':OwnC w3 w2.heap.size v t.2.1:=ho;refine⟨(HS.o _).mpr (hb'.mono hle),?_⟩;refine zP ?_;refine qjr rfl rfl ?_;go_simp;refine⟨(HS.o _).mpr ((hb'.alloc hb'.size _).mono hle),?_⟩;refine qjo ⟨[v,.slice (some ⟨w3.heap.size,0,none⟩) 1 1],rfl,v,w3.heap.size,rfl,ho'.alloc _,?_,hb'.alloc hb'.size _⟩;have:=Reads.new w3 132 [.int .i64 k,.int .u32 N] 2 1 rfl;rw[qar];exact this
    go_simp;obtain⟨w3,hw3⟩:=eqx ((w2.alloc (.cells #[.int .i64 k,.int .u32 N] 132)).drew);have b3:Zb w2 w3:=by rw[hw3];exact((tA5 _ _).alloc (tA4 _) _).drew
    have s3:w3.heap.size=w2.heap.size+1:=by rw[hw3,qe4,qar]
    have r3:Reads w3 w3.heap.size 2 (some ⟨w2.heap.size,0,none⟩) 1 (cavv [(k,N)]):=by
     have:=Reads.new w2 132 [.int .i64 k,.int .u32 N] 2 1 rfl;rw[s3,hw3];exact this
    have E3:=zh1 hw3;rw[←E3.o];clear hw3;refine⟨(HS.o _).mpr (b3.mono hle),?_⟩;refine qjr rfl rfl ?_;go_simp;refine(qk7 A n c t.2.1 w3 ((HR.call A0.o).call b3) zo).mono ?_;rintro e w4 ⟨v,rfl,ho,hb⟩;refine⟨(HS.o _).mpr ((b3.trans (hb.mono zo)).mono hle),?_⟩;refine qjo ⟨[v,.slice (some ⟨w2.heap.size,0,none⟩) 1 1],rfl,v,w2.heap.size,rfl,ho.mono zo,r3.call hb,b3.trans (hb.mono zo)⟩
   rintro vs w4 - ⟨v,g,rfl,o4,r4,b4⟩;simp only[puts,Act.put,tA0,tA1,tA2];refine qbi rfl rfl ?_;refine qgv (.tmp 27) (.tmp 29) rfl w2.heap.size v t.2.1 rfl o4 _ 1 1 [(k,N)] rfl r4 (by have:=Hl.o;omega) b4.size ?_;intro v5 w5 o5 b5 _;have b25:=b4.trans b5;refine⟨fun _=>(HS.o _).mpr (b25.mono hle),?_⟩;refine zP ?_;obtain⟨A5,n5,c5,rfl,-,-,-,-⟩:=o5.sl;have hw5:Wri w5 W0.heap.size W0.heap.size (qk5 (k,N)):=W2.kept_call b25;obtain⟨O5,A3⟩:=zh2 o5 b25;have lc:(qk5 (k,N)).length=5:=by simp[qk5,qaw]
   clear o5 b25 o4 r4 b4 b5;refine qbi rfl rfl ?_;go_simp;refine(qd4 _ _ _ w5 hw5 (by rw[lc];omega)).mono ?_;rintro e w6 ⟨v6,rfl,own6,b6⟩;obtain⟨A6,n6,c6,rfl,nc6,-,r6⟩:=(show OwnB w6 w5.heap.size v6 (qk5 (k,N)) from own6).sl;have ln6:=qb4 r6;rw[lc]at ln6;have b26:=A3.trans (b6.mono A3.size);have t6:=T2.below b26 T2.lt;have rk:=qgw (n:=32) t6 (by rw[qat];exact ht) D2.o;have M:=qjf 32 32 n6 c6 _ A6 t.2.2 (qk5 (k,N)) w6 rk r6 hb (by intro x hx;rcases List.mem_append.1 hx with h|h<;>exact qaz _ _ x h) zo zo ((HT.below A0.o HT.size).below b26 (tB1 HT.size A0.size));obtain⟨HM,A1,O6⟩:=zh3 M b26 (O5.kept b6);clear M b26 t6 rk ln6 own6 r6 b6 hw5;refine⟨(HS.o _).mpr (A1.mono hle),?_⟩;refine zP ?_;refine qbi rfl rfl ?_;go_simp;refine zcb HM.o fun w7 b7=>?_
   obtain⟨T,hT⟩:=xeq (tokv t.1 (.slice A5 n5 c5) (mac t.2.2 (qk5 (k,N))));have lT:=qdf t.1 (.slice A5 n5 c5) (mac t.2.2 (qk5 (k,N))) (qjz _ _);have oT:=qeg t.1 (.slice A5 n5 c5) rfl (mac t.2.2 (qk5 (k,N)));have bT:=qgs t.1 A5 n5 c5 (byv (mac t.2.2 (qk5 (k,N)))) (by rw[qat];exact qjz _ _);rw[show (Value.int .u32 (t.1:Int)::Value.slice A5 n5 c5::byv (mac t.2.2 (qk5 (k,N))))=tokv t.1 (.slice A5 n5 c5) (mac t.2.2 (qk5 (k,N))) from rfl]at bT;rw[hT]at lT oT bT;obtain⟨E,hE⟩:=xeq (byv (mac t.2.2 (qk5 (k,N))));rw[hE]at bT ⊢;obtain⟨BT,A8⟩:=zh2 bT hT;have b27:=A1.trans (b7.mono A1.size);have z7:=Z2.below b27 Z2.lt;obtain⟨O7,HI,A2⟩:=zh3 (O6.kept b7) (zI 31 lT) b27;clear bT hT hE b7 b27;refine⟨(HS.o _).mpr (A2.mono hle),?_⟩;refine zP ?_;refine qbg rfl rfl ⟨.agg T.toArray,fun w1 hS=>?_,?_⟩
   · exact qgq 31 _ rfl _ _ BT.o (by simp[Act.eval])
   refine zP ?_;refine qbi rfl rfl ?_;refine wp_store_row 31 (.tmp 4) (.tmp 36) rfl (w.heap.size+1+1) T.toArray rfl rfl 31 _ z7 (by simpa using HI.o) (by simp[lT]) (by simpa using oT) ?_;have b8:Zb w (w7.setRow (w.heap.size+1+1) T.toArray):=below_setRow (A0.trans (A2.mono A0.size)) zo _;have O8:OwnC (w7.setRow (w.heap.size+1+1) T.toArray) w2.heap.size (.slice A5 n5 c5) (t.2.1++[(k,N)]):=
    tB3 O7.o (qam _ _ _) (.inr (qa3 O7.o z7 zdc))
   have z8:=z7.setRow T.toArray;refine⟨fun _=>(HS.o _).mpr (below_setRow (A2.mono hle) (tA4 _) _),?_⟩;refine zP ?_;iterate 1 (refine zrb ?_)
   refine qbf ?_;go_wp2_with fail
   refine bodyPost_ret (qgu rfl rfl (qgx z8 lT)) rfl ⟨.slice A5 n5 c5,by rw[Hres.o,←A8.o];rfl,by rw[Hres.o];exact O8.mono (by have:=A0.size;omega),b8⟩
  have hres:qk6 t (k,N)=(qgt,4):=by unfold qk6;rw[if_pos hk,if_neg (by rw[Hl.o];exact h4)]
  have q4:(n:Int) ≥ 4:=zo;have Hres:=zh1 hres;clear hres hk ck;go_wp2_with (refine wpList_store_row rfl 31 (.tmp 4) (.tmp 18) rfl (w.heap.size+1+1) qgy.toArray rfl rfl 31 _ Z0.o qh0 qh1 qgz ?_)
  have z8:Blk _ _ 31 qgy.toArray:=Z0.setRow qgy.toArray;refine bodyPost_ret (qgu rfl rfl (qgx z8 rfl)) rfl ⟨.slice none 0 0,by rw[Hres.o];rfl,by rw[Hres.o];exact OwnC.nil _ _,?_⟩;exact below_setRow B0.o zo _
 have hk':qd8 k=false:=by simpa using hk
 have hres:qk6 t (k,N)=(qgt,1):=by unfold qk6;rw[if_neg hk]
 have Hres:=zh1 hres;clear hres hk;go_wp2_with (first
  |((with_reducible refine(qdc k _).mono ?_);(rintro _ _ ⟨rfl,rfl⟩))
  |(refine wpList_store_row rfl 31 (.tmp 4) (.tmp 12) rfl (w.heap.size+1+1) qgy.toArray rfl rfl 31 _ Z0.o qh0 qh1 qgz ?_))
 have z8:Blk _ _ 31 qgy.toArray:=Z0.setRow qgy.toArray;refine bodyPost_ret (qgu rfl rfl (qgx z8 rfl)) rfl ⟨.slice none 0 0,by rw[Hres.o];rfl,by rw[Hres.o];exact OwnC.nil _ _,?_⟩;exact below_setRow B0.o zo _
def qka (x:Tok):List (Int × Nat)→Option Tok
 |[]=>some x
 |c::l=>if (qk6 x c).2=0 then qka (qk6 x c).1 l else none
theorem qkb(x:Tok)(a b:List (Int × Nat)):qka x (a++b)=(qka x a).bind fun y=>qka y b:=by
 induction a generalizing x with
 |nil=>rfl
 |cons c a ih=>
  simp only[List.cons_append,qka];split
  · exact ih _
  rfl
def qkc (root:List Nat)(id:Nat):Tok:=(id,[],qjy root id)
def qkd (root:List Nat)(t:Tok):Bool:=
 match qka (qkc root t.1) t.2.1 with
 |none=>false
 |some x=>x.2.2==t.2.2
theorem qke{x0 x:Tok}{l:List (Int × Nat)}{c:Int × Nat}(h:qka x0 (l.take k)=some x)(hc:l[k]? =some c)(h0:(qk6 x c).2=0):qka x0 (l.take (k+1))=some (qk6 x c).1:=by
 rw[List.take_add_one,hc,qkb,h];simp[qka,h0]
theorem qkf{x0 x:Tok}{l:List (Int × Nat)}{c:Int × Nat}(h:qka x0 (l.take k)=some x)(hc:l[k]? =some c)(h0:(qk6 x c).2≠0):qka x0 l=none:=by
 obtain⟨hk,e⟩:=tA8 hc;rw[←List.take_append_drop k l,qkb,h,List.drop_eq_getElem_cons hk,e];simp[qka,h0]
theorem qkg(root:List Nat)(id:Nat)(h:id<4294967296):(qkc root id).Ok:=⟨h,fun c hc=>(nomatch hc),qjz _ _,qk1 _ _⟩
theorem qkh(t:Tok)(c:Int × Nat)(ht:t.Ok)(hc:c.2<4294967296):(qk6 t c).1.Ok:=by
 have hz:qgt.Ok:=⟨by decide,fun c hc=>(nomatch hc),by simp[qgt],by intro x hx;simp[qgt]at hx;omega⟩;unfold qk6;split
 ·
  split
  · refine⟨ht.1,?_,qjz _ _,qk1 _ _⟩
    intro d hd;simp only[tBg,tBh]at hd;rcases hd with hd|rfl
    · exact ht.2.1 d hd
    exact hc
  exact hz
 exact hz
theorem qki(t:Tok)(c:Int × Nat):(qk6 t c).1.2.1.length≤t.2.1.length+1:=by
 unfold qk6;split
 · split
   · simp
   simp[qgt]
 simp[qgt]
theorem qkj(root:List Nat)(t:Tok)(A:Option Addr)(n c:Nat)(w:World)(hrl:root.length=32)(hrb:∀x∈root,x<256)(hr:Reads w w.heap.size 2 A n (cavv t.2.1))(hnc:n≤c)(hn:n≤8796093022000)(ht:t.Ok)(hT:Tabs w):
 Zc 178 #[.agg (byv root).toArray,.agg (tokv t.1 (.slice A n c) t.2.2).toArray] w fun e w'=>e=.returned (.bool (qkd root t))∧Zb w w':=by
 have hl:t.2.1.length=n:=by have:=hr.1;rw[qed]at this;omega
 have hlen:=qdf t.1 (.slice A n c) t.2.2 ht.2.2.1;have d0:(tokv t.1 (.slice A n c) t.2.2)[0]? =some (.int .u32 (t.1:Int)):=rfl;have d1:(tokv t.1 (.slice A n c) t.2.2)[1]? =some (.slice A n c):=rfl;have d2:∀j u,(byv t.2.2)[j]? =some u→(tokv t.1 (.slice A n c) t.2.2)[2+j]? =some u:=fun j u h=>by
  unfold tokv;rw[show 2+j=j+1+1 by omega,tBc,tBc];exact h
 obtain⟨D,hD⟩:=xeq (tokv t.1 (.slice A n c) t.2.2);have lR:(byv root).length=32:=by rw[qat];exact hrl
 have M0:=fun w h=>qk4 root t.1 w hrl hrb ht.1 h
 obtain⟨V,hV⟩:=xeq (byv root);rw[hD]at hlen d0 d1 d2 ⊢;rw[hV]at lR ⊢;simp only[hV]at M0;obtain⟨W0,hW0⟩:=eqx ((w.alloc (.cells V.toArray 29)).alloc (.cells D.toArray 31));have k0:=zNb hW0;have t0:=zNc hW0;have b0:=zMb hW0;have lW:w.heap.size+1<W0.heap.size:=t0.lt;have c0:=t0.cell 0;rw[tA3,d0]at c0;obtain⟨A7,HI,A8,A9,D1,D2,K0,T0⟩:=zh8 (qap k0 0 V zjq) (zI 29 lR) hW0 hlen d1 d2 k0 t0;obtain⟨B0,HR,HT,Hl⟩:=zh4 b0 hr hT hl;obtain⟨HM,HtO,AH⟩:=zh3 (M0 W0 (HT.below b0 HT.size)) ht lR;clear hW0 hlen d1 d2 k0 t0 b0 hr hT hl M0 d0 hD hV ht lR;go_enter Tryz.func178,Tryz.ntmps178
 go_upto_region 1 with(fail)
 rw[←A8.o];go_wp2_with (refine zld A7.o zu29 HI.o ?_)
 refine zcb HM.o fun w1 b1=>?_
 obtain⟨L0,hL0⟩:=xeq (tokv t.1 (.slice none 0 0) (qjy root t.1));have lL0:L0.length=34:=by rw[←hL0];exact qdf _ _ _ (qjz _ _)
 have oL0:∀v∈L0,v.oneCell'=true:=by rw[←hL0];exact qeg _ _ rfl _
 rw[hL0];have z1:=Blk.new w1 31 zLT;obtain⟨Z1,AA,AB,AC⟩:=zh4 z1 lL0 oL0 (show (Tryz.prog.info? 31).map (·.size)=some L0.toArray.size by rw[tB6,lL0];exact Tryz.tok_info);have b1':=b1;obtain⟨B1,AD⟩:=zh2 b1 hL0;clear z1 lL0 oL0 b1 hL0 c0;have t1:=T0.below B1.o T0.lt;have c1:=(Blk.alloc t1 (.cells zLT 31)).setRow_far (g:=w1.heap.size) (by have:=t1.lt;omega) L0.toArray |>.cell 1;rw[tA3,D1.o]at c1;go_wp2_with (refine wpList_store_row rfl 31 (.tmp 5) (.tmp 12) rfl w1.heap.size L0.toArray rfl rfl 31 _ Z1.o AC.o (by simp[AA.o]) (by simpa using AB.o) ?_)
 obtain⟨W2,hW2⟩:=eqx ((w1.alloc (.cells zLT 31)).setRow w1.heap.size L0.toArray);rw[←hW2];have x2:Blk W2 w1.heap.size 31 L0.toArray:=by rw[hW2];exact Z1.setRow _
 have t2:Blk W2 (w.heap.size+1) 31 D.toArray:=by rw[hW2];exact(Blk.alloc t1 _).setRow_far (by have:=t1.lt;omega) _
 have b2:Zb w W2:=by rw[hW2];exact below_setRow ((B0.trans (B1.mono B0.size)).alloc (tB1 B0.size B1.size) _) (tB1 B0.size B1.size) _
 have lX:w.heap.size+1<w1.heap.size:=t1.lt;obtain⟨X2,T2,B2⟩:=zh3 x2 t2 b2;clear hW2 x2 t2 b2 t1 c1 b1';obtain⟨X,hX⟩:=xeq w1.heap.size;rw[hX]at X2 lX ⊢;go_loopw [16] (fun i wr=>∃(k:Nat) (x:Tok) (v:Value),k≤n∧i=.int .i64 k∧Hid (qka (qkc root t.1) (t.2.1.take k)=some x)∧Hid x.Ok∧x.2.1.length≤k∧Hid (Blk wr X 31 (tokv x.1 v x.2.2).toArray)∧Hid (OwnC wr w.heap.size v x.2.1)∧Hid (Zb w wr)∧Hid (Blk wr (w.heap.size+1) 31 D.toArray)) (fun i _=>n - (intOf i).toNat)
 case atStart=>exact⟨0,qkc root t.1,.slice none 0 0,by omega,rfl,by rw[List.take_zero];exact rfl,qkg root t.1 HtO.o.1,by simp[qkc],by rw[show tokv (qkc root t.1).1 (.slice none 0 0) (qkc root t.1).2.2=L0 from AD.o];exact X2.o,OwnC.nil _ _,B2.o,T2.o⟩
 case round=>
  obtain⟨k,x,v,hk,rfl,hg,hxo,hxl,hX,hv,hb,htb⟩:=hrel;by_cases hkn:k<n
  ·
   have qk:(k:Int)<n:=zo;obtain⟨cav,hcav⟩:∃c,t.2.1[k]? =some c:=⟨_,tA7 (by rw[Hl.o];exact hkn)⟩;obtain⟨gb,go,hA,hgb,hrd⟩:=HR.mid zo zo;obtain⟨e0,e1⟩:=qdi t.2.1 k cav hcav;have m0:=(hb.cell (p:=⟨gb,go+k*2,none⟩) hgb).trans (hrd _ _ e0);have m1:=(hb.cell (p:=⟨gb,go+(k*2+1),none⟩) hgb).trans (hrd _ _ e1);subst hA;obtain⟨kk,NN⟩:=cav;dsimp only at m0 m1;rw[←Nat.add_assoc]at m1;have HC:=zh1 hcav;clear e0 e1 hrd hcav;go_upto_region 6 with(fail)
   obtain⟨W3,hW3⟩:=eqx (wr.alloc (.cells #[.int .i64 kk,.int .u32 NN] 132));rw[←hW3];have x3:Blk W3 X 31 (tokv x.1 v x.2.2).toArray:=by rw[hW3];exact hX.alloc _
   have v3:=zNa hW3;have o3:OwnC W3 w.heap.size v x.2.1:=by rw[hW3];exact hv.alloc _
   have b3:Zb w W3:=by rw[hW3];exact qah hb.o _
   have tb3:Blk W3 (w.heap.size+1) 31 D.toArray:=by rw[hW3];exact htb.alloc _
   have cv0:=v3.cell 0;have cv1:=v3.cell 1;rw[show (#[Value.int .i64 kk,Value.int .u32 NN]:Array Value)[0]? =some (.int .i64 kk) from rfl]at cv0;rw[show (#[Value.int .i64 kk,Value.int .u32 NN]:Array Value)[1]? =some (.int .u32 NN) from rfl]at cv1;clear hW3;obtain⟨Ax,nx,cx,rfl,enx,ncx,-,rx⟩:=o3.sl;have hN:NN<4294967296:=HtO.o.2.1 (kk,NN) (tB2 HC.o);have N3:=qk9 x Ax nx cx kk NN W3 rx ncx zo hxo.o.2.2.1 hxo.o.2.2.2 hN (HT.below b3 HT.size);have lX3:=qdf x.1 (.slice Ax nx cx) x.2.2 hxo.o.2.2.1;obtain⟨E,hE⟩:=xeq (tokv x.1 (.slice Ax nx cx) x.2.2);rw[hE]at x3 N3 lX3;obtain⟨AE,AF,AG,X3,O3,B3,A1,AI⟩:=zh8 (qap x3 0 E zjq) (zI 31 lX3) N3 x3 o3 b3 tb3 hN;obtain⟨A2,Hok',Hlen'⟩:=zh3 lX3 (qkh x (kk,NN) hxo.o hN) (qki x (kk,NN));clear N3 x3 o3 b3 tb3 hN lX3 hE enx ncx rx hX hv v3 m0 m1;go_wp2_with (refine zld AE.o zu31 AF.o ?_)
   refine AG.o.mono ?_;rintro e w4 ⟨v4,rfl,o4,b4⟩;obtain⟨r,hr⟩:=xeq (qk6 x (kk,NN));rw[hr]at Hok' Hlen' o4 ⊢;obtain⟨A4,n4,c4,rfl,-,-,-,-⟩:=o4.sl;have hlF:=qdf r.1.1 (.slice A4 n4 c4) r.1.2.2 Hok'.o.2.2.1;have hoF:=qeg r.1.1 (.slice A4 n4 c4) rfl r.1.2.2;obtain⟨F,hF⟩:=xeq (tokv r.1.1 (.slice A4 n4 c4) r.1.2.2);rw[hF]at hlF hoF ⊢;have x4:=X3.below b4 X3.lt;obtain⟨A3,A5,A6,HF,X4,O4,B4,A0⟩:=zh8 (show (Tryz.prog.info? 31).map (·.size)=some F.toArray.size by rw[tB6,hlF];exact Tryz.tok_info) hlF hoF hF x4 o4 b4 hr;clear hlF hoF hF x4 o4 b4 hr;obtain⟨q,hq⟩:=xeq r.2;rw[hq];have HQ:=zh1 hq;clear hq cv0 cv1;by_cases h0:q=0
   ·
    have h0':(q:Int)=0:=zo;go_wp2_with (refine wpList_store_row rfl 31 (.tmp 5) (.tmp 24) rfl X F.toArray rfl rfl 31 _ X4.o A3.o (by simp[A5.o,A2.o]) (by simpa using A6.o) ?_)
    go_roundw
    case rel=>
     have hr0:(qk6 x (kk,NN)).2=0:=by rw[A0.o,HQ.o,h0]
     refine⟨k+1,r.1,.slice A4 n4 c4,by omega,by go_num,?_,Hok'.o,by have:=Hlen'.o;omega,?_,?_,?_,?_⟩
     · have:=qke hg.o HC.o hr0
       rw[A0.o]at this;exact this
     · rw[HF.o]
       exact X4.setRow _
     · exact OwnC.mono (tB3 O4.o (qam _ _ _) (.inr (qa3 O4.o X4.o zdc))) B3.size
     · exact below_setRow (B3.trans (B4.mono B3.size)) zo _
     exact(A1.below B4.o A1.lt).setRow_far zo _
    case measure=>simp[intOf];omega
   have h0':¬(q:Int)=0:=zo;go_wp2_with (refine wpList_store_row rfl 31 (.tmp 5) (.tmp 24) rfl X F.toArray rfl rfl 31 _ X4.o A3.o (by simp[A5.o,A2.o]) (by simpa using A6.o) ?_)
   have hf:qkd root t=false:=by
    unfold qkd;rw[qkf hg.o HC.o (by rw[A0.o,HQ.o];exact h0)]
   go_ret
   exact⟨by rw[hf];rfl,below_setRow (B3.trans (B4.mono B3.size)) zo _⟩
  have qk:¬(k:Int)<n:=zo;have hg':=hg.o;rw[tB5 (by rw[Hl.o];omega)]at hg';have hgen:qkd root t=(x.2.2==t.2.2):=by
   unfold qkd;rw[hg']
  have qe:=fun w=>qef w x.2.2 t.2.2 hxo.o.2.2.1 HtO.o.2.2.1 hxo.o.2.2.2 HtO.o.2.2.2
  have l1:(byv x.2.2).length=32:=by rw[qat];exact hxo.o.2.2.1
  have l2:(byv t.2.2).length=32:=by rw[qat];exact HtO.o.2.2.1
  have r1:wr.rangeAt X 2 (byv x.2.2):=qap hX.o 2 (byv x.2.2) (fun j u h=>by
   unfold tokv;rw[show 2+j=j+1+1 by omega,tBc,tBc];exact h)
  have r2:wr.rangeAt (w.heap.size+1) 2 (byv t.2.2):=qap htb.o 2 (byv t.2.2) D2.o;obtain⟨U1,hU1⟩:=xeq (byv x.2.2);obtain⟨U2,hU2⟩:=xeq (byv t.2.2);rw[hU1]at l1 r1;rw[hU2]at l2 r2;simp only[hU1,hU2]at qe;obtain⟨R1,R2,I1,I2,HG⟩:=zh5 r1 r2 (zI 29 l1) (zI 29 l2) hgen;clear hg' hgen l1 l2 r1 r2 hU1 hU2;go_wp2_with (first
   |(refine zld R1.o zu29 I1.o ?_)
   |(refine zld R2.o zu29 I2.o ?_))
  go_ret
  exact⟨by rw[HG.o];rfl,hb.o⟩
def qkk (op tree:Int)(clock:Nat)(c:Int × Nat):Bool:=
 if c.1=1 then tree==(c.2:Int) else if c.1=2 then decide (op<(c.2:Int)) else if c.1=3 then decide (clock<c.2) else false
def qkl (op tree:Int)(clock:Nat)(l:List (Int × Nat)):Bool:=l.all (qkk op tree clock)
theorem qkm{op tree:Int}{l:List (Int × Nat)}{c:Int × Nat}(hc:l[k]? =some c)(h:qkk op tree clock c=false):qkl op tree clock l=false:=by
 unfold qkl;rw[List.all_eq_false];exact⟨c,tB2 hc,by simp[h]⟩
theorem qkn{op tree:Int}{l:List (Int × Nat)}{c:Int × Nat}(hc:l[k]? =some c)(ha:qkl op tree clock (l.take k)=true)(h:qkk op tree clock c=true):qkl op tree clock (l.take (k+1))=true:=by
 unfold qkl at ha ⊢;rw[List.take_add_one,hc];simp[List.all_append,ha,h]
theorem qko(op tree:Int)(clock:Nat)(t:Tok)(A:Option Addr)(n c:Nat)(w:World)(hr:Reads w w.heap.size 2 A n (cavv t.2.1))(hnc:n≤c)(hn:n≤8796093022000)(ht:t.Ok):
 Zc 180 #[.agg (tokv t.1 (.slice A n c) t.2.2).toArray,.int .i64 op,.int .i64 tree,.int .u64 clock] w fun e w'=>e=.returned (.bool (qkl op tree clock t.2.1))∧Zb w w':=by
 have hl:t.2.1.length=n:=by have:=hr.1;rw[qed]at this;omega
 have d1:(tokv t.1 (.slice A n c) t.2.2)[1]? =some (.slice A n c):=rfl;obtain⟨D,hD⟩:=xeq (tokv t.1 (.slice A n c) t.2.2);rw[hD]at d1 ⊢;have c1:(w.alloc (.cells D.toArray 31)).cell? ⟨w.heap.size,1,none⟩=some (.slice A n c):=by rw[qak,tA3,d1]
 obtain⟨HR,Hl,HtO⟩:=zh3 hr hl ht;clear hD d1 hr hl ht;go_enter Tryz.func180,Tryz.ntmps180
 go_wp2_with fail
 go_loopw [15] (fun i wr=>∃k:Nat,k≤n∧i=.int .i64 k∧Hid (qkl op tree clock (t.2.1.take k)=true)∧Hid (Zb w wr)) (fun i _=>n - (intOf i).toNat)
 case atStart=>exact⟨0,by omega,rfl,by rw[List.take_zero];exact rfl,qah (tA5 _ _) _⟩
 case round=>
  obtain⟨k,hk,rfl,hg,hb⟩:=hrel;by_cases hkn:k<n
  ·
   have qk:(k:Int)<n:=zo;obtain⟨cav,hcav⟩:∃c,t.2.1[k]? =some c:=⟨_,tA7 (by rw[Hl.o];exact hkn)⟩;obtain⟨gb,go,hA,hgb,hrd⟩:=HR.mid zo zo;obtain⟨e0,e1⟩:=qdi t.2.1 k cav hcav;have m0:=(hb.cell (p:=⟨gb,go+k*2,none⟩) hgb).trans (hrd _ _ e0);have m1:=(hb.cell (p:=⟨gb,go+(k*2+1),none⟩) hgb).trans (hrd _ _ e1);subst hA;obtain⟨kk,NN⟩:=cav;dsimp only at m0 m1;rw[←Nat.add_assoc]at m1;have HC:=zh1 hcav;have hN:NN<4294967296:=HtO.o.2.1 (kk,NN) (tB2 HC.o);have n1:IntKind.i64.wrap (NN:Int)=NN:=tBb _ zo;have n2:IntKind.u64.wrap (NN:Int)=NN:=tBa _ zo;clear e0 e1 hrd hcav c1;by_cases q1:kk=1
   ·
    subst q1;by_cases hh:tree=NN
    · have Hh:Hid (qkk op tree clock (1,NN)=true):=by simp[Hid,qkk,hh]
      subst hh;go_wp2
      go_roundw
      case rel=>exact⟨k+1,by omega,by go_num,qkn HC.o hg.o Hh.o,qah hb.o _⟩
      case measure=>simp[intOf];omega
    have Hh:Hid (qkk op tree clock (1,NN)=false):=by simp[Hid,qkk,hh]
    have hh2:(tree==(NN:Int))=false:=by simpa using hh
    go_wp2
    go_ret
    exact⟨by rw[qkm HC.o Hh.o];rfl,qah hb.o _⟩
   by_cases q2:kk=2
   ·
    subst q2;by_cases hh:op<NN
    · have Hh:Hid (qkk op tree clock (2,NN)=true):=by simp[Hid,qkk,hh]
      go_wp2
      go_roundw
      case rel=>exact⟨k+1,by omega,by go_num,qkn HC.o hg.o Hh.o,qah hb.o _⟩
      case measure=>simp[intOf];omega
    have Hh:Hid (qkk op tree clock (2,NN)=false):=by simp[Hid,qkk,hh]
    go_wp2
    go_ret
    exact⟨by rw[qkm HC.o Hh.o];rfl,qah hb.o _⟩
   by_cases q3:kk=3
   ·
    subst q3;by_cases hh:clock<NN
    · have Hh:Hid (qkk op tree clock (3,NN)=true):=by simp[Hid,qkk,hh]
      have hh':(clock:Int)<NN:=zo;go_wp2
      go_roundw
      case rel=>exact⟨k+1,by omega,by go_num,qkn HC.o hg.o Hh.o,qah hb.o _⟩
      case measure=>simp[intOf];omega
    have Hh:Hid (qkk op tree clock (3,NN)=false):=by simp[Hid,qkk,hh]
    have hh':¬(clock:Int)<NN:=zo;go_wp2
    go_ret
    exact⟨by rw[qkm HC.o Hh.o];rfl,qah hb.o _⟩
   have Hh:Hid (qkk op tree clock (kk,NN)=false):=by simp[Hid,qkk,q1,q2,q3]
   go_wp2
   go_ret
   exact⟨by rw[qkm HC.o Hh.o];rfl,qah hb.o _⟩
  have qk:¬(k:Int)<n:=zo;have hg':=hg.o;rw[tB5 (by rw[Hl.o];omega)]at hg';have HG:=zh1 hg';clear hg';go_wp2
  go_ret
  exact⟨by rw[HG.o];rfl,hb.o⟩
def mayB (f t w:Int):Bool:=if f=1 then t==2||t==3 else if f=2 then t==1||t==3||t==4 else if f=3 then t==2||(t==4&&w==0) else false
def qkp (s:Int):Int:=if s=1 then 3 else if s=3 then 2 else if s=2 then 1 else 0
def qkq (s:Int):Bool:=s==1||s==3
def qkr (s:Int):Bool:=s==1
def within (n lo hi:Int):Int:=lo+n % (hi - lo+1)
theorem qks{a b:Bool}(h:a=b):Ending.returned (.bool a)=.returned (.bool b):=by rw[h]
theorem qkt{k:IntKind}{a b:Int}(h:a=b):Ending.returned (.int k a)=.returned (.int k b):=by rw[h]
theorem qku(f t n:Int)(w:World):
 Zc 191 #[.int .i64 f,.int .i64 t,.int .i64 n] w fun e w'=>e=.returned (.bool (mayB f t n))∧w=w':=by
 go_enter Tryz.func191,Tryz.ntmps191
 go_wp2
 all_goals (go_ret;exact⟨qks (by simp_all [mayB]),rfl⟩)
theorem qkv(s:Int)(w:World):
 Zc 145 #[.int .i64 s] w fun e w'=>e=.returned (.int .i64 (qkp s))∧w=w':=by
 go_enter Tryz.func145,Tryz.ntmps145
 go_wp2
 all_goals (go_ret;exact⟨qkt (by simp_all [qkp]),rfl⟩)
theorem qkw(s:Int):decide (2≤qkp s)=qkq s:=by
 unfold qkp qkq;by_cases h1:s=1<;>by_cases h2:s=2<;>by_cases h3:s=3<;>simp_all
theorem qkx(s:Int):decide (3≤qkp s)=qkr s:=by
 unfold qkp qkr;by_cases h1:s=1<;>by_cases h2:s=2<;>by_cases h3:s=3<;>simp_all
theorem qky(s:Int)(w:World):
 Zc 62 #[.int .i64 s] w fun e w'=>e=.returned (.bool (qkq s))∧w=w':=by
 go_enter Tryz.func62,Tryz.ntmps62
 go_wp2_with (go_at_call 145;refine(qkv _ _).mono ?_;rintro e w' ⟨rfl,rfl⟩)
 go_ret
 exact⟨qks (qkw s),rfl⟩
theorem qkz(s:Int)(w:World):
 Zc 187 #[.int .i64 s] w fun e w'=>e=.returned (.bool (qkr s))∧w=w':=by
 go_enter Tryz.func187,Tryz.ntmps187
 go_wp2_with (go_at_call 145;refine(qkv _ _).mono ?_;rintro e w' ⟨rfl,rfl⟩)
 go_ret
 exact⟨qks (qkx s),rfl⟩
theorem ql0(n k:Int)(hk:0<k): -k<n.tmod k∧n.tmod k<k∧(n.tmod k<0→n.tmod k+k=n % k)∧(0≤n.tmod k→n.tmod k=n % k):=by
 have h:=Int.tmod_eq_emod (a:=n) (b:=k);have h0:=Int.emod_nonneg n (by omega:k≠0);have h1:=Int.emod_lt_of_pos n hk;have ha:(k.natAbs:Int)=k:=zo;split at h
 · omega
 rename_i hne
 have:n % k≠0:=fun e=>hne (.inr (Int.dvd_of_emod_eq_zero e))
 omega
theorem ql1(n lo hi:Int)(w:World)(h0: -9223372036854775808≤n)(h1:n≤9223372036854775807)(hl: -2147483648≤lo)(hh:lo≤hi)(hu:hi≤2147483647):
 Zc 23 #[.int .i64 n,.int .i64 lo,.int .i64 hi] w fun e w'=>e=.returned (.int .i64 (within n lo hi))∧w=w':=by
 obtain⟨t0,t1,t2,t3⟩:=ql0 n (hi - lo+1) zo;obtain⟨T2,T3⟩:=zh2 t2 t3;clear t2 t3;go_enter Tryz.func23,Tryz.ntmps23
 go_wp2
 · have:=T2.o ‹_›
   go_ret
   exact⟨qkt (by unfold within;omega),rfl⟩
 have:=T3.o ‹_›;go_ret
 exact⟨qkt (by unfold within;omega),rfl⟩
theorem ql2(n lo hi:Int)(hh:lo≤hi):lo≤within n lo hi∧within n lo hi≤hi:=by
 unfold within;have h0:=Int.emod_nonneg n (by omega:hi - lo+1≠0);have h1:=Int.emod_lt_of_pos n (by omega:0<hi - lo+1);omega
theorem Tryz.i64_info:(Tryz.prog.info? 3).map (fun i=>(i.zero,i.size,i.bytes))=some (some (.int .i64 0),1,8):=by kernel_rfl
def inv (xs:List Int):List Value:=xs.map (Value.int .i64)
theorem ql3(a:List Int):(inv a).length=a.length:=by simp[inv]
theorem ql4(l:List Int):∀u∈inv l,u.oneCell'=true:=by
 intro u hu;obtain⟨x,_,rfl⟩:=List.mem_map.1 hu;rfl
def OwnI (w:World)(base:Nat)(v:Value)(xs:List Int):Prop:=w.ownsRow base 3 1 v xs.length (inv xs)
section
variable {w w' : World} {base : Nat} {v : Value} {xs : List Int}
theorem OwnI.sl(h:OwnI w base v xs):∃A n c,v=.slice A n c∧n=xs.length∧n≤c∧c≤maxLen∧Reads w w.heap.size 1 A n (inv xs):=by
 obtain⟨A,c,h1,h2,h3,h4⟩:=qaf h;exact⟨A,_,c,h1,rfl,h2,h3,h4⟩
theorem OwnI.kept(h:OwnI w base v xs)(hb:Zb w w'):OwnI w' base v xs:=
 tB3 h ⟨hb.os,hb.tape,hb.output,hb.size,fun k hk _=>hb.block k hk⟩ (row:=none) (by cases v.ownBlock<;>simp)
theorem OwnI.alloc(h:OwnI w base v xs)(o:Obj):OwnI (w.alloc o) base v xs:=h.kept ((tA5 _ _).alloc (tA4 _) o)
theorem OwnI.made(w:World)(l:List Int)(hc:l.length≤maxLen):OwnI (w.alloc (.cells (inv l).toArray 3)) w.heap.size (.slice (some ⟨w.heap.size,0,none⟩) l.length l.length) l:=by
 exact World.ownsRow_lit (size:=1) (e:=3) w (inv l).toArray l.length (tA4 _) hc (by simp[ql3])
end
theorem ql5{ops:Array Oper}(hgd:o.guard=none)(s x:Operand)
 (ho:o.op=.call {callee:=.builtin .append,args:=#[s,x],argTypes:=#[259,259]})
 (base:Nat)(v:Value)(bs:List Int)(hs:a.eval s=v)(hown:OwnI w base v bs)(A:Option Addr)(m c:Nat)(news:List Int)(hx:a.eval x=.slice A m c)(hr:Reads w w.heap.size 1 A m (inv news))
 (hlen:bs.length+m≤65536)(hbase:base≤w.heap.size)
 (h:∀v' w',OwnI w' base v' (bs++news)→Below base w w'→w.grownBy w' v.ownBlock→wpList Tryz.prog ops Q rest (a.put o.dst v') w'):wpList Tryz.prog ops Q (o::rest) a w:=by
 obtain⟨i0,hi0,hz0,hz1,hz2⟩:=info_parts Tryz.i64_info;have hm:news.length=m:=by have:=hr.1;simpa [inv] using this
 refine qa7 (P:=Tryz.prog) w hgd s x _ ho base 3 i0 _ 1 8 Tryz.underlying259 hi0 hz0 hz1 hz2 rfl zo v bs.length (inv bs) hs hown w.heap.size A m c (inv news) hx hr (ql4 _) (by simp only[maxLen];omega) zo hbase ?_;intro v' w' h1 h2 h3;refine h v' w' ?_ ?_ h2
 · unfold OwnI
   rw[tA6,hm];simpa [inv] using h1
 exact qae (tA5 _ _) hown h2 (tA4 _) hbase
theorem ql6(w:World)(l:List Int):Reads (w.alloc (.cells (inv l).toArray 3)) (w.alloc (.cells (inv l).toArray 3)).heap.size 1 (some ⟨w.heap.size,0,none⟩) l.length (inv l):=by
 have:=Reads.new w 3 (inv l) 1 l.length (by rw[ql3,Nat.mul_one]);rwa[qar]
theorem ql7(w:World)(l:List Int)(g:Nat)(hg:g=w.heap.size)(m:Nat)(hm:m=l.length):Reads (w.alloc (.cells (inv l).toArray 3)) (w.alloc (.cells (inv l).toArray 3)).heap.size 1 (some ⟨g,0,none⟩) m (inv l):=by
 subst hg hm;exact ql6 w l
def ql8 (op:Int):Bool:=decide (6≤op∧op≤12)
theorem ql9(op:Int)(w:World):
 Zc 55 #[.int .i64 op] w fun e w'=>e=.returned (.bool (ql8 op))∧w=w':=by
 go_enter Tryz.func55,Tryz.ntmps55
 go_wp2
 all_goals
  go_ret
  exact⟨qdb (by simp_all [ql8];try omega),rfl⟩
theorem qla(op:Int)(w:World):
 Zc 21 #[.int .i64 op] w fun e w'=>e=.returned (.bool (qdl op))∧w=w':=by
 go_enter Tryz.func21,Tryz.ntmps21
 go_wp2
 all_goals
  go_ret
  refine⟨?_,rfl⟩;exact qdb (by rw[Bool.eq_iff_iff];simp_all [qdl];try omega)
def qlb (R:Req):List Int:=
 [R.op]++((if qdl R.op then [R.tree] else [])++(if R.op=6 then [R.tenant,R.weight] else if R.op=7 then [R.state] else if R.op=8 then [R.weight] else if R.op=10 then [R.tenant,R.role] else if R.op=12 then [R.tenant] else []))
theorem qlc(R:Req):(qlb R).length≤5:=by
 unfold qlb;simp only[tA6];(repeat' split)<;>simp
def isByte (x:Int):Bool:=decide (0≤x∧x≤255)
def qld (R:Req):Bool:=(qlb R).all isByte
theorem qle(h:x<0):isByte x=false:=by unfold isByte;simp;omega
theorem qlf(h:255<x):isByte x=false:=by unfold isByte;simp;omega
theorem qlg(h:0≤x)(h':x≤255):isByte x=true:=by unfold isByte;simp;omega
theorem qlh{l:List Int}(h:l[k]? =some x)(hx:isByte x=false):l.all isByte=false:=by
 rw[List.all_eq_false];exact⟨x,tB2 h,by simp[hx]⟩
theorem qli(R:Req)(cav leafv:Value)(w:World)(ht:R.tag.length=32)(h1:1≤R.op)(h2:R.op≤12):
 Zc 97 #[.agg (reqv R cav leafv).toArray] w fun e w'=>e=.returned (.bool (qld R))∧Zb w w':=by
 have hrr:=qdk R cav leafv ht;obtain⟨k,hk⟩:=xeq R.op;have r0:(reqv R cav leafv)[0]? =some (.int .i64 k):=by rw[←hk];rfl
 rw[hk]at h1 h2;obtain⟨L,hL⟩:=xeq (reqv R cav leafv);rw[hL]at hrr r0 ⊢;have hcell:∀(i:Nat) (v:Value),L[i]? =some v→L.toArray[i]? =some v:=fun i v h=>by simpa using h
 have t1:Blk ((w.alloc (.cells L.toArray 34)).alloc (.cells #[.int .i64 k] 3)) w.heap.size 34 L.toArray:=(Blk.new w _ _).alloc _;have hown:=OwnI.made (w.alloc (.cells L.toArray 34)) [k] (by simp[maxLen]);have B3:Zb w ((w.alloc (.cells L.toArray 34)).alloc (.cells #[.int .i64 k] 3)):=qah (qah (tA5 _ _) _) _;rw[qar]at hown;have c00:=((Blk.new w 34 L.toArray).cell 0).trans (hcell _ _ r0);have c0:=(t1.cell 0).trans (hcell _ _ r0);obtain⟨R0,HK,A1,HC,T1,A0,A2,A3⟩:=zh8 r0 hk hrr hcell t1 hown B3 (And.intro h1 h2);clear r0 hk hrr hL t1 hown B3 ht hcell h1 h2;go_enter Tryz.func97,Tryz.ntmps97
 go_wp2_with fail
 refine(qla _ _).mono ?_;rintro e w1 ⟨rfl,rfl⟩;go_upto_if 10 with(fail)
 go_cut [3] (fun s3 wx=>∃A n c,s3=.slice A n c∧Hid (OwnI wx (w.heap.size+1) (.slice A n c) ([k]++if qdl k then [R.tree] else []))∧Hid (Blk wx w.heap.size 34 L.toArray)∧Hid (Zb w wx))
 case first=>
  cases hb:qdl k with
  |false=>
   have HX:=zh1 hb;clear hb;go_wp2
   go_meet
   case rel=>exact⟨_,_,_,rfl,by rw[HX.o];exact A0,T1,A2⟩
  |true=>
   have HX:=zh1 hb;have r35:=(A1.o 0).trans (show _=some (.int .i64 R.tree) from rfl);have e35:=(T1.cell 35).trans (HC.o _ _ r35);have t1:=T1.o;have B3:=A2.o;have hown:=A0.o;clear hb r35;go_wp2_with (at_builtin;refine ql5 rfl _ _ rfl (w.heap.size+1) _ _ rfl (hown.alloc (.cells (inv [R.tree]).toArray 3)) _ _ _ [R.tree] rfl (ql7 _ [R.tree] _ zm _ rfl) (by first|(simp;done)|(split<;>simp)) (by have:=t1.lt;simp only[qar]at*;omega) ?_)
   intro v2 w2 hown2 hb2 hg2;have t2:=(t1.alloc (.cells (inv [R.tree]).toArray 3)).below hb2 (by first|omega|(simp only[qar]at*;omega));have B4:=(B3.alloc B3.size (.cells (inv [R.tree]).toArray 3)).trans (hb2.mono (by have:=B3.size;first|omega|(simp only[qar]at*;omega)));obtain⟨HO,HT,HB⟩:=zh3 hown2 t2 B4;clear hown2 hb2 hg2 t2 B4;clear hown t1 B3;go_wp2
   go_meet
   case rel=>
    obtain⟨As,ns,cs,rfl,-,-,-,-⟩:=HO.sl;exact⟨_,_,_,rfl,by rw[HX.o];exact HO,HT,HB⟩
 case rest=>
  obtain⟨A,n,c,rfl,ho,t1,B3⟩:=hcut;clear c00 c0 T1 A0 A2;have hown:=ho.o;have t1:=t1.o;have B3:=B3.o;have c0:=(t1.cell 0).trans (HC.o _ _ R0.o);have hrr:=A1.o;have hcell:=HC.o;go_upto_block 0 with fail
  go_cut [3] (fun s3 wx=>∃A n c,s3=.slice A n c∧Hid ((qlb R).length=n)∧Hid (Reads wx wx.heap.size 1 A n (inv (qlb R)))∧Hid (Zb w wx))
  case first=>
   have h12:=A3.o;clear A3;rcases(show k=6∨k=7∨k=8∨k=10∨k=12∨(k≠6∧k≠7∧k≠8∧k≠10∧k≠12) by omega) with rfl|rfl|rfl|rfl|rfl|⟨a1,a2,a3,a4,a5⟩
   ·
    have r36:=(hrr 1).trans (show _=some (.int .i64 (R.tenant)) from rfl);have e36:=(t1.cell 36).trans (hcell _ _ r36);have r39:=(hrr 4).trans (show _=some (.int .i64 (R.weight)) from rfl);have e39:=(t1.cell 39).trans (hcell _ _ r39);clear h12 r36 r39;have HX:=zh1 (by simp[qlb,HK.o]:qlb R=[6]++(if qdl 6 then [R.tree] else [])++([R.tenant,R.weight]));go_wp2_with (at_builtin;refine ql5 rfl _ _ rfl (w.heap.size+1) _ _ rfl (hown.alloc (.cells (inv [R.tenant,R.weight]).toArray 3)) _ _ _ [R.tenant,R.weight] rfl (ql7 _ [R.tenant,R.weight] _ zm _ rfl) (by first|(simp;done)|(split<;>simp)) (by have:=t1.lt;simp only[qar]at*;omega) ?_)
    intro v2 w2 hown2 hb2 hg2;have t2:=(t1.alloc (.cells (inv [R.tenant,R.weight]).toArray 3)).below hb2 (by first|omega|(simp only[qar]at*;omega));have B4:=(B3.alloc B3.size (.cells (inv [R.tenant,R.weight]).toArray 3)).trans (hb2.mono (by have:=B3.size;first|omega|(simp only[qar]at*;omega)));obtain⟨HO,HT,HB⟩:=zh3 hown2 t2 B4;clear hown2 hb2 hg2 t2 B4;go_wp2
    go_meet
    case rel=>
     obtain⟨As,ns,cs,rfl,hns,hnc,hcm,hrs⟩:=HO.sl;exact⟨As,ns,cs,rfl,zh1 (by rw[HX.o];exact hns.symm),zh1 (by rw[HX.o];exact hrs),HB⟩
   ·
    have r38:=(hrr 3).trans (show _=some (.int .i64 (R.state)) from rfl);have e38:=(t1.cell 38).trans (hcell _ _ r38);clear h12 r38;have HX:=zh1 (by simp[qlb,HK.o]:qlb R=[7]++(if qdl 7 then [R.tree] else [])++([R.state]));go_wp2_with (at_builtin;refine ql5 rfl _ _ rfl (w.heap.size+1) _ _ rfl (hown.alloc (.cells (inv [R.state]).toArray 3)) _ _ _ [R.state] rfl (ql7 _ [R.state] _ zm _ rfl) (by first|(simp;done)|(split<;>simp)) (by have:=t1.lt;simp only[qar]at*;omega) ?_)
    intro v2 w2 hown2 hb2 hg2;have t2:=(t1.alloc (.cells (inv [R.state]).toArray 3)).below hb2 (by first|omega|(simp only[qar]at*;omega));have B4:=(B3.alloc B3.size (.cells (inv [R.state]).toArray 3)).trans (hb2.mono (by have:=B3.size;first|omega|(simp only[qar]at*;omega)));obtain⟨HO,HT,HB⟩:=zh3 hown2 t2 B4;clear hown2 hb2 hg2 t2 B4;go_wp2
    go_meet
    case rel=>
     obtain⟨As,ns,cs,rfl,hns,hnc,hcm,hrs⟩:=HO.sl;exact⟨As,ns,cs,rfl,zh1 (by rw[HX.o];exact hns.symm),zh1 (by rw[HX.o];exact hrs),HB⟩
   ·
    have r39:=(hrr 4).trans (show _=some (.int .i64 (R.weight)) from rfl);have e39:=(t1.cell 39).trans (hcell _ _ r39);clear h12 r39;have HX:=zh1 (by simp[qlb,HK.o]:qlb R=[8]++(if qdl 8 then [R.tree] else [])++([R.weight]));go_wp2_with (at_builtin;refine ql5 rfl _ _ rfl (w.heap.size+1) _ _ rfl (hown.alloc (.cells (inv [R.weight]).toArray 3)) _ _ _ [R.weight] rfl (ql7 _ [R.weight] _ zm _ rfl) (by first|(simp;done)|(split<;>simp)) (by have:=t1.lt;simp only[qar]at*;omega) ?_)
    intro v2 w2 hown2 hb2 hg2;have t2:=(t1.alloc (.cells (inv [R.weight]).toArray 3)).below hb2 (by first|omega|(simp only[qar]at*;omega));have B4:=(B3.alloc B3.size (.cells (inv [R.weight]).toArray 3)).trans (hb2.mono (by have:=B3.size;first|omega|(simp only[qar]at*;omega)));obtain⟨HO,HT,HB⟩:=zh3 hown2 t2 B4;clear hown2 hb2 hg2 t2 B4;go_wp2
    go_meet
    case rel=>
     obtain⟨As,ns,cs,rfl,hns,hnc,hcm,hrs⟩:=HO.sl;exact⟨As,ns,cs,rfl,zh1 (by rw[HX.o];exact hns.symm),zh1 (by rw[HX.o];exact hrs),HB⟩
   ·
    have r36:=(hrr 1).trans (show _=some (.int .i64 (R.tenant)) from rfl);have e36:=(t1.cell 36).trans (hcell _ _ r36);have r37:=(hrr 2).trans (show _=some (.int .i64 (R.role)) from rfl);have e37:=(t1.cell 37).trans (hcell _ _ r37);clear h12 r36 r37;have HX:=zh1 (by simp[qlb,HK.o]:qlb R=[10]++(if qdl 10 then [R.tree] else [])++([R.tenant,R.role]));go_wp2_with (at_builtin;refine ql5 rfl _ _ rfl (w.heap.size+1) _ _ rfl (hown.alloc (.cells (inv [R.tenant,R.role]).toArray 3)) _ _ _ [R.tenant,R.role] rfl (ql7 _ [R.tenant,R.role] _ zm _ rfl) (by first|(simp;done)|(split<;>simp)) (by have:=t1.lt;simp only[qar]at*;omega) ?_)
    intro v2 w2 hown2 hb2 hg2;have t2:=(t1.alloc (.cells (inv [R.tenant,R.role]).toArray 3)).below hb2 (by first|omega|(simp only[qar]at*;omega));have B4:=(B3.alloc B3.size (.cells (inv [R.tenant,R.role]).toArray 3)).trans (hb2.mono (by have:=B3.size;first|omega|(simp only[qar]at*;omega)));obtain⟨HO,HT,HB⟩:=zh3 hown2 t2 B4;clear hown2 hb2 hg2 t2 B4;go_wp2
    go_meet
    case rel=>
     obtain⟨As,ns,cs,rfl,hns,hnc,hcm,hrs⟩:=HO.sl;exact⟨As,ns,cs,rfl,zh1 (by rw[HX.o];exact hns.symm),zh1 (by rw[HX.o];exact hrs),HB⟩
   ·
    have r36:=(hrr 1).trans (show _=some (.int .i64 (R.tenant)) from rfl);have e36:=(t1.cell 36).trans (hcell _ _ r36);clear h12 r36;have HX:=zh1 (by simp[qlb,HK.o]:qlb R=[12]++(if qdl 12 then [R.tree] else [])++([R.tenant]));go_wp2_with (at_builtin;refine ql5 rfl _ _ rfl (w.heap.size+1) _ _ rfl (hown.alloc (.cells (inv [R.tenant]).toArray 3)) _ _ _ [R.tenant] rfl (ql7 _ [R.tenant] _ zm _ rfl) (by first|(simp;done)|(split<;>simp)) (by have:=t1.lt;simp only[qar]at*;omega) ?_)
    intro v2 w2 hown2 hb2 hg2;have t2:=(t1.alloc (.cells (inv [R.tenant]).toArray 3)).below hb2 (by first|omega|(simp only[qar]at*;omega));have B4:=(B3.alloc B3.size (.cells (inv [R.tenant]).toArray 3)).trans (hb2.mono (by have:=B3.size;first|omega|(simp only[qar]at*;omega)));obtain⟨HO,HT,HB⟩:=zh3 hown2 t2 B4;clear hown2 hb2 hg2 t2 B4;go_wp2
    go_meet
    case rel=>
     obtain⟨As,ns,cs,rfl,hns,hnc,hcm,hrs⟩:=HO.sl;exact⟨As,ns,cs,rfl,zh1 (by rw[HX.o];exact hns.symm),zh1 (by rw[HX.o];exact hrs),HB⟩
   have HX:=zh1 (show qlb R=[k]++if qdl k then [R.tree] else [] by simp only[qlb,HK.o,if_neg a1,if_neg a2,if_neg a3,if_neg a4,if_neg a5,List.append_nil]);have q1:(k==6)=false:=by simpa using a1
   have q2:(k==7)=false:=by simpa using a2
   have q3:(k==8)=false:=by simpa using a3
   have q4:(k==10)=false:=by simpa using a4
   have q5:(k==12)=false:=by simpa using a5
   obtain⟨As,ns,cs,e9,hns,hnc,hcm,hrs⟩:=hown.sl;obtain⟨E9,F1,F2,F3⟩:=zh4 e9 (show (qlb R).length=ns by rw[HX.o];exact hns.symm) (show Reads wc wc.heap.size 1 As ns (inv (qlb R)) by rw[HX.o];exact hrs) B3;clear a1 a2 a3 a4 a5 h12 hown hns hrs e9 B3;go_wp2
   go_meet
   case rel=>exact⟨As,ns,cs,E9.o,F1,F2,F3⟩
  case rest=>
   obtain⟨A,ns,c,rfl,Hns,Hrs,A4⟩:=hcut;obtain⟨X,hX⟩:=xeq (qlb R);have Hsb:=zh1 (show qld R=X.all isByte by unfold qld;rw[hX]);have hrs:=Hrs.o;have hfew:ns≤5:=by rw[←Hns.o];exact qlc R
   rw[hX]at Hns hrs;clear hX hown t1 B3 c0 hrr hcell A1 HC R0 HK A3 Hrs ho;go_wp2
   go_loop [4] (fun i=>∃k:Nat,k≤ns∧i=.int .i64 k∧(X.take k).all isByte=true) (fun i=>ns - (intOf i).toNat)
   case atStart=>exact⟨0,by omega,rfl,by simp⟩
   case round=>
    obtain⟨k,hk,rfl,hall⟩:=hrel;have Hall:=zh1 hall;clear hall;by_cases hlt:k<ns
    ·
     obtain⟨x,hxk⟩:∃x,X[k]? =some x:=⟨_,tA7 (by rw[Hns.o];exact hlt)⟩;obtain⟨bq,oq,rfl,-,hcell⟩:=hrs.mid zo zo;have m0:=hcell k (.int .i64 x) (by unfold inv;rw[tBj,hxk];rfl);have Hxk:=zh1 hxk;clear hxk hcell hrs;by_cases hx0:x<0
     · go_wp2
       go_ret
       exact⟨qdb (Hsb.trans (qlh Hxk.o (qle hx0))).symm,A4.o⟩
     by_cases hx1:255<x
     · go_wp2
       go_ret
       exact⟨qdb (Hsb.trans (qlh Hxk.o (qlf hx1))).symm,A4.o⟩
     go_wp2
     go_round
     case rel=>exact⟨k+1,by omega,by go_num,by rw[List.take_add_one,Hxk.o,List.all_append,Hall.o];simpa using qlg (Int.not_lt.1 hx0) (Int.not_lt.1 hx1)⟩
     case measure=>simp[intOf];omega
    obtain rfl:k=ns:=zo;go_wp2
    go_ret
    refine⟨qdb ?_,A4.o⟩;have:=Hall.o;rw[←Hns.o,List.take_length]at this;exact(Hsb.trans this).symm
section
open Go.Extern.Stop (cell)
theorem qlj{t:TypeId}{fs:Array Field}(h:P.underlying t=some (.struct fs)):P.fieldsOf t=fs:=by
 unfold Program.fieldsOf;rw[h]
theorem qlk{xs ys:Array Value}:(Op.eqFields d xs ys []).run P w=.ok true w:=by simp[Op.eqFields]
theorem qll{xs ys:Array Value}{f:Field}{fs:List Field}{a b:Value}{r s:Bool}(hn:f.name≠ "_")(pa:(part f.type xs f.offset).run P w=.ok a w)(pb:(part f.type ys f.offset).run P w=.ok b w)
 (pe:(Op.equalIn d f.type a b).run P w=.ok r w)(hr:(Op.eqFields d xs ys fs).run P w=.ok s w):(Op.eqFields d xs ys (f::fs)).run P w=.ok (r&&s) w:=by
 simp only[Op.eqFields,hn,ne_eq,not_false_eq_true,if_true,Sem.run_bind,pa,pb,pe,Result.andThen_ok];cases r<;>simp[hr]
theorem Tryz.hd_size:∀w:World,(sizeOf 53).run Tryz.prog w=.ok 36 w:=fun w=>by kernel_rfl
theorem Tryz.dg_size:∀w:World,(sizeOf 29).run Tryz.prog w=.ok 32 w:=fun w=>by kernel_rfl
def qlm (h:Hd):List Value:=.int .i64 h.tree::.int .i64 h.epoch::.int .u64 (h.size:Int)::.int .u64 (h.clock:Int)::byv h.root
theorem qln(h:Hd):hdv h=qlm h++byv h.tag:=rfl
theorem qlo(h:Hd)(ho:h.root.length=32):(qlm h).length=36:=by simp[qlm,qat,ho]
theorem qlp(h:Hd)(ho:h.Ok):(hdv h).length=68:=by rw[qln,tA6,qlo h ho.rootl,qat,ho.tagl]
theorem qlq(w:World)(h:Hd)(ho:h.Ok):(part 53 (hdv h).toArray 0).run Tryz.prog w=.ok (.agg (qlm h).toArray) w:=by
 have e:List.take 36 (hdv h)=qlm h:=by
  rw[qln];exact List.take_left' (qlo h ho.rootl)
 simp[part,isAgg,run_underlying Tryz.underlying53,Tryz.hd_size,e]
theorem qlr(w:World)(h:Hd)(ho:h.Ok):(part 29 (hdv h).toArray 36).run Tryz.prog w=.ok (.agg (byv h.tag).toArray) w:=by
 have e:List.take 32 (List.drop 36 (hdv h))=byv h.tag:=by
  rw[qln,List.drop_left' (qlo h ho.rootl)];exact tB5 (by rw[qat,ho.tagl];omega)
 simp[part,isAgg,run_underlying Tryz.underlying29,Tryz.dg_size,e]
theorem qls(w:World)(h:Hd)(ho:h.Ok):(part 29 (qlm h).toArray 4).run Tryz.prog w=.ok (.agg (byv h.root).toArray) w:=by
 have e:List.take 32 (List.drop 4 (qlm h))=byv h.root:=by
  show (byv h.root).take 32=_;exact tB5 (by rw[qat,ho.rootl];omega)
 simp[part,isAgg,run_underlying Tryz.underlying29,Tryz.dg_size,e]
theorem qlt(w:World)(h:Hd)(i:Nat)(v:Value)(t:TypeId)(k:IntKind)(hu:(Tryz.prog).underlying t=some (.int k))(hv:(qlm h)[i]? =some v):(part t (qlm h).toArray i).run Tryz.prog w=.ok v w:=by
 simp[part,isAgg,run_underlying hu,hv]
theorem qlu(d:Nat)(w:World)(a b:List Nat)(ha:a.length=32)(hb:b.length=32)(ha':∀x∈a,x<256)(hb':∀x∈b,x<256):
 (Op.equalIn (d+2) 29 (.agg (byv a).toArray) (.agg (byv b).toArray)).run Tryz.prog w=.ok (a==b) w:=by
 have e:∀l:List Nat,(∀x∈l,x<256)→byv l=(l.map UInt8.ofNat).map cell:=by
  intro l hl;unfold byv;rw[List.map_map];refine List.map_congr_left fun x hx=>?_
  have:=hl x hx;simp[cell,Function.comp,UInt8.toNat_ofNat,Nat.mod_eq_of_lt this]
 have key:(List.map UInt8.ofNat a==List.map UInt8.ofNat b)=(a==b):=by
  rw[Bool.eq_iff_iff];simp only[beq_iff_eq];constructor
  ·
   have key:∀(a b:List Nat),(∀x∈a,x<256)→(∀x∈b,x<256)→a.map UInt8.ofNat=b.map UInt8.ofNat→a=b:=by
    intro a;induction a with
    |nil=>intro b _ _ h;simpa using h.symm
    |cons x a ih=>
     intro b ha hb h;cases b with
     |nil=>simp at h
     |cons y b=>
      simp only[List.map_cons,List.cons.injEq]at h;have h1:=congrArg UInt8.toNat h.1;have hx:=ha x zm;have hy:=hb y zm;simp[UInt8.toNat_ofNat,Nat.mod_eq_of_lt hx,Nat.mod_eq_of_lt hy]at h1;rw[h1,ih b (fun z hz=>ha z (by simp[hz])) (fun z hz=>hb z (by simp[hz])) h.2]
   exact key a b ha' hb'
  rintro rfl;rfl
 rw[e a ha',e b hb',run_equalIn_bytes w d 29 5 32 Tryz.underlying29 Tryz.underlying5 (fun _=>by kernel_rfl) _ _ (by simpa using ha) (by simpa using hb),key]
theorem qlv(d:Nat)(w:World)(h k:Hd)(ho:h.Ok)(ko:k.Ok):
 (Op.equalIn (d+3) 53 (.agg (qlm h).toArray) (.agg (qlm k).toArray)).run Tryz.prog w=.ok (decide (h.tree=k.tree∧h.epoch=k.epoch∧h.size=k.size∧h.clock=k.clock∧h.root=k.root)) w:=by
 have hf:=qlj (P:=Tryz.prog) Tryz.underlying53;have hp:(Tryz.prog).stoodInHeld 53=false:=by kernel_rfl
 have hu:(Tryz.prog).underlying 53=some (.struct ((Tryz.prog).fieldsOf 53)):=by rw[hf];exact Tryz.underlying53
 rw[run_equalIn_struct w (d+2) 53 _ _ hu hp,hf];have e1:=fun x y=>run_equalIn_int w (d+1) 3 .i64 .i64 x y Tryz.underlying3
 have e2:=fun x y=>run_equalIn_int w (d+1) 32 .u64 .u64 x y Tryz.underlying32
 have e3:=qlu d w h.root k.root ho.rootl ko.rootl ho.rootb ko.rootb;have p0:=fun h:Hd=>qlt w h 0 (.int .i64 h.tree) 3 .i64 Tryz.underlying3 rfl
 have p1:=fun h:Hd=>qlt w h 1 (.int .i64 h.epoch) 3 .i64 Tryz.underlying3 rfl
 have p2:=fun h:Hd=>qlt w h 2 (.int .u64 (h.size:Int)) 32 .u64 Tryz.underlying32 rfl
 have p3:=fun h:Hd=>qlt w h 3 (.int .u64 (h.clock:Int)) 32 .u64 Tryz.underlying32 rfl
 have p4:=qls w h ho;have p5:=qls w k ko;refine(qll zdc (p0 h) (p0 k) (e1 _ _) (qll zdc (p1 h) (p1 k) (e1 _ _) (qll zdc (p2 h) (p2 k) (e2 _ _) (qll zdc (p3 h) (p3 k) (e2 _ _) (qll zdc p4 p5 e3 qlk))))).trans ?_;congr 1
 rw[Bool.eq_iff_iff];simp only[Bool.and_eq_true,beq_iff_eq,decide_eq_true_eq,and_true,Int.natCast_inj]
theorem qlw(d:Nat)(w:World)(h k:Hd)(ho:h.Ok)(ko:k.Ok):
 (Op.equalIn (d+4) 55 (.agg (hdv h).toArray) (.agg (hdv k).toArray)).run Tryz.prog w=.ok (decide (h=k)) w:=by
 have hf:=qlj (P:=Tryz.prog) Tryz.underlying55;have hp:(Tryz.prog).stoodInHeld 55=false:=by kernel_rfl
 have hu:(Tryz.prog).underlying 55=some (.struct ((Tryz.prog).fieldsOf 55)):=by rw[hf];exact Tryz.underlying55
 rw[run_equalIn_struct w (d+3) 55 _ _ hu hp,hf];have e1:=qlv d w h k ho ko;have e3:=qlu (d+1) w h.tag k.tag ho.tagl ko.tagl ho.tagb ko.tagb;have p0:=fun (h:Hd) ho=>qlq w h ho
 have p1:=fun (h:Hd) ho=>qlr w h ho
 refine(qll zdc (p0 h ho) (p0 k ko) e1 (qll zdc (p1 h ho) (p1 k ko) e3 qlk)).trans ?_;congr 1
 rw[Bool.eq_iff_iff];simp only[Bool.and_eq_true,beq_iff_eq,decide_eq_true_eq,and_true];have hiff:h=k ↔ (h.tree=k.tree∧h.epoch=k.epoch∧h.size=k.size∧h.clock=k.clock∧h.root=k.root)∧h.tag=k.tag:=by
  obtain⟨a,b,c,d,e,f⟩:=h;obtain⟨a',b',c',d',e',f'⟩:=k;simp only[Hd.mk.injEq];simp only[and_assoc]
 exact hiff.symm
theorem qlx(w:World)(h k:Hd)(ho:h.Ok)(ko:k.Ok):(binOp .eql 55 (.agg (hdv h).toArray) (.agg (hdv k).toArray)).run Tryz.prog w=.ok (.bool (decide (h=k))) w:=by
 rw[run_eql_struct,qlw 9996 w h k ho ko];rfl
theorem qly(w:World)(h k:Hd)(ho:h.Ok)(ko:k.Ok):(binOp .neq 55 (.agg (hdv h).toArray) (.agg (hdv k).toArray)).run Tryz.prog w=.ok (.bool !(decide (h=k))) w:=by
 rw[run_neq_struct,qlw 9996 w h k ho ko];rfl
end
def digv (l:List (List Nat)):List Value:=l.flatMap byv
theorem qlz:∀(l:List (List Nat)) (_:∀d∈l,d.length=32) (k:Nat) (d:List Nat) (_:l[k]? =some d),∀j u,(byv d)[j]? =some u→(digv l)[k*32+j]? =some u
 |[],_,k,d,hk,_,_,_=>by simp at hk
 |x::l,h,0,d,hk,j,u,hu=>by
  simp at hk;subst hk;have hj:j<(byv x).length:=by
   rcases Nat.lt_or_ge j (byv x).length with h1|h1
   · exact h1
   rw[List.getElem?_eq_none h1]at hu;cases hu
  unfold digv;rw[List.flatMap_cons,Nat.zero_mul,Nat.zero_add,tBm hj];exact hu
 |x::l,h,k+1,d,hk,j,u,hu=>by
  have hx:(byv x).length=32:=by rw[qat,h x zm]
  have:=qlz l (fun y hy=>h y (List.mem_cons_of_mem _ hy)) k d (by simpa using hk) j u hu;unfold digv at this ⊢;rw[List.flatMap_cons,tBn (by rw[hx];omega),hx,show (k+1)*32+j - 32=k*32+j from by omega];exact this
theorem qm3:(byv (List.replicate 32 0)).toArray=zLD:=rfl
theorem qm4:Tryz.prog.built 29 []=some (zLD:Array Value):=by kernel_rfl
theorem qm5:Tryz.prog.built 55 []=some (hdv Hd.zero).toArray:=by kernel_rfl
theorem Tryz.sig_info:(Tryz.prog.info? 55).map (·.size)=some 68:=by kernel_rfl
theorem Tryz.hd_info:(Tryz.prog.info? 53).map (·.size)=some 36:=by kernel_rfl
theorem qm6(R:Rsp)(bv hv cav:Value)(h:R.Ok):∀j u,(hdv R.hd)[j]? =some u→(rspv R bv hv cav)[4+j]? =some u:=by
 intro j u hu;have hj:j<(hdv R.hd).length:=by
  rcases Nat.lt_or_ge j (hdv R.hd).length with h1|h1
  · exact h1
  rw[List.getElem?_eq_none h1]at hu;cases hu
 unfold rspv;rw[show 4+j=j+1+1+1+1 from by omega];simp only[tBc];rw[tBm hj];exact hu
theorem qm7(R:Rsp)(bv hv cav:Value)(h:R.Ok):∀j u,(tokv R.tok.1 cav R.tok.2.2)[j]? =some u→(rspv R bv hv cav)[72+j]? =some u:=by
 intro j u hu;unfold rspv;rw[show 72+j=68+j+1+1+1+1 from by omega];simp only[tBc];rw[tBn (by rw[qlp R.hd h.hd];omega),qlp R.hd h.hd,show 68+j - 68=j from by omega];exact hu
theorem qm8{α:Type}{a b:List α}:∀(j:Nat) (u:α),a[j]? =some u→(a++b)[j]? =some u:=by
 intro j u hu;have hj:j<a.length:=by
  rcases Nat.lt_or_ge j a.length with h1|h1
  · exact h1
  rw[List.getElem?_eq_none h1]at hu;cases hu
 rw[tBm hj];exact hu
theorem qm9{α:Type}{a b:List α}(n:Nat)(hn:a.length=n):∀(j:Nat) (u:α),b[j]? =some u→(a++b)[n+j]? =some u:=by
 intro j u hu;rw[tBn zo,hn,show n+j - n=j from by omega];exact hu
theorem qma(h:Hd):∀u∈qlm h,u.oneCell'=true:=by
 intro u hu;unfold qlm at hu;simp only[List.mem_cons]at hu;rcases hu with rfl|rfl|rfl|rfl|hu
 · rfl
 · rfl
 · rfl
 · rfl
 exact qau _ u hu
theorem qmb(h:Hd):∀u∈hdv h,u.oneCell'=true:=by
 intro u hu;rw[qln]at hu;rcases List.mem_append.1 hu with hu|hu
 · exact qma h u hu
 exact qau _ u hu
theorem qmc
 (id:Nat)(A:Option Addr)(n c:Nat)(tag:List Nat)(w:World)(ht:tag.length=32)(htb:∀b∈tag,b<256):
  Zc 75 #[.agg (tokv id (.slice A n c) tag).toArray] w fun e w'=>e=.returned (.bool (decide (id=0∧n=0∧tag=List.replicate 32 0)))∧Zb w w':=by
  have hdig:=fun w=>qef w tag (List.replicate 32 0) ht zm htb (by intro x hx;simp at hx;omega)
  rw[qm3]at hdig;have d0:(tokv id (.slice A n c) tag)[0]? =some (.int .u32 (id:Int)):=rfl;have d1:(tokv id (.slice A n c) tag)[1]? =some (.slice A n c):=rfl;have dt:∀j u,(byv tag)[j]? =some u→(tokv id (.slice A n c) tag)[2+j]? =some u:=by
   intro j u h;rw[tokv,show 2+j=(j+1)+1 from by omega,tBc,tBc];exact h
  obtain⟨L,hL⟩:=xeq (tokv id (.slice A n c) tag);rw[hL]at d0 d1 dt ⊢;have hgl:(byv tag).length=32:=by rw[qat,ht]
  obtain⟨b,hb⟩:=xeq (tag==List.replicate 32 0);obtain⟨G,hG⟩:=xeq (byv tag);rw[hG]at dt hgl;simp only[hG,hb]at hdig;have HI:=zh1 (zI 29 hgl);have t0:=Blk.new w 31 L.toArray;have R1:=zh1 (qap t0 2 G dt);have c0:=(t0.cell 0).trans (show L.toArray[0]? =_ by simpa using d0);have c1:=(t0.cell 1).trans (show L.toArray[1]? =_ by simpa using d1);obtain⟨HB,A0⟩:=zh2 (show Zb w (w.alloc (.cells L.toArray 31)) from qah (tA5 _ _) _) (show b=decide (tag=List.replicate 32 0) by rw[←hb,Bool.eq_iff_iff];simp);clear hL hG d0 d1 dt hgl t0 hb;by_cases h0:id=0
  ·
   subst h0;by_cases h1:n=0
   · subst h1
     go_enter Tryz.func75,Tryz.ntmps75
     go_wp2_with (first
      |(refine zld R1.o zu29 HI.o ?_)
      |(refine qbj rfl ⟨.agg (zLD:Array Value),qgq 29 _ rfl _ _ qm4 (by simp[Act.eval]),?_⟩))
     go_ret
     exact⟨by rw[A0.o];simp,HB.o⟩
   have q:¬(n:Int)=0:=zo;go_enter Tryz.func75,Tryz.ntmps75
   go_wp2
   go_ret
   exact⟨by simp[h1],HB.o⟩
  have q:¬(id:Int)=0:=zo;go_enter Tryz.func75,Tryz.ntmps75
  go_wp2
  go_ret
  exact⟨by simp[h0],HB.o⟩
structure Cfg where
 width:Int
 quantum:Int
 store:Nat
 seed:List Nat
structure Ten where
 on:Bool
 rate:Nat
 burst:Nat
 tok:Nat
 store:Nat
 used:Nat
structure Tre where
 state:Int
 tenant:Int
 weight:Int
 deficit:Int
 draws:List Nat
 leaves:List (List Nat)
 queue:List (List Nat)
 hd:Hd
structure Gra where
 tenant:Int
 role:Int
 expires:Nat
 revoked:Bool
structure Sta where
 clock:Nat
 draw:Nat
 lane:Int
 tens:List Ten
 tres:List Tre
 gras:List Gra
def Ten.zero:Ten:=⟨false,0,0,0,0,0⟩
def Tre.zero:Tre:=⟨0,0,0,0,[],[],[],Hd.zero⟩
def qmd:List Nat:=[114,111,111,116]
def qme:List Nat:=[107,101,121]
def qmf:List Nat:=[104,101,97,100]
def qmg (seed:List Nat):List Nat:=mac seed qmd
def keyOf (seed:List Nat)(tree epoch draw:Nat):List Nat:=mac seed (qme++(be tree 1++(be epoch 4++be draw 4)))
def qmh (h:Hd):List Nat:=qmf++(be h.tree.toNat 1++(be h.epoch.toNat 4++(be h.size 8++(be h.clock 8++h.root))))
def signed (key:List Nat)(h:Hd):Hd:={h with tag:=mac key (qmh h)}
def pubT (c:Cfg)(clock n:Nat)(t:Tre):Hd:=
 signed (keyOf c.seed n (t.draws.length - 1) (t.draws.getLastD 0)) ⟨n,((t.draws.length - 1:Nat):Int),t.leaves.length,clock,qfs (cutW c.width) t.leaves,[]⟩
def Sta.pub (c:Cfg)(s:Sta)(n:Nat):Sta:={s with tres:=s.tres.modify n fun t=>{t with hd:=pubT c s.clock n t}}
def qmi (l:List (List Nat)):Nat:=(l.map fun b=>b.length+16).sum
def stored (s:Sta):Nat:=(s.tres.map fun t=>qmi t.leaves+qmi t.queue).sum
def Sta.tree (s:Sta)(n:Int):Option Tre:=
 if 0≤n then(match s.tres[n.toNat]? with|none=>none|some t=>if t.state=0∨t.state=4 then none else some t) else none
def Sta.tenant (s:Sta)(n:Int):Option Ten:=if 0≤n then s.tens[n.toNat]? else none
def qmj (role op:Int):Bool:=
 (decide (role=4)&&(op==6||op==10||op==11||op==12))||(decide (3≤role∧role≤4)&&(op==7||op==8||op==9))||(decide (2≤role∧role≤4)&&op==1)||(decide (1≤role∧role≤4)&&(op==2||op==3||op==4||op==5))
def qmk (role op own asked:Int):Bool:=qmj role op&&(own==asked||role==4)
def qml (s:Sta)(r:Req)(own:Int):Int:=
 if r.op=6∨r.op=10∨r.op=12 then r.tenant
 else if r.op=11 then(match s.gras[r.id]? with|some g=>g.tenant|none=>own)
 else if qdl r.op then(match s.tree r.tree with|some t=>t.tenant|none=>own)
 else own
def qmm (op:Int)(n:Nat):Nat:=if op=1 then 1+(min n 1048576) / 64 else 1
def qmn (c:Cfg)(s:Sta)(r:Req):Nat:=
 if (qiw r).1≠0 then 12
 else match s.gras[r.tid]? with
  |none=>20
  |some g=>
   if !qkd (qmg c.seed) (r.tid,r.cavs,r.tag) then 20
   else if g.revoked||decide (g.expires≤s.clock)||!qkl r.op (if qdl r.op then r.tree else 0) s.clock r.cavs then 20
   else if !qmk g.role r.op g.tenant (qml s r g.tenant) then 21
   else match s.tenant g.tenant with
    |none=>22
    |some x=>if x.tok<qmm r.op r.leaf.length then 22 else 0
def rWhy (n:Nat):Rsp:={qiu with why:=n}
def qmo (n:Nat):Rsp:={qiu with n:=n}
def qmp (l:List (List Nat))(b:List Nat):Option Nat:=l.findIdx? (· ==b)
def Sta.setT (s:Sta)(n:Nat)(f:Tre→Tre):Sta:={s with tres:=s.tres.modify n f}
def Sta.setX (s:Sta)(n:Nat)(f:Ten→Ten):Sta:={s with tens:=s.tens.modify n f}
def qmq (c:Cfg)(s:Sta)(r:Req)(t:Tre):Sta × Rsp:=
 if r.tree=0∨t.state≠1 then(s,rWhy 24)
 else match qmp t.leaves r.leaf with
  |some k=>(s,qmo k)
  |none=>match qmp t.queue r.leaf with
   |some k=>(s,qmo (t.leaves.length+k))
   |none=>
    if 64≤t.queue.length∨1024≤t.leaves.length+t.queue.length then(s,rWhy 4)
    else match s.tenant t.tenant with
     |none=>(s,rWhy 26)
     |some x=>
      if x.store<x.used+(r.leaf.length+16)∨c.store<stored s+(r.leaf.length+16) then(s,rWhy 26)
      else((s.setX t.tenant.toNat fun x=>{x with used:=(x.used+(r.leaf.length+16)) % 4294967296}).setT r.tree.toNat fun t=>{t with queue:=t.queue++[r.leaf]},qmo (t.leaves.length+t.queue.length))
def qmr (c:Cfg)(s:Sta)(r:Req)(t:Tre):Rsp:=
 if r.op=2 then {qiu with hd:=t.hd}
 else if r.op=3 then(match t.leaves[r.lo]? with|none=>rWhy 25|some b=>{qiu with n:=r.lo,bytes:=b})
 else if r.op=4 then(if r.hi≤r.lo∨t.leaves.length<r.hi then rWhy 25 else {qiu with n:=r.hi,hashes:=qfw (cutW c.width) (t.leaves.take r.hi) r.lo})
 else(if r.lo=0∨r.hi<r.lo∨t.leaves.length<r.hi then rWhy 25 else {qiu with n:=r.hi,hashes:=subH (cutW c.width) (t.leaves.take r.hi) r.lo true})
def qms (c:Cfg)(s:Sta)(r:Req):Sta × Rsp:=
 if r.tree<1∨(s.tres.length:Int)≤r.tree∨r.weight<1∨4<r.weight then(s,rWhy 25)
 else match s.tres[r.tree.toNat]? with
  |none=>(s,rWhy 25)
  |some t=>
   if t.state≠0 then(s,rWhy 27)
   else match s.tenant r.tenant with
    |none=>(s,rWhy 23)
    |some x=>if !x.on then(s,rWhy 23) else((s.setT r.tree.toNat fun _=>{Tre.zero with state:=1,tenant:=r.tenant,weight:=r.weight,draws:=[s.draw]}).pub c r.tree.toNat,qmo r.tree.toNat)
def qmt (c:Cfg)(s:Sta)(r:Req)(t:Tre):Sta × Rsp:=
 if r.tree=0∨!mayB t.state r.state t.queue.length then(s,rWhy 24)
 else
  let s1:=if r.state=4 then s.setX t.tenant.toNat (fun x=>{x with used:=x.used - qmi t.queue}) else s
  (s1.setT r.tree.toNat (fun t=>{t with state:=r.state,queue:=if r.state=4 then [] else t.queue,deficit:=if r.state=4∨r.state=2 then 0 else t.deficit}),qmo r.state.toNat)
def qmu (s:Sta)(r:Req):Sta × Rsp:=
 if r.tree=0 then(s,rWhy 24)
 else if r.weight<1∨4<r.weight then(s,rWhy 25)
 else(s.setT r.tree.toNat fun t=>{t with weight:=r.weight,deficit:=0},qmo r.weight.toNat)
def qmv (c:Cfg)(s:Sta)(r:Req)(t:Tre):Sta × Rsp:=
 if 32≤t.draws.length then(s,rWhy 4)
 else
  let s1:=(s.setT r.tree.toNat fun t=>{t with draws:=t.draws++[s.draw]}).pub c r.tree.toNat
  (s1,qmo t.draws.length)
def qmw (c:Cfg)(s:Sta)(r:Req):Sta × Rsp:=
 if r.role<1∨4<r.role then(s,rWhy 25)
 else match s.tenant r.tenant with
  |none=>(s,rWhy 25)
  |some x=>
   if !x.on then(s,rWhy 23)
   else if 64≤s.gras.length then(s,rWhy 4)
   else({s with gras:=s.gras++[⟨r.tenant,r.role,r.expires,false⟩]},{qmo s.gras.length with tok:=(s.gras.length,[],qjy (qmg c.seed) s.gras.length)})
def qmx (s:Sta)(r:Req):Sta × Rsp:=
 match s.gras[r.id]? with
 |none=>(s,rWhy 23)
 |some g=>if r.id=0∨g.revoked then(s,rWhy 24) else({s with gras:=s.gras.modify r.id fun g=>{g with revoked:=true}},qmo r.id)
def qmy (s:Sta)(r:Req):Sta × Rsp:=
 match s.tenant r.tenant with
 |none=>(s,rWhy 25)
 |some _=>
  if 1048576<r.rate∨1048576<r.burst then(s,rWhy 25)
  else if r.tenant=0 then(s,rWhy 24)
  else(s.setX r.tenant.toNat fun x=>{x with on:=true,rate:=r.rate,burst:=r.burst,tok:=r.burst,store:=r.store},qmo r.tenant.toNat)
def qmz (c:Cfg)(s:Sta)(r:Req):Sta × Rsp:=
 if r.op=6 then qms c s r
 else if r.op=10 then qmw c s r
 else if r.op=11 then qmx s r
 else if r.op=12 then qmy s r
 else match s.tree r.tree with
  |none=>(s,rWhy 23)
  |some t=>
   if r.op=1 then qmq c s r t
   else if r.op=7 then qmt c s r t
   else if r.op=8 then qmu s r
   else if r.op=9 then qmv c s r t
   else(s,qmr c s r t)
def qn1 (s:Sta)(r:Req):List Nat:=be s.clock 8++(be r.tid 4++(qi2 r).2)
def doS (c:Cfg)(s:Sta)(r:Req):Sta × Rsp:=
 if qmn c s r≠0 then(s,rWhy (qmn c s r))
 else
  let (s1,a):=qmz c s r
  if a.why≠0 then(s,rWhy a.why.toNat)
  else if ql8 r.op&&decide (1024≤((s.tres[0]?.getD Tre.zero).leaves.length)) then(s,rWhy 4)
  else if ql8 r.op&&decide (c.store<stored s+64) then(s,rWhy 26)
  else
   let own:=((s.gras[r.tid]?).getD ⟨0,0,0,false⟩).tenant
   let s2:=s1.setX own.toNat fun x=>{x with tok:=x.tok - qmm r.op r.leaf.length}
   if ql8 r.op then
    let s3:=(s2.setT 0 fun t=>{t with leaves:=t.leaves++[qn1 s2 r]}).pub c 0
    (s3,if r.op=9 then {a with hd:=(s3.tres[r.tree.toNat]?.getD Tre.zero).hd} else a)
   else(s2,a)
def askS (c:Cfg)(s:Sta)(bs:List Nat):Sta × List Nat:=
 match (qih bs).1 with
 |some _=>(s,(qiv (rWhy 12)).2)
 |none=>((doS c s (qih bs).2).1,(qiv (doS c s (qih bs).2).2).2)
def qn3 (s:Sta):Sta:=
 {s with clock:=if s.clock<18446744073709551615 then s.clock+1 else s.clock,tens:=s.tens.map fun x=>if x.on then {x with tok:=if x.burst<x.tok+x.rate then x.burst else x.tok+x.rate} else x}
def qn4 (s:Sta)(n:Nat):Sta:={s with draw:=n}
def qn5 (ws:List Int)(at_:Nat):Option Nat:=((List.range ws.length).map fun k=>(at_+k) % ws.length).find? fun i=>decide (1≤ws.getD i 0)
def qn6 (i:Nat)(t:Tre):Int:=if i=0∨!qkq t.state then 0 else t.weight
def seqS (c:Cfg)(s:Sta):Sta:=
 let at_:=if 0≤s.lane∧s.lane<s.tres.length then s.lane.toNat else 0
 match qn5 (s.tres.mapIdx fun i t=>qn6 i t) at_ with
 |none=>{s with lane:=at_}
 |some n=>
  let t:=s.tres[n]?.getD Tre.zero
  let d:=t.deficit+min t.weight 4*min (max c.quantum 1) 2
  let take:=(max (min d t.queue.length) 0).toNat
  let rest:=t.queue.drop take
  let s1:={s with lane:=(((n+1) % s.tres.length:Nat):Int)}.setT n fun t=>{t with deficit:=if rest=[] then 0 else d - take,leaves:=t.leaves++t.queue.take take,queue:=rest}
  if take=0 then s1 else s1.pub c n
def newS (c:Cfg):Sta:=
 Sta.pub c ⟨0,0,0,⟨true,1048576,1048576,1048576,32768,0⟩::List.replicate 15 Ten.zero,{Tre.zero with state:=1,weight:=1,draws:=[0]}::List.replicate 15 Tre.zero,[⟨0,4,18446744073709551615,false⟩]⟩ 0
def Row (w:World)(v:Value)(e:TypeId)(size n:Nat)(xs:List Value):Prop:=
 xs.length=n*size∧((v=.slice none 0 0∧n=0)∨
  ∃(g o c:Nat) (cur:List Value),v=.slice (some ⟨g,o,none⟩) n c∧Blk w g e cur.toArray∧n≤c∧c≤maxLen∧o+c*size≤cur.length∧(cur.drop o).take (n*size)=xs)
def over (l:List Value)(o:Nat)(cs:List Value):List Value:=l.take o++(cs++l.drop (o+cs.length))
theorem qn7{l:List Value}{o:Nat}(h:o+cs.length≤l.length):(over l o cs).length=l.length:=by
 unfold over;simp only[tA6,tBd,tBk];omega
theorem qn8 {g:Nat}{t:TypeId}:∀(cs:List Value) (o:Nat) (w:World) (l:List Value),Blk w g t l.toArray→o+cs.length≤l.length→Blk (w.setCells g o cs) g t (over l o cs).toArray
 |[],o,w,l,h,_=>by simpa [World.setCells,over] using h
 |v::r,o,w,l,h,hl=>by
  have h1:=h.set_ o v;rw[List.setIfInBounds_toArray]at h1;have h2:=qn8 r (o+1) _ _ h1 (by simp at hl ⊢;omega);rw[World.setCells];have ho:o<l.length:=by simp at hl;omega
  have e:over (l.set o v) (o+1) r=over l o (v::r):=by
   unfold over;rw[List.take_succ_eq_append_getElem (by simpa using ho),List.take_set_of_le (tA4 o),List.getElem_set_self,List.drop_set_of_lt zo];simp[Nat.add_assoc,Nat.add_comm 1]
  rw[e]at h2;exact h2
theorem qn9 (g:Nat):∀(cs:List Value) (o:Nat) (w:World),w.grownBy (w.setCells g o cs) (some g)
 |[],_,w=>tB9 w _
 |v::r,o,w=>by
  have h1:=qab (tB9 w (some g)) (p:=⟨g,o,none⟩) (.inl rfl) v;have h2:=qn9 g r (o+1) (w.setCell ⟨g,o,none⟩ v);rw[World.setCells];exact⟨h2.os.trans h1.os,h2.tape.trans h1.tape,h2.output.trans h1.output,tB1 h1.size h2.size,fun i hi hne=>(h2.block i (tB0 hi h1.size) hne).trans (h1.block i hi hne)⟩
theorem qna{l:List Value}{o:Nat}(h:o+n≤p)(hp:p≤l.length):((over l p cs).drop o).take n=(l.drop o).take n:=by
 unfold over;rw[List.drop_append_of_le_length (by rw[tBd];omega),List.drop_take,List.take_append_of_le_length (by rw[tBd,tBk];omega),List.take_take,Nat.min_eq_left zo]
theorem qnb{l:List Value}{o:Nat}(hx:(l.drop o).take k=xs)(hk:xs.length=k)(hl:o+k+cs.length≤l.length):((over l (o+k) cs).drop o).take (k+cs.length)=xs++cs:=by
 unfold over;have h1:(l.take (o+k)).drop o=xs:=by rw[List.drop_take,show o+k - o=k by omega];exact hx
 rw[List.drop_append_of_le_length (by rw[tBd];omega),h1,List.take_append,tB5 zo,hk,show k+cs.length - k=cs.length by omega,List.take_left' rfl]
section
variable {w w' : World} {v : Value} {e : TypeId} {size n : Nat} {xs : List Value}
theorem Row.lt(h:Row w v e size n xs):∀g,v.ownBlock=some g→g<w.heap.size:=by
 intro g hg;rcases h.2 with⟨rfl,_⟩|⟨g',o,c,cur,rfl,hb,_⟩
 · cases hg
 simp[Value.ownBlock]at hg;subst hg;exact hb.lt
theorem Row.keptBlock(h:Row w v e size n xs)(hk:∀g,v.ownBlock=some g→w'.heap[g]? =w.heap[g]?):Row w' v e size n xs:=by
 refine⟨h.1,?_⟩;rcases h.2 with h0|⟨g,o,c,cur,rfl,hb,rest⟩
 · exact .inl h0
 exact .inr ⟨g,o,c,cur,rfl,(hk g rfl).trans hb,rest⟩
theorem Row.call(h:Row w v e size n xs)(hb:Zb w w'):Row w' v e size n xs:=h.keptBlock fun g hv=>hb.block g (h.lt g hv)
theorem Row.drew(h:Row w v e size n xs):Row w.drew v e size n xs:=h.keptBlock fun _ _=>rfl
theorem Row.alloc(h:Row w v e size n xs)(o:Obj):Row (w.alloc o) v e size n xs:=h.call ((tA5 _ _).alloc (tA4 _) o)
theorem Row.behind{o c:Nat}(h:Row w (.slice (some ⟨g,o,none⟩) n c) e size n xs)(hp:o+n*size≤p)(hfit:∀cur:List Value,Blk w g e cur.toArray→p+cs.length≤cur.length):Row (w.setCells g p cs) (.slice (some ⟨g,o,none⟩) n c) e size n xs:=by
 refine⟨h.1,?_⟩;rcases h.2 with⟨h0,_⟩|⟨g',o',c',cur,hv,hb,hn,hc,hl,ht⟩
 · cases h0
 injection hv with e1 e2 e3;injection e1 with e1;injection e1 with e1 e4;subst e1 e3 e4;have hf:=hfit cur hb;exact .inr ⟨g,o,c,over cur p cs,rfl,qn8 cs p w cur hb hf,hn,hc,by rw[qn7 hf];exact hl,by rw[qna hp zo];exact ht⟩
end
section
variable {P : Program} (w : World)
theorem qnc(t tx ty e:TypeId)(i:TypeInfo)(z:Value)(size bytes:Nat)(ht:P.underlying t=some (.slice e))(hi:P.info? e=some i)(hz:i.zero=some z)
 (hsize:i.size=size)(hby:i.bytes=bytes)(hzs:z.cells.size=size)
 (v:Value)(n:Nat)(xs:List Value)(hrow:Row w v e size n xs)(x:Value)(m:Nat)(news:List Value)(hsrc:Src P size tx x m news w)
 (h63:n+m≤maxLen)(hbytes:(n+m)*bytes≤140737488355328):
 (m=0∧v=.slice none 0 0∧(Builtin.append_ #[t,tx] ty #[v,x]).run P w=.ok v w)∨
 (∃(g o c:Nat) (cur:List Value),v=.slice (some ⟨g,o,none⟩) n c∧n+m≤c∧Blk w g e cur.toArray∧o+n*size+news.length≤cur.length∧
  (Builtin.append_ #[t,tx] ty #[v,x]).run P w=.ok (.slice (some ⟨g,o,none⟩) (n+m) c) (w.setCells g (o+n*size) news)∧Row (w.setCells g (o+n*size) news) (.slice (some ⟨g,o,none⟩) (n+m) c) e size (n+m) (xs++news))∨
 (∃(c':Nat) (cs:List Value),n+m≤c'∧c'≤maxLen∧cs.length=c'*size∧cs.take ((n+m)*size)=xs++news∧
  (Builtin.append_ #[t,tx] ty #[v,x]).run P w=.ok (.slice (some ⟨w.heap.size,0,none⟩) (n+m) c') (w.drew.alloc (.cells cs.toArray e))∧Row (w.drew.alloc (.cells cs.toArray e)) (.slice (some ⟨w.heap.size,0,none⟩) (n+m) c') e size (n+m) (xs++news)):=by
 subst hsize;subst hby;have hl:=hsrc.newsLen;have hlen:(xs++news).length=(n+m)*i.size:=by rw[tA6,hrow.1,hl,Nat.add_mul]
 have grow:∀(base:Option Addr) (c:Nat),c<n+m→(Builtin.firstCells i.size n (.slice base n c)).run P w.drew=.ok xs.toArray w.drew→
  ∃(c':Nat) (cs:List Value),n+m≤c'∧c'≤maxLen∧cs.length=c'*i.size∧cs.take ((n+m)*i.size)=xs++news∧
  (Builtin.append_ #[t,tx] ty #[.slice base n c,x]).run P w=.ok (.slice (some ⟨w.heap.size,0,none⟩) (n+m) c') (w.drew.alloc (.cells cs.toArray e))∧Row (w.drew.alloc (.cells cs.toArray e)) (.slice (some ⟨w.heap.size,0,none⟩) (n+m) c') e i.size (n+m) (xs++news):=by
  intro base c hc hold;have hge:=grownCap_ge w (n+m) c e;have hcm:grownCap w (n+m) c e≤maxLen:=grownCap_le_maxLen w (n+m) c e h63;have hr:=run_append_grow_src (P:=P) w t tx ty e i z ht hi hz base n c xs hold x m news hsrc hc (by simp only[maxLen]at h63;omega) (growslice_fits hc hbytes);obtain⟨Z,hZ⟩:∃Z:List Value,Z.toArray=Builtin.zeroCells z.cells (grownCap w (n+m) c e - (n+m)):=⟨_,Array.toArray_toList⟩;have hZl:Z.length=(grownCap w (n+m) c e - (n+m))*i.size:=by
   have:=congrArg Array.size hZ;rw[size_zeroCells,hzs,tB6]at this;exact this
  rw[←hZ,List.append_toArray]at hr;have hcl:(xs++news++Z).length=grownCap w (n+m) c e*i.size:=by
   rw[tA6,hlen,hZl,←Nat.add_mul];congr 1
   omega
  have htk:(xs++news++Z).take ((n+m)*i.size)=xs++news:=by rw[←hlen];exact List.take_left
  refine⟨_,xs++news++Z,hge,hcm,hcl,htk,hr,hlen,.inr ⟨w.heap.size,0,_,_,rfl,Blk.new w.drew e _,hge,hcm,by rw[hcl];omega,by rw[List.drop_zero];exact htk⟩⟩
 rcases hrow.2 with⟨rfl,rfl⟩|⟨g,o,c,cur,rfl,hb,hnc,hcm,hol,htake⟩
 ·
  have hx:xs=[]:=tB8 (by simpa using hrow.1);subst hx;by_cases hm:m=0
  ·
   subst hm;have hn:news=[]:=tB8 (by simpa using hl);subst hn;refine .inl ⟨rfl,rfl,?_⟩;have hc:=hsrc.cells;have hlo:=hsrc.len w;rcases hsrc.kind with⟨e',hk⟩|hk<;>simp[Builtin.append_,run_underlying ht,run_underlying hk,sizeOf,typeInfo,hi,hlo,hc,storeCells]
  exact .inr (.inr (grow none 0 zo (run_firstCells_none w.drew i.size 0 0 0)))
 by_cases hroom:n+m≤c
 ·
  have hfit:o+n*i.size+news.length≤cur.length:=by
   have h2:(n+m)*i.size≤c*i.size:=Nat.mul_le_mul_right _ hroom;rw[Nat.add_mul]at h2;omega
  have hr:=run_append_room_src (P:=P) w t tx ty e i ht hi g o n c x m news hsrc hroom (fun j hj=>by rw[hb.cell,tA3,tA7 zo];rfl) (fun j _=>hb.frozen _);refine .inr (.inl ⟨g,o,c,cur,rfl,hroom,hb,hfit,hr,hlen,.inr ⟨g,o,c,over cur (o+n*i.size) news,rfl,qn8 news _ w cur hb hfit,hroom,hcm,by rw[qn7 hfit];exact hol,?_⟩⟩);have:=qnb (cs:=news) htake hrow.1 hfit;rw[hl,←Nat.add_mul]at this;exact this
 refine .inr (.inr (grow (some ⟨g,o,none⟩) c zo ?_));refine run_firstCells_some w.drew i.size n ⟨g,o,none⟩ n c xs hrow.1 (fun j u hu=>?_);rw[World.cell?_drew,Addr.add_mid,hb.cell,tA3];rw[←htake,List.getElem?_take]at hu;split at hu
 · rwa[List.getElem?_drop]at hu
 cases hu
structure Appended (w w':World)(v v':Value)(e:TypeId)(size n m:Nat)(xs news:List Value):Prop where
 row:Row w' v' e size (n+m) (xs++news)
 old:Row w' v e size n xs
 only:w.grownBy w' v.ownBlock
 at_:v'.ownBlock=v.ownBlock∨v'.ownBlock=some w.heap.size
theorem qnd(t tx ty e:TypeId)(i:TypeInfo)(z:Value)(size bytes:Nat)(ht:P.underlying t=some (.slice e))(hi:P.info? e=some i)(hz:i.zero=some z)
 (hsize:i.size=size)(hby:i.bytes=bytes)(hzs:z.cells.size=size)
 (v:Value)(n:Nat)(xs:List Value)(hrow:Row w v e size n xs)(x:Value)(m:Nat)(news:List Value)(hsrc:Src P size tx x m news w)
 (h63:n+m≤maxLen)(hbytes:(n+m)*bytes≤140737488355328):
 ∃v' w',(Builtin.append_ #[t,tx] ty #[v,x]).run P w=.ok v' w'∧Appended w w' v v' e size n m xs news:=by
 rcases qnc (P:=P) w t tx ty e i z size bytes ht hi hz hsize hby hzs v n xs hrow x m news hsrc h63 hbytes with⟨rfl,rfl,hr⟩|⟨g,o,c,cur,rfl,hc,hb,hf,hr,hrw⟩|⟨c',cs,hc,hm,hl,htk,hr,hrw⟩
 · have hn:news=[]:=tB8 (by simpa using hsrc.newsLen)
   subst hn;exact⟨_,_,hr,by simpa using hrow,hrow,tB9 w _,.inl rfl⟩
 ·
  refine⟨_,_,hr,hrw,hrow.behind (tA4 _) (fun cur' h'=>?_),qn9 g news _ w,.inl rfl⟩;have:cur'=cur:=by
   unfold Blk at hb h';rw[hb]at h';injection h' with h';injection h' with h';simpa using h'.symm
  rw[this];exact hf
 exact⟨_,_,hr,hrw,(hrow.drew).alloc _,⟨rfl,rfl,rfl,by simp,fun k hk _=>Below.heap_alloc w.drew _ k hk⟩,.inr rfl⟩
theorem Src.reads(hk:P.underlying tx=some (.slice e')){c:Nat}(hr:Reads w B size A m news)(h1:∀u∈news,u.oneCell'=true)(hs:0<size):Src P size tx (.slice A m c) m news w:=by
 rcases A with _|ad
 ·
  have hm:m=0:=by
   rcases Nat.eq_zero_or_pos m with h0|h0
   · exact h0
   obtain⟨ad,h,_⟩:=hr.2 h0;cases h
  subst hm;have hn:news=[]:=tB8 (by simpa using hr.1);subst hn;exact Src.ofNil w hk c
 refine Src.ofSlice w hk ad m c news hr.1 ?_ h1;intro j u hu;rcases Nat.eq_zero_or_pos m with h0|h0
 · subst h0
   have hn:news=[]:=tB8 (by simpa using hr.1);subst hn;simp at hu
 obtain⟨ad',h,_,hc⟩:=hr.2 h0;injection h with h;subst h;exact hc j u hu
end
abbrev Col:=Nat→Nat
structure Turns (p:Nat→Bool)(w:World)(col:Col)(w':World)(col':Col):Prop where
 os:w'.os=w.os
 tape:w'.tape=w.tape
 output:w'.output=w.output
 size:w.heap.size≤w'.heap.size
 block:∀b,b<w.heap.size→p (col b)=false→w'.heap[b]? =w.heap[b]?
 same:∀b,b<w.heap.size→col' b=col b
def Fin_ (col:Col)(w:World):Prop:=∀b,col b≠0→b<w.heap.size
section
variable {p q : Nat → Bool} {w w' w'' : World} {col col' col'' : Col}
theorem Turns.refl(p:Nat→Bool)(w:World)(col:Col):Turns p w col w col:=⟨rfl,rfl,rfl,tA4 _,fun _ _ _=>rfl,fun _ _=>rfl⟩
theorem Turns.trans(h:Turns p w col w' col')(h':Turns p w' col' w'' col''):Turns p w col w'' col'':=
 ⟨h'.os.trans h.os,h'.tape.trans h.tape,h'.output.trans h.output,tB1 h.size h'.size,
  fun b hb hp=>(h'.block b (tB0 hb h.size) (by rw[h.same b hb];exact hp)).trans (h.block b hb hp),
  fun b hb=>(h'.same b (tB0 hb h.size)).trans (h.same b hb)⟩
theorem Turns.mono(h:Turns p w col w' col')(hpq:∀k,p k=true→q k=true):Turns q w col w' col':=
 ⟨h.os,h.tape,h.output,h.size,fun b hb hq=>h.block b hb (by
  cases hp:p (col b) with
  |false=>rfl
  |true=>rw[hpq _ hp]at hq;cases hq),h.same⟩
theorem Turns.of_below(p:Nat→Bool)(hb:Zb w w'):Turns p w col w' col:=⟨hb.os,hb.tape,hb.output,hb.size,fun b h _=>hb.block b h,fun _ _=>rfl⟩
theorem Turns.recolour(h:Turns p w col w' col')(hs:∀b,b<w.heap.size→col'' b=col' b):Turns p w col w' col'':=⟨h.os,h.tape,h.output,h.size,h.block,fun b hb=>(hs b hb).trans (h.same b hb)⟩
theorem Turns.of_grown{row:Option Nat}(hg:w.grownBy w' row)(hr:∀g,row=some g→p (col g)=true)(hs:∀b,b<w.heap.size→col' b=col b):Turns p w col w' col':=
 ⟨hg.os,hg.tape,hg.output,hg.size,fun b hb hp=>hg.block b hb (fun e=>by rw[hr b e.symm]at hp;cases hp),hs⟩
theorem Turns.below(h:Turns p w col w' col')(hp:∀b,b<B→p (col b)=false)(hB:B≤w.heap.size):Below B w w':=
 ⟨h.os,h.tape,h.output,h.size,fun b hb=>h.block b (tB0 hb hB) (hp b hb)⟩
theorem Turns.setCell(u:Value)(hp:p (col g)=true):Turns p w col (w.setCell ⟨g,i,none⟩ u) col:=
 .of_grown (row:=some g) (qab (tB9 w _) (p:=⟨g,i,none⟩) (.inl rfl) u) (fun k e=>by injection e with e;subst e;exact hp) (fun _ _=>rfl)
theorem Turns.setCells{o:Nat}(cs:List Value)(hp:p (col g)=true):Turns p w col (w.setCells g o cs) col:=
 .of_grown (row:=some g) (qn9 g cs o w) (fun k e=>by injection e with e;subst e;exact hp) (fun _ _=>rfl)
theorem Fin_.mono(h:Fin_ col w)(hs:w.heap.size≤w'.heap.size):Fin_ col w':=fun b hb=>tB0 (h b hb) hs
def Col.put (col:Col)(g k:Nat):Col:=fun b=>if b=g then k else col b
theorem Col.put_at(col:Col)(g k:Nat):col.put g k g=k:=by simp[Col.put]
theorem Col.put_old(col:Col)(k:Nat)(h:b<g):col.put g k b=col b:=by unfold Col.put;rw[if_neg zo]
theorem Col.put_ne(col:Col)(k:Nat)(h:b≠g):col.put g k b=col b:=by unfold Col.put;rw[if_neg h]
theorem Fin_.put(h:Fin_ col w)(hs:w.heap.size≤w'.heap.size)(hg:g<w'.heap.size):Fin_ (col.put g k) w':=fun b hb=>by
 unfold Col.put at hb;by_cases e:b=g
 · omega
 rw[if_neg e]at hb;exact tB0 (h b hb) hs
def KeepsCol (k:Nat)(w:World)(col:Col)(w':World)(col':Col):Prop:=w.heap.size≤w'.heap.size∧∀b,b<w.heap.size→col b=k→w'.heap[b]? =w.heap[b]? ∧col' b=k
theorem Turns.keeps(h:Turns p w col w' col')(hp:p k=false):KeepsCol k w col w' col':=⟨h.size,fun b hb hk=>⟨h.block b hb (by rw[hk];exact hp),(h.same b hb).trans hk⟩⟩
end
def RowC (w:World)(col:Col)(k:Nat)(v:Value)(e:TypeId)(size n:Nat)(xs:List Value):Prop:=
 xs.length=n*size∧((n=0∧(v=.slice none 0 0∨∃g o,v=.slice (some ⟨g,o,none⟩) 0 0))∨
  ∃(g o c:Nat) (cur:List Value),v=.slice (some ⟨g,o,none⟩) n c∧col g=k∧Blk w g e cur.toArray∧n≤c∧c≤maxLen∧o+c*size≤cur.length∧(cur.drop o).take (n*size)=xs)
section
variable {w w' : World} {col col' : Col} {k : Nat} {v : Value} {e : TypeId} {size n : Nat} {xs : List Value}
theorem RowC.nil(w:World)(col:Col)(k:Nat)(e:TypeId)(size:Nat):RowC w col k (.slice none 0 0) e size 0 []:=⟨by simp,.inl ⟨rfl,.inl rfl⟩⟩
theorem RowC.sl(h:RowC w col k v e size n xs):∃A c,v=.slice A n c∧n≤c∧c≤maxLen∧Reads w w.heap.size size A n xs∧(0<n→∃ad,A=some ad∧col ad.block=k):=by
 rcases h.2 with⟨rfl,hv⟩|⟨g,o,c,cur,rfl,hk,hb,hn,hc,hl,ht⟩
 · have hx:xs=[]:=tB8 (by simpa using h.1)
   subst hx;rcases hv with rfl|⟨g,o,rfl⟩
   · exact⟨none,0,rfl,tA4 _,by simp[maxLen],⟨by simp,fun h=>absurd h zo⟩,fun h=>absurd h zo⟩
   exact⟨_,0,rfl,tA4 _,by simp[maxLen],⟨by simp,fun h=>absurd h zo⟩,fun h=>absurd h zo⟩
 refine⟨_,c,rfl,hn,hc,⟨h.1,fun _=>⟨_,rfl,hb.lt,fun j u hu=>?_⟩⟩,fun _=>⟨_,rfl,hk⟩⟩;rw[Addr.add_mid,hb.cell,tA3];rw[←ht,List.getElem?_take]at hu;split at hu
 · rwa[List.getElem?_drop]at hu
 cases hu
theorem RowC.keep(h:RowC w col k v e size n xs)(hk:KeepsCol k w col w' col'):RowC w' col' k v e size n xs:=by
 refine⟨h.1,?_⟩;rcases h.2 with h0|⟨g,o,c,cur,rfl,hc,hb,rest⟩
 · exact .inl h0
 obtain⟨h1,h2⟩:=hk.2 g hb.lt hc;exact .inr ⟨g,o,c,cur,rfl,h2,h1.trans hb,rest⟩
theorem RowC.call(h:RowC w col k v e size n xs)(hb:Zb w w'):RowC w' col k v e size n xs:=h.keep ((Turns.of_below (fun _=>false) hb).keeps rfl)
theorem RowC.of_own(h:w.ownsRow base e size v n xs)(hk:∀g,v.ownBlock=some g→col g=k):RowC w col k v e size n xs:=by
 refine⟨h.1,?_⟩;rcases h.2 with⟨rfl,rfl⟩|⟨g,cap,cur,rfl,_,hg,hn,hc,hs,ht⟩
 · exact .inl ⟨rfl,.inl rfl⟩
 exact .inr ⟨g,0,cap,cur.toList,rfl,hk g rfl,by simpa [Blk] using hg,hn,hc,by simp[hs],by simpa using ht⟩
end
structure AppendedC (w:World)(col:Col)(w':World)(col':Col)(k:Nat)(v v':Value)(e:TypeId)(size n m:Nat)(xs news:List Value):Prop where
 row:RowC w' col' k v' e size (n+m) (xs++news)
 old:RowC w' col' k v e size n xs
 turns:Turns (· ==k) w col w' col'
 fin:Fin_ col w→Fin_ col' w'
 other:∀b,col' b≠col b→w.heap.size≤b
theorem qne(w:World)(col:Col)(k:Nat)(t tx ty e:TypeId)(i:TypeInfo)(z:Value)(size bytes:Nat)(ht:P.underlying t=some (.slice e))(hi:P.info? e=some i)(hz:i.zero=some z)
 (hsize:i.size=size)(hby:i.bytes=bytes)(hzs:z.cells.size=size)
 (v:Value)(n:Nat)(xs:List Value)(hrow:RowC w col k v e size n xs)(x:Value)(m:Nat)(news:List Value)(hsrc:Src P size tx x m news w)
 (h63:n+m≤maxLen)(hbytes:(n+m)*bytes≤140737488355328):
 ∃v' w' col',(Builtin.append_ #[t,tx] ty #[v,x]).run P w=.ok v' w'∧AppendedC w col w' col' k v v' e size n m xs news:=by
 have main:∀(hr:Row w v e size n xs) (hc:∀g,v.ownBlock=some g→col g=k),∃v' w' col',(Builtin.append_ #[t,tx] ty #[v,x]).run P w=.ok v' w'∧AppendedC w col w' col' k v v' e size n m xs news:=by
  intro hr hc;obtain⟨v',w',hrun,ha⟩:=qnd (P:=P) w t tx ty e i z size bytes ht hi hz hsize hby hzs v n xs hr x m news hsrc h63 hbytes;by_cases hnew:v'.ownBlock=some w.heap.size
  ·
   have hlt:=ha.row.lt _ hnew;refine⟨v',w',col.put w.heap.size k,hrun,?_,?_,.of_grown ha.only (fun g hg=>by simpa using hc g hg) (fun b hb=>Col.put_old _ _ hb),fun hf=>hf.put ha.only.size hlt,fun b hb=>?_⟩
   · refine⟨ha.row.1,?_⟩
     rcases ha.row.2 with⟨rfl,h0⟩|⟨g,o,c,cur,rfl,hb,rest⟩
     · cases hnew
     obtain rfl:g=w.heap.size:=by simpa [Value.ownBlock] using hnew
     exact .inr ⟨_,o,c,cur,rfl,Col.put_at ..,hb,rest⟩
   · refine⟨hr.1,?_⟩
     rcases ha.old.2 with⟨rfl,h0⟩|⟨g,o,c,cur,rfl,hb,rest⟩
     · exact .inl ⟨h0,.inl rfl⟩
     refine .inr ⟨g,o,c,cur,rfl,?_,hb,rest⟩;rw[Col.put_old _ _ (hr.lt g rfl)];exact hc g rfl
   by_cases e:b=w.heap.size
   · omega
   exact absurd (Col.put_ne _ _ e) hb
  have hsame:v'.ownBlock=v.ownBlock:=ha.at_.resolve_right hnew;have cast:∀{v0:Value} {n0:Nat} {xs0:List Value},Row w' v0 e size n0 xs0→(∀g,v0.ownBlock=some g→col g=k)→RowC w' col k v0 e size n0 xs0:=by
   intro v0 n0 xs0 h hk;refine⟨h.1,?_⟩;rcases h.2 with⟨rfl,h0⟩|⟨g,o,c,cur,rfl,hb,rest⟩
   · exact .inl ⟨h0,.inl rfl⟩
   exact .inr ⟨g,o,c,cur,rfl,hk g rfl,hb,rest⟩
  exact⟨v',w',col,hrun,cast ha.row (fun g hg=>hc g (hsame▸hg)),cast ha.old hc,.of_grown ha.only (fun g hg=>by simpa using hc g hg) (fun _ _=>rfl),fun hf=>hf.mono ha.only.size,fun b hb=>absurd rfl hb⟩
 rcases hrow.2 with⟨rfl,hv⟩|⟨g,o,c,cur,rfl,hk,hb,rest⟩
 ·
  rcases hv with rfl|⟨g,o,rfl⟩
  · exact main ⟨hrow.1,.inl ⟨rfl,rfl⟩⟩ (fun g hg=>by cases hg)
  have hx:xs=[]:=tB8 (by simpa using hrow.1);subst hx;subst hsize;subst hby;have hl:=hsrc.newsLen;by_cases hm:m=0
  · subst hm
    have hn:news=[]:=tB8 (by simpa using hl);subst hn;have hr:=run_append_room_src (P:=P) w t tx ty e i ht hi g o 0 0 x 0 [] hsrc zo (fun j hj=>absurd hj zm) (fun j hj=>absurd hj zm);exact⟨_,w,col,hr,by simpa using hrow,hrow,.refl _ _ _,fun h=>h,fun b hb=>absurd rfl hb⟩
  have hge:=grownCap_ge w (0+m) 0 e;have hcm:grownCap w (0+m) 0 e≤maxLen:=grownCap_le_maxLen w (0+m) 0 e h63;have hr:=run_append_grow_src (P:=P) w t tx ty e i z ht hi hz (some ⟨g,o,none⟩) 0 0 [] (run_firstCells_some w.drew i.size 0 ⟨g,o,none⟩ 0 0 [] zm (fun j u hu=>by simp at hu)) x m news hsrc zo (by simp only[maxLen]at h63;omega) (growslice_fits zo hbytes);obtain⟨Z,hZ⟩:∃Z:List Value,Z.toArray=Builtin.zeroCells z.cells (grownCap w (0+m) 0 e - (0+m)):=⟨_,Array.toArray_toList⟩;have hZl:Z.length=(grownCap w (0+m) 0 e - (0+m))*i.size:=by
   have:=congrArg Array.size hZ;rw[size_zeroCells,hzs,tB6]at this;exact this
  rw[←hZ,List.append_toArray]at hr;have hcl:([]++news++Z).length=grownCap w (0+m) 0 e*i.size:=by
   rw[tA6,List.nil_append,hl,hZl,←Nat.add_mul];congr 1
   omega
  have htk:([]++news++Z).take ((0+m)*i.size)=[]++news:=by
   rw[List.nil_append,Nat.zero_add,←hl];exact List.take_left
  refine⟨_,_,col.put w.heap.size k,hr,?_,?_,?_,?_,?_⟩
  · exact⟨by rw[List.nil_append,hl,Nat.zero_add],.inr ⟨w.heap.size,0,_,_,rfl,Col.put_at ..,Blk.new w.drew e _,hge,hcm,by rw[hcl];omega,by rw[List.drop_zero];exact htk⟩⟩
  · exact⟨by simp,.inl ⟨rfl,.inr ⟨g,o,rfl⟩⟩⟩
  · exact⟨rfl,rfl,rfl,by simp,fun b hb _=>Below.heap_alloc w.drew _ b hb,fun b hb=>Col.put_old _ _ hb⟩
  · exact fun hf=>hf.put zm zm
  intro b hb;by_cases e:b=w.heap.size
  · omega
  exact absurd (Col.put_ne _ _ e) hb
 exact main ⟨hrow.1,.inr ⟨g,o,c,cur,rfl,hb,rest⟩⟩ (fun g' hg=>by
  obtain rfl:g=g':=by simpa [Value.ownBlock] using hg
  exact hk)
section
variable {P : Program} (w : World)
theorem qnf(s x:Operand)(t tx:TypeId)
 (ho:o.op=.call {callee:=.builtin .append,args:=#[s,x],argTypes:=#[t,tx]})
 (col:Col)(k:Nat)(e:TypeId)(i:TypeInfo)(z:Value)(size bytes:Nat)(ht:P.underlying t=some (.slice e))(hi:P.info? e=some i)(hz:i.zero=some z)
 (hsize:i.size=size)(hby:i.bytes=bytes)(hzs:z.cells.size=size)
 (v:Value)(n:Nat)(xs:List Value)(hs:a.eval s=v)(hrow:RowC w col k v e size n xs)(xv:Value)(m:Nat)(news:List Value)(hx:a.eval x=xv)(hsrc:Src P size tx xv m news w)
 (h63:n+m≤maxLen)(hbytes:(n+m)*bytes≤140737488355328)
 (h:∀v' w' col',AppendedC w col w' col' k v v' e size n m xs news→K (a.put o.dst v') w'):o.wp P a w K Q:=by
 obtain⟨v',w',col',hrun,h2⟩:=qne (P:=P) w col k t tx o.type e i z size bytes ht hi hz hsize hby hzs v n xs hrow xv m news hsrc h63 hbytes;unfold Oper.wp execOp;simp only[ho,resolve,invoke,builtin,Sem.run_bind,Sem.run_pure,Result.andThen_ok,List.map_toArray,List.map_cons,List.map_nil,hs,hx,hrun];exact h v' w' col' h2
end
def TextC (w:World)(col:Col)(v:Value)(bs:List Nat):Prop:=
 ∃A n c,v=.slice A n c∧n≤c∧c≤maxLen∧Reads w w.heap.size 1 A n (byv bs)∧(0<n→∃ad,A=some ad∧col ad.block=5)
def TextsC (w:World)(col:Col)(k:Nat)(v:Value)(ls:List (List Nat)):Prop:=
 ∃vs:List Value,RowC w col k v 23 1 ls.length vs∧∀(i:Nat) (bs:List Nat),ls[i]? =some bs→∃u,vs[i]? =some u∧TextC w col u bs
section
variable {w w' : World} {col col' : Col} {k : Nat} {v : Value} {bs : List Nat} {ls : List (List Nat)}
theorem TextC.keep(h:TextC w col v bs)(hk:KeepsCol 5 w col w' col'):TextC w' col' v bs:=by
 obtain⟨A,n,c,rfl,hn,hc,hr,ha⟩:=h;refine⟨A,n,c,rfl,hn,hc,⟨hr.1,fun h0=>?_⟩,fun h0=>?_⟩
 ·
  obtain⟨ad,rfl,h5⟩:=ha h0;obtain⟨ad',e,hb,hcell⟩:=hr.2 h0;injection e with e;subst e;refine⟨ad,rfl,tB0 hb hk.1,fun j u hu=>?_⟩;refine(World.cell?_of_block ?_).trans (hcell j u hu);rw[qa1];exact(hk.2 _ hb h5).1
 obtain⟨ad,rfl,h5⟩:=ha h0;obtain⟨ad',e,hb,_⟩:=hr.2 h0;injection e with e;subst e;exact⟨ad,rfl,(hk.2 _ hb h5).2⟩
theorem TextsC.keep(h:TextsC w col k v ls)(hk:KeepsCol k w col w' col')(h5:KeepsCol 5 w col w' col'):TextsC w' col' k v ls:=by
 obtain⟨vs,hr,ht⟩:=h;refine⟨vs,hr.keep hk,fun i bs hi=>?_⟩;obtain⟨u,hu,ht⟩:=ht i bs hi;exact⟨u,hu,ht.keep h5⟩
theorem TextC.own(h:OwnB w base v bs)(hk:∀g,v.ownBlock=some g→col g=5):TextC w col v bs:=by
 obtain⟨A,n,c,rfl,hn,hc,hr⟩:=h.sl;refine⟨A,n,c,rfl,hn,hc,hr,fun h0=>?_⟩;obtain⟨ad,rfl,hb,_⟩:=hr.2 h0;refine⟨ad,rfl,hk _ ?_⟩;rcases h.2 with⟨e,_⟩|⟨g,cap,cur,e,_⟩
 · cases e
 injection e with e;injection e with e;subst e;rfl
theorem TextC.one(h:TextC w col v bs):v.oneCell'=true:=by obtain⟨A,n,c,rfl,_⟩:=h;rfl
theorem TextsC.sl(h:TextsC w col k v ls):∃vs A c,v=.slice A ls.length c∧ls.length≤c∧c≤maxLen∧Reads w w.heap.size 1 A ls.length vs∧(∀(i:Nat) (bs:List Nat),ls[i]? =some bs→∃u,vs[i]? =some u∧TextC w col u bs):=by
 obtain⟨vs,hr,ht⟩:=h;obtain⟨A,c,h1,h2,h3,h4,_⟩:=hr.sl;exact⟨vs,A,c,h1,h2,h3,h4,ht⟩
theorem TextsC.nil(w:World)(col:Col)(k:Nat):TextsC w col k (.slice none 0 0) []:=⟨[],RowC.nil ..,fun i bs h=>by simp at h⟩
end
def tenv (x:Ten):List Value:=[.bool x.on,.int .u32 (x.rate:Int),.int .u32 (x.burst:Int),.int .u32 (x.tok:Int),.int .u32 (x.store:Int),.int .u32 (x.used:Int)]
def grav (g:Gra):List Value:=[.int .i64 g.tenant,.int .i64 g.role,.int .u64 (g.expires:Int),.bool g.revoked]
def trev (t:Tre)(vd vl vq:Value):List Value:=.int .i64 t.state::.int .i64 t.tenant::.int .i64 t.weight::.int .i64 t.deficit::vd::vl::vq::hdv t.hd
def drwv (l:List Nat):List Value:=l.map fun n:Nat=>.int .u32 (n:Int)
theorem qng {α:Type}{sz:Nat}:∀{L:List (List α)} {n j:Nat} {c:List α},(∀c∈L,c.length=sz)→L[n]? =some c→j<sz→L.flatten[n*sz+j]? =c[j]?
 |[],n,j,c,_,h,_=>by simp at h
 |x::L,0,j,c,hl,h,hj=>by
  have hx:=hl x zm;simp only[List.getElem?_cons_zero,Option.some.injEq]at h;subst h;rw[List.flatten_cons,Nat.zero_mul,Nat.zero_add,tBm zo]
 |x::L,n+1,j,c,hl,h,hj=>by
  have hx:=hl x zm;simp only[tBc]at h;rw[List.flatten_cons,Nat.succ_mul,tBn zo,show n*sz+sz+j - x.length=n*sz+j by omega];exact qng (fun c hc=>hl c (List.mem_cons_of_mem _ hc)) h hj
theorem qnh {α:Type}{sz:Nat}:∀{L:List (List α)},(∀c∈L,c.length=sz)→L.flatten.length=L.length*sz
 |[],_=>by simp
 |x::L,hl=>by
  rw[List.flatten_cons,tA6,hl x zm,qnh (fun c hc=>hl c (List.mem_cons_of_mem _ hc)),tBi,Nat.succ_mul];omega
theorem qni {sz:Nat}:∀{L:List (List Value)} {n j:Nat} (cs:List Value),(∀c∈L,c.length=sz)→n<L.length→j+cs.length≤sz→over L.flatten (n*sz+j) cs=(L.modify n fun c=>over c j cs).flatten
 |[],n,j,cs,_,h,_=>by simp at h
 |x::L,0,j,cs,hl,h,hj=>by
  have hx:=hl x zm;rw[List.modify_zero_cons,List.flatten_cons,List.flatten_cons,Nat.zero_mul,Nat.zero_add];unfold over;rw[List.take_append_of_le_length zo,List.drop_append_of_le_length zo];simp only[List.append_assoc]
 |x::L,n+1,j,cs,hl,h,hj=>by
  have hx:=hl x zm;rw[List.modify_succ_cons,List.flatten_cons,List.flatten_cons,←qni cs (fun c hc=>hl c (List.mem_cons_of_mem _ hc)) (by simpa using h) hj];unfold over;rw[Nat.succ_mul,show n*sz+sz+j=x.length+(n*sz+j) by omega,List.take_length_add_append,show x.length+(n*sz+j)+cs.length=x.length+(n*sz+j+cs.length) by omega,List.drop_length_add_append,List.append_assoc]
theorem qnj(l:List Value)(i:Nat)(u:Value)(h:i<l.length):over l i [u]=l.set i u:=by
 unfold over;rw[List.set_eq_take_append_cons_drop,if_pos h];simp
theorem qnk{l:List Value}{o:Nat}(h:o+cs.length≤l.length):over (l++sp) o cs=over l o cs++sp:=by
 unfold over;rw[List.take_append_of_le_length zo,List.drop_append_of_le_length zo];simp only[List.append_assoc]
theorem qnl {α β:Type}(f:α→β)(g:α→α)(h:β→β):∀(l:List α) (n:Nat),(∀x,l[n]? =some x→h (f x)=f (g x))→(l.map f).modify n h=(l.modify n g).map f
 |[],n,_=>by simp
 |x::l,0,hx=>by simp[hx x rfl]
 |x::l,n+1,hx=>by simp[qnl f g h l n (fun y hy=>hx y (by simpa using hy))]
def TopAt (w:World)(col:Col)(k:Nat)(e:TypeId)(g c size n:Nat)(xs:List Value):Prop:=
 col g=k∧∃sp:List Value,Blk w g e (xs++sp).toArray∧xs.length=n*size∧n≤c∧c≤maxLen∧xs.length+sp.length=c*size
section
variable {w w' : World} {col col' : Col} {k : Nat} {e : TypeId} {g c size n : Nat} {xs : List Value}
theorem TopAt.keep(h:TopAt w col k e g c size n xs)(hk:KeepsCol k w col w' col'):TopAt w' col' k e g c size n xs:=by
 obtain⟨hc,sp,hb,rest⟩:=h;obtain⟨h1,h2⟩:=hk.2 g hb.lt hc;exact⟨h2,sp,h1.trans hb,rest⟩
theorem TopAt.lt(h:TopAt w col k e g c size n xs):g<w.heap.size:=by obtain⟨hc,sp,hb,_⟩:=h;exact hb.lt
theorem TopAt.cell(h:TopAt w col k e g c size n xs)(hu:xs[i]? =some u):w.cell? ⟨g,i,none⟩=some u:=by
 obtain⟨hc,sp,hb,_⟩:=h;obtain⟨hi,_⟩:=tA8 hu;rw[hb.cell,tA3,tBm hi];exact hu
theorem TopAt.frozen(h:TopAt w col k e g c size n xs)(i:Nat):w.frozen? ⟨g,i,none⟩=false:=by obtain⟨hc,sp,hb,_⟩:=h;exact hb.frozen i
theorem TopAt.reads(h:TopAt w col k e g c size n xs):Reads w w.heap.size size (some ⟨g,0,none⟩) n xs:=
 ⟨h.2.elim fun _ h=>h.2.1,fun _=>⟨_,rfl,h.lt,fun j u hu=>by rw[Addr.add_mid];exact h.cell (by simpa using hu)⟩⟩
theorem TopAt.over(h:TopAt w col k e g c size n xs){o:Nat}(hl:o+cs.length≤xs.length):TopAt (w.setCells g o cs) col k e g c size n (over xs o cs):=by
 obtain⟨hc,sp,hb,hxl,hn,hm,hsp⟩:=h;have h2:=qn8 cs o w _ hb (by rw[tA6];omega);rw[qnk hl]at h2;exact⟨hc,sp,h2,by rw[qn7 hl];exact hxl,hn,hm,by rw[qn7 hl];exact hsp⟩
theorem TopAt.set1(h:TopAt w col k e g c size n xs){o:Nat}(u:Value)(hl:o<xs.length):TopAt (w.setCell ⟨g,o,none⟩ u) col k e g c size n (xs.set o u):=by
 have:=h.over (o:=o) (cs:=[u]) (by simp;omega);rwa[qnj _ _ _ hl]at this
theorem TopAt.far(h:TopAt w col k e g c size n xs){p:Addr}(hp:g≠p.block)(u:Value):TopAt (w.setCell p u) col k e g c size n xs:=by
 obtain⟨hc,sp,hb,rest⟩:=h;exact⟨hc,sp,hb.far hp u,rest⟩
theorem TopAt.there(h:TopAt w col k e g c size n xs){o:Nat}(hl:o+m≤xs.length):w.there g o m:=fun j hj=>by
 obtain⟨u,hu⟩:∃u,xs[o+j]? =some u:=⟨_,tA7 zo⟩;exact⟨by rw[h.cell hu];simp,h.frozen _⟩
end
structure Loc where
 tg:Nat
 tc:Nat
 rg:Nat
 rc:Nat
 gg:Nat
 gc:Nat
 sa:Option Addr
 sn:Nat
 sc:Nat
def TreAt (w:World)(col:Col)(i:Nat)(cs:List Value)(t:Tre):Prop:=
 ∃vd vl vq,cs=trev t vd vl vq∧RowC w col (10+3*i) vd 22 1 t.draws.length (drwv t.draws)∧TextsC w col (11+3*i) vl t.leaves∧TextsC w col (12+3*i) vq t.queue
def TrsAt (w:World)(col:Col)(css:List (List Value))(l:List Tre):Prop:=css.length=l.length∧∀(i:Nat) (t:Tre),l[i]? =some t→∃cs,css[i]? =some cs∧TreAt w col i cs t
structure StAt (tt rt gt:TypeId)(w:World)(col:Col)(k:Nat)(L:Loc)(css:List (List Value))(s:Sta):Prop where
 tens:TopAt w col k tt L.tg L.tc 6 16 (s.tens.flatMap tenv)
 tres:TopAt w col (k+1) rt L.rg L.rc 75 16 css.flatten
 gras:TopAt w col (k+2) gt L.gg L.gc 4 s.gras.length (s.gras.flatMap grav)
 trs:TrsAt w col css s.tres
section
variable {w w' : World} {col col' : Col} {i : Nat} {cs : List Value} {css : List (List Value)} {t : Tre} {l : List Tre}
theorem TreAt.keep(h:TreAt w col i cs t)(hk:∀k,k=5∨10≤k→KeepsCol k w col w' col'):TreAt w' col' i cs t:=by
 obtain⟨vd,vl,vq,e,h1,h2,h3⟩:=h;exact⟨vd,vl,vq,e,h1.keep (hk _ (.inr zo)),h2.keep (hk _ (.inr zo)) (hk _ (.inl rfl)),h3.keep (hk _ (.inr zo)) (hk _ (.inl rfl))⟩
theorem TrsAt.keep(h:TrsAt w col css l)(hk:∀k,k=5∨10≤k→KeepsCol k w col w' col'):TrsAt w' col' css l:=
 ⟨h.1,fun i t ht=>by
  obtain⟨cs,h1,h2⟩:=h.2 i t ht;exact⟨cs,h1,h2.keep hk⟩⟩
theorem StAt.keep{L:Loc}{s:Sta}(h:StAt tt rt gt w col k L css s)(h1:KeepsCol k w col w' col')(h2:KeepsCol (k+1) w col w' col')(h3:KeepsCol (k+2) w col w' col')(hk:∀k,k=5∨10≤k→KeepsCol k w col w' col'):StAt tt rt gt w' col' k L css s:=
 ⟨h.tens.keep h1,h.tres.keep h2,h.gras.keep h3,h.trs.keep hk⟩
theorem qnm{h:Hd}(hk:h.Ok):(hdv h).length=68:=by
 unfold hdv;simp only[tBi,tA6,qat,hk.rootl,hk.tagl]
theorem qnn{t:Tre}(vd vl vq:Value)(h:t.hd.Ok):(trev t vd vl vq).length=75:=by
 unfold trev;simp only[tBi,qnm h]
theorem TrsAt.lens(h:TrsAt w col css l)(hk:∀t∈l,t.hd.Ok):∀c∈css,c.length=75:=by
 intro c hc;obtain⟨i,hi,rfl⟩:=List.getElem_of_mem hc;have hi':i<l.length:=by rw[←h.1];exact hi
 obtain⟨cs,h1,vd,vl,vq,e,_⟩:=h.2 i l[i] (tA7 hi');rw[tA7 hi]at h1;injection h1 with h1;rw[h1,e];exact qnn _ _ _ (hk _ (List.getElem_mem _))
theorem qno{l:List Ten}{x:Ten}(h:l[n]? =some x)(hj:j<6):(l.flatMap tenv)[n*6+j]? =(tenv x)[j]? :=by
 rw[List.flatMap_def];exact qng (fun c hc=>by obtain⟨y,_,rfl⟩:=List.mem_map.1 hc;rfl) (by rw[tBj,h];rfl) hj
theorem qnp{l:List Gra}{x:Gra}(h:l[n]? =some x)(hj:j<4):(l.flatMap grav)[n*4+j]? =(grav x)[j]? :=by
 rw[List.flatMap_def];exact qng (fun c hc=>by obtain⟨y,_,rfl⟩:=List.mem_map.1 hc;rfl) (by rw[tBj,h];rfl) hj
theorem qnq(l:List Ten):(l.flatMap tenv).length=l.length*6:=by
 rw[List.flatMap_def,qnh (sz:=6) (fun c hc=>by obtain⟨y,_,rfl⟩:=List.mem_map.1 hc;rfl),tBl]
theorem qnr(l:List Gra):(l.flatMap grav).length=l.length*4:=by
 rw[List.flatMap_def,qnh (sz:=4) (fun c hc=>by obtain⟨y,_,rfl⟩:=List.mem_map.1 hc;rfl),tBl]
theorem qns{l:List Ten}{cs:List Value}{f:Ten→Ten}(hn:n<l.length)(hj:j+cs.length≤6)(hf:∀x,l[n]? =some x→over (tenv x) j cs=tenv (f x)):over (l.flatMap tenv) (n*6+j) cs=(l.modify n f).flatMap tenv:=by
 rw[List.flatMap_def,List.flatMap_def,qni cs (fun c hc=>by obtain⟨y,_,rfl⟩:=List.mem_map.1 hc;rfl) (by simpa using hn) hj,qnl _ f _ _ _ hf]
theorem qnt{l:List Gra}{cs:List Value}{f:Gra→Gra}(hn:n<l.length)(hj:j+cs.length≤4)(hf:∀x,l[n]? =some x→over (grav x) j cs=grav (f x)):over (l.flatMap grav) (n*4+j) cs=(l.modify n f).flatMap grav:=by
 rw[List.flatMap_def,List.flatMap_def,qni cs (fun c hc=>by obtain⟨y,_,rfl⟩:=List.mem_map.1 hc;rfl) (by simpa using hn) hj,qnl _ f _ _ _ hf]
end
end Go.Proofs.YthomgopipiomhaaGreatDoor

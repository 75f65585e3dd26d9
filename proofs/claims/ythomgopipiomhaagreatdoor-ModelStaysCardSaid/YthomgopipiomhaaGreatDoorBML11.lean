/- Lemmas. -/
import Derived.Test.YthomgopipiomhaaGreatDoorBML10
namespace Go.Proofs.YthomgopipiomhaaGreatDoor
open Go.RowKit
set_option linter.unusedVariables false
set_option linter.unusedSimpArgs false
set_option maxRecDepth 100000
set_option maxHeartbeats 32000000
variable {P:Program}{Q:Exit→Act→World→Prop}{K:Act→World→Prop}{a:Act}{o:Oper}{g' c' k g d n clk:Nat}{css:List (List Value)}{L:Loc}{s s1 s2 s':Sta}{c:Cfg}{col col' col'':Col}{w w' W W':World}{v' vd vl vq:Value}{t:Tre}{R r:Req}{tr tn wg q:Int}{x:Ten}{bs:List Nat}
theorem qs6(w:World)(col:Col)(k:Nat)(t tx ty e:TypeId)(i:TypeInfo)(z:Value)(size bytes:Nat)(ht:P.underlying t=some (.slice e))(hi:P.info? e=some i)(hz:i.zero=some z)
 (hsize:i.size=size)(hby:i.bytes=bytes)(hzs:z.cells.size=size)
 (g c n:Nat)(xs:List Value)(h:TopAt w col k e g c size n xs)(x:Value)(m:Nat)(news:List Value)(hsrc:Src P size tx x m news w)
 (h63:n+m≤maxLen)(hbytes:(n+m)*bytes≤140737488355328):
 ∃g' c' w' col',(Builtin.append_ #[t,tx] ty #[.slice (some ⟨g,0,none⟩) n c,x]).run P w=.ok (.slice (some ⟨g',0,none⟩) (n+m) c') w'∧TopAt w' col' k e g' c' size (n+m) (xs++news)∧Turns (· ==k) w col w' col'∧(Fin_ col w→Fin_ col' w'):=by
 obtain⟨hk,sp,hb,hxl,hn,hm,hsp⟩:=h;have hnl:=hsrc.newsLen;have hr:Row w (.slice (some ⟨g,0,none⟩) n c) e size n xs:=⟨hxl,.inr ⟨g,0,c,xs++sp,rfl,hb,hn,hm,by rw[tA6];omega,by rw[List.drop_zero,←hxl,List.take_left]⟩⟩;rcases qn8 (P:=P) w t tx ty e i z size bytes ht hi hz hsize hby hzs _ n xs hr x m news hsrc h63 hbytes with⟨-,hv,-⟩|⟨g1,o,c1,cur,hv,hc,hb1,hf,hrun,hrw⟩|⟨c',cs,hc,hm',hl,htk,hrun,hrw⟩
 · cases hv
 ·
  injection hv with e1 e2 e3;injection e1 with e1;injection e1 with e4 e5;subst e3 e4 e5;have hcn:(n+m)*size≤c*size:=Nat.mul_le_mul_right _ hc;rw[Nat.add_mul]at hcn;refine⟨g,c,_,col,hrun,⟨hk,sp.drop news.length,?_,by rw[tA6,hxl,hnl,Nat.add_mul],hc,hm,?_⟩,Turns.setCells news (by simp[hk]),fun hf=>hf.mono (Turns.setCells (p:=(· ==k)) (col:=col) news (by simp[hk])).size⟩
  · have h2:=qn4 news (0+n*size) w _ hb (by rw[tA6];omega)
    have e9:over (xs++sp) (0+n*size) news=xs++news++sp.drop news.length:=by
     unfold over;rw[Nat.zero_add,←hxl,List.take_left,List.append_assoc,List.drop_append,List.drop_eq_nil_of_le zo];simp
    rwa[e9]at h2
  rw[tA6,tBk];omega
 refine⟨w.heap.size,c',_,col.put w.heap.size k,hrun,⟨Col.put_at ..,cs.drop ((n+m)*size),?_,by rw[tA6,hxl,hnl,Nat.add_mul],hc,hm',?_⟩,?_,fun hf=>hf.put zm zm⟩
 · rw[←htk,List.take_append_drop]
   exact Blk.new w.drew e _
 · have:(xs++news).length=(n+m)*size:=by rw[tA6,hxl,hnl,Nat.add_mul]
   rw[this,tBk,hl];have:=Nat.mul_le_mul_right size hc;omega
 exact⟨rfl,rfl,rfl,by simp,fun b hb _=>Below.heap_alloc w.drew _ b hb,fun b hb=>Col.put_old _ _ hb⟩
theorem qs7(w:World)(s x:Operand)(t tx:TypeId)
 (ho:o.op=.call {callee:=.builtin .append,args:=#[s,x],argTypes:=#[t,tx]})
 (col:Col)(k:Nat)(e:TypeId)(i:TypeInfo)(z:Value)(size bytes:Nat)(ht:P.underlying t=some (.slice e))(hi:P.info? e=some i)(hz:i.zero=some z)
 (hsize:i.size=size)(hby:i.bytes=bytes)(hzs:z.cells.size=size)
 (g c n:Nat)(xs:List Value)(hs:a.eval s=.slice (some ⟨g,0,none⟩) n c)(hrow:TopAt w col k e g c size n xs)(xv:Value)(m:Nat)(news:List Value)(hx:a.eval x=xv)(hsrc:Src P size tx xv m news w)
 (h63:n+m≤maxLen)(hbytes:(n+m)*bytes≤140737488355328)
 (h:∀g' c' w' col',TopAt w' col' k e g' c' size (n+m) (xs++news)→Turns (· ==k) w col w' col'→(Fin_ col w→Fin_ col' w')→K (a.put o.dst (.slice (some ⟨g',0,none⟩) (n+m) c')) w'):o.wp P a w K Q:=by
 obtain⟨g',c',w',col',hrun,h2,h3,h4⟩:=qs6 (P:=P) w col k t tx o.type e i z size bytes ht hi hz hsize hby hzs g c n xs hrow xv m news hsrc h63 hbytes;unfold Oper.wp execOp;simp only[ho,resolve,invoke,builtin,Sem.run_bind,Sem.run_pure,Result.andThen_ok,List.map_toArray,List.map_cons,List.map_nil,hs,hx,hrun];exact h g' c' w' col' h2 h3 h4
theorem qs8(l:List Gra)(x:Gra):(l++[x]).flatMap grav=l.flatMap grav++grav x:=by simp
theorem Mdl.graAdd(h:Mdl w col k g c s L css)(hk:Kind k){x:Gra}
 (ha:TopAt w' col' (k+2) 66 g' c' 4 (s.gras.length+1) (s.gras.flatMap grav++grav x))(hT:Turns (· ==k+2) w col w' col')(hf:Fin_ col' w'):
 Mdl (w'.setCell ⟨g,9,none⟩ (.slice (some ⟨g',0,none⟩) (s.gras.length+1) c')) col' k g c {s with gras:=s.gras++[x]} {L with gg:=g',gc:=c'} css:=by
 have keepA:∀i,i≠k+2→KeepsCol i w col w' col':=fun i hi=>hT.keeps (by simpa using hi)
 have own':col' g=1:=(hT.same g h.blk.lt).trans h.own;have blk':Blk w' g 117 (mdlv c s L):=(hT.block g h.blk.lt (by rw[h.own];rcases hk with rfl|rfl<;>rfl)).trans h.blk;have hT2:Turns (· ==1) w' col' (w'.setCell ⟨g,9,none⟩ (.slice (some ⟨g',0,none⟩) (s.gras.length+1) c')) col':=Turns.setCell _ (by simp[own']);have keepB:∀i,i≠1→KeepsCol i w' col' (w'.setCell ⟨g,9,none⟩ (.slice (some ⟨g',0,none⟩) (s.gras.length+1) c')) col':=fun i hi=>hT2.keeps (by simpa using hi)
 have k1:k≠1∧k+1≠1∧k+2≠1:=by rcases hk with rfl|rfl<;>omega
 refine⟨?_,own',⟨tB1 (tB1 h.base.1 hT.size) hT2.size,fun b hb=>(hT.same b (tB0 hb h.base.1)).trans (h.base.2 b hb)⟩,hf.mono hT2.size,(h.seed.keep (keepA 5 (by rcases hk with rfl|rfl<;>omega))).keep (keepB 5 zo),?_⟩
 · have h2:=blk'.set_ 9 (.slice (some ⟨g',0,none⟩) (s.gras.length+1) c')
   have e:(mdlv c s L).setIfInBounds 9 (.slice (some ⟨g',0,none⟩) (s.gras.length+1) c')=mdlv c {s with gras:=s.gras++[x]} {L with gg:=g',gc:=c'}:=by
    unfold mdlv;simp
   rwa[e]at h2
 refine⟨(h.st.tens.keep (keepA k zo)).keep (keepB k k1.1),(h.st.tres.keep (keepA (k+1) zo)).keep (keepB (k+1) k1.2.1),?_,?_⟩
 · have h2:=ha.keep (keepB (k+2) k1.2.2)
   rw[←qs8]at h2;simpa using h2
 exact(h.st.trs.keep fun i hi=>keepA i (by rcases hk with rfl|rfl<;>omega)).keep fun i hi=>keepB i zo
theorem qs9(n:Int)(id:Nat)(a0 a1 a2 a3 a4 a5 a6 a7 a8 a9 a10 a11 a12 a13 a14 a15 a16 a17 a18 a19 a20 a21 a22 a23 a24 a25 a26 a27 a28 a29 a30 a31:Nat):Tryz.prog.built 57 [(1,.int .u64 n),(5,.agg (tokv id (.slice none 0 0) [a0,a1,a2,a3,a4,a5,a6,a7,a8,a9,a10,a11,a12,a13,a14,a15,a16,a17,a18,a19,a20,a21,a22,a23,a24,a25,a26,a27,a28,a29,a30,a31]).toArray)]=some (Value.int .i64 0::.int .u64 n::.slice none 0 0::.slice none 0 0::(hdv Hd.zero++tokv id (.slice none 0 0) [a0,a1,a2,a3,a4,a5,a6,a7,a8,a9,a10,a11,a12,a13,a14,a15,a16,a17,a18,a19,a20,a21,a22,a23,a24,a25,a26,a27,a28,a29,a30,a31])).toArray:=by kernel_rfl
theorem qsa(n:Int)(id:Nat):∀(tag:List Nat),tag.length=32→Tryz.prog.built 57 [(1,.int .u64 n),(5,.agg (tokv id (.slice none 0 0) tag).toArray)]=some (Value.int .i64 0::.int .u64 n::.slice none 0 0::.slice none 0 0::(hdv Hd.zero++tokv id (.slice none 0 0) tag)).toArray
 |[a0,a1,a2,a3,a4,a5,a6,a7,a8,a9,a10,a11,a12,a13,a14,a15,a16,a17,a18,a19,a20,a21,a22,a23,a24,a25,a26,a27,a28,a29,a30,a31],_=>qs9 n id a0 a1 a2 a3 a4 a5 a6 a7 a8 a9 a10 a11 a12 a13 a14 a15 a16 a17 a18 a19 a20 a21 a22 a23 a24 a25 a26 a27 a28 a29 a30 a31
theorem qsb(tn ro:Int)(ex:Nat):Tryz.prog.built 66 [(0,.int .i64 tn),(1,.int .i64 ro),(2,.int .u64 (ex:Int))]=some (grav ⟨tn,ro,ex,false⟩).toArray:=by kernel_rfl
theorem Tryz.gra_info:(Tryz.prog.info? 66).map (fun i=>(i.zero,i.size,i.bytes))=some (some (.agg #[.int .i64 0,.int .i64 0,.int .u64 0,.bool false]),4,32):=by kernel_rfl
theorem qsc(c:Cfg)(s:Sta)(L:Loc)(col:Col)(k g:Nat)(css:List (List Value))(R:Req)(Ac:Option Addr)(cc:Nat)(Al:Option Addr)(cl:Nat)(w:World)(hk:Kind k)(hc:c.Ok)(hs:s.Ok)(h:Mdl w col k g c s L css)
 (hr:Asked w col R Ac cc Al cl)(hT:Tabs w):
 Zc 138 #[.pointer (some ⟨g,0,none⟩),.agg (reqv R (.slice Ac R.cavs.length cc) (.slice Al R.leaf.length cl)).toArray] w fun e w'=>∃v col',e=.returned v∧RspV w' col' w.heap.size v (qms c s R).2∧Did w col w' col' k g c css s (qms c s R).1:=by
 obtain⟨Q,hQ,rlen,rest,W0,hW0,q0,z0,b0⟩:=qr4 R Ac cc Al cl w hr.good.tag;rw[hQ];have hG0:=h.fin.none (b:=w.heap.size+1) zo;have D0:=Did.same (css:=css) h b0;obtain⟨H,AE,Q0,Z0,B0,A1,A7,HK⟩:=zh8 h hW0 q0 z0 b0 hG0 D0 hk;obtain⟨HS,HR,RL,A2,HQ⟩:=zh5 hs hr rlen rest hQ;clear h hW0 q0 z0 b0 hG0 D0 hk hs hr rlen rest hQ;obtain⟨HC,TT⟩:=zh2 hc hT;clear hc hT;obtain⟨tn,htn⟩:=xeq R.tenant;obtain⟨ro,hro⟩:=xeq R.role;obtain⟨ex,hex⟩:=xeq R.expires;obtain⟨ng,hng⟩:=xeq s.gras.length;have k36:=(Q0.cell 36).trans (show Q.toArray[36]? =some (.int .i64 tn) by rw[tA3,←htn];exact A2.o 1);have k37:=(Q0.cell 37).trans (show Q.toArray[37]? =some (.int .i64 ro) by rw[tA3,←hro];exact A2.o 2);have k46:=(Q0.cell 46).trans (show Q.toArray[46]? =some (.int .u64 (ex:Int)) by rw[tA3,←hex];exact A2.o 11);have c9:=H.c9;rw[hng]at c9;obtain⟨A9,A8,AA,C9,AG⟩:=zh5 k36 k37 k46 (qai c9 B0.o) (qqe tn c s L col k g css W0 (H.call B0.o));have gb:ng≤64:=by rw[←hng];exact HS.grasn
 obtain⟨A3,A5,AH,A6⟩:=zh4 htn hro hex hng;rw[AE.o]at k36;clear htn hro hex hng k37 k46 c9;go_enter Tryz.func138,Tryz.ntmps138
 go_wp2_with fail
 rw[←AE.o];refine AG.o.mono ?_;rintro e w' ⟨rfl,rfl⟩;clear k36;have k37:=A8.o;by_cases hrole:ro<1∨4<ro
 ·
  have hdo:qms c s R=(s,rWhy 25):=by unfold qms;rw[if_pos (by rw[A5.o];exact hrole)]
  have A0:=zh1 hdo;clear hdo;by_cases h16:0≤tn∧tn<16
  all_goals
   first|rw[if_pos h16]|rw[if_neg h16]
   clear h16;by_cases h1:ro<1
   · clear hrole
     go_wp2_with fail
     exact qr5 A0 HK (A1.o) (qqd 25 W0) (Z0.o) (A7.o)
   have h4:4<ro:=zo;clear hrole;go_wp2_with fail
   exact qr5 A0 HK (A1.o) (qqd 25 W0) (Z0.o) (A7.o)
 have h1:¬ro<1:=zo;have h4:¬4<ro:=zo;have A4:=zh1 hrole;by_cases h16:0≤tn∧tn<16
 ·
  rw[if_pos h16];obtain⟨m,rfl⟩:∃m:Nat,tn=m:=⟨tn.toNat,by omega⟩;rw[tBe];have hm16:m<16:=zo;obtain⟨x,hx⟩:∃x,s.tens[m]? =some x:=⟨_,tA7 (by rw[HS.tensn];omega)⟩;have hten:s.tenant R.tenant=some x:=by unfold Sta.tenant;rw[A3.o,if_pos zo,tBe];exact hx
  have con:w.cell? ⟨L.tg,m*6,none⟩=some (.bool x.on):=H.st.tens.cell ((qnk hx (by omega:(0:Nat)<6)).trans rfl);have con2:=qai con B0.o;obtain⟨on,hon⟩:=xeq x.on;rw[hon]at con2;clear hrole con;cases on with
  |false=>
   have hdo:qms c s R=(s,rWhy 23):=by
    unfold qms;rw[if_neg (by rw[A5.o];exact A4.o),hten];simp[hon]
   have A0:=zh1 hdo;clear hdo hx hten;go_wp2_with fail
   exact qr5 A0 HK (A1.o) (qqd 23 W0) (Z0.o) (A7.o)
  |true=>
   have c9:=C9.o;by_cases h64:64≤ng
   ·
    have p1:(64:Int)≤ng:=zo;have hdo:qms c s R=(s,rWhy 4):=by
     unfold qms;rw[if_neg (by rw[A5.o];exact A4.o),hten];simp only[hon];rw[if_neg zm,if_pos (by rw[A6.o];exact h64)]
    have A0:=zh1 hdo;clear hdo hx hten;go_wp2_with fail
    exact qr5 A0 HK (A1.o) (qqd 4 W0) (Z0.o) (A7.o)
   have p1:¬(64:Int)≤ng:=zo;have hdo:qms c s R=({s with gras:=s.gras++[⟨(m:Int),ro,ex,false⟩]},{qmk ng with tok:=(ng,[],qju (qmc c.seed) ng)}):=by
    unfold qms;rw[if_neg (by rw[A5.o];exact A4.o),hten];simp only[hon];rw[if_neg zm,if_neg (by rw[A6.o];exact h64),A3.o,A5.o,AH.o,A6.o]
   have A0:=zh1 hdo;clear hdo hx hten;go_upto_region 9 with(fail)
   clear con2 c9 k37;have cW:col w.heap.size=0:=by
    by_cases e:col w.heap.size=0
    · exact e
    have:=H.fin _ e;omega
   obtain⟨CW,BG⟩:=zh2 cW (qsb (m:Int) ro ex);obtain⟨i0,hi0,hz0,hz1,hz2⟩:=info_parts Tryz.gra_info;clear cW;obtain⟨S,HS9⟩:=zS fun w'=>w'.cell? ⟨g,9,none⟩=some (.slice (some ⟨L.gg,0,none⟩) ng L.gc)∧w'.cell? ⟨w.heap.size,36,none⟩=some (.int .i64 (m:Int))∧w'.cell? ⟨w.heap.size,37,none⟩=some (.int .i64 ro)∧w'.cell? ⟨w.heap.size,46,none⟩=some (.int .u64 (ex:Int))
   refine zrs S 18 (zq 0 13 ((13,true)::(14,true)::zq 15 3 [(18,true)])) ((HS9.o _).mpr (⟨C9.o,A9.o,A8.o,AA.o⟩)) ?_;obtain⟨F0,F1,F2,F3⟩:=zh4 (fun(w':World)(h:S w')=>((HS9.o w').mp h).1) (fun(w':World)(h:S w')=>((HS9.o w').mp h).2.1) (fun(w':World)(h:S w')=>((HS9.o w').mp h).2.2.1) (fun(w':World)(h:S w')=>((HS9.o w').mp h).2.2.2);iterate 12 (refine zr4 ?_)
   refine qbg rfl rfl ⟨.agg (grav ⟨(m:Int),ro,ex,false⟩).toArray,fun w1 hS=>qgn 66 _ rfl _ _ BG.o (by simp[Act.eval]),?_⟩;refine zP ?_;obtain⟨Wd,hWd,BD⟩:=zdr W0;rw[←hWd];clear hWd;refine zw ?_;refine qro 47 66 (.tmp 63) rfl (grav ⟨(m:Int),ro,ex,false⟩) rfl i0 _ 4 Tryz.underlying47 hi0 hz0 hz1 rfl rfl zdc zdc ?_;obtain⟨wB,hwB⟩:=eqx (Wd.alloc (.cells (grav ⟨(m:Int),ro,ex,false⟩).toArray 66));rw[←hwB];have bB:=zMa hwB;have blB:=zNa hwB;have BB:=zh1 (BD.trans (bB.mono BD.size));have AB:=zh1 (B0.trans (BB.mono B0.size));have hr1:Reads wB wB.heap.size 4 (some ⟨Wd.heap.size,0,none⟩) 1 (grav ⟨(m:Int),ro,ex,false⟩):=⟨rfl,fun _=>⟨_,rfl,blB.lt,fun j u hu=>by rw[Addr.add_mid,blB.cell (0+j)];simpa using hu⟩⟩;clear hwB bB blB;refine⟨fun _=>(HS9.o _).mpr ⟨qai C9.o BB.o,qai A9.o BB.o,qai A8.o BB.o,qai AA.o BB.o⟩,zput ?_⟩;have HB:=H.call AB.o;have htop:=HB.st.gras;rw[A6.o]at htop;refine zw ?_;refine qs7 wB (.tmp 56) (.tmp 64) _ _ rfl col (k+2) 66 i0 _ 4 32 Tryz.underlying47 hi0 hz0 hz1 hz2 rfl L.gg L.gc ng _ rfl htop (.slice (some ⟨Wd.heap.size,0,none⟩) 1 1) 1 (grav ⟨(m:Int),ro,ex,false⟩) rfl (Src.reads wB Tryz.underlying47 hr1 (by simp[grav,Value.oneCell']) zdc) (by simp only[maxLen];omega) zo ?_;intro g9 c9 wC col2 ha hTC hfC;rw[←A6.o]at ha;have N1:=HB.graAdd HK.o (x:=⟨(m:Int),ro,ex,false⟩) ha hTC (hfC HB.fin);have own2:col2 g=1:=(hTC.same g HB.blk.lt).trans H.own;have blkC:Blk wC g 117 (mdlv c s L):=(hTC.block g HB.blk.lt (by rw[H.own];have:=HK.o;rcases this with rfl|rfl<;>rfl)).trans HB.blk;rw[A6.o]at N1;have f9:=blkC.frozen 9;have cg:w.heap.size<wB.heap.size:=by have:=AB.size;have:=Z0.lt;have:=BB.size;omega
   have x9:=qo7 (qai C9.o BB.o) hTC (by rw[H.own];have:=HK.o;rcases this with rfl|rfl<;>rfl);have x36:=qo7 (qai A9.o BB.o) hTC (by rw[CW.o];simp);have x37:=qo7 (qai A8.o BB.o) hTC (by rw[CW.o];simp);have x46:=qo7 (qai AA.o BB.o) hTC (by rw[CW.o];simp);have T1:Turns (· ==1) wC col2 (wC.setCell ⟨g,9,none⟩ (.slice (some ⟨g9,0,none⟩) (ng+1) c9)) col2:=Turns.setCell _ (by simp[own2]);have AC:Turns (inP k) w col (wC.setCell ⟨g,9,none⟩ (.slice (some ⟨g9,0,none⟩) (ng+1) c9)) col2:=
    ((Turns.of_below (inP k) AB.o).trans (hTC.mono fun i hi=>(show i=k+2 by simpa using hi)▸(by unfold inP;simp))).trans (T1.mono fun i hi=>(show i=1 by simpa using hi)▸rfl)
   have old1:TrsAt (wC.setCell ⟨g,9,none⟩ (.slice (some ⟨g9,0,none⟩) (ng+1) c9)) col2 css s.tres:=
    (HB.st.trs.keep fun i hi=>hTC.keeps (by have:=HK.o;rcases this with rfl|rfl<;>simp<;>omega)).keep fun i hi=>T1.keeps (by simp;omega)
   have D1:Did w col (wC.setCell ⟨g,9,none⟩ (.slice (some ⟨g9,0,none⟩) (ng+1) c9)) col2 k g c css s {s with gras:=s.gras++[⟨(m:Int),ro,ex,false⟩]}:=⟨⟨_,_,N1⟩,old1,AC⟩;have z1:Blk (wC.setCell ⟨g,9,none⟩ (.slice (some ⟨g9,0,none⟩) (ng+1) c9)) (w.heap.size+1) 57 Tryz.zeroCells57:=by
    have z2:=Z0.below BB.o Z0.lt;have z3:=(hTC.block _ z2.lt (by rw[A1.o];simp)).trans z2;exact(T1.block _ (show w.heap.size+1<wC.heap.size from tB0 z2.lt hTC.size) (by rw[(hTC.same _ z2.lt).trans A1.o];rfl)).trans z3
   have g1:col2 (w.heap.size+1)=0:=(hTC.same _ (Z0.below BB.o Z0.lt).lt).trans A1.o;have ttt:=TT.turns AC (qr1 HK.o) H.base;refine⟨fun _=>(HS9.o _).mpr ⟨x9,x36,x37,x46⟩,zput ?_⟩;iterate 3 (refine zr1 ?_)
   clear x36 x37 x46;refine zw ?_;go_simp;refine qbf ?_;clear HS9 F0 F1 F2 F3 hi0 hz0 hz1 hz2;obtain⟨W4,hW4⟩:=eqx (wC.setCell ⟨g,9,none⟩ (.slice (some ⟨g9,0,none⟩) (ng+1) c9));rw[←hW4]at N1 D1 z1 ttt ⊢;obtain⟨CR,SR,Z4,D4,G4,T4⟩:=zh6 N1.cfgRange N1.seedR z1 D1 g1 ttt;clear hW4 N1 own2 blkC f9 cg x9 T1 AC old1 D1 z1 g1 ttt ha hTC hfC hr1 HB htop;have u1:IntKind.u64.wrap (ng:Int)=(ng:Int):=tBa _ zo;have u2:IntKind.u32.wrap (ng:Int)=(ng:Int):=tBf _ zo;have IC:=zh1 (show (Tryz.prog.info? 25).map (·.size)=some 4 by kernel_rfl);go_wp2_with (refine qaq rfl 25 (.tmp 73) rfl g 0 rfl [.int .i64 c.width,.int .i64 c.quantum,.int .u32 (c.store:Int),.slice L.sa L.sn L.sc] _ CR.o Tryz.underlying25 rfl IC.o ?_)
   refine(qom c (.slice L.sa L.sn L.sc) L.sa L.sn L.sc W4 SR.o HC.seedb (by have:=HC.seed;have:=SR.o.1;simp[byv]at this;omega) T4.o).mono ?_;rintro e W5 ⟨rfl,b5⟩;obtain⟨Z5,D5,T5,S5⟩:=zh4 (Z4.below b5 Z4.lt) (D4.call b5) (T4.below b5 T4.size) b5.size;clear b5;go_wp2_with fail
   refine zcb (qjz (qmc c.seed) ng W5 (qjv _ _) (qjw _ _) zo T5.o) fun W6 b6=>?_
   obtain⟨Z6,D6⟩:=zh2 (Z5.below b6 Z5.lt) (D5.call b6);clear b6;have ltg:(qju (qmc c.seed) ng).length=32:=qjv _ _;obtain⟨tg,htg⟩:=xeq (qju (qmc c.seed) ng);rw[htg]at ltg A0 ⊢;obtain⟨X,hX⟩:=eqx (qq8 ({qmk ng with tok:=(ng,[],tg)}:Rsp));have lX:X.length=106:=by rw[hX];exact qq9 _ Hd.zero_Ok ltg
   have oX:∀u∈X,u.oneCell'=true:=by rw[hX];exact qqa _
   have bT:Tryz.prog.built 57 [(1,.int .u64 (ng:Int)),(5,.agg (tokv ng (.slice none 0 0) tg).toArray)]=some X.toArray:=by rw[hX];exact qsa (ng:Int) ng tg ltg
   obtain⟨LX,OX,HX,BT,AF,AD⟩:=zh6 lX oX hX bT (zI 57 lX) qqb;clear lX oX hX bT htg ltg;go_wp2_with (first
    |(refine qbj rfl ⟨.agg X.toArray,qgn 57 _ rfl _ _ BT.o (by simp[Act.eval]),?_⟩)
    |(refine zst Z6.o AF.o (by simp[LX.o,AD.o]) OX.o ?_))
   have z9:=Z6.setRow X.toArray;have AI:=qap z9 0 X zjq;refine zrt AI zu57 AF.o ?_;have dd9:=D6.row0 HK.o X.toArray G4.o zo;have rr9:RspV (W6.setRow (w.heap.size+1) X.toArray) col2 w.heap.size (.agg X.toArray) (qms c s R).2:=by rw[A0.o,HX.o];exact RspV.plain _ _ _ _ rfl rfl rfl
   have dd8:Did w col (W6.setRow (w.heap.size+1) X.toArray) col2 k g c css s (qms c s R).1:=by rw[A0.o];exact dd9
   first
    |exact⟨_,rfl,col2,rr9,dd8⟩
    |exact⟨_,col2,rfl,rr9,dd8⟩
 rw[if_neg h16];have hdo:qms c s R=(s,rWhy 25):=by
  unfold qms;rw[if_neg (by rw[A5.o];exact hrole)];unfold Sta.tenant;rw[A3.o];by_cases h0:0≤tn
  · rw[if_pos h0,List.getElem?_eq_none (by rw[HS.tensn];omega)]
  rw[if_neg h0]
 have A0:=zh1 hdo;clear hdo h16 hrole;go_wp2_with fail
 exact qr5 A0 HK (A1.o) (qqd 25 W0) (Z0.o) (A7.o)
theorem qsd(c:Cfg)(s:Sta)(L:Loc)(col:Col)(k g:Nat)(css:List (List Value))(n:Nat)(t:Tre)(R:Req)(Ac:Option Addr)(cc:Nat)(Al:Option Addr)(cl:Nat)(w:World)(hk:Kind k)(hs:s.Ok)(h:Mdl w col k g c s L css)
 (hr:Asked w col R Ac cc Al cl)(ht:s.tres[n]? =some t)(hrt:R.tree=(n:Int))(hn0:n≠0)(hop:R.op=8):
 Zc 137 #[.pointer (some ⟨g,0,none⟩),.pointer (some ⟨L.rg,n*75,none⟩),.agg (reqv R (.slice Ac R.cavs.length cc) (.slice Al R.leaf.length cl)).toArray] w fun e w'=>∃v col',e=.returned v∧RspV w' col' w.heap.size v (qmq s R).2∧Did w col w' col' k g c css s (qmq s R).1:=by
 obtain⟨hn16,Ad,cd,Al',cl',Aq,cq,hcs,hcell,hrd,hrl,hrq⟩:=h.st.tree hs ht;obtain⟨Q,hQ,rlen,rest,W0,hW0,q0,z0,b0⟩:=qr4 R Ac cc Al cl w hr.good.tag;rw[hQ];have hG0:=h.fin.none (b:=w.heap.size+1) zo;have D0:=Did.same (css:=css) h b0;obtain⟨H,A5,Q0,Z0,B0,A0,A6,HK⟩:=zh8 h hW0 q0 z0 b0 hG0 D0 hk;obtain⟨HS,HR,RL,A2,HQ⟩:=zh5 hs hr rlen rest hQ;clear h hW0 q0 z0 b0 hG0 D0 hk hs hr rlen rest hQ;obtain⟨wg,hwg⟩:=xeq R.weight;have k0:=(Q0.cell 0).trans (show Q.toArray[0]? =some (.int .i64 8) by rw[tA3,←hop,←HQ.o];rfl);have k39:=(Q0.cell 39).trans (show Q.toArray[39]? =some (.int .i64 wg) by rw[tA3,←hwg];exact A2.o 4);obtain⟨K0,A7,HT,A3,A8,A4,E2,E3⟩:=zh8 k0 k39 ht hrt hn0 hwg (qai (hcell 2 (.int .i64 t.weight) rfl) B0.o) (qai (hcell 3 (.int .i64 t.deficit) rfl) B0.o);have k0:=K0.o;rw[A5.o]at k0;clear hrt hn0 hop hwg ht hcs hcell hrd hrl hrq k39;go_enter Tryz.func137,Tryz.ntmps137
 go_upto_region 19 with(fail)
 rw[←A5.o];clear k0;have k39:=A7.o;by_cases hbad:wg<1∨4<wg
 ·
  have hdo:qmq s R=(s,rWhy 25):=by
   unfold qmq;rw[if_neg (by rw[A3.o];have:=A8.o;omega),if_pos (by rw[A4.o];exact hbad)]
  have A1:=zh1 hdo;clear hdo;by_cases h1:wg<1
  · clear hbad
    go_wp2_with fail
    exact qr5 A1 HK (A0.o) (qqd 25 W0) (Z0.o) (A6.o)
  have h4:4<wg:=zo;clear hbad;go_wp2_with fail
  exact qr5 A1 HK (A0.o) (qqd 25 W0) (Z0.o) (A6.o)
 have h1:¬wg<1:=zo;have h4:¬4<wg:=zo;obtain⟨m,rfl⟩:∃m:Nat,wg=m:=⟨wg.toNat,by omega⟩;have hm4:m≤4:=zo;have hdo:qmq s R=(s.setT n fun t=>{t with weight:=(m:Int),deficit:=0},qmk m):=by
  unfold qmq;rw[if_neg (by rw[A3.o];have:=A8.o;omega),if_neg (by rw[A4.o];exact hbad),A4.o,A3.o,tBe,tBe]
 have A1:=zh1 hdo;clear hdo hbad;have H0:=H.call B0.o;have e2:=E2.o;have f2:=H0.st.tres.frozen (n*75+2);have M1:=H0.treOver HK.o HS.o HT.o (j:=2) (cs:=[.int .i64 (m:Int),.int .i64 0]) (f:=fun t=>{t with weight:=(m:Int),deficit:=0}) zm (fun vd vl vq=>by simp[over,trev]) rfl rfl rfl;have T1:Turns (· ==k+1) W0 col (W0.setCells L.rg (n*75+2) [.int .i64 (m:Int),.int .i64 0]) col:=Turns.setCells _ (by simp[H0.st.tres.1]);rw[show W0.setCells L.rg (n*75+2) [.int .i64 (m:Int),.int .i64 0]=(W0.setCell ⟨L.rg,n*75+2,none⟩ (.int .i64 (m:Int))).setCell ⟨L.rg,n*75+3,none⟩ (.int .i64 0) from rfl]at M1 T1;have f3:=(H0.st.tres.set1 (o:=n*75+2) (.int .i64 (m:Int)) (by rw[qnd (H0.st.trs.lens (fun t ht=>(HS.tres t ht).hd)),H0.st.trs.1,HS.tresn];omega)).frozen (n*75+3);have e3:=(World.cell?_setCell_other W0 ⟨L.rg,n*75+2,none⟩ ⟨L.rg,n*75+3,none⟩ (.int .i64 (m:Int)) (by intro e;injection e with e1 e2;omega)).trans E3.o;have cW:col w.heap.size=0:=by
  by_cases e:col w.heap.size=0
  · exact e
  have:=H.fin _ e;omega
 have x39:=qo7 A7.o T1 (by rw[cW];simp);have z1:Blk ((W0.setCell ⟨L.rg,n*75+2,none⟩ (.int .i64 (m:Int))).setCell ⟨L.rg,n*75+3,none⟩ (.int .i64 0)) (w.heap.size+1) 57 Tryz.zeroCells57:=(T1.block _ Z0.lt (by rw[A0.o];simp)).trans Z0.o;have D1:=Did.turned H.o B0.o T1 (by unfold inP;simp) (by have:=HK.o;rcases this with rfl|rfl<;>omega) M1;obtain⟨A9,AA,AB⟩:=zh3 x39 D1 z1;clear M1 T1 H0 x39 z1 D1 cW;go_upto_region 22 with(fail)
 clear f3 e3 f2 e2 k39;obtain⟨W9,hW9⟩:=eqx ((W0.setCell ⟨L.rg,n*75+2,none⟩ (.int .i64 (m:Int))).setCell ⟨L.rg,n*75+3,none⟩ (.int .i64 0));rw[←hW9]at AA AB A9 ⊢;clear hW9;have k39:=A9.o;go_wp2_with fail
 exact qr5 A1 HK (A0.o) (qqc m W9 zo) (AB.o) (AA.o)
theorem Mdl.drawAdd(h:Mdl w col k g c s L css)(hk:Kind k)(hs:s.Ok)(ht:s.tres[n]? =some t)(hcs:css[n]? =some (trev t vd vl vq))
 (ha:AppendedC w col w' col' (10+3*n) vd v' 22 1 t.draws.length 1 (drwv t.draws) [.int .u32 (d:Int)]):
 Mdl (w'.setCell ⟨L.rg,n*75+4,none⟩ v') col' k g c (s.setT n fun t=>{t with draws:=t.draws++[d]}) L (css.modify n fun x=>x.set 4 v')∧TrsAt (w'.setCell ⟨L.rg,n*75+4,none⟩ v') col' css s.tres∧Turns (inP k) w col (w'.setCell ⟨L.rg,n*75+4,none⟩ v') col':=by
 obtain⟨r1,r2,r3⟩:=h.rows ht hcs;have kp:∀i,i≠10+3*n→KeepsCol i w col w' col':=fun i hi=>ha.turns.keeps (by simpa using hi)
 have hrow:=ha.row;rw[show drwv t.draws++[Value.int .u32 (d:Int)]=drwv (t.draws++[d]) by simp[drwv],show t.draws.length+1=(t.draws++[d]).length by simp]at hrow;exact h.treRow hk hs ht hcs (.inl rfl) ha.turns (ha.fin h.fin) _ v' zo
  ⟨vd,vl,vq,rfl,ha.old,r2.keep (kp _ zo) (kp 5 zo),r3.keep (kp _ zo) (kp 5 zo)⟩
  ⟨v',vl,vq,rfl,hrow,r2.keep (kp _ zo) (kp 5 zo),r3.keep (kp _ zo) (kp 5 zo)⟩
theorem Tryz.mrot_info:(Tryz.prog.info? 22).map (fun i=>(i.zero,i.size,i.bytes))=some (some (.int .u32 0),1,4):=by kernel_rfl
theorem qse(c:Cfg)(s:Sta)(L:Loc)(col:Col)(k g:Nat)(css:List (List Value))(n:Nat)(t:Tre)(R:Req)(Ac:Option Addr)(cc:Nat)(Al:Option Addr)(cl:Nat)(w:World)(hk:Kind k)(hc:c.Ok)(hs:s.Ok)(h:Mdl w col k g c s L css)
 (hr:Asked w col R Ac cc Al cl)(hT:Tabs w)(ht:s.tres[n]? =some t)(hrt:R.tree=(n:Int))(hop:R.op=9):
 Zc 137 #[.pointer (some ⟨g,0,none⟩),.pointer (some ⟨L.rg,n*75,none⟩),.agg (reqv R (.slice Ac R.cavs.length cc) (.slice Al R.leaf.length cl)).toArray] w fun e w'=>∃v col',e=.returned v∧RspV w' col' w.heap.size v (qmr c s R t).2∧Did w col w' col' k g c css s (qmr c s R t).1:=by
 obtain⟨hn16,Ad,cd,Al',cl',Aq,cq,hcs,hcell,hrd,hrl,hrq⟩:=h.st.tree hs ht;obtain⟨Q,hQ,rlen,rest,W0,hW0,q0,z0,b0⟩:=qr4 R Ac cc Al cl w hr.good.tag;rw[hQ];have hG0:=h.fin.none (b:=w.heap.size+1) zo;have D0:=Did.same (css:=css) h b0;obtain⟨H,A6,Q0,Z0,B0,A1,AH,HK⟩:=zh8 h hW0 q0 z0 b0 hG0 D0 hk;obtain⟨HS,HR,RL,A2,HQ⟩:=zh5 hs hr rlen rest hQ;clear h hW0 q0 z0 b0 hG0 D0 hk hs hr rlen rest hQ;obtain⟨HC,TT,AI⟩:=zh3 hc hT (HS.tre ht);clear hc hT;obtain⟨nd,hnd⟩:=xeq t.draws.length;obtain⟨dr,hdr⟩:=xeq s.draw;have k0:=(Q0.cell 0).trans (show Q.toArray[0]? =some (.int .i64 9) by rw[tA3,←hop,←HQ.o];rfl);have k35:=(Q0.cell 35).trans (show Q.toArray[35]? =some (.int .i64 (n:Int)) by rw[tA3,←hrt];exact A2.o 0);obtain⟨K0,A3,HT,AJ,A0,A7,A8⟩:=zh7 k0 k35 ht hrt hnd hdr hcs;have e4:=qai (hcell 4 (.slice Ad t.draws.length cd) rfl) B0.o;rw[hnd]at e4;have c5:=qai H.c5 B0.o;rw[hdr]at c5;obtain⟨E4,C5⟩:=zh2 e4 c5;have k0:=K0.o;rw[A6.o]at k0;clear hrt hop ht hcs hcell hrd hrl hrq k35 hnd hdr e4 c5;go_enter Tryz.func137,Tryz.ntmps137
 go_upto_region 23 with(fail)
 rw[←A6.o];clear k0;have e4:=E4.o;by_cases hbad:32≤nd
 ·
  have p1:(32:Int)≤nd:=zo;have hdo:qmr c s R t=(s,rWhy 4):=by
   unfold qmr;rw[if_pos (by rw[A0.o];exact hbad)]
  have A4:=zh1 hdo;clear hdo;go_wp2_with fail
  clear e4;exact qr5 A4 HK (A1.o) (qqd 4 W0) (Z0.o) (AH.o)
 have p1:¬(32:Int)≤nd:=zo;have hdo:qmr c s R t=((s.setT n fun t=>{t with draws:=t.draws++[dr]}).pub c n,qmk nd):=by
  unfold qmr;rw[if_neg (by rw[A0.o];exact hbad),AJ.o,tBe,A7.o,A0.o]
 have A4:=zh1 hdo;clear hdo;go_upto_region 25 with(fail)
 clear e4;obtain⟨S,HS9⟩:=zS fun w'=>w'.cell? ⟨L.rg,n*75+4,none⟩=some (.slice Ad nd cd)∧w'.cell? ⟨g,5,none⟩=some (.int .u32 (dr:Int))∧w'.cell? ⟨w.heap.size,35,none⟩=some (.int .i64 (n:Int))
 refine zrs S 14 (zq 0 10 [(10,true),(11,true),(12,false),(13,false),(14,true)]) ((HS9.o _).mpr (⟨E4.o,C5.o,A3.o⟩)) ?_;obtain⟨F0,F1⟩:=zh2 (fun(w':World)(h:S w')=>((HS9.o w').mp h).1) (fun(w':World)(h:S w')=>((HS9.o w').mp h).2.1);iterate 10 (refine zr2 ?_)
 obtain⟨Wd,hWd,BD⟩:=zdr W0;rw[←hWd];clear hWd;refine zw ?_;go_simp;obtain⟨wB,hwB⟩:=eqx (Wd.alloc (.cells #[.int .u32 (dr:Int)] 22));rw[←hwB];have bB:=zMa hwB;have blB:=zNa hwB;have BB:=zh1 (BD.trans (bB.mono BD.size));have AA:=zh1 (B0.trans (BB.mono B0.size));have hr1:Reads wB wB.heap.size 1 (some ⟨Wd.heap.size,0,none⟩) 1 [.int .u32 (dr:Int)]:=⟨rfl,fun _=>⟨_,rfl,blB.lt,fun j u hu=>by rw[Addr.add_mid,blB.cell (0+j)];simpa using hu⟩⟩;clear hwB bB blB;refine⟨(HS9.o _).mpr ⟨qai E4.o BB.o,qai C5.o BB.o,qai A3.o BB.o⟩,zput ?_⟩;have HB:=H.call AA.o;have hrow:=(HB.rows HT.o A8.o).1;rw[A0.o]at hrow;obtain⟨i0,hi0,hz0,hz1,hz2⟩:=info_parts Tryz.mrot_info;refine zw ?_;refine qnb wB (.tmp 117) (.tmp 123) _ _ rfl col (10+3*n) 22 i0 _ 1 4 Tryz.underlying71 hi0 hz0 hz1 hz2 rfl (.slice Ad nd cd) nd _ rfl hrow (.slice (some ⟨Wd.heap.size,0,none⟩) 1 1) 1 [.int .u32 (dr:Int)] rfl (Src.reads wB Tryz.underlying71 hr1 (by simp[Value.oneCell']) zdc) (by simp only[maxLen];omega) zo ?_;intro v' wC col2 ap;obtain⟨A9,c9,rfl,-,-,-,-⟩:=ap.row.sl;have ap2:AppendedC wB col wC col2 (10+3*n) (.slice Ad t.draws.length cd) (.slice A9 (nd+1) c9) 22 1 t.draws.length 1 (drwv t.draws) [.int .u32 (dr:Int)]:=by rw[A0.o];exact ap
 obtain⟨N1,N2,N3⟩:=HB.drawAdd HK.o HS.o HT.o A8.o ap2;have colR:col L.rg=k+1:=H.st.tres.1;have cW:col w.heap.size=0:=by
  by_cases e:col w.heap.size=0
  · exact e
  have:=H.fin _ e;omega
 have hkk:=HK.o;have x4:=qo7 (qai E4.o BB.o) ap.turns (by rw[colR];rcases hkk with rfl|rfl<;>simp<;>omega);have x5:=qo7 (qai C5.o BB.o) ap.turns (by rw[H.own];simp;omega);have x35:=qo7 (qai A3.o BB.o) ap.turns (by rw[cW];simp;omega);have f4:=(HB.st.tres.keep (ap.turns.keeps (k:=k+1) (by rcases hkk with rfl|rfl<;>simp<;>omega))).frozen (n*75+4);have zB:=Z0.below BB.o Z0.lt;have g2:col2 (w.heap.size+1)=0:=(ap.turns.same _ zB.lt).trans A1.o;have zC:Blk wC (w.heap.size+1) 57 Tryz.zeroCells57:=(ap.turns.block _ zB.lt (by rw[A1.o];simp;omega)).trans zB;have z9:Blk (wC.setCell ⟨L.rg,n*75+4,none⟩ (.slice A9 (nd+1) c9)) (w.heap.size+1) 57 Tryz.zeroCells57:=zC.far (by intro e;have e':w.heap.size+1=L.rg:=e;rw[←e']at colR;have:=A1.o;omega) _;have cW2:col2 w.heap.size=0:=(ap.turns.same _ (by have:=zB.lt;omega)).trans cW;have cR2:col2 L.rg=k+1:=(ap.turns.same _ (HB.st.tres.lt)).trans colR;have k9:(wC.setCell ⟨L.rg,n*75+4,none⟩ (.slice A9 (nd+1) c9)).cell? ⟨w.heap.size,35,none⟩=some (.int .i64 (n:Int)):=qo7 (p:=(· ==k+1)) (col:=col2) x35 (Turns.setCell _ (by simp[cR2])) (by rw[cW2];simp);have hto:=AI.o;have sok:(s.setT n fun t=>{t with draws:=t.draws++[dr]}).Ok:=HS.setT (fun y hy o=>by
  rw[HT.o]at hy;injection hy with hy;subst hy;exact⟨o.state,o.tenant,o.weight,o.deficit,fun h=>⟨(o.live h).1,by simp⟩,by simp;have:=A0.o;omega,by
   intro x hx;rcases List.mem_append.1 hx with h|h
   · exact o.drawb x h
   have:=HS.draw;have:=A7.o;simp at h;omega,o.leaves,o.leafb,o.queue,o.queueb,o.hd,o.hdt,o.hde,o.hds⟩) (fun _ y _ h1 h2=>⟨h1,h2⟩)
 have ht2:(s.setT n fun t=>{t with draws:=t.draws++[dr]}).tres[n]? =some {t with draws:=t.draws++[dr]}:=qo5 _ HT.o;have T9:=(Turns.of_below (inP k) AA.o).trans N3;have AB:=TT.turns T9 (qr1 HK.o) H.base;obtain⟨AC,AD,AE,A5,AF,AG,AO,AK⟩:=zh8 (qpj c _ L col2 k g _ n _ _ HK.o HC.o sok N1 ht2 zm AB) N2 T9 z9 k9 g2 cW2 sok;have AL:=zh1 ht2;clear N1 N2 N3 T9 AB z9 k9 g2 cW2 cR2 sok ht2 zC zB cW colR ap ap2 hi0 hz0 hz1 hz2 hr1 hrow HB hkk hto;refine⟨fun _=>(HS9.o _).mpr ⟨x4,x5,x35⟩,zput ?_⟩;iterate 2 (refine zr1 ?_)
 clear x5 x35;refine zw ?_;go_simp;refine qbf ?_;clear HS9 F0 F1 x4 f4;obtain⟨W9,hW9⟩:=eqx (wC.setCell ⟨L.rg,n*75+4,none⟩ (.slice A9 (nd+1) c9));rw[←hW9]at AC AD AE A5 AF ⊢;clear hW9;have k35:=AF.o;go_wp2_with fail
 refine AC.o.mono ?_;rintro e W5 ⟨rfl,⟨css5,M5⟩,T5⟩;have sok2:=AK.pub c (n:=n) hn16;have ht5:((s.setT n fun t=>{t with draws:=t.draws++[dr]}).pub c n).tres[n]? =some _:=qo5 _ AL.o;obtain⟨-,Ad5,cd5,Al5,cl5,Aq5,cq5,-,hcell5,-,-,-⟩:=M5.st.tree sok2 ht5;have e5:=hcell5 4 (.slice Ad5 (t.draws++[dr]).length cd5) rfl;rw[show (t.draws++[dr]).length=nd+1 by simp[A0.o]]at e5;have D5:Did w col W5 col2 k g c css s ((s.setT n fun t=>{t with draws:=t.draws++[dr]}).pub c n):=
  ⟨⟨L,css5,M5⟩,AD.keep fun i hi=>T5.keeps (by have:=HK.o;rcases this with rfl|rfl<;>simp<;>omega),AE.trans (T5.mono fun i hi=>(show i=k+1 by simpa using hi)▸(by unfold inP;simp))⟩
 have z5:Blk W5 (w.heap.size+1) 57 Tryz.zeroCells57:=(T5.block _ A5.lt (by rw[AG.o];simp)).trans A5.o;obtain⟨AM,AN⟩:=zh2 D5 z5;clear D5 z5 M5 T5 hcell5 ht5 sok2 k35;have v1:wrap64 (((nd+1:Nat):Int) - 1)=(nd:Int):=by rw[IntWalk.wrap64_in _ zo];omega
 have v2:IntKind.i64.wrap (((nd+1:Nat):Int) - 1)=(nd:Int):=by rw[tBb _ zo];omega
 have v3:((nd:Int)+1) - 1=(nd:Int):=zo;go_wp2_with fail
 clear e5;exact qr5 A4 HK (AG.o) (qqc nd W5 zo) (AN.o) (AM.o)
theorem qsf {α:Type}{f:α→α}(h:∀x,f x=x):∀(l:List α) (n:Nat),l.modify n f=l
 |[],n=>by simp
 |x::l,0=>by simp[h]
 |x::l,n+1=>by simp[qsf h l n]
theorem Did.step(h:Did w col W col' k g c css s s1)(hT:Turns (inP k) W col' W' col'')(ho:∀i,i=5∨10≤i→KeepsCol i W col' W' col'')(hm:∃L' css',Mdl W' col'' k g c s2 L' css'):Did w col W' col'' k g c css s s2:=
 ⟨hm,h.old.keep ho,h.turns.trans hT⟩
theorem Mdl.state1(h:Mdl w col k g c s L css)(hk:Kind k)(hs:s.Ok)(ht:s.tres[n]? =some t)(x:Int):
 Mdl (w.setCell ⟨L.rg,n*75,none⟩ (.int .i64 x)) col k g c (s.setT n fun t=>{t with state:=x}) L (css.modify n fun cs=>over cs 0 [.int .i64 x]):=
 h.treOver hk hs ht (j:=0) (cs:=[.int .i64 x]) (fun t=>{t with state:=x}) zm (fun vd vl vq=>by simp[over,trev]) rfl rfl rfl
theorem Mdl.deficit1(h:Mdl w col k g c s L css)(hk:Kind k)(hs:s.Ok)(ht:s.tres[n]? =some t)(x:Int):
 Mdl (w.setCell ⟨L.rg,n*75+3,none⟩ (.int .i64 x)) col k g c (s.setT n fun t=>{t with deficit:=x}) L (css.modify n fun cs=>over cs 3 [.int .i64 x]):=
 h.treOver hk hs ht (j:=3) (cs:=[.int .i64 x]) (fun t=>{t with deficit:=x}) zm (fun vd vl vq=>by simp[over,trev]) rfl rfl rfl
theorem Mdl.queueNil(h:Mdl w col k g c s L css)(hk:Kind k)(hs:s.Ok)(ht:s.tres[n]? =some t):
 ∃css',Mdl (w.setCell ⟨L.rg,n*75+6,none⟩ (.slice none 0 0)) col k g c (s.setT n fun t=>{t with queue:=[]}) L css'∧TrsAt (w.setCell ⟨L.rg,n*75+6,none⟩ (.slice none 0 0)) col css s.tres∧Turns (inP k) w col (w.setCell ⟨L.rg,n*75+6,none⟩ (.slice none 0 0)) col:=by
 obtain⟨hn16,Ad,cd,Al,cl,Aq,cq,hcs,-,r1,r2,r3⟩:=h.st.tree hs ht;exact⟨_,h.treRow hk hs ht hcs (.inr (.inr rfl)) (Turns.refl _ w col) h.fin (fun t=>{t with queue:=[]}) (.slice none 0 0) zo ⟨_,_,_,rfl,r1,r2,r3⟩ ⟨_,_,_,rfl,r1,r2,TextsC.nil _ _ _⟩⟩
theorem qsg(c:Cfg)(s:Sta)(L:Loc)(col:Col)(k g:Nat)(css:List (List Value))(n:Nat)(t:Tre)(R:Req)(Ac:Option Addr)(cc:Nat)(Al:Option Addr)(cl:Nat)(w:World)(hk:Kind k)(hs:s.Ok)(h:Mdl w col k g c s L css)
 (hr:Asked w col R Ac cc Al cl)(ht:s.tres[n]? =some t)(hrt:R.tree=(n:Int))(hn0:n≠0)(hop:R.op=7):
 Zc 137 #[.pointer (some ⟨g,0,none⟩),.pointer (some ⟨L.rg,n*75,none⟩),.agg (reqv R (.slice Ac R.cavs.length cc) (.slice Al R.leaf.length cl)).toArray] w fun e w'=>∃v col',e=.returned v∧RspV w' col' w.heap.size v (qmp c s R t).2∧Did w col w' col' k g c css s (qmp c s R t).1:=by
 obtain⟨hn16,Ad,cd,Al',cl',Aq,cq,hcs,hcell,hrd,hrl,hrq⟩:=h.st.tree hs ht;obtain⟨Q,hQ,rlen,rest,W0,hW0,q0,z0,b0⟩:=qr4 R Ac cc Al cl w hr.good.tag;rw[hQ];have hG0:=h.fin.none (b:=w.heap.size+1) zo;have D0:=Did.same (css:=css) h b0;obtain⟨H,AQ,Q0,Z0,B0,A3,AV,HK⟩:=zh8 h hW0 q0 z0 b0 hG0 D0 hk;obtain⟨HS,HR,RL,AL,HQ⟩:=zh5 hs hr rlen rest hQ;clear h hW0 q0 z0 b0 hG0 D0 hk hs hr rlen rest hQ;obtain⟨st,hst⟩:=xeq R.state;obtain⟨t0,ht0⟩:=xeq t.state;obtain⟨nq,hnq⟩:=xeq t.queue.length;have k0:=(Q0.cell 0).trans (show Q.toArray[0]? =some (.int .i64 7) by rw[tA3,←hop,←HQ.o];rfl);have k38:=(Q0.cell 38).trans (show Q.toArray[38]? =some (.int .i64 st) by rw[tA3,←hst];exact AL.o 3);obtain⟨K0,AR,HT,AA,AC,A8,AD,A7⟩:=zh8 k0 k38 ht hrt hn0 hst ht0 hnq;have e0:=hcell 0 (.int .i64 t.state) rfl;have e6:=hcell 6 (.slice Aq t.queue.length cq) rfl;rw[ht0,Nat.add_zero]at e0;rw[hnq]at e6;obtain⟨E0,E6,B7⟩:=zh3 (qai e0 B0.o) (qai e6 B0.o) hrq;have k0:=K0.o;rw[AQ.o]at k0;clear hrt hn0 hop hst ht0 hnq ht hcs hcell hrd hrl hrq k38 e0 e6;go_enter Tryz.func137,Tryz.ntmps137
 go_upto_region 3 with(fail)
 rw[←AQ.o];clear k0;obtain⟨S,HS9⟩:=zS fun w'=>Zb W0 w'
 refine zrs S 13 (zq 0 11 [(11,true),(12,false)]) ((HS9.o _).mpr ((tA5 _ _).drew)) ?_;obtain⟨F0,F1,F2⟩:=zh3 (zF HS9 E0.o) (zF HS9 E6.o) (zF HS9 AR.o);iterate 11 (refine zr3 ?_)
 obtain⟨Wd,hWd,BD⟩:=zdr W0;rw[←hWd];clear hWd;refine zw ?_;go_simp;refine(qkq t0 st (nq:Int) Wd).mono ?_;rintro e w1 ⟨rfl,rfl⟩;refine⟨(HS9.o _).mpr BD.o,zput ?_⟩;iterate 1 (refine zrb ?_)
 refine qbf ?_;clear HS9 F0 F1 F2;obtain⟨Z1,AW⟩:=zh2 (Z0.below BD.o Z0.lt) (AV.call BD.o);obtain⟨mb,hmb⟩:=xeq (mayB t0 st (nq:Int));rw[hmb];cases mb with
 |false=>
  have hdo:qmp c s R t=(s,rWhy 24):=by
   unfold qmp;rw[if_pos (.inr (by rw[AD.o,A8.o,A7.o,hmb];rfl))]
  have A4:=zh1 hdo;clear hdo hmb;go_wp2_with fail
  exact qr5 A4 HK (A3.o) (qqd 24 Wd) (Z1.o) (AW.o)
 |true=>
  have hst:st=1∨st=2∨st=3∨st=4:=by
   unfold mayB at hmb;split at hmb
   · simp at hmb;omega
   split at hmb
   · simp at hmb;omega
   split at hmb
   · simp at hmb;omega
   cases hmb
  have H1:=H.call (B0.trans (BD.mono B0.size));have e0:=qai E0.o BD.o;have f0:=H1.st.tres.frozen (n*75);have k38:=qai AR.o BD.o;have M2:=H1.state1 HK.o HS.o HT.o st;have T2:Turns (· ==k+1) Wd col (Wd.setCell ⟨L.rg,n*75,none⟩ (.int .i64 st)) col:=Turns.setCell _ (by simp[H1.st.tres.1]);obtain⟨A5,AG,AH⟩:=zh3 M2 T2 hmb;clear hmb M2 T2 H1;go_upto_region 6 with(fail)
  obtain⟨W2,hW2⟩:=eqx (Wd.setCell ⟨L.rg,n*75,none⟩ (.int .i64 st));rw[←hW2]at A5 AG ⊢;clear hW2 e0 f0;have cW:col w.heap.size=0:=by
   by_cases e:col w.heap.size=0
   · exact e
   have:=H.fin _ e;omega
  have sok2:(s.setT n fun t=>{t with state:=st}).Ok:=HS.setT (fun y hy o=>by
   rw[HT.o]at hy;injection hy with hy;subst hy;exact {o with state:=by show 0≤st∧st≤4;omega,live:=fun _=>o.live (by intro e;rw[AD.o]at e;subst e;have h:=AH.o;unfold mayB at h;simp at h)}) (fun e=>absurd e AC.o)
  have ht2:(s.setT n fun t=>{t with state:=st}).tres[n]? =some {t with state:=st}:=qo5 _ HT.o;have x38:W2.cell? ⟨w.heap.size,38,none⟩=some (.int .i64 st):=qo7 k38 AG.o (by rw[cW];simp);have z2:Blk W2 (w.heap.size+1) 57 Tryz.zeroCells57:=(AG.block _ Z1.lt (by rw[A3.o];simp)).trans Z1.o;have dd2:Did w col W2 col k g c css s (s.setT n fun t=>{t with state:=st}):=Did.turned H.o (B0.trans (BD.mono B0.size)) AG.o (by unfold inP;simp) (by have:=HK.o;rcases this with rfl|rfl<;>omega) A5.o;have hto:=HS.tre HT.o;obtain⟨A6,A2,AM,Z2,AI,AJ,AK⟩:=zh7 sok2 ht2 x38 z2 dd2 hto cW;clear sok2 ht2 x38 z2 dd2 hto cW k38;have k38:=AM.o;have plain:∀m:Nat,st=m→m≠4→m≠2→qmp c s R t=(s.setT n (fun t=>{t with state:=st}),qmk m):=by
   intro m hm h4 h2;unfold qmp;rw[if_neg (by rw[AD.o,A8.o,A7.o,AH.o,AA.o];simp;exact AC.o),A8.o,AA.o,tBe];simp only[show ¬st=4 by omega,show ¬st=2 by omega,if_false,or_self];rw[show st.toNat=m by omega]
  rcases hst with rfl|rfl|rfl|rfl
  · have A4:=zh1 (plain 1 rfl zdc zdc)
    clear plain;go_wp2_with fail
    exact qr5 A4 HK (A3.o) (qqc 1 W2 zo) (Z2.o) (AI.o)
  ·
   clear plain;have hdo:qmp c s R t=((s.setT n (fun t=>{t with state:=2})).setT n (fun t=>{t with deficit:=0}),qmk 2):=by
    unfold qmp;rw[if_neg (by rw[AD.o,A8.o,A7.o,AH.o,AA.o];simp;exact AC.o),A8.o,AA.o,tBe];simp only[show ¬(2:Int)=4 by decide,if_false,false_or,if_true];unfold Sta.setT;rw[qrl];rfl
   have A4:=zh1 hdo;clear hdo;obtain⟨-,Ad2,cd2,Al2,cl2,Aq2,cq2,hcs2,hcell2,-,-,-⟩:=A5.st.tree A6.o A2.o;have e3:=hcell2 3 (.int .i64 t.deficit) rfl;have f3:=A5.st.tres.frozen (n*75+3);have M3:=A5.deficit1 HK.o A6.o A2.o 0;have T3:Turns (· ==k+1) W2 col (W2.setCell ⟨L.rg,n*75+3,none⟩ (.int .i64 0)) col:=Turns.setCell _ (by simp[A5.st.tres.1]);have z3:Blk (W2.setCell ⟨L.rg,n*75+3,none⟩ (.int .i64 0)) (w.heap.size+1) 57 Tryz.zeroCells57:=(T3.block _ Z2.lt (by rw[A3.o];simp)).trans Z2.o;have x3:=qo7 AM.o T3 (by rw[AK.o];simp);have D3:=AI.step (T3.mono (q:=inP k) fun i hi=>(show i=k+1 by simpa using hi)▸(by unfold inP;simp)) (fun i hi=>T3.keeps (by have:=HK.o;rcases this with rfl|rfl<;>simp<;>omega)) ⟨_,_,M3⟩;obtain⟨Z3,X3,AS⟩:=zh3 z3 x3 D3;clear M3 T3 z3 x3 D3 hcell2 hcs2;go_upto_region 17 with(fail)
   clear e3 f3 k38;obtain⟨W9,hW9⟩:=eqx (W2.setCell ⟨L.rg,n*75+3,none⟩ (.int .i64 0));rw[←hW9]at Z3 X3 AS ⊢;clear hW9;have k38:=X3.o;go_wp2_with fail
   exact qr5 A4 HK (A3.o) (qqc 2 W9 zo) (Z3.o) (AS.o)
  · have A4:=zh1 (plain 3 rfl zdc zdc)
    clear plain;go_wp2_with fail
    exact qr5 A4 HK (A3.o) (qqc 3 W2 zo) (Z2.o) (AI.o)
  clear plain;obtain⟨tn,htn⟩:∃m:Nat,t.tenant=m:=⟨t.tenant.toNat,by have:=AJ.tenant;omega⟩;have tn16:tn<16:=by have:=AJ.tenant;omega
  obtain⟨x,hx⟩:∃x,s.tens[tn]? =some x:=⟨_,tA7 (by rw[HS.tensn];exact tn16)⟩;have hxo:=HS.ten hx;have hdo:qmp c s R t=(((((s.setT n (fun t=>{t with state:=4})).setX tn fun x=>{x with used:=x.used - qme t.queue}).setT n fun t=>{t with queue:=[]}).setT n fun t=>{t with deficit:=0}),qmk 4):=by
   unfold qmp;rw[if_neg (by rw[AD.o,A8.o,A7.o,AH.o,AA.o];simp;exact AC.o),A8.o,AA.o,htn,tBe,tBe];simp only[if_true,true_or];unfold Sta.setT Sta.setX;simp only;rw[qrl,qrl];rfl
  obtain⟨A4,HX,AX,B8⟩:=zh4 hdo hx hxo htn;clear hdo hx hxo;obtain⟨-,Ad2,cd2,Al2,cl2,Aq2,cq2,hcs2,hcell2,-,-,-⟩:=A5.st.tree A6.o A2.o;have e1:=hcell2 1 (.int .i64 t.tenant) rfl;have e6:=hcell2 6 (.slice Aq2 t.queue.length cq2) rfl;rw[htn]at e1;rw[A7.o]at e6;have c7:=A5.c7;obtain⟨AE,E1,E6,C7⟩:=zh4 hcs2 e1 e6 c7;clear hcs2 hcell2 e1 e6 c7 htn;obtain⟨css2,hc2⟩:=xeq (css.modify n fun cs=>over cs 0 [.int .i64 4]);rw[hc2]at A5 AE;clear hc2;have qt0:(0:Int)≤tn:=zo;have qt1:(tn:Int)<16:=zo;go_upto_region 9 with(fail)
  obtain⟨S,HS9⟩:=zS fun w'=>Zb W2 w'
  refine zrs S 11 (zq 0 11 []) ((HS9.o _).mpr ((tA5 _ _).drew)) ?_;obtain⟨F0,F1⟩:=zh2 (zF HS9 C7.o) (zF HS9 E1.o);iterate 11 (refine zr2 ?_)
  refine qbf ?_;clear HS9 F0 F1;obtain⟨W3,hW3,AN⟩:=zdr W2;rw[←hW3];clear hW3;have e6:=qai E6.o AN.o;have AO:=zh1 (show nq≤64 by have:=AJ.queue;rw[A7.o]at this;exact this);clear k38;go_wp2_with fail
  clear e6;go_loopw [54] (fun i wr=>∃j:Nat,j≤nq∧i=.int .i64 j∧Hid (Mdl wr col k g c ((s.setT n fun t=>{t with state:=4}).setX tn fun x=>{x with used:=x.used - qme (t.queue.take j)}) L css2∧Turns (· ==k) W3 col wr col)) (fun i _=>nq - (intOf i).toNat)
  case atStart=>
   refine⟨0,by omega,rfl,?_⟩;have e0:((s.setT n fun t=>{t with state:=4}).setX tn fun x=>{x with used:=x.used - qme (t.queue.take 0)})=s.setT n fun t=>{t with state:=4}:=by
    unfold Sta.setX;rw[qsf (fun x=>by simp[qme])]
   show Mdl _ _ _ _ _ _ _ _∧_;rw[e0];exact⟨A5.call AN.o,Turns.refl _ _ _⟩
  case round=>
   obtain⟨j,hj,rfl,hl⟩:=hrel;have hx':((s.setT n fun t=>{t with state:=4}).setX tn fun x=>{x with used:=x.used - qme (t.queue.take j)}).tens[tn]? =some {x with used:=x.used - qme (t.queue.take j)}:=qo5 _ HX.o;have sokj:((s.setT n fun t=>{t with state:=4}).setX tn fun x=>{x with used:=x.used - qme (t.queue.take j)}).Ok:=A6.setX fun y _ o=>{o with used:=by have:=o.used;show y.used - _<_;omega}
   obtain⟨-,-,r3⟩:=hl.o.1.rows (t:={t with state:=4}) A2.o AE.o;obtain⟨A1,k1,e1,a1,a2,a3⟩:=r3.reads;injection e1 with e11 e12 e13;subst e11 e13;dsimp only at a1 a3;rw[A7.o]at a1 a3;obtain⟨AP,A0,AY⟩:=zh3 hx' sokj a3;have qj0:(0:Int)≤j:=zo;clear hx' sokj a3 r3 e12;by_cases hjn:j<nq
   ·
    have qj:(j:Int)<nq:=zo;obtain⟨g0,o0,bs,A',n',c',rfl,-,hi,hc,-,-,h5⟩:=AY.at_ hjn;have hst:=qqm hi;have hbl:=(AJ.queueb bs (tB2 hi)).1;rw[qb4 h5]at hst hbl;have hub:=AX.used;obtain⟨u,hu⟩:=xeq (x.used - qme (t.queue.take j));have hu1:x.used - qme (t.queue.take (j+1))=u - (n'+16):=zo;have ub:u<4294967296:=zo;have c5:wr.cell? ⟨L.tg,tn*6+5,none⟩=some (.int .u32 (u:Int)):=hl.o.1.st.tens.cell ((qnk AP.o zo).trans (by rw[hu];rfl));obtain⟨C5,AZ,HU⟩:=zh3 c5 hu1 hu;have p1:IntKind.u32.wrap (n':Int)=(n':Int):=tBf _ zo;have p2:IntKind.u32.wrap ((n':Int)+16)=(n':Int)+16:=tBf _ zo;clear hst h5 hub hu1 c5 hi hu;have B9:=zh1 hc;go_upto_region 13 with(fail)
    clear hc;obtain⟨S,HS9⟩:=zS fun w'=>Zb wr w'
    refine zrs S 16 (zq 0 16 [(16,true)]) ((HS9.o _).mpr ((tA5 _ _).drew)) ?_;have F0:=zh1 (zF HS9 C5.o);obtain⟨v,hv,hvu⟩:∃v:Nat,v=u - (n'+16)∧v≤u:=⟨_,rfl,by omega⟩;have M4:=fun(w':World)(hb:Zb wr w')=>(hl.o.1.call hb).tenOver HK.o A0.o AP.o (j:=5) (cs:=[.int .u32 (v:Int)]) (fun x=>{x with used:=v}) zm (by simp[over,tenv])
    have e4:(((s.setT n fun t=>{t with state:=4}).setX tn fun x=>{x with used:=x.used - qme (t.queue.take j)}).setX tn fun x=>{x with used:=v})=(s.setT n fun t=>{t with state:=4}).setX tn fun x=>{x with used:=x.used - qme (t.queue.take (j+1))}:=by
     unfold Sta.setX;dsimp only;rw[qrl];rw[qr6 (f:=fun y:Ten=>{y with used:=v}) (g:=fun x=>{x with used:=x.used - qme (t.queue.take (j+1))}) fun y hy=>by
      have h0:s.tens[tn]? =some y:=hy;rw[HX.o]at h0;injection h0 with h0;subst h0;rw[AZ.o,hv]]
    rw[e4]at M4;obtain⟨A9,FZ,TG,B1⟩:=zh4 M4 (fun(w':World)(hb:Zb wr w')=>(hl.o.1.call hb).st.tens.frozen (tn*6+5)) (show col L.tg=k from hl.o.1.st.tens.1) hl.o.2;clear M4 e4 hl;have wv:(u:Int) - min (u:Int) ((n':Int)+16)=(v:Int):=zo;have wv2:IntKind.u32.wrap ((u:Int) - min (u:Int) ((n':Int)+16))=(v:Int):=by rw[tBf _ zo];omega
    have HV:=zh1 hv;clear hv hvu;iterate 16 (refine zr1 ?_)
    obtain⟨W4,hW4,B4⟩:=zdr wr;rw[←hW4];clear hW4;have c5:=qai C5.o B4.o;have f5:=FZ.o W4 B4.o;have M5:=A9.o W4 B4.o;rw[show W4.setCells L.tg (tn*6+5) [.int .u32 (v:Int)]=W4.setCell ⟨L.tg,tn*6+5,none⟩ (.int .u32 (v:Int)) from rfl]at M5;have T5:Turns (· ==k) W3 col (W4.setCell ⟨L.tg,tn*6+5,none⟩ (.int .u32 (v:Int))) col:=(B1.trans (Turns.of_below _ B4.o)).trans (Turns.setCell _ (by simp[TG.o]));obtain⟨B2,B3⟩:=zh2 M5 T5;clear M5 T5;refine zw ?_;go_simp;refine qbf ?_;clear HS9 F0 c5 f5;have hnb:=AO.o;go_wp2
    go_roundw
    case rel=>exact⟨j+1,by omega,by go_num,zh1 ⟨B2.o,B3.o⟩⟩
    case measure=>simp[intOf];omega
   have qj:¬(j:Int)<nq:=zo;obtain rfl:j=nq:=zo;have htk:t.queue.take j=t.queue:=tB5 (by have:=A7.o;omega);rw[htk]at hl A0 AP;obtain⟨AB,B5⟩:=zh2 hl.o.1 hl.o.2;clear htk hl;obtain⟨s3,hs3⟩:=xeq ((s.setT n fun t=>{t with state:=4}).setX tn fun x=>{x with used:=x.used - qme t.queue});rw[hs3]at AB A0 A4;have ht3:s3.tres[n]? =some {t with state:=4}:=by rw[←hs3];exact A2.o
   have AF:Turns (· ==k) W2 col wr col:=(Turns.of_below _ AN.o).trans B5.o;have D3:=AI.step (AF.mono (q:=inP k) fun i hi=>(show i=k by simpa using hi)▸(by unfold inP;simp)) (fun i hi=>AF.keeps (by have:=HK.o;rcases this with rfl|rfl<;>simp<;>omega)) ⟨_,_,AB.o⟩;have z3:Blk wr (w.heap.size+1) 57 Tryz.zeroCells57:=(AF.block _ Z2.lt (by rw[A3.o];have:=HK.o;rcases this with rfl|rfl<;>rfl)).trans Z2.o;have x3:=qo7 AM.o AF (by rw[AK.o];have:=HK.o;rcases this with rfl|rfl<;>rfl);obtain⟨-,Ad3,cd3,Al3,cl3,Aq3,cq3,-,hcell3,-,-,-⟩:=AB.st.tree A0.o ht3;have e6:=hcell3 6 (.slice Aq3 t.queue.length cq3) rfl;have f6:=AB.st.tres.frozen (n*75+6);obtain⟨css4,M4,-,-⟩:=AB.queueNil HK.o A0.o ht3;have T4:Turns (· ==k+1) wr col (wr.setCell ⟨L.rg,n*75+6,none⟩ (.slice none 0 0)) col:=Turns.setCell _ (by simp[AB.st.tres.1]);have D4:=D3.step (T4.mono (q:=inP k) fun i hi=>(show i=k+1 by simpa using hi)▸(by unfold inP;simp)) (fun i hi=>T4.keeps (by have:=HK.o;rcases this with rfl|rfl<;>simp<;>omega)) ⟨_,_,M4⟩;have z4:Blk (wr.setCell ⟨L.rg,n*75+6,none⟩ (.slice none 0 0)) (w.heap.size+1) 57 Tryz.zeroCells57:=(T4.block _ z3.lt (by rw[A3.o];simp)).trans z3;have x4:=qo7 x3 T4 (by rw[AK.o];simp);obtain⟨A9,AT,Z4,X4,B6,BA⟩:=zh6 M4 D4 z4 x4 ht3 hs3;clear M4 D4 z4 x4 D3 z3 x3 AF T4 hcell3 ht3 hs3;go_upto_region 16 with(fail)
   obtain⟨W6,hW6⟩:=eqx (wr.setCell ⟨L.rg,n*75+6,none⟩ (.slice none 0 0));rw[←hW6]at A9 AT Z4 X4 ⊢;clear hW6 e6 f6;have sok4:(s3.setT n fun t=>{t with queue:=[]}).Ok:=A0.setT (fun y hy o=>{o with leaves:=by have:=o.leaves;dsimp only;simp;omega,queue:=by simp,queueb:=fun b hb=>(nomatch hb)}) (fun e=>absurd e AC.o);have ht4:(s3.setT n fun t=>{t with queue:=[]}).tres[n]? =some {({t with state:=4}:Tre) with queue:=[]}:=qo5 _ B6.o;obtain⟨-,Ad4,cd4,Al4,cl4,Aq4,cq4,-,hcell4,-,-,-⟩:=A9.st.tree sok4 ht4;have e3:=hcell4 3 (.int .i64 t.deficit) rfl;have f3:=A9.st.tres.frozen (n*75+3);have M5:=A9.deficit1 HK.o sok4 ht4 0;have T5:Turns (· ==k+1) W6 col (W6.setCell ⟨L.rg,n*75+3,none⟩ (.int .i64 0)) col:=Turns.setCell _ (by simp[A9.st.tres.1]);have D5:=AT.step (T5.mono (q:=inP k) fun i hi=>(show i=k+1 by simpa using hi)▸(by unfold inP;simp)) (fun i hi=>T5.keeps (by have:=HK.o;rcases this with rfl|rfl<;>simp<;>omega)) ⟨_,_,M5⟩;have z5:Blk (W6.setCell ⟨L.rg,n*75+3,none⟩ (.int .i64 0)) (w.heap.size+1) 57 Tryz.zeroCells57:=(T5.block _ Z4.lt (by rw[A3.o];simp)).trans Z4.o;have x5:=qo7 X4.o T5 (by rw[AK.o];simp);obtain⟨AU,Z5,X5⟩:=zh3 D5 z5 x5;clear M5 D5 z5 x5 T5 sok4 ht4 hcell4;go_upto_region 17 with(fail)
   clear e3 f3;obtain⟨W9,hW9⟩:=eqx (W6.setCell ⟨L.rg,n*75+3,none⟩ (.int .i64 0));rw[←hW9]at AU Z5 X5 ⊢;clear hW9;have k38:=X5.o;go_wp2_with fail
   exact qr5 A4 HK (A3.o) (qqc 4 W9 zo) (Z5.o) (AU.o)
def qsh (c:Cfg)(s:Sta)(R:Req):Bool:=
 match s.gras[R.tid]? with
 |none=>false
 |some g=>qk9 (qmc c.seed) (R.tid,R.cavs,R.tag)&&(!g.revoked&&(decide (s.clock<g.expires)&&qkh R.op (if qdi R.op then R.tree else 0) s.clock R.cavs))
theorem qsi:Tryz.prog.built 66 []=some (grav ⟨0,0,0,false⟩).toArray:=by kernel_rfl
theorem qsj{y:Gra}(hy:s.gras[R.tid]? =some y)(h:y.revoked=true):qsh c s R=false:=by
 unfold qsh;rw[hy];simp[h]
theorem qsk{y:Gra}(hy:s.gras[R.tid]? =some y)(h:¬s.clock<y.expires):qsh c s R=false:=by
 unfold qsh;rw[hy];simp[h]
theorem qsl{y:Gra}(hc:s.clock=clk)(hy:s.gras[R.tid]? =some y)(hg:qk9 (qmc c.seed) (R.tid,R.cavs,R.tag)=true)(h:y.revoked=false)(he:s.clock<y.expires)(ht:(if qdi R.op then R.tree else 0)=tr):qsh c s R=qkh R.op tr clk R.cavs:=by
 subst hc;unfold qsh;rw[hy,ht];simp[h,hg,he]
theorem qsm(hg:qk9 (qmc c.seed) (R.tid,R.cavs,R.tag)=false):qsh c s R=false:=by
 unfold qsh;cases s.gras[R.tid]? with
 |none=>rfl
 |some y=>simp[hg]
theorem qsn(c:Cfg)(s:Sta)(L:Loc)(col:Col)(k g:Nat)(css:List (List Value))(R:Req)(Ac:Option Addr)(cc:Nat)(Al:Option Addr)(cl:Nat)(w:World)(hk:Kind k)(hc:c.Ok)(hs:s.Ok)(h:Mdl w col k g c s L css)
 (hr:Asked w col R Ac cc Al cl)(hT:Tabs w)(h4:R.cavs.length≤4):
 Zc 125 #[.pointer (some ⟨g,0,none⟩),.agg (reqv R (.slice Ac R.cavs.length cc) (.slice Al R.leaf.length cl)).toArray] w fun e w'=>∃y:Gra,e=.returned (.tuple #[.agg #[.int .i64 y.tenant,.int .i64 y.role,.int .u64 (y.expires:Int),.bool y.revoked],.bool (qsh c s R)])∧(qsh c s R=true→s.gras[R.tid]? =some y)∧Below w.heap.size w w':=by
 have rlen:=qiu R (.slice Ac R.cavs.length cc) (.slice Al R.leaf.length cl) hr.good.tag;have rest:=qdh R (.slice Ac R.cavs.length cc) (.slice Al R.leaf.length cl) hr.good.tag;have rtok:=qiv R (.slice Ac R.cavs.length cc) (.slice Al R.leaf.length cl);obtain⟨Q,hQ⟩:=xeq (reqv R (.slice Ac R.cavs.length cc) (.slice Al R.leaf.length cl));rw[hQ]at rlen rest rtok ⊢;obtain⟨W0,hW0⟩:=eqx ((w.alloc (.cells Q.toArray 34)).alloc (.cells #[.int .i64 0,.int .i64 0,.int .u64 0,.bool false] 66));have q0:=zNb hW0;have z0:=zNc hW0;have b0:=zMb hW0;obtain⟨ti,hti⟩:=xeq R.tid;have tb:ti<4294967296:=by rw[←hti];exact hr.good.tid
 obtain⟨ng,hng⟩:=xeq s.gras.length;have gb:ng≤64:=by rw[←hng];exact hs.grasn
 have c9:=h.c9;rw[hng]at c9;have k1:W0.cell? ⟨w.heap.size,1,none⟩=some (.int .u32 (ti:Int)):=(q0.cell 1).trans (by rw[tA3,←hti];exact rtok 0 _ rfl);have k35:W0.cell? ⟨w.heap.size,35,none⟩=some (.int .i64 R.tree):=(q0.cell 35).trans (by rw[tA3];exact rest 0);have kop:Q.toArray[0]? =some (.int .i64 R.op):=by rw[tA3,←hQ];rfl
 have htk:Tok.Ok (R.tid,R.cavs,R.tag):=⟨hr.good.tid,hr.good.cavn,hr.good.tag,hr.good.tagb⟩;obtain⟨H,AQ,Q0,Z0,B0,HK,HC,HS⟩:=zh8 h hW0 q0 z0 b0 hk hc hs;obtain⟨HR,RL,HQ,TT,AD,K1,AR,AE⟩:=zh8 hr rlen hQ hT h4 k1 k35 kop;obtain⟨C9,AJ,AK,AF,AG,CI⟩:=zh6 (qai c9 b0) hti hng htk (show (Tryz.prog.info? 31).map (·.size)=some (tokv R.tid (.slice Ac R.cavs.length cc) R.tag).length by rw[qdc _ _ _ hr.good.tag];kernel_rfl) (show (Tryz.prog.info? 25).map (·.size)=some 4 by kernel_rfl);clear h hW0 q0 z0 b0 hk hc hs hr rlen rest rtok hQ hT h4 k1 k35 kop hti hng htk c9;have u1:IntKind.u64.wrap (ti:Int)=(ti:Int):=tBa _ zo;have u2:IntKind.u64.wrap (ng:Int)=(ng:Int):=tBa _ zo;go_enter Tryz.func125,Tryz.ntmps125
 go_upto_region 1 with(fail)
 rw[←AQ.o];obtain⟨gn,hgn⟩:=xeq (qk9 (qmc c.seed) (R.tid,R.cavs,R.tag));have AH:=zh1 hgn;clear hgn;obtain⟨S,HS9⟩:=zS fun w'=>Below W0.heap.size W0 w'
 refine zrs S 23 (zq 0 17 [(18,false),(19,false),(17,true),(20,true),(21,false),(22,false)]) ((HS9.o _).mpr ((tA5 _ _).drew)) ?_;obtain⟨F0,F1,FC,FT⟩:=zh4 (zF HS9 K1.o) (zF HS9 C9.o) (fun(w':World)(h:S w')=>((H.call B0.o).call ((HS9.o w').mp h)).cfgRange) (fun(w':World)(h:S w')=>qap (l:=Q) (Q0.below ((HS9.o w').mp h) Q0.lt) 1 (tokv R.tid (.slice Ac R.cavs.length cc) R.tag) (fun j u hu=>by rw[←HQ.o];exact qiv R _ _ j u hu));by_cases hge:ng≤ti
 ·
  have p1:(ng:Int)≤ti:=zo;have hno:qsh c s R=false:=by
   unfold qsh;rw[AJ.o,List.getElem?_eq_none (by rw[AK.o];exact hge)]
  have A7:=zh1 hno;clear hno hge;iterate 19 (first|refine zsk ?_|refine zr2 ?_)
  refine qr0 rfl rfl ⟨(HS9.o _).mpr (tA5 _ _).drew,?_⟩;refine zP ?_;refine qr0 rfl rfl ⟨(HS9.o _).mpr (tA5 _ _).drew,?_⟩;refine zP ?_;iterate 2 (first|refine zsk ?_|refine zrb ?_)
  refine qbf ?_;clear HS9 F0 F1 FC FT u1 u2;obtain⟨W1,hW1,B1⟩:=zdr W0;rw[←hW1];clear hW1;obtain⟨X,hX⟩:=xeq (grav ⟨0,0,0,false⟩);have lX:X.length=4:=by rw[←hX];rfl
  have oX:∀u∈X,u.oneCell'=true:=by
   rw[←hX];intro u hu;unfold grav at hu;simp only[List.mem_cons,List.not_mem_nil,or_false]at hu;rcases hu with rfl|rfl|rfl|rfl<;>rfl
  obtain⟨BT,A3,LX,OX⟩:=zh4 (show Tryz.prog.built 66 []=some X.toArray by rw[←hX];exact qsi) hX lX oX;obtain⟨A1,Z1,BB⟩:=zh3 (zI 66 LX.o) (Z0.below B1.o Z0.lt) (below_setRow (B0.trans (B1.mono B0.size)) (by omega:w.heap.size≤w.heap.size+1) X.toArray);clear hX lX oX;go_wp2_with (first
   |(refine qbj rfl ⟨.agg X.toArray,qgn 66 _ rfl _ _ BT.o (by simp[Act.eval]),?_⟩)
   |(refine zst Z1.o A1.o (by simp[LX.o]) OX.o ?_))
  have A2:=qap (Z1.setRow X.toArray) 0 X zjq;refine bodyPost_ret (qgr rfl rfl (run_loadVar_mid _ _ 0 _ X _ A2 Tryz.underlying66 rfl A1.o)) rfl ⟨⟨0,0,0,false⟩,?_,fun h=>(by rw[A7.o]at h;cases h),BB.o⟩;rw[A7.o,←A3.o];rfl
 have p1:¬(ng:Int)≤ti:=zo;have plt:ti<ng:=zo;have plt2:(ti:Int)<ng:=zo;have q0:(0:Int)≤ti:=zo;obtain⟨y,hy⟩:∃y,s.gras[ti]? =some y:=⟨_,tA7 (by rw[AK.o];exact plt)⟩;have HY:=zh1 (show s.gras[R.tid]? =some y by rw[AJ.o];exact hy);clear hge;iterate 16 (refine zr2 ?_)
 refine qo8 rfl rfl 25 (.tmp 23) rfl g 0 rfl _ _ FC.o Tryz.underlying25 rfl CI.o ?_;refine zP ?_;iterate 1 (refine zrb ?_)
 refine qo8 rfl rfl 31 (.tmp 26) rfl w.heap.size 1 rfl (tokv R.tid (.slice Ac R.cavs.length cc) R.tag) _ FT.o Tryz.underlying31 rfl AG.o ?_;refine zP ?_;obtain⟨Wd,hWd,BD⟩:=zdr W0;rw[←hWd];clear hWd;have AL:=zh1 (B0.trans (BD.mono B0.size));refine zw ?_;go_simp;refine(qom c (.slice L.sa L.sn L.sc) L.sa L.sn L.sc Wd (H.call AL.o).seedR HC.seedb (by have:=HC.seed;have:=(H.seedR).1;simp[byv]at this;omega) (TT.below AL.o TT.size)).mono ?_;rintro e w1 ⟨rfl,b1⟩;have B1:=zh1 (BD.trans (b1.mono BD.size));clear b1;have AM:=zh1 (B0.trans (B1.mono B0.size));refine⟨(HS9.o _).mpr B1.o,zput ?_⟩;refine zw ?_;go_simp;refine(qkf (qmc c.seed) (R.tid,R.cavs,R.tag) Ac R.cavs.length cc w1 (qjv _ _) (qjw _ _) (HR.cavs.call AM.o) HR.cavc (by have:=AD.o;omega) AF.o (TT.below AM.o TT.size)).mono ?_;rintro e w2 ⟨rfl,b2⟩;rw[AH.o];have B2:=zh1 (B1.trans (b2.mono B1.size));clear b2;refine⟨(HS9.o _).mpr B2.o,zput ?_⟩;iterate 2 (refine zrb ?_)
 refine qbf ?_;clear HS9 F0 F1 FC FT u1 u2;cases gn with
 |false=>
  have A7:=zh1 (qsm (c:=c) (s:=s) AH.o);obtain⟨W1,hW1⟩:=eqx w2;rw[←hW1];have B1:=zh1 (show Below W0.heap.size W0 W1 by rw[hW1];exact B2.o);clear hW1;obtain⟨X,hX⟩:=xeq (grav ⟨0,0,0,false⟩);have lX:X.length=4:=by rw[←hX];rfl
  have oX:∀u∈X,u.oneCell'=true:=by
   rw[←hX];intro u hu;unfold grav at hu;simp only[List.mem_cons,List.not_mem_nil,or_false]at hu;rcases hu with rfl|rfl|rfl|rfl<;>rfl
  obtain⟨BT,A3,LX,OX⟩:=zh4 (show Tryz.prog.built 66 []=some X.toArray by rw[←hX];exact qsi) hX lX oX;obtain⟨A1,Z1,BB⟩:=zh3 (zI 66 LX.o) (Z0.below B1.o Z0.lt) (below_setRow (B0.trans (B1.mono B0.size)) (by omega:w.heap.size≤w.heap.size+1) X.toArray);clear hX lX oX;go_wp2_with (first
   |(refine qbj rfl ⟨.agg X.toArray,qgn 66 _ rfl _ _ BT.o (by simp[Act.eval]),?_⟩)
   |(refine zst Z1.o A1.o (by simp[LX.o]) OX.o ?_))
  have A2:=qap (Z1.setRow X.toArray) 0 X zjq;refine bodyPost_ret (qgr rfl rfl (run_loadVar_mid _ _ 0 _ X _ A2 Tryz.underlying66 rfl A1.o)) rfl ⟨⟨0,0,0,false⟩,?_,fun h=>(by rw[A7.o]at h;cases h),BB.o⟩;rw[A7.o,←A3.o];rfl
 |true=>
  obtain⟨W1,hW1⟩:=eqx w2;rw[←hW1];have BW:=zh1 (show Below W0.heap.size W0 W1 by rw[hW1];exact B2.o);clear hW1;have AN:=zh1 (B0.trans (BW.mono B0.size));obtain⟨rv,hrv⟩:=xeq y.revoked;obtain⟨ex,hex⟩:=xeq y.expires;obtain⟨clk,hclk⟩:=xeq s.clock;have exb:ex<18446744073709551616:=by rw[←hex];exact(HS.gra hy).expires
  have clb:clk<18446744073709551616:=by rw[←hclk];exact HS.clock
  obtain⟨X,hX⟩:=xeq (grav y);have lX:X.length=4:=by rw[←hX];rfl
  have oX:∀u∈X,u.oneCell'=true:=by
   rw[←hX];intro u hu;unfold grav at hu;simp only[List.mem_cons,List.not_mem_nil,or_false]at hu;rcases hu with rfl|rfl|rfl|rfl<;>rfl
  obtain⟨X2,X3,A3,LX,OX,AA,AB,A0⟩:=zh8 (show X.toArray[2]? =some (.int .u64 (ex:Int)) by rw[←hX,←hex];rfl) (show X.toArray[3]? =some (.bool rv) by rw[←hX,←hrv];rfl) hX lX oX hrv hex hclk;have AO:=AH;have AS:=zh1 (fun(w':World)(hb:Below w.heap.size w w')=>(show w'.rangeAt L.gg (ti*4) X from fun j u hu=>by
   obtain⟨hj,_⟩:=tA8 hu;refine(H.call hb).st.gras.cell ?_;rw[qnl hy zo,A3.o];exact hu))
  have A8:=zh1 (zI 66 LX.o);clear hX lX oX hrv hex hclk;go_upto_region 3 with(fail)
  obtain⟨S,HS9⟩:=zS fun w'=>Below W1.heap.size W1 w'
  refine zrs S 11 (zq 0 10 [(10,true),(11,true)]) ((HS9.o _).mpr ((tA5 _ _).drew)) ?_;obtain⟨F0,F1,FG⟩:=zh3 (zF HS9 (qai K1.o BW.o)) (zF HS9 (qai C9.o BW.o)) (fun(w':World)(h:S w')=>AS.o w' (AN.trans (((HS9.o w').mp h).mono AN.size)));iterate 9 (refine zr2 ?_)
  refine qo8 rfl rfl 66 (.tmp 40) rfl L.gg (ti*4) rfl X _ FG.o Tryz.underlying66 rfl A8.o ?_;refine zP ?_;obtain⟨We,hWe,BE⟩:=zdr W1;rw[←hWe];clear hWe;refine zw ?_;go_simp;obtain⟨W2,hW2⟩:=eqx (We.alloc (.cells #[.int .i64 0,.int .i64 0,.int .u64 0,.bool false] 66));rw[←hW2];obtain⟨G,hG⟩:=eqx We.heap.size;have g2:Blk W2 G 66 #[.int .i64 0,.int .i64 0,.int .u64 0,.bool false]:=by rw[hW2,hG];exact Blk.new _ _ _
  have b2':Below W1.heap.size W1 W2:=by rw[hW2];exact BE.alloc BE.size _
  have gs:W1.heap.size≤G:=by rw[hG];exact BE.size
  rw[←hG];obtain⟨G2,AP,GS⟩:=zh3 g2 b2' gs;clear hW2 hG g2 b2' gs;refine⟨(HS9.o _).mpr AP.o,zput ?_⟩;refine zw ?_;refine wp_store_row 66 (.tmp 6) (.tmp 41) rfl G X.toArray rfl rfl 66 _ G2.o (by simpa using A8.o) (by simp[LX.o]) (by simpa using OX.o) ?_;obtain⟨W3,hW3⟩:=eqx (W2.setRow G X.toArray);rw[←hW3];have g3:Blk W3 G 66 X.toArray:=by rw[hW3];exact G2.setRow _
  have b3:Below W1.heap.size W1 W3:=by rw[hW3];exact below_setRow AP.o GS.o _
  obtain⟨G3,AT⟩:=zh2 g3 b3;clear hW3 g3 b3;refine⟨fun h=>absurd h zdc,zput ?_⟩;refine qbf ?_;clear HS9 F0 F1 FG;obtain⟨A6,AC⟩:=zh2 (show G≠w.heap.size+1 by have:=GS.o;have:=BW.size;have:=Z0.lt;omega) (BW.trans (AT.mono BW.size));obtain⟨B3,Q3,Z3⟩:=zh3 (B0.trans (AC.mono B0.size)) (Q0.below AC.o Q0.lt) (Z0.below AC.o Z0.lt);have kop:=(Q3.cell 0).trans AE.o;have k35:=qai AR.o AC.o;clear p1 plt plt2 q0 hy;go_wp2_with fail
  refine zca (qdk R.op W3) ?_;cases htb:qdi R.op with
  |true=>
   have A5:=zh1 (show (if qdi R.op then R.tree else 0)=R.tree by rw[htb];rfl);clear htb;clear kop;go_upto_region 7 with(fail)
   obtain⟨S,HS9⟩:=zS fun w'=>Below w.heap.size w w'∧Blk w' w.heap.size 34 Q.toArray∧Blk w' G 66 X.toArray
   refine zrs S 29 (zq 0 25 [(25,true),(26,false),(27,true),(28,false)]) ((HS9.o _).mpr ⟨B3.drew,Q3.o,G3.o⟩) ?_;obtain⟨FX,AI,F0,F1,F2,F3,A1⟩:=zh7 (fun(w':World)(h:S w')=>qap ((HS9.o w').mp h).2.2 0 X zjq) (fun(w':World)(h:S w')=>qap (l:=Q) ((HS9.o w').mp h).2.1 1 (tokv R.tid (.slice Ac R.cavs.length cc) R.tag) (fun j u hu=>by rw[←HQ.o];exact qiv R _ _ j u hu)) (fun(w':World)(h:S w')=>(((HS9.o w').mp h).2.2.cell 3).trans X3.o) (fun(w':World)(h:S w')=>(((HS9.o w').mp h).2.2.cell 2).trans X2.o) (fun(w':World)(h:S w')=>(H.call ((HS9.o w').mp h).1).c4) (fun(w':World)(h:S w')=>(((HS9.o w').mp h).2.1.cell 0).trans AE.o) (zI 66 LX.o);refine qo8 rfl rfl 66 (.tmp 6) rfl G 0 rfl X _ FX.o Tryz.underlying66 rfl A1.o ?_;refine zP ?_;obtain⟨W4,hW4,B4⟩:=zdr W3;rw[←hW4];clear hW4;obtain⟨A4,Q4,G4,Z4⟩:=zh4 (B3.trans (B4.mono B3.size)) (Q3.below B4.o Q3.lt) (G3.below B4.o G3.lt) (Z3.below B4.o Z3.lt);cases rv with
   |true=>
    iterate 12 (first|refine zsk ?_|refine zr1 ?_)
    iterate 12 (first|refine zsk ?_|refine zrb ?_)
    refine qr0 rfl rfl ⟨(HS9.o _).mpr ⟨A4.o,Q4.o,G4.o⟩,?_⟩;refine zP ?_;iterate 1 (refine zrb ?_)
    refine zw ?_;refine wp_store_row 66 (.tmp 4) (.tmp 47) rfl (w.heap.size+1) X.toArray rfl rfl 66 _ (Z4.o) (by simpa using A1.o) (by simp[LX.o]) (by simpa using OX.o) ?_;have zz:=(Z4.o).setRow X.toArray;obtain⟨ZZ,BB⟩:=zh2 zz (below_setRow (A4.o) (by omega:w.heap.size≤w.heap.size+1) X.toArray);have gx:=(G4.o).grown (qam _ (w.heap.size+1) X.toArray) (by intro e;injection e with e;exact A6.o e);have qx:=(Q4.o).grown (qam _ (w.heap.size+1) X.toArray) (by intro e;injection e with e;omega);refine⟨fun _=>(HS9.o _).mpr ⟨BB.o,qx,gx⟩,?_⟩;clear zz gx qx;refine zP ?_;iterate 1 (refine zrb ?_)
    refine qbf ?_;go_wp2_with fail
    have A2:=qap ZZ.o 0 X zjq;refine bodyPost_ret (qgr rfl rfl (run_loadVar_mid _ _ 0 _ X _ A2 Tryz.underlying66 rfl A1.o)) rfl ⟨y,?_,fun _=>HY.o,BB.o⟩;rw[qsj HY.o AA.o,←A3.o];rfl
   |false=>
    by_cases hex:clk<ex
    ·
     have qx:(clk:Int)<ex:=zo;iterate 15 (refine zre rfl rfl (fun w1 hS=>by have g0:=F0.o w1 hS;have g1:=F1.o w1 hS;have g2:=F2.o w1 hS;rw[A0.o]at g2;clear hS;go_simp;try rfl) ?_)
     refine qo8 rfl rfl 31 (.tmp 62) rfl w.heap.size 1 rfl (tokv R.tid (.slice Ac R.cavs.length cc) R.tag) _ AI.o Tryz.underlying31 rfl AG.o ?_;refine zP ?_;iterate 8 (refine zre rfl rfl (fun w1 hS=>by have g2:=F2.o w1 hS;rw[A0.o]at g2;have g3:=F3.o w1 hS;clear hS;go_simp;try rfl) ?_)
     refine zw ?_;go_simp;refine(qkk R.op R.tree clk (R.tid,R.cavs,R.tag) Ac R.cavs.length cc W4 ((HR.cavs.call (B3.o)).call B4.o) HR.cavc (by have:=AD.o;omega) AF.o).mono ?_;rintro e w5 ⟨rfl,b5⟩;have B5:=zh1 (B4.trans (b5.mono B4.size));clear b5;obtain⟨A9,Q5,G5,Z5⟩:=zh4 (B3.trans (B5.mono B3.size)) (Q3.below B5.o Q3.lt) (G3.below B5.o G3.lt) (Z3.below B5.o Z3.lt);refine⟨(HS9.o _).mpr ⟨A9.o,Q5.o,G5.o⟩,zput ?_⟩;iterate 1 (refine zrb ?_)
     refine zw ?_;refine wp_store_row 66 (.tmp 4) (.tmp 47) rfl (w.heap.size+1) X.toArray rfl rfl 66 _ (Z5.o) (by simpa using A1.o) (by simp[LX.o]) (by simpa using OX.o) ?_;have zz:=(Z5.o).setRow X.toArray;obtain⟨ZZ,BB⟩:=zh2 zz (below_setRow (A9.o) (by omega:w.heap.size≤w.heap.size+1) X.toArray);have gx:=(G5.o).grown (qam _ (w.heap.size+1) X.toArray) (by intro e;injection e with e;exact A6.o e);have qx:=(Q5.o).grown (qam _ (w.heap.size+1) X.toArray) (by intro e;injection e with e;omega);refine⟨fun _=>(HS9.o _).mpr ⟨BB.o,qx,gx⟩,?_⟩;clear zz gx qx;refine zP ?_;iterate 1 (refine zrb ?_)
     refine qbf ?_;go_wp2_with fail
     have A2:=qap ZZ.o 0 X zjq;refine bodyPost_ret (qgr rfl rfl (run_loadVar_mid _ _ 0 _ X _ A2 Tryz.underlying66 rfl A1.o)) rfl ⟨y,?_,fun _=>HY.o,BB.o⟩;rw[(qsl A0.o HY.o AO.o AA.o (by rw[A0.o,AB.o];exact hex) A5.o),←A3.o];rfl
    have qx:¬(clk:Int)<ex:=zo;iterate 14 (refine zre rfl rfl (fun w1 hS=>by have g0:=F0.o w1 hS;have g1:=F1.o w1 hS;have g2:=F2.o w1 hS;rw[A0.o]at g2;clear hS;go_simp;try rfl) ?_)
    iterate 10 (refine zsk ?_)
    refine qr0 rfl rfl ⟨(HS9.o _).mpr ⟨A4.o,Q4.o,G4.o⟩,?_⟩;refine zP ?_;iterate 1 (refine zrb ?_)
    refine zw ?_;refine wp_store_row 66 (.tmp 4) (.tmp 47) rfl (w.heap.size+1) X.toArray rfl rfl 66 _ (Z4.o) (by simpa using A1.o) (by simp[LX.o]) (by simpa using OX.o) ?_;have zz:=(Z4.o).setRow X.toArray;obtain⟨ZZ,BB⟩:=zh2 zz (below_setRow (A4.o) (by omega:w.heap.size≤w.heap.size+1) X.toArray);have gx:=(G4.o).grown (qam _ (w.heap.size+1) X.toArray) (by intro e;injection e with e;exact A6.o e);have qx:=(Q4.o).grown (qam _ (w.heap.size+1) X.toArray) (by intro e;injection e with e;omega);refine⟨fun _=>(HS9.o _).mpr ⟨BB.o,qx,gx⟩,?_⟩;clear zz gx qx;refine zP ?_;iterate 1 (refine zrb ?_)
    refine qbf ?_;go_wp2_with fail
    have A2:=qap ZZ.o 0 X zjq;refine bodyPost_ret (qgr rfl rfl (run_loadVar_mid _ _ 0 _ X _ A2 Tryz.underlying66 rfl A1.o)) rfl ⟨y,?_,fun _=>HY.o,BB.o⟩;rw[(qsk HY.o (by rw[A0.o,AB.o];exact hex)),←A3.o];rfl
  |false=>
   have A5:=zh1 (show (if qdi R.op then R.tree else 0)=(0:Int) by rw[htb];rfl);clear htb;clear kop;go_upto_region 7 with(fail)
   obtain⟨S,HS9⟩:=zS fun w'=>Below w.heap.size w w'∧Blk w' w.heap.size 34 Q.toArray∧Blk w' G 66 X.toArray
   refine zrs S 29 (zq 0 25 [(25,true),(26,false),(27,true),(28,false)]) ((HS9.o _).mpr ⟨B3.drew,Q3.o,G3.o⟩) ?_;obtain⟨FX,AI,F0,F1,F2,F3,A1⟩:=zh7 (fun(w':World)(h:S w')=>qap ((HS9.o w').mp h).2.2 0 X zjq) (fun(w':World)(h:S w')=>qap (l:=Q) ((HS9.o w').mp h).2.1 1 (tokv R.tid (.slice Ac R.cavs.length cc) R.tag) (fun j u hu=>by rw[←HQ.o];exact qiv R _ _ j u hu)) (fun(w':World)(h:S w')=>(((HS9.o w').mp h).2.2.cell 3).trans X3.o) (fun(w':World)(h:S w')=>(((HS9.o w').mp h).2.2.cell 2).trans X2.o) (fun(w':World)(h:S w')=>(H.call ((HS9.o w').mp h).1).c4) (fun(w':World)(h:S w')=>(((HS9.o w').mp h).2.1.cell 0).trans AE.o) (zI 66 LX.o);refine qo8 rfl rfl 66 (.tmp 6) rfl G 0 rfl X _ FX.o Tryz.underlying66 rfl A1.o ?_;refine zP ?_;obtain⟨W4,hW4,B4⟩:=zdr W3;rw[←hW4];clear hW4;obtain⟨A4,Q4,G4,Z4⟩:=zh4 (B3.trans (B4.mono B3.size)) (Q3.below B4.o Q3.lt) (G3.below B4.o G3.lt) (Z3.below B4.o Z3.lt);cases rv with
   |true=>
    iterate 12 (first|refine zsk ?_|refine zr1 ?_)
    iterate 12 (first|refine zsk ?_|refine zrb ?_)
    refine qr0 rfl rfl ⟨(HS9.o _).mpr ⟨A4.o,Q4.o,G4.o⟩,?_⟩;refine zP ?_;iterate 1 (refine zrb ?_)
    refine zw ?_;refine wp_store_row 66 (.tmp 4) (.tmp 47) rfl (w.heap.size+1) X.toArray rfl rfl 66 _ (Z4.o) (by simpa using A1.o) (by simp[LX.o]) (by simpa using OX.o) ?_;have zz:=(Z4.o).setRow X.toArray;obtain⟨ZZ,BB⟩:=zh2 zz (below_setRow (A4.o) (by omega:w.heap.size≤w.heap.size+1) X.toArray);have gx:=(G4.o).grown (qam _ (w.heap.size+1) X.toArray) (by intro e;injection e with e;exact A6.o e);have qx:=(Q4.o).grown (qam _ (w.heap.size+1) X.toArray) (by intro e;injection e with e;omega);refine⟨fun _=>(HS9.o _).mpr ⟨BB.o,qx,gx⟩,?_⟩;clear zz gx qx;refine zP ?_;iterate 1 (refine zrb ?_)
    refine qbf ?_;go_wp2_with fail
    have A2:=qap ZZ.o 0 X zjq;refine bodyPost_ret (qgr rfl rfl (run_loadVar_mid _ _ 0 _ X _ A2 Tryz.underlying66 rfl A1.o)) rfl ⟨y,?_,fun _=>HY.o,BB.o⟩;rw[qsj HY.o AA.o,←A3.o];rfl
   |false=>
    by_cases hex:clk<ex
    ·
     have qx:(clk:Int)<ex:=zo;iterate 15 (refine zre rfl rfl (fun w1 hS=>by have g0:=F0.o w1 hS;have g1:=F1.o w1 hS;have g2:=F2.o w1 hS;rw[A0.o]at g2;clear hS;go_simp;try rfl) ?_)
     refine qo8 rfl rfl 31 (.tmp 62) rfl w.heap.size 1 rfl (tokv R.tid (.slice Ac R.cavs.length cc) R.tag) _ AI.o Tryz.underlying31 rfl AG.o ?_;refine zP ?_;iterate 8 (refine zre rfl rfl (fun w1 hS=>by have g2:=F2.o w1 hS;rw[A0.o]at g2;have g3:=F3.o w1 hS;clear hS;go_simp;try rfl) ?_)
     refine zw ?_;go_simp;refine(qkk R.op (0:Int) clk (R.tid,R.cavs,R.tag) Ac R.cavs.length cc W4 ((HR.cavs.call (B3.o)).call B4.o) HR.cavc (by have:=AD.o;omega) AF.o).mono ?_;rintro e w5 ⟨rfl,b5⟩;have B5:=zh1 (B4.trans (b5.mono B4.size));clear b5;obtain⟨A9,Q5,G5,Z5⟩:=zh4 (B3.trans (B5.mono B3.size)) (Q3.below B5.o Q3.lt) (G3.below B5.o G3.lt) (Z3.below B5.o Z3.lt);refine⟨(HS9.o _).mpr ⟨A9.o,Q5.o,G5.o⟩,zput ?_⟩;iterate 1 (refine zrb ?_)
     refine zw ?_;refine wp_store_row 66 (.tmp 4) (.tmp 47) rfl (w.heap.size+1) X.toArray rfl rfl 66 _ (Z5.o) (by simpa using A1.o) (by simp[LX.o]) (by simpa using OX.o) ?_;have zz:=(Z5.o).setRow X.toArray;obtain⟨ZZ,BB⟩:=zh2 zz (below_setRow (A9.o) (by omega:w.heap.size≤w.heap.size+1) X.toArray);have gx:=(G5.o).grown (qam _ (w.heap.size+1) X.toArray) (by intro e;injection e with e;exact A6.o e);have qx:=(Q5.o).grown (qam _ (w.heap.size+1) X.toArray) (by intro e;injection e with e;omega);refine⟨fun _=>(HS9.o _).mpr ⟨BB.o,qx,gx⟩,?_⟩;clear zz gx qx;refine zP ?_;iterate 1 (refine zrb ?_)
     refine qbf ?_;go_wp2_with fail
     have A2:=qap ZZ.o 0 X zjq;refine bodyPost_ret (qgr rfl rfl (run_loadVar_mid _ _ 0 _ X _ A2 Tryz.underlying66 rfl A1.o)) rfl ⟨y,?_,fun _=>HY.o,BB.o⟩;rw[(qsl A0.o HY.o AO.o AA.o (by rw[A0.o,AB.o];exact hex) A5.o),←A3.o];rfl
    have qx:¬(clk:Int)<ex:=zo;iterate 14 (refine zre rfl rfl (fun w1 hS=>by have g0:=F0.o w1 hS;have g1:=F1.o w1 hS;have g2:=F2.o w1 hS;rw[A0.o]at g2;clear hS;go_simp;try rfl) ?_)
    iterate 10 (refine zsk ?_)
    refine qr0 rfl rfl ⟨(HS9.o _).mpr ⟨A4.o,Q4.o,G4.o⟩,?_⟩;refine zP ?_;iterate 1 (refine zrb ?_)
    refine zw ?_;refine wp_store_row 66 (.tmp 4) (.tmp 47) rfl (w.heap.size+1) X.toArray rfl rfl 66 _ (Z4.o) (by simpa using A1.o) (by simp[LX.o]) (by simpa using OX.o) ?_;have zz:=(Z4.o).setRow X.toArray;obtain⟨ZZ,BB⟩:=zh2 zz (below_setRow (A4.o) (by omega:w.heap.size≤w.heap.size+1) X.toArray);have gx:=(G4.o).grown (qam _ (w.heap.size+1) X.toArray) (by intro e;injection e with e;exact A6.o e);have qx:=(Q4.o).grown (qam _ (w.heap.size+1) X.toArray) (by intro e;injection e with e;omega);refine⟨fun _=>(HS9.o _).mpr ⟨BB.o,qx,gx⟩,?_⟩;clear zz gx qx;refine zP ?_;iterate 1 (refine zrb ?_)
    refine qbf ?_;go_wp2_with fail
    have A2:=qap ZZ.o 0 X zjq;refine bodyPost_ret (qgr rfl rfl (run_loadVar_mid _ _ 0 _ X _ A2 Tryz.underlying66 rfl A1.o)) rfl ⟨y,?_,fun _=>HY.o,BB.o⟩;rw[(qsk HY.o (by rw[A0.o,AB.o];exact hex)),←A3.o];rfl
theorem qso(c:Cfg)(s:Sta)(L:Loc)(col:Col)(k g:Nat)(css:List (List Value))(R:Req)(cav leafv:Value)(own ro ex rv:Value)(tn:Int)(w:World)(hk:Kind k)(hs:s.Ok)(h:Mdl w col k g c s L css)
 (ht:R.tag.length=32)(hid:R.id<4294967296):
 Zc 128 #[.pointer (some ⟨g,0,none⟩),.agg (reqv R cav leafv).toArray,.agg #[.int .i64 tn,ro,ex,rv]] w fun e w'=>e=.returned (.int .i64 (qmh s R tn))∧Zb w w':=by
 have rest:=qdh R cav leafv ht;have r0:(reqv R cav leafv)[0]? =some (.int .i64 R.op):=rfl;obtain⟨Q,hQ⟩:=xeq (reqv R cav leafv);rw[hQ]at rest r0 ⊢;obtain⟨W0,hW0⟩:=eqx ((w.alloc (.cells Q.toArray 34)).alloc (.cells #[.int .i64 tn,ro,ex,rv] 66));have q0:=zNb hW0;have z0:W0.cell? ⟨w.heap.size+1,0,none⟩=some (.int .i64 tn):=by
  have h:=Blk.new (w.alloc (.cells Q.toArray 34)) 66 #[.int .i64 tn,ro,ex,rv];rw[qar]at h;rw[hW0];exact(h.cell 0).trans rfl
 have b0:=zMb hW0;obtain⟨op,hop⟩:=xeq R.op;obtain⟨i,hi⟩:=xeq R.id;obtain⟨ng,hng⟩:=xeq s.gras.length;have gb:ng≤64:=by rw[←hng];exact hs.grasn
 have ib:i<4294967296:=by rw[←hi];exact hid
 have c9:=h.c9;rw[hng]at c9;have k0:W0.cell? ⟨w.heap.size,0,none⟩=some (.int .i64 op):=(q0.cell 0).trans (by rw[tA3,←hop];exact r0);have k35:W0.cell? ⟨w.heap.size,35,none⟩=some (.int .i64 R.tree):=(q0.cell 35).trans (by rw[tA3];exact rest 0);have k36:W0.cell? ⟨w.heap.size,36,none⟩=some (.int .i64 R.tenant):=(q0.cell 36).trans (by rw[tA3];exact rest 1);have k40:W0.cell? ⟨w.heap.size,40,none⟩=some (.int .u32 (i:Int)):=(q0.cell 40).trans (by rw[tA3,←hi];exact rest 5);obtain⟨H,A3,Z0,B0,HS,K0,A8,A9⟩:=zh8 h hW0 z0 b0 hs k0 k35 k36;obtain⟨A5,C9,A6,HI,A4,H0⟩:=zh6 k40 (qai c9 b0) hop hi hng (h.call b0);obtain⟨av,hav⟩:=xeq (qmh s R tn);rw[hav];have A2:=zh1 hav;clear hav;rw[hW0]at k0;clear h hW0 q0 z0 b0 hs hop hi hng k35 k36 k40 c9 rest r0 ht hid hQ;have u1:IntKind.u64.wrap (i:Int)=(i:Int):=tBa _ zo;have u2:IntKind.u64.wrap (ng:Int)=(ng:Int):=tBa _ zo;go_enter Tryz.func128,Tryz.ntmps128
 by_cases hm:op=6∨op=10∨op=12
 ·
  have ha:qmh s R tn=R.tenant:=by
   unfold qmh;rw[A6.o,if_pos hm]
  have HA:=zh1 ha;have k36:=A9.o;rw[A3.o]at k36;rcases hm with rfl|rfl|rfl
  · go_wp2
    go_ret
    exact⟨by rw[←A2.o,HA.o];rfl,by rw[←A3.o];exact B0.o⟩
  · go_wp2
    go_ret
    exact⟨by rw[←A2.o,HA.o];rfl,by rw[←A3.o];exact B0.o⟩
  go_wp2
  go_ret
  exact⟨by rw[←A2.o,HA.o];rfl,by rw[←A3.o];exact B0.o⟩
 have e6:(op==6)=false:=by simp;omega
 have e10:(op==10)=false:=by simp;omega
 have e12:(op==12)=false:=by simp;omega
 have HM:=zh1 hm;clear hm;go_upto_region 3 with(fail)
 rw[←A3.o];clear k0;obtain⟨S,HS9⟩:=zS fun w'=>Zb W0 w'
 refine zrs S 17 (zq 0 17 []) ((HS9.o _).mpr ((tA5 _ _).drew)) ?_;obtain⟨F0,F1,F2⟩:=zh3 (zF HS9 K0.o) (zF HS9 A5.o) (zF HS9 C9.o);have rest:qmh s R tn=(if op=11∧i<ng then((s.gras[i]?).getD ⟨0,0,0,false⟩).tenant else if qdi op then(match s.tree R.tree with|some t=>t.tenant|none=>tn) else tn):=by
  unfold qmh;rw[A6.o,if_neg HM.o,HI.o];by_cases h11:op=11
  · rw[if_pos h11]
    by_cases hl:i<ng
    · rw[if_pos ⟨h11,hl⟩,tA7 (by rw[A4.o];exact hl)]
      rfl
    rw[if_neg zo,List.getElem?_eq_none (by rw[A4.o];omega),if_neg (by rw[h11];decide)]
  rw[if_neg h11,if_neg (c:=op=11∧i<ng) zo];rfl
 have A0:=zh1 rest;clear rest;by_cases h11:op=11
 ·
  subst h11;iterate 15 (refine zr3 ?_)
  by_cases hl:i<ng
  ·
   have q1:(i:Int)<ng:=zo;have q0:(0:Int)≤i:=zo;iterate 2 (refine zrb ?_)
   refine qbf ?_;clear HS9 F0 F1 F2 u1 u2 e6 e10 e12;obtain⟨x,hx⟩:∃x,s.gras[i]? =some x:=⟨_,tA7 (by rw[A4.o];exact hl)⟩;have ha:qmh s R tn=x.tenant:=by rw[A0.o,if_pos ⟨rfl,hl⟩,hx];rfl
   have HA:=zh1 ha;obtain⟨W1,hW1⟩:=eqx W0.drew;have B1:=zh1 (show Zb W0 W1 by rw[hW1];exact(tA5 _ _).drew);rw[←hW1];clear hW1 ha;obtain⟨A1,XC⟩:=zh2 (B0.trans (B1.mono B0.size)) (fun(w':World)(hb:Zb w w')=>(show w'.cell? ⟨L.gg,i*4,none⟩=some (.int .i64 x.tenant) from(H.call hb).st.gras.cell ((qnl (j:=0) hx zo).trans rfl)));clear hx hl;go_upto_region 4 with(fail)
   obtain⟨S,HS9⟩:=zS fun w'=>Zb W1 w'
   refine zrs S 11 (zq 0 11 []) ((HS9.o _).mpr ((tA5 _ _).drew)) ?_;obtain⟨F1,F2,F3⟩:=zh3 (zF HS9 (qai A5.o B1.o)) (zF HS9 (qai C9.o B1.o)) (fun(w':World)(h:S w')=>XC.o w' (A1.trans (((HS9.o w').mp h).mono A1.size)));iterate 11 (refine zre rfl rfl (fun w1 hS=>by have g1:=F1.o w1 hS;have g2:=F2.o w1 hS;have g3:=F3.o w1 hS;clear hS;go_simp;try rfl) ?_)
   refine qbf ?_;clear HS9 F1 F2 F3;go_wp2
   go_ret
   exact⟨by rw[←A2.o,HA.o];rfl,A1.drew⟩
  have q1:¬(i:Int)<ng:=zo;iterate 2 (refine zrb ?_)
  refine qbf ?_;clear HS9 F0 F1 F2 u1 u2 e6 e10 e12;have ha:qmh s R tn=tn:=by
   rw[A0.o,if_neg zo];rfl
  have HA:=zh1 ha;obtain⟨W1,hW1⟩:=eqx W0.drew;have B1:=zh1 (show Zb W0 W1 by rw[hW1];exact(tA5 _ _).drew);rw[←hW1];clear hW1 ha;have A1:=zh1 (B0.trans (B1.mono B0.size));have k0:=qai K0.o B1.o;have z0:=qai Z0.o B1.o;go_wp2_with fail
  refine zca (qdk 11 W1) ?_;rw[show qdi 11=false from rfl];go_wp2
  go_ret
  exact⟨by rw[←A2.o,HA.o];rfl,A1.o⟩
 have e11:(op==11)=false:=by simp;omega
 iterate 15 (first|refine zsk ?_|refine zr1 ?_)
 iterate 2 (refine zrb ?_)
 refine qbf ?_;clear HS9 F0 F1 F2 u1 u2 e6 e10 e12 e11;obtain⟨W1,hW1,B1⟩:=zdr W0;rw[←hW1];clear hW1;have A1:=zh1 (B0.trans (B1.mono B0.size));have k0:=qai K0.o B1.o;have z0:=qai Z0.o B1.o;have k35:=qai A8.o B1.o;obtain⟨HN,H1⟩:=zh2 h11 (H0.call B1.o);clear h11;go_wp2_with fail
 refine zca (qdk op W1) ?_;cases htb:qdi op with
 |false=>
  have ha:qmh s R tn=tn:=by
   rw[A0.o,if_neg (by have:=HN.o;omega),htb];rfl
  have HA:=zh1 ha;clear ha htb;go_wp2
  go_ret
  exact⟨by rw[←A2.o,HA.o];rfl,A1.o⟩
 |true=>
  have A7:=zh1 htb;clear htb;cases htr:s.tree R.tree with
  |none=>
   have ha:qmh s R tn=tn:=by
    rw[A0.o,if_neg (by have:=HN.o;omega),A7.o,htr];rfl
   have HA:=zh1 ha;clear ha;have CT:=zh1 (qqf R.tree c s L col k g css W1 HS.o H1.o htr);clear htr;go_wp2_with fail
   refine CT.o.mono ?_;rintro e w' ⟨rfl,rfl⟩;go_wp2
   go_ret
   exact⟨by rw[←A2.o,HA.o];rfl,A1.o⟩
  |some t=>
   have ha:qmh s R tn=t.tenant:=by
    rw[A0.o,if_neg (by have:=HN.o;omega),A7.o,htr];rfl
   have HA:=zh1 ha;clear ha;obtain⟨n,hn,ht,h0,h4⟩:∃n:Nat,R.tree=n∧s.tres[n]? =some t∧t.state≠0∧t.state≠4:=by
    unfold Sta.tree at htr;split at htr
    ·
     rename_i h0
     split at htr
     · cases htr
     rename_i x hx
     split at htr
     · cases htr
     rename_i hne
     injection htr with htr;subst htr;exact⟨R.tree.toNat,by omega,hx,fun e=>hne (.inl e),fun e=>hne (.inr e)⟩
    cases htr
   have CT:=zh1 (qqg n t c s L col k g css W1 HS.o H1.o ht h0 h4);obtain⟨-,Ad,cd,Al,cl,Aq,cq,-,hcell,-,-,-⟩:=H1.st.tree HS.o ht;have e1:=hcell 1 (.int .i64 t.tenant) rfl;rw[hn]at k35;clear htr hn ht h0 h4 hcell;go_wp2_with fail
   refine CT.o.mono ?_;rintro e w' ⟨rfl,rfl⟩;go_wp2
   go_ret
   exact⟨by rw[←A2.o,HA.o];rfl,A1.o⟩
theorem qsp(role op:Int)(w:World):
 Zc 185 #[.int .i64 role,.int .i64 op] w fun e w'=>e=.returned (.bool (qmf role op))∧w=w':=by
 by_cases h4:role=4
 ·
  subst h4;go_enter Tryz.func185,Tryz.ntmps185
  go_wp2
  all_goals
   go_ret
   exact⟨qd8 (by simp_all [qmf]),rfl⟩
 by_cases h3:role=3
 ·
  subst h3;go_enter Tryz.func185,Tryz.ntmps185
  go_wp2
  all_goals
   go_ret
   exact⟨qd8 (by simp_all [qmf]),rfl⟩
 by_cases h2:role=2
 ·
  subst h2;go_enter Tryz.func185,Tryz.ntmps185
  go_wp2
  all_goals
   go_ret
   exact⟨qd8 (by simp_all [qmf]),rfl⟩
 by_cases h1:role=1
 ·
  subst h1;go_enter Tryz.func185,Tryz.ntmps185
  go_wp2
  all_goals
   go_ret
   exact⟨qd8 (by simp_all [qmf]),rfl⟩
 have e:qmf role op=false:=by
  unfold qmf;rw[decide_eq_false h4,decide_eq_false (by omega:¬(3≤role∧role≤4)),decide_eq_false (by omega:¬(2≤role∧role≤4)),decide_eq_false (by omega:¬(1≤role∧role≤4))];rfl
 rw[e];go_enter Tryz.func185,Tryz.ntmps185
 go_wp2
 all_goals
  go_ret
  exact⟨rfl,rfl⟩
theorem qsq(role op own asked:Int)(w:World):
 Zc 127 #[.int .i64 role,.int .i64 op,.int .i64 own,.int .i64 asked] w fun e w'=>∃v,e=.returned v∧Zb w w'∧(qmg role op own asked=true→v=.nilIface)∧
  (qmg role op own asked=false→∃g,v=.iface 218 (.pointer (some ⟨g,0,none⟩))∧Blk w' g 224 #[.int .i64 op,.int .i64 role,.int .i64 21]∧w.heap.size≤g):=by
 obtain⟨b,hb⟩:=xeq (qmf role op);have hd:qmg role op own asked=(b&&(own==asked||role==4)):=by rw[←hb];rfl
 rw[hd];have HB:=zh1 hb;clear hb hd;go_enter Tryz.func127,Tryz.ntmps127
 go_wp2_with fail
 refine(qsp role op w).mono ?_;rintro e w1 ⟨rfl,rfl⟩;rw[HB.o];cases b with
 |false=>
  go_wp2
  go_ret
  exact⟨_,rfl,qah (tA5 _ _) _,fun h=>(by cases h),fun _=>⟨_,rfl,Blk.new _ _ _,tA4 _⟩⟩
 |true=>
  by_cases h1:own=asked
  · have e1:(own==asked)=true:=by simpa using h1
    go_wp2
    go_ret
    exact⟨_,rfl,tA5 _ _,fun _=>rfl,fun h=>(by rw[e1]at h;cases h)⟩
  have e1:(own==asked)=false:=by simpa using h1
  by_cases h4:role=4
  · have e4:(role==4)=true:=by simpa using h4
    go_wp2
    go_ret
    exact⟨_,rfl,tA5 _ _,fun _=>rfl,fun h=>(by rw[e1,e4]at h;cases h)⟩
  have e4:(role==4)=false:=by simpa using h4
  go_wp2
  go_ret
  exact⟨_,rfl,qah (tA5 _ _) _,fun h=>(by rw[e1,e4]at h;cases h),fun _=>⟨_,rfl,Blk.new _ _ _,tA4 _⟩⟩
theorem Sta.tree_some{n:Int}(h:s.tree n=some t):0≤n∧s.tres[n.toNat]? =some t∧t.state≠0∧t.state≠4:=by
 unfold Sta.tree at h;split at h
 ·
  rename_i h0
  split at h
  · cases h
  rename_i x hx
  split at h
  · cases h
  rename_i hne
  injection h with h;subst h;exact⟨h0,hx,fun e=>hne (.inl e),fun e=>hne (.inr e)⟩
 cases h
theorem Sta.tenant_some{n:Int}(h:s.tenant n=some x):0≤n∧s.tens[n.toNat]? =some x:=by
 unfold Sta.tenant at h;split at h
 · exact⟨by assumption,h⟩
 cases h
theorem Sta.Ok.tenant_lt(hs:s.Ok){n:Int}(h:s.tenant n=some x):0≤n∧n<16:=by
 obtain⟨h0,h1⟩:=Sta.tenant_some h;obtain⟨h2,_⟩:=tA8 h1;rw[hs.tensn]at h2;omega
theorem qst (R:Req)(h:∀x∈R.leaf,x<256):∀(l:List Fld) (acc:List Nat),(∀x∈acc,x<256)→∀x∈(qhy R l acc).2,x<256
 |[],acc,ha=>by simpa [qhy] using ha
 |f::l,acc,ha=>by
  rw[qhy];split
  ·
   refine qst R h l _ (fun x hx=>?_);rcases List.mem_append.1 hx with h1|h1
   · exact ha x h1
   unfold fldB at h1;split at h1
   · exact qaz _ _ x h1
   unfold txt at h1;rcases List.mem_append.1 h1 with h2|h2
   · exact qaz _ _ x h2
   exact h x (tB7 h2)
  intro x hx;cases hx
theorem qsu(R:Req)(h:∀x∈R.leaf,x<256):∀x∈(qhz R).2,x<256:=by
 unfold qhz;split
 · intro x hx;cases hx
 exact qst R h _ _ (qaz _ _)
theorem qsv (R:Req):∀(l:List Fld) (acc:List Nat),(∀f∈l,(f.2.1=1∨f.2.1=2∨f.2.1=3)∧f.1≤8)→(qhy R l acc).2.length≤acc.length+8*l.length
 |[],acc,_=>by simp[qhy]
 |f::l,acc,hf=>by
  obtain⟨h1,h2⟩:=hf f zm;rw[qhy];split
  · have h3:=qsv R l (acc++fldB R f) (fun g hg=>hf g (by simp[hg]))
    have e:(fldB R f).length=f.1:=by unfold fldB;rw[if_pos h1,qaw]
    rw[tA6,e]at h3;rw[tBi];omega
  simp
theorem qsw(R:Req)(h:ql4 R.op=true):(qhz R).2.length≤33:=by
 have h:=of_decide_eq_true h;have h1:∃l:List Fld,fieldsOf R.op=some l∧l.length≤4∧∀f∈l,(f.2.1=1∨f.2.1=2∨f.2.1=3)∧f.1≤8:=by
  have h2:R.op=6∨R.op=7∨R.op=8∨R.op=9∨R.op=10∨R.op=11∨R.op=12:=zo;rcases h2 with e|e|e|e|e|e|e<;>rw[e]<;>exact⟨_,rfl,by decide,by decide⟩
 obtain⟨l,hl,h4,hf⟩:=h1;unfold qhz;rw[hl];have h3:=qsv R l (be R.op.toNat 1) hf;rw[qaw]at h3;simp only;omega
theorem qsx(s:Sta)(r:Req)(hr:r.Good)(ha:ql4 r.op=true):LeafOk (qmw s r):=by
 unfold qmw;constructor
 · have:=qsw r ha
   simp only[tA6,qaw];omega
 intro x hx;rcases List.mem_append.1 hx with h|h
 · exact qaz _ _ x h
 rcases List.mem_append.1 h with h|h
 · exact qaz _ _ x h
 exact qsu r hr.leafb x h
theorem qsy (R:Req):∀(l:List Fld) (acc:List Nat),(qhy R l acc).1=0→∀f∈l,qhx R f=0
 |[],_,_=>by simp
 |g::l,acc,h=>by
  rw[qhy]at h;split at h
  · rename_i hg
    intro f hf;rcases List.mem_cons.1 hf with rfl|hf
    · exact hg
    exact qsy R l _ h f hf
  rename_i hg
  exact absurd h hg
theorem qsz(h:(qit R).1=0):(qhz R).1=0:=by
 unfold qit at h;split at h
 · assumption
 rename_i hne
 exact absurd h hne
theorem qt3(h:(qit R).1=0):∃l,fieldsOf R.op=some l∧∀f∈l,qhx R f=0:=by
 have hb:=qsz h;unfold qhz at hb;split at hb
 · cases hb
 rename_i l hl
 exact⟨l,hl,qsy R l _ hb⟩
theorem qt4(h:(qit R).1=0):1≤R.op∧R.op≤12:=by
 obtain⟨l,hl,_⟩:=qt3 h;have:=qi5 R.op l hl;omega
theorem qt5(h:(qit R).1=0)(e:R.op=1):R.leaf.length≤256:=by
 obtain⟨l,hl,hf⟩:=qt3 h;rw[e,show fieldsOf 1=some [(1,1,35),(0,0,0)] from rfl]at hl;injection hl with hl;subst hl;have h0:=hf (0,0,0) zm;unfold qhx at h0;simp at h0;omega
theorem qt6(h:(qit R).1=0){l:List Fld}(hl:fieldsOf R.op=some l){o:Nat}(ho:(1,1,o)∈l):0≤R.num o∧R.num o≤255:=by
 obtain⟨l',hl',hf⟩:=qt3 h;rw[hl]at hl';injection hl' with hl';subst hl';have h0:=hf _ ho;unfold qhx at h0;simp at h0;omega
theorem qt7{f t w:Int}(h:mayB f t w=true):t=1∨t=2∨t=3∨t=4:=by
 unfold mayB at h;split at h
 · simp at h;omega
 split at h
 · simp at h;omega
 split at h
 · simp at h;omega
 cases h
theorem qt8(hs:s.Ok)(hr:r.Good)(hl:r.leaf.length≤256)(ht:s.tree r.tree=some t):(qmm c s r t).1.Ok:=by
 obtain⟨h0,h1,h2,h3⟩:=Sta.tree_some ht;unfold qmm;split
 · exact hs
 rename_i hne
 split
 · exact hs
 split
 · exact hs
 split
 · exact hs
 rename_i hq
 split
 · exact hs
 rename_i x hx
 split
 · exact hs
 refine(hs.setX (n:=t.tenant.toNat) (f:=fun x=>{x with used:=(x.used+(r.leaf.length+16)) % 4294967296}) (fun y hy o=>{o with used:=Nat.mod_lt _ zdc})).setT (fun y hy o=>?_) (fun e=>absurd e zo);have e:y=t:=by
  have h4:s.tres[r.tree.toNat]? =some y:=hy;rw[h1]at h4;injection h4 with h4;exact h4.symm
 subst e;have q1:(y.queue++[r.leaf]).length≤64:=by
  rw[tA6,List.length_singleton];omega
 have q2:y.leaves.length+(y.queue++[r.leaf]).length≤1024:=by
  rw[tA6,List.length_singleton];omega
 have q3:∀b∈y.queue++[r.leaf],LeafOk b:=by
  intro b hb;rcases List.mem_append.1 hb with h|h
  · exact o.queueb b h
  obtain rfl:=List.mem_singleton.1 h;exact⟨by omega,hr.leafb⟩
 exact {o with queue:=q1,leaves:=q2,queueb:=q3}
theorem qt9(hs:s.Ok)(ht:s.tree r.tree=some t):(qmp c s r t).1.Ok:=by
 obtain⟨h0,h1,h2,h3⟩:=Sta.tree_some ht;unfold qmp;split
 · exact hs
 rename_i hne
 have hn:r.tree≠0:=fun e=>hne (.inl e)
 have hm:mayB t.state r.state t.queue.length=true:=by
  cases h:mayB t.state r.state t.queue.length with
  |true=>rfl
  |false=>exact absurd (.inr (by rw[h];rfl)) hne
 have hst:=qt7 hm;have hs1:(if r.state=4 then s.setX t.tenant.toNat (fun x=>{x with used:=x.used - qme t.queue}) else s).Ok:=by
  split
  · exact hs.setX fun x _ o=>{o with used:=by have:=o.used;show x.used - _<_;omega}
  exact hs
 have e1:(if r.state=4 then s.setX t.tenant.toNat (fun x=>{x with used:=x.used - qme t.queue}) else s).tres=s.tres:=by split<;>rfl
 refine hs1.setT (fun y hy o=>?_) (fun e=>absurd e zo);rw[e1,h1]at hy;injection hy with hy;subst hy;have hq:=o.queue;have hl:=o.leaves;exact {o with
  state:=by show 0≤r.state∧r.state≤4;omega
  live:=fun _=>o.live h2
  deficit:=by
   dsimp only;split
   · rfl
   exact o.deficit
  queue:=by
   dsimp only;split
   · simp
   exact hq
  leaves:=by
   dsimp only;split
   · simp;omega
   exact hl
  queueb:=by
   dsimp only;split
   · simp
   exact o.queueb}
theorem qta(hs:s.Ok)(ht:s.tree r.tree=some t):(qmq s r).1.Ok:=by
 obtain⟨h0,h1,h2,h3⟩:=Sta.tree_some ht;unfold qmq;split
 · exact hs
 rename_i hn
 split
 · exact hs
 rename_i hw
 refine hs.setT (fun y hy o=>?_) (fun e=>absurd e zo);exact {o with weight:=by show 0≤r.weight∧r.weight≤4;omega,live:=fun h=>⟨by show 1≤r.weight;omega,(o.live h).2⟩,deficit:=rfl}
theorem qtb(hs:s.Ok)(ht:s.tres[n]? =some t)(hd:t.draws.length<32):(s.setT n fun t=>{t with draws:=t.draws++[s.draw]}).Ok:=by
 refine hs.setT (fun y hy o=>?_) (fun _ y _ h1 h2=>⟨h1,h2⟩);rw[ht]at hy;injection hy with hy;subst hy;exact {o with
  live:=fun h=>⟨(o.live h).1,by simp⟩
  draws:=by simp;omega
  drawb:=fun x hx=>by
   rcases List.mem_append.1 hx with h|h
   · exact o.drawb x h
   obtain rfl:=List.mem_singleton.1 h;exact hs.draw}
theorem qtc(hs:s.Ok)(ht:s.tree r.tree=some t):(qmr c s r t).1.Ok:=by
 obtain⟨h0,h1,h2,h3⟩:=Sta.tree_some ht;obtain⟨h4,_⟩:=tA8 h1;rw[hs.tresn]at h4;unfold qmr;split
 · exact hs
 rename_i hd
 exact(qtb hs h1 zo).pub c h4
theorem qtd(hs:s.Ok)(h1:0≤tn∧tn<16)(h2:1≤wg∧wg≤4):({Tre.zero with state:=1,tenant:=tn,weight:=wg,draws:=[s.draw]}:Tre).Ok:=
 {Tre.zero_ok with
  state:=by show (0:Int)≤1∧(1:Int)≤4;decide
  tenant:=h1
  weight:=by show 0≤wg∧wg≤4;omega
  live:=fun _=>⟨h2.1,by simp⟩
  draws:=by simp
  drawb:=fun x hx=>by
   obtain rfl:=List.mem_singleton.1 hx;exact hs.draw}
theorem qte(hs:s.Ok):(qmo c s r).1.Ok:=by
 unfold qmo;split
 · exact hs
 rename_i hn
 have hn16:=hs.tresn;split
 · exact hs
 split
 · exact hs
 split
 · exact hs
 rename_i x hx
 split
 · exact hs
 refine Sta.Ok.pub (hs.setT (fun y hy o=>?_) (fun e=>absurd e zo)) c zo;exact qtd hs (hs.tenant_lt hx) zo
theorem qtf(hs:s.Ok)(hr:r.Good):(qms c s r).1.Ok:=by
 unfold qms;split
 · exact hs
 rename_i hn
 split
 · exact hs
 rename_i x hx
 split
 · exact hs
 split
 · exact hs
 rename_i hg
 refine {hs with grasn:=by simp;omega,gras:=fun g h=>?_,owner:=?_}
 · rcases List.mem_append.1 h with h|h
   · exact hs.gras g h
   obtain rfl:=List.mem_singleton.1 h;exact⟨hs.tenant_lt hx,by show 1≤r.role∧r.role≤4;omega,hr.expires⟩
 have h0:=hs.owner;obtain⟨h1,_⟩:=tA8 h0;show (s.gras++_)[0]? =_;rw[tBm h1];exact h0
theorem qtg(hs:s.Ok):(qmt s r).1.Ok:=by
 unfold qmt;split
 · exact hs
 split
 · exact hs
 rename_i hn
 refine {hs with grasn:=by simpa using hs.grasn,gras:=qo0 hs.gras fun x _ o=>{o with},owner:=?_};show (s.gras.modify r.id _)[0]? =_;rw[qo6 _ _ zo];exact hs.owner
theorem qth(hs:s.Ok)(hr:r.Good):(qmu s r).1.Ok:=by
 unfold qmu;split
 · exact hs
 split
 · exact hs
 rename_i hn
 split
 · exact hs
 exact hs.setX fun y hy o=>{o with rate:=by show r.rate≤_;omega,burst:=by show r.burst≤_;omega,tok:=tA4 _,store:=hr.store}
theorem qti(hs:s.Ok)(hr:r.Good)(hl:r.op=1→r.leaf.length≤256):(qmv c s r).1.Ok:=by
 unfold qmv;split
 · exact qte hs
 split
 · exact qtf hs hr
 split
 · exact qtg hs
 split
 · exact qth hs hr
 split
 · exact hs
 rename_i t ht
 split
 · rename_i h1
   exact qt8 hs hr (hl h1) ht
 split
 · exact qt9 hs ht
 split
 · exact qta hs ht
 split
 · exact qtc hs ht
 exact hs
theorem qtj{α β:Type}(g:α→β)(f:α→α)(l:List α)(n j:Nat)(hf:n=j→∀x,l[j]? =some x→g (f x)=g x):((l.modify n f)[j]?).map g=(l[j]?).map g:=by
 by_cases e:n=j
 · subst e
   cases h:l[n]? with
   |none=>rw[List.getElem?_modify,h];rfl
   |some x=>rw[qo5 f h];simp[hf rfl x h]
 rw[qo6 l f e]
theorem Sta.setT_leaves(s:Sta)(n:Nat)(f:Tre→Tre)(hf:n=0→∀t,(f t).leaves=t.leaves):(s.setT n f).tres[0]?.map (·.leaves)=s.tres[0]?.map (·.leaves):=
 qtj _ _ _ _ _ fun e x _=>hf e x
theorem Sta.pub_leaves(c:Cfg)(s:Sta)(n:Nat):(s.pub c n).tres[0]?.map (·.leaves)=s.tres[0]?.map (·.leaves):=
 qtj _ _ _ _ _ fun e x _=>rfl
theorem qtk(ha:ql4 r.op=true):(qmv c s r).1.tres[0]?.map (·.leaves)=s.tres[0]?.map (·.leaves):=by
 have h6:=of_decide_eq_true ha;unfold qmv;split
 ·
  unfold qmo;split
  · rfl
  split
  · rfl
  split
  · rfl
  split
  · rfl
  split
  · rfl
  rw[Sta.pub_leaves];exact Sta.setT_leaves _ _ _ fun e=>absurd e zo
 split
 ·
  unfold qms;split
  · rfl
  split
  · rfl
  split
  · rfl
  split<;>rfl
 split
 · unfold qmt
   split
   · rfl
   split<;>rfl
 split
 ·
  unfold qmu;split
  · rfl
  split
  · rfl
  split<;>rfl
 split
 · rfl
 rename_i t ht
 split
 · omega
 split
 ·
  unfold qmp;split
  · rfl
  simp only;refine Eq.trans (Sta.setT_leaves _ _ _ ?_) ?_
  · intro _ _
    rfl
  split<;>rfl
 split
 ·
  unfold qmq;split
  · rfl
  split
  · rfl
  refine Sta.setT_leaves _ _ _ ?_;intro _ _;rfl
 split
 ·
  unfold qmr;split
  · rfl
  simp only;rw[Sta.pub_leaves];refine Sta.setT_leaves _ _ _ ?_;intro _ _;rfl
 rfl
theorem qtl(h:qmj c s r=0):(qit r).1=0:=by
 unfold qmj at h;split at h
 · cases h
 rename_i h0
 omega
theorem qtm(hs:s.Ok)(hr:r.Good)(ha:ql4 r.op=true)(h:∀t,s.tres[0]? =some t→t.leaves.length<1024)(ls:Sta):(s.setT 0 fun t=>{t with leaves:=t.leaves++[qmw ls r]}).Ok:=by
 obtain⟨t,h1,h2,h3⟩:=hs.first;refine hs.setT (fun y hy o=>?_) (fun _ y _ h4 h5=>⟨h4,h5⟩);have e:y=t:=by
  rw[h1]at hy;injection hy with hy;exact hy.symm
 subst e;have h6:=h y h1;exact {o with
  leaves:=by simp[h3];omega
  leafb:=fun b hb=>by
   rcases List.mem_append.1 hb with h|h
   · exact o.leafb b h
   obtain rfl:=List.mem_singleton.1 h;exact qsx _ r hr ha
  hds:=by have:=o.hds;simp;omega}
theorem qtn(he:s'.tres[0]?.map (·.leaves)=s.tres[0]?.map (·.leaves))(h:(s.tres[0]?.getD Tre.zero).leaves.length<1024):∀t,s'.tres[0]? =some t→t.leaves.length<1024:=by
 intro t ht;rw[ht]at he;cases h0:s.tres[0]? with
 |none=>rw[h0]at he;cases he
 |some x=>
  rw[h0]at he h;simp at he h;rw[he];exact h
theorem qto(hs:s.Ok)(hr:r.Good):(doS c s r).1.Ok:=by
 unfold doS;split
 · exact hs
 rename_i hm
 have hm0:qmj c s r=0:=zo;have henc:=qtl hm0;have h1:=qti (c:=c) hs hr (qt5 henc);have h0:ql4 r.op=true→_:=fun ha=>qtk (c:=c) (s:=s) ha
 obtain⟨s1,a,h⟩:∃s1 a,qmv c s r=(s1,a):=⟨_,_,rfl⟩;rw[h]at h1 h0 ⊢;simp only at h1 h0 ⊢;split
 · exact hs
 split
 · exact hs
 rename_i hl
 split
 · exact hs
 have h2:=h1.setX (n:=(((s.gras[r.tid]?).getD ⟨0,0,0,false⟩).tenant).toNat) (f:=fun x=>{x with tok:=x.tok - qmi r.op r.leaf.length}) (fun x _ o=>{o with tok:=by have:=o.tok;show x.tok - _≤x.burst;omega});split
 · rename_i ha
   refine(qtm h2 hr ha (qtn (s:=s) (h0 ha) ?_) _).pub c zdc;rw[ha]at hl;simp at hl;exact hl
 exact h2
theorem qtp{y:Nat × Nat}(h:(qie bs).1=some y):askS c s bs=(s,(qis (rWhy 12)).2):=by
 unfold askS;rw[h]
theorem qtq(h:(qie bs).1=none):askS c s bs=((doS c s (qie bs).2).1,(qis (doS c s (qie bs).2).2).2):=by
 unfold askS;rw[h]
theorem qtr(hs:s.Ok)(hr:(qie bs).2.Good):(askS c s bs).1.Ok:=by
 cases h:(qie bs).1 with
 |some y=>
  rw[qtp h];exact hs
 |none=>
  rw[qtq h];dsimp only;exact qto hs hr
theorem qts(hs:s.Ok)(hn:n<4294967296):(qmy s n).Ok:={hs with draw:=hn}
theorem qtt(hs:s.Ok):(qmx s).Ok:=by
 refine {hs with clock:=?_,tensn:=by simpa [qmx] using hs.tensn,tens:=fun x hx=>?_}
 · have:=hs.clock
   unfold qmx;dsimp only;split<;>omega
 obtain⟨y,hy,rfl⟩:=List.mem_map.1 hx;have o:=hs.tens y hy;split
 · exact {o with tok:=by have:=o.tok;dsimp only;split<;>omega}
 exact o
theorem qtu{ws:List Int}{a:Nat}(h:qmz ws a=some n):n<ws.length∧1≤ws.getD n 0:=by
 unfold qmz at h;have h1:=List.find?_some h;simp at h1;refine⟨?_,by simpa [tB4] using h1⟩;rcases Nat.lt_or_ge n ws.length with h2|h2
 · exact h2
 rw[List.getElem?_eq_none h2]at h1;simp at h1
theorem qtv{a:Nat}(h:qmz (s.tres.mapIdx fun i t=>qn1 i t) a=some n):n≠0∧∃t,s.tres[n]? =some t∧qkm t.state=true∧1≤t.weight:=by
 obtain⟨h1,h2⟩:=qtu h;rw[List.length_mapIdx]at h1;rw[tB4,List.getElem?_mapIdx,tA7 h1]at h2;simp only[Option.map_some,Option.getD_some]at h2;unfold qn1 at h2;split at h2
 · omega
 rename_i h3
 refine⟨fun e=>h3 (.inl e),_,tA7 h1,?_,h2⟩;cases h4:qkm (s.tres[n]).state with
 |true=>rfl
 |false=>exact absurd (.inr (by rw[h4];rfl)) h3
theorem qtw(o:t.Ok)(take:Nat)(d:Int)(hd:d=t.deficit+min t.weight 4*min (max q 1) 2)(ht:take=(max (min d t.queue.length) 0).toNat):
 ({t with deficit:=if t.queue.drop take=[] then 0 else d - take,leaves:=t.leaves++t.queue.take take,queue:=t.queue.drop take}:Tre).Ok:=by
 have hl:=o.leaves;have hq:=o.queue;have hw:=o.weight;have h0:0≤d:=by
  rw[hd,o.deficit,Int.zero_add];exact Int.mul_nonneg zo zo
 exact {o with
  deficit:=by
   dsimp only;split
   · rfl
   rename_i h
   have:take<t.queue.length:=by
    rcases Nat.lt_or_ge take t.queue.length with h1|h1
    · exact h1
    exact absurd (List.drop_of_length_le h1) h
   omega
  leaves:=by
   show (t.leaves++t.queue.take take).length+(t.queue.drop take).length≤1024;simp only[tA6,tBd,tBk];omega
  leafb:=fun b hb=>by
   rcases List.mem_append.1 hb with h|h
   · exact o.leafb b h
   exact o.queueb b (tB7 h)
  queue:=by
   show (t.queue.drop take).length≤64;simp only[tBk];omega
  queueb:=fun b hb=>o.queueb b (List.mem_of_mem_drop hb)
  hds:=by
   have:=o.hds;show t.hd.size≤(t.leaves++t.queue.take take).length;rw[tA6];omega}
def takeN (c:Cfg)(t:Tre):Nat:=(max (min (t.deficit+min t.weight 4*min (max c.quantum 1) 2) t.queue.length) 0).toNat
def seqT (c:Cfg)(t:Tre):Tre:=
 {t with deficit:=if t.queue.drop (takeN c t)=[] then 0 else t.deficit+min t.weight 4*min (max c.quantum 1) 2 - takeN c t,leaves:=t.leaves++t.queue.take (takeN c t),queue:=t.queue.drop (takeN c t)}
theorem qtx(hs:s.Ok):(if 0≤s.lane∧s.lane<s.tres.length then s.lane.toNat else 0)=s.lane.toNat:=by
 have hl:=hs.lane;exact if_pos ⟨hl.1,by rw[hs.tresn];omega⟩
theorem qty(hs:s.Ok)(h:qmz (s.tres.mapIdx fun i t=>qn1 i t) s.lane.toNat=none):seqS c s=s:=by
 unfold seqS;dsimp only;rw[qtx hs,h];have hl:=hs.lane;dsimp only;rw[Int.toNat_of_nonneg hl.1]
theorem qtz(e:s1.tres=s.tres)(ht:s.tres[k]? =some t)(f:Tre→Tre):s1.setT k f=s1.setT k fun _=>f t:=by
 unfold Sta.setT;rw[qr6 (f:=f) (g:=fun _=>f t) (fun x hx=>by
  rw[e,ht]at hx;injection hx with hx;rw[hx])]
theorem qu0(hs:s.Ok)(h:qmz (s.tres.mapIdx fun i t=>qn1 i t) s.lane.toNat=some k)(ht:s.tres[k]? =some t):
 seqS c s=if takeN c t=0 then({s with lane:=(((k+1) % 16:Nat):Int)}:Sta).setT k (fun _=>seqT c t) else(({s with lane:=(((k+1) % 16:Nat):Int)}:Sta).setT k (fun _=>seqT c t)).pub c k:=by
 unfold seqS;dsimp only;rw[qtx hs,h];dsimp only;rw[ht,hs.tresn];simp only[Option.getD_some];rw[qtz (s:=s) (s1:={s with lane:=(((k+1) % 16:Nat):Int)}) rfl ht];rfl
theorem qu1(hs:s.Ok):(seqS c s).Ok:=by
 rcases h:qmz (s.tres.mapIdx fun i t=>qn1 i t) s.lane.toNat with _|n
 · rw[qty hs h]
   exact hs
 obtain⟨h0,t,ht,hr,hw⟩:=qtv h;obtain⟨h1,_⟩:=tA8 ht;have h16:=hs.tresn;have hl1:(0:Int)≤(((n+1) % 16:Nat):Int)∧(((n+1) % 16:Nat):Int)<16:=zo;have hs1:({s with lane:=(((n+1) % 16:Nat):Int)}:Sta).Ok:={hs with lane:=hl1};have hs2:=hs1.setT (n:=n) (f:=fun _=>seqT c t) (fun y hy o=>qtw (hs.tre ht) (q:=c.quantum) _ _ rfl rfl) (fun e=>absurd e h0);rw[qu0 hs h ht];split
 · exact hs2
 exact hs2.pub c zo
theorem qu2:(newS c).Ok:=by
 refine Sta.Ok.pub (n:=0) ?_ c zdc;exact {
  clock:=by decide
  draw:=by decide
  lane:=by decide
  tensn:=rfl
  tresn:=rfl
  grasn:=by decide
  tens:=fun x hx=>by
   rcases List.mem_cons.1 hx with rfl|h
   · exact⟨by decide,by decide,by decide,by decide,by decide⟩
   rw[List.eq_of_mem_replicate h];exact Ten.zero_ok
  tres:=fun x hx=>by
   rcases List.mem_cons.1 hx with rfl|h
   · exact {Tre.zero_ok with state:=by show (0:Int)≤1∧(1:Int)≤4;decide,weight:=by show (0:Int)≤1∧(1:Int)≤4;decide,live:=fun _=>⟨by show (1:Int)≤1;decide,by simp⟩,draws:=by simp,drawb:=fun x hx=>by obtain rfl:=List.mem_singleton.1 hx;decide}
   rw[List.eq_of_mem_replicate h];exact Tre.zero_ok
  gras:=fun x hx=>by
   obtain rfl:=List.mem_singleton.1 hx;exact⟨by decide,by decide,by decide⟩
  owner:=rfl
  first:=⟨_,rfl,rfl,rfl⟩}
end Go.Proofs.YthomgopipiomhaaGreatDoor

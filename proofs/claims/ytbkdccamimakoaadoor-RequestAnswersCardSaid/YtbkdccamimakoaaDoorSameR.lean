/-
  deponentkeep.SameResponse: of what is the same.
-/
import Derived.Test.YtbkdccamimakoaaDoorAns
import Derived.Test.YtbkdccamimakoaaDoorSameT
import Derived.Test.YtbkdccamimakoaaDoorSeq
import Derived.Deep.MidRow
import Derived.Test.YtbkdccamimakoaaDoorOwn
namespace Go.Proofs.YtbkdccamimakoaaDoor
open Go.RowKit
set_option linter.unusedVariables false
set_option maxRecDepth 100000

/- (as in XSeq2, laid here to save a file) -/
section
variable {P : Program} {Q : Exit → Act → World → Prop} {S : World → Prop} {n : Nat}
theorem wpSeq_load {l : List Oper} {i : Nat} {r : List (Nat × Bool)} {a : Act} {w : World} {op : Oper} (hi : nth l i = some op) (hw : Region.wanted op (yielded l.toArray a.tmps) = true)
    (ty : TypeId) (x : Operand) (ho : op.op = .load ty x) (b o : Nat) (hx : a.eval x = .pointer (some ⟨b, o, none⟩)) (cs : List Value) (d : TypeDesc) (hS : ∀ w, S w → w.rangeAt b o cs)
    (hu : P.underlying ty = some d) (hd : d.isRow = true) (hsz : (P.info? ty).map (·.size) = some cs.length)
    (h : wpSeq P l.toArray Q S n r (a.put op.dst (.agg cs.toArray)) w) : wpSeq P l.toArray Q S n ((i, false) :: r) a w :=
  ⟨op, _, (nth_eq l i).symm.trans hi, yieldsIf_load_mid hw ty x ho b o hx cs d hS hu hd hsz, h⟩
end

theorem run_neq_digest (w : World) (a b : List Nat) (ha : a.length = 32) (hb : b.length = 32) (ha' : ∀ x ∈ a, x < 256) (hb' : ∀ x ∈ b, x < 256) : (binOp .neq 27 (.agg (byv a).toArray) (.agg (byv b).toArray)).run Tryd.prog w = .ok (.bool !(a == b)) w := by
  rw [run_neq_struct, equal_digest 9998 w a b ha hb ha' hb']
  rfl

set_option maxHeartbeats 2000000 in
theorem same_digs (A B : Option Addr) (n c d : Nat) (l : List (List Nat)) (w : World) (ha : Reads w w.heap.size 32 A n (digv l)) (hb : Reads w w.heap.size 32 B n (digv l)) (hn : n ≤ 1000000) (hok : ∀ x ∈ l, x.length = 32 ∧ ∀ y ∈ x, y < 256) :
    Calls Tryd.prog 55 #[.slice A n c, .slice B n d] w fun e w' => e = .returned (.bool true) ∧ Below w.heap.size w w' := by
  have hl : l.length = n := by have := ha.1; rw [digv_len l (fun x hx => (hok x hx).1)] at this; omega
  have HL := Lib.hid hl
  have HOK := Lib.hid hok
  have HA := Lib.hid ha
  have HB := Lib.hid hb
  clear hl hok ha hb
  go_enter Tryd.func55, Tryd.ntmps55
  go_wp2
  go_loopw [5] (fun i wr => ∃ k : Nat, k ≤ n ∧ i = .int .i64 k ∧ Hid (Below w.heap.size w wr)) (fun i _ => n - (intOf i).toNat)
  case atStart => exact ⟨0, by omega, rfl, Below.refl _ _⟩
  case round =>
    obtain ⟨k, hk, rfl, hbr⟩ := hrel
    by_cases hlt : k < n
    · obtain ⟨b1, o1, rfl, -, hc1⟩ := (HA.out.below hbr.out).mid (by omega) (by omega)
      obtain ⟨b2, o2, rfl, -, hc2⟩ := (HB.out.below hbr.out).mid (by omega) (by omega)
      have hx : ∃ x, l[k]? = some x := ⟨_, List.getElem?_eq_getElem (by rw [HL.out]; exact hlt)⟩
      obtain ⟨x, hx⟩ := hx
      obtain ⟨x1, x2⟩ := HOK.out x (List.mem_of_getElem? hx)
      have q1 : (k : Int) < n := by omega
      have RG1 := Lib.hid (show wr.rangeAt b1 (o1 + k * 32) (byv x) from fun j u hu => by
        have := hc1 _ u (digv_at l (fun x hx => (HOK.out x hx).1) k x hx j u hu)
        rwa [← Nat.add_assoc] at this)
      have RG2 := Lib.hid (show wr.rangeAt b2 (o2 + k * 32) (byv x) from fun j u hu => by
        have := hc2 _ u (digv_at l (fun x hx => (HOK.out x hx).1) k x hx j u hu)
        rwa [← Nat.add_assoc] at this)
      have hne := fun w => run_neq_digest w x x x1 x1 x2 x2
      simp only [beq_self_eq_true, Bool.not_true] at hne
      have ID := Lib.hid (show (Tryd.prog.info? 27).map (·.size) = some (byv x).length by rw [byv_length, x1]; exact Tryd.digest_info)
      obtain ⟨V, hV⟩ : ∃ V, byv x = V := ⟨_, rfl⟩
      rw [hV] at RG1 RG2 ID
      simp only [hV] at hne
      clear hc1 hc2 hx x1 x2 hV
      go_wp2_with fail
      obtain ⟨S, HS⟩ : ∃ S : World → Prop, Hid (∀ w', S w' = (w'.rangeAt b1 (o1 + k * 32) V ∧ w'.rangeAt b2 (o2 + k * 32) V)) := ⟨_, fun _ => rfl⟩
      refine wp_region_seq S 9 [(0, false), (1, false), (2, false), (3, false), (4, false), (5, false), (6, false), (7, false), (8, false)] (by kernel_rfl) rfl (by kernel_rfl) (by kernel_rfl) (by kernel_rfl) (fun _ _ d _ _ h => by cases d <;> exact h) ((HS.out _).mpr ⟨RG1.out, RG2.out⟩) ?_
      iterate 3 (refine wpSeq_read rfl rfl ⟨?_, fun w1 hS => ?_, ?_⟩; rotate_left; (focus (go_simp; (try go_bits); try rfl)); simp only [Act.put, List.setIfInBounds_toArray, List.set_cons_zero, List.set_cons_succ])
      refine wpSeq_load rfl rfl 27 (.tmp 19) rfl b1 (o1 + k * 32) rfl V _ (fun w hS => by rw [HS.out] at hS; exact hS.1) Tryd.underlying27 rfl ID.out ?_
      try simp only [Act.put, List.setIfInBounds_toArray, List.set_cons_zero, List.set_cons_succ]
      iterate 3 (refine wpSeq_read rfl rfl ⟨?_, fun w1 hS => ?_, ?_⟩; rotate_left; (focus (go_simp; (try go_bits); try rfl)); simp only [Act.put, List.setIfInBounds_toArray, List.set_cons_zero, List.set_cons_succ])
      refine wpSeq_load rfl rfl 27 (.tmp 23) rfl b2 (o2 + k * 32) rfl V _ (fun w hS => by rw [HS.out] at hS; exact hS.2) Tryd.underlying27 rfl ID.out ?_
      try simp only [Act.put, List.setIfInBounds_toArray, List.set_cons_zero, List.set_cons_succ]
      iterate 1 (refine wpSeq_read rfl rfl ⟨?_, fun w1 hS => ?_, ?_⟩; rotate_left; (focus (go_simp; (try go_bits); try rfl)); simp only [Act.put, List.setIfInBounds_toArray, List.set_cons_zero, List.set_cons_succ])
      refine wpSeq_nil ?_
      have HBR := Lib.hid hbr.out.drew
      clear hbr RG1 RG2 HS hne
      go_wp2
      go_roundw
      case rel => exact ⟨k + 1, by omega, by go_num, HBR.out⟩
      case measure => simp [intOf]; omega
    · obtain rfl : k = n := by omega
      go_wp2
      go_ret
      exact ⟨rfl, hbr.out⟩


set_option maxHeartbeats 4000000 in
theorem same_response (R : Rsp) (Ab Bb : Option Addr) (nb cb db : Nat) (Ah Bh : Option Addr) (nh ch dh : Nat) (Ac Bc : Option Addr) (nc cc dc : Nat) (w : World) (hR : R.Ok)
    (hb1 : Reads w w.heap.size 1 Ab nb (byv R.bytes)) (hb2 : Reads w w.heap.size 1 Bb nb (byv R.bytes)) (hbn : nb ≤ 1000000)
    (hh1 : Reads w w.heap.size 32 Ah nh (digv R.hashes)) (hh2 : Reads w w.heap.size 32 Bh nh (digv R.hashes)) (hhn : nh ≤ 1000000)
    (hc1 : Reads w w.heap.size 2 Ac nc (cavv R.tok.2.1)) (hc2 : Reads w w.heap.size 2 Bc nc (cavv R.tok.2.1)) (hcn : nc ≤ 4611686018427387903) :
    Calls Tryd.prog 21 #[.agg (rspv R (.slice Ab nb cb) (.slice Ah nh ch) (.slice Ac nc cc)).toArray, .agg (rspv R (.slice Bb nb db) (.slice Bh nh dh) (.slice Bc nc dc)).toArray] w fun e w' => e = .returned (.bool true) ∧ Below w.heap.size w w' := by
  have hst := fun w' h1 h2 => same_token R.tok.1 Ac Bc nc cc dc R.tok.2.1 R.tok.2.2 w' hR.tok.2.2.1 hR.tok.2.2.2 h1 h2 hcn
  have heq := fun w' => run_eql_signed w' R.hd R.hd hR.hd hR.hd
  simp only [decide_true] at heq
  have hok := hR.hashes
  have d0 : (rspv R (.slice Ab nb cb) (.slice Ah nh ch) (.slice Ac nc cc))[0]? = some (.int .i64 R.why) := rfl
  have d1 : (rspv R (.slice Ab nb cb) (.slice Ah nh ch) (.slice Ac nc cc))[1]? = some (.int .u64 (R.n : Int)) := rfl
  have d2 : (rspv R (.slice Ab nb cb) (.slice Ah nh ch) (.slice Ac nc cc))[2]? = some (.slice Ab nb cb) := rfl
  have d3 : (rspv R (.slice Ab nb cb) (.slice Ah nh ch) (.slice Ac nc cc))[3]? = some (.slice Ah nh ch) := rfl
  have dh' := rspv_hd R (.slice Ab nb cb) (.slice Ah nh ch) (.slice Ac nc cc) hR
  have dt := rspv_tok R (.slice Ab nb cb) (.slice Ah nh ch) (.slice Ac nc cc) hR
  have e0 : (rspv R (.slice Bb nb db) (.slice Bh nh dh) (.slice Bc nc dc))[0]? = some (.int .i64 R.why) := rfl
  have e1 : (rspv R (.slice Bb nb db) (.slice Bh nh dh) (.slice Bc nc dc))[1]? = some (.int .u64 (R.n : Int)) := rfl
  have e2 : (rspv R (.slice Bb nb db) (.slice Bh nh dh) (.slice Bc nc dc))[2]? = some (.slice Bb nb db) := rfl
  have e3 : (rspv R (.slice Bb nb db) (.slice Bh nh dh) (.slice Bc nc dc))[3]? = some (.slice Bh nh dh) := rfl
  have eh := rspv_hd R (.slice Bb nb db) (.slice Bh nh dh) (.slice Bc nc dc) hR
  have et := rspv_tok R (.slice Bb nb db) (.slice Bh nh dh) (.slice Bc nc dc) hR
  have lS := hdv_len R.hd hR.hd
  have lT := tokv_len R.tok.1 (.slice Ac nc cc) R.tok.2.2 hR.tok.2.2.1
  have lU := tokv_len R.tok.1 (.slice Bc nc dc) R.tok.2.2 hR.tok.2.2.1
  obtain ⟨y, hy⟩ : ∃ y, R.why = y := ⟨_, rfl⟩
  obtain ⟨ny, hny⟩ : ∃ y, R.n = y := ⟨_, rfl⟩
  rw [hy] at d0 e0
  rw [hny] at d1 e1
  obtain ⟨L, hL⟩ : ∃ L, rspv R (.slice Ab nb cb) (.slice Ah nh ch) (.slice Ac nc cc) = L := ⟨_, rfl⟩
  obtain ⟨M, hM⟩ : ∃ L, rspv R (.slice Bb nb db) (.slice Bh nh dh) (.slice Bc nc dc) = L := ⟨_, rfl⟩
  rw [hL] at d0 d1 d2 d3 dh' dt ⊢
  rw [hM] at e0 e1 e2 e3 eh et ⊢
  obtain ⟨V, hV⟩ : ∃ V, hdv R.hd = V := ⟨_, rfl⟩
  rw [hV] at dh' eh lS
  simp only [hV] at heq
  obtain ⟨T, hT⟩ : ∃ V, tokv R.tok.1 (.slice Ac nc cc) R.tok.2.2 = V := ⟨_, rfl⟩
  obtain ⟨U, hU⟩ : ∃ V, tokv R.tok.1 (.slice Bc nc dc) R.tok.2.2 = V := ⟨_, rfl⟩
  rw [hT] at dt lT
  rw [hU] at et lU
  simp only [hT, hU] at hst
  have t0 : Blk ((w.alloc (.cells L.toArray 57)).alloc (.cells M.toArray 57)) w.heap.size 57 L.toArray := (Blk.new w _ _).alloc _
  have s0 : Blk ((w.alloc (.cells L.toArray 57)).alloc (.cells M.toArray 57)) (w.heap.size + 1) 57 M.toArray := by
    have := Blk.new (w.alloc (.cells L.toArray 57)) 57 M.toArray
    rwa [alloc_size] at this
  have b0 : Below w.heap.size w ((w.alloc (.cells L.toArray 57)).alloc (.cells M.toArray 57)) := below_new (below_new (Below.refl _ _) _) _
  obtain ⟨W0, hW0⟩ : ∃ x, x = (w.alloc (.cells L.toArray 57)).alloc (.cells M.toArray 57) := ⟨_, rfl⟩
  rw [← hW0] at t0 s0 b0
  obtain ⟨g2, hg2⟩ : ∃ x, w.heap.size + 1 = x := ⟨_, rfl⟩
  rw [hg2] at s0
  have B1a := Lib.hid (hb1.call b0)
  have B2a := Lib.hid (hb2.call b0)
  have H1a := Lib.hid (hh1.call b0)
  have H2a := Lib.hid (hh2.call b0)
  have C1a := Lib.hid (hc1.call b0)
  have C2a := Lib.hid (hc2.call b0)
  have HST := Lib.hid hst
  have HEQ := Lib.hid heq
  have HOK := Lib.hid hok
  have D0 := Lib.hid d0
  have D1 := Lib.hid d1
  have D2 := Lib.hid d2
  have D3 := Lib.hid d3
  have DH := Lib.hid dh'
  have DT := Lib.hid dt
  have E0 := Lib.hid e0
  have E1 := Lib.hid e1
  have E2 := Lib.hid e2
  have E3 := Lib.hid e3
  have EH := Lib.hid eh
  have ET := Lib.hid et
  have IS := Lib.hid (show (Tryd.prog.info? 55).map (·.size) = some V.length by rw [lS]; exact Tryd.sig_info)
  have IT := Lib.hid (show (Tryd.prog.info? 29).map (·.size) = some T.length by rw [lT]; exact Tryd.tok_info)
  have IU := Lib.hid (show (Tryd.prog.info? 29).map (·.size) = some U.length by rw [lU]; exact Tryd.tok_info)
  have T0 := Lib.hid t0
  have S0 := Lib.hid s0
  have B0 := Lib.hid b0
  have HW0 := Lib.hid hW0
  have HG2 := Lib.hid hg2
  have BR := Lib.hid (Below.refl W0.heap.size W0)
  clear hst heq hok d0 d1 d2 d3 dh' dt e0 e1 e2 e3 eh et lS lT lU hy hny hL hM hV hT hU t0 s0 b0 hW0 hg2 hb1 hb2 hh1 hh2 hc1 hc2
  go_enter Tryd.func21, Tryd.ntmps21
  go_upto_region 1 with (fail)
  rw [← HW0.out, HG2.out]
  have t0 := T0.out.below BR.out T0.out.lt
  have s0 := S0.out.below BR.out S0.out.lt
  have c0 := (t0.cell 0).trans (show L.toArray[0]? = _ by simpa using D0.out)
  have c1 := (t0.cell 1).trans (show L.toArray[1]? = _ by simpa using D1.out)
  have c2 := (t0.cell 2).trans (show L.toArray[2]? = _ by simpa using D2.out)
  have c3 := (t0.cell 3).trans (show L.toArray[3]? = _ by simpa using D3.out)
  have e0 := (s0.cell 0).trans (show M.toArray[0]? = _ by simpa using E0.out)
  have e1 := (s0.cell 1).trans (show M.toArray[1]? = _ by simpa using E1.out)
  have e2 := (s0.cell 2).trans (show M.toArray[2]? = _ by simpa using E2.out)
  have e3 := (s0.cell 3).trans (show M.toArray[3]? = _ by simpa using E3.out)
  go_wp2_with fail
  refine (same_bytes Ab Bb nb cb db R.bytes W0 B1a.out B2a.out (by omega)).mono ?_
  rintro e w1 ⟨rfl, b1⟩
  have B1 := Lib.hid b1
  clear b1 c0 c1 c2 c3 e0 e1 e2 e3 t0 s0
  have t1 := T0.out.below B1.out T0.out.lt
  have s1 := S0.out.below B1.out S0.out.lt
  have c0 := (t1.cell 0).trans (show L.toArray[0]? = _ by simpa using D0.out)
  have c1 := (t1.cell 1).trans (show L.toArray[1]? = _ by simpa using D1.out)
  have c2 := (t1.cell 2).trans (show L.toArray[2]? = _ by simpa using D2.out)
  have c3 := (t1.cell 3).trans (show L.toArray[3]? = _ by simpa using D3.out)
  have e0 := (s1.cell 0).trans (show M.toArray[0]? = _ by simpa using E0.out)
  have e1 := (s1.cell 1).trans (show M.toArray[1]? = _ by simpa using E1.out)
  have e2 := (s1.cell 2).trans (show M.toArray[2]? = _ by simpa using E2.out)
  have e3 := (s1.cell 3).trans (show M.toArray[3]? = _ by simpa using E3.out)
  go_wp2_with fail
  refine (same_digs Ah Bh nh ch dh R.hashes w1 (H1a.out.call B1.out) (H2a.out.call B1.out) hhn HOK.out).mono ?_
  rintro e w2 ⟨rfl, b2⟩
  have B2 := Lib.hid (B1.out.trans (b2.mono B1.out.size))
  clear b2 c0 c1 c2 c3 e0 e1 e2 e3 t1 s1
  have t2 := T0.out.below B2.out T0.out.lt
  have s2 := S0.out.below B2.out S0.out.lt
  have c0 := (t2.cell 0).trans (show L.toArray[0]? = _ by simpa using D0.out)
  have c1 := (t2.cell 1).trans (show L.toArray[1]? = _ by simpa using D1.out)
  have c2 := (t2.cell 2).trans (show L.toArray[2]? = _ by simpa using D2.out)
  have c3 := (t2.cell 3).trans (show L.toArray[3]? = _ by simpa using D3.out)
  have e0 := (s2.cell 0).trans (show M.toArray[0]? = _ by simpa using E0.out)
  have e1 := (s2.cell 1).trans (show M.toArray[1]? = _ by simpa using E1.out)
  have e2 := (s2.cell 2).trans (show M.toArray[2]? = _ by simpa using E2.out)
  have e3 := (s2.cell 3).trans (show M.toArray[3]? = _ by simpa using E3.out)
  have RG1 := Lib.hid (rangeAt_blk t2 4 V DH.out)
  have RG2 := Lib.hid (rangeAt_blk s2 4 V EH.out)
  have RT1 := Lib.hid (rangeAt_blk t2 72 T DT.out)
  have RT2 := Lib.hid (rangeAt_blk s2 72 U ET.out)
  have heq := HEQ.out
  go_wp2_with (first
    | (refine load_mid_want rfl 55 (.tmp 32) rfl w.heap.size 4 rfl V _ RG1.out Tryd.underlying55 rfl IS.out ?_)
    | (refine load_mid_want rfl 55 (.tmp 34) rfl g2 4 rfl V _ RG2.out Tryd.underlying55 rfl IS.out ?_)
    | (refine load_mid_want rfl 29 (.tmp 39) rfl w.heap.size 72 rfl T _ RT1.out Tryd.underlying29 rfl IT.out ?_)
    | (refine load_mid_want rfl 29 (.tmp 41) rfl g2 72 rfl U _ RT2.out Tryd.underlying29 rfl IU.out ?_))
  refine (HST.out w2 (C1a.out.call B2.out) (C2a.out.call B2.out)).mono ?_
  rintro e w3 ⟨rfl, b3⟩
  have B3 := Lib.hid (B0.out.trans ((B2.out.trans (b3.mono B2.out.size)).mono B0.out.size))
  clear b3 c0 c1 c2 c3 e0 e1 e2 e3 t2 s2 RG1 RG2 RT1 RT2 heq
  go_wp2
  go_ret
  exact ⟨rfl, B3.out⟩

end Go.Proofs.YtbkdccamimakoaaDoor

/-
  The law RequestFields: it returns true for every input, and leaves what was there as it was. (The frame is written by program, wip/frame.py, after the kit's skeleton.)
-/
import Derived.Test.YtbkdccamimakoaaRows
import Derived.WalkKit
import Derived.ProofKit
import Derived.OpenShut
import Derived.ShutString
import Derived.ChangeOld
import Derived.Below
import Derived.Lib.SmallJoins
import Derived.SizedLaws
import Derived.Test.YtbkdccamimakoaaOpenR
import Derived.Test.YtbkdccamimakoaaKnown18
import Derived.Test.YtbkdccamimakoaaBodyP
import Derived.Test.YtbkdccamimakoaaKeep
import Derived.Test.YtbkdccamimakoaaSeq2
import Derived.Deep.DeepCutAuto
import Derived.Deep.CutBlock
import Derived.Deep.DeepCutAuto
import Derived.Deep.CutBlock
import Derived.Deep.DeepCutAuto
import Derived.Deep.CutBlock
import Derived.Deep.DeepCutAuto
import Derived.Deep.CutBlock
import Derived.Deep.DeepCutAuto
import Derived.Deep.CutBlock
import Derived.Deep.DeepCutAuto
import Derived.Deep.CutBlock
import Derived.Deep.DeepCutAuto
import Derived.Deep.CutBlock
import Derived.Deep.DeepCutAuto
import Derived.Deep.CutBlock

namespace Go.Proofs.Ytbkdccamimakoaa.requestFields
open Go.ChangeShapes Go.WideShapes Go.ChangeAt Go.RowKit
open Go.ChangeMaps (open_string shut_string)
set_option linter.unusedVariables false

theorem own : ownKnob Try.prog.godebug = none := by kernel_rfl

theorem laidOut : laidOutB Try.prog = true := by kernel_rfl

-- BY HAND
theorem Fit_of {R : Req} (h : R.Good) : R.Fit := by
  have e : ∀ {x : Int}, (Lit.int .i64 x).wf = true → x ≤ 18446744073709551615 := fun h => by have := i64_bd h; omega
  refine ⟨h.tag, fun o => Int.lt_of_le_of_lt (num_le R 18446744073709551615 (by decide) (e h.tree) (e h.tenant) (e h.role) (e h.state) (e h.weight) ?_ ?_ ?_ ?_ ?_ ?_ ?_ o) (by decide)⟩
  · have := h.id; omega
  · have := h.lo; omega
  · have := h.hi; omega
  · have := h.rate; omega
  · have := h.burst; omega
  · have := h.store; omega
  · have := h.expires; omega

/-- A request's numbers brought into their bounds. -/
def nrm (R : Req) (op tree tenant role state weight : Int) : Req := { R with op := op, tree := tree, tenant := tenant, role := role, state := state, weight := weight }

theorem nrm_chain (R : Req) (cav lv : Value) (ht : R.tag.length = 32) (op tree tenant role state weight : Int) :
    ((((((reqv R cav lv).set 0 (.int .i64 op)).set 35 (.int .i64 tree)).set 36 (.int .i64 tenant)).set 37 (.int .i64 role)).set 38 (.int .i64 state)).set 39 (.int .i64 weight) = reqv (nrm R op tree tenant role state weight) cav lv := by
  have h : ∀ x : Value, (x :: tokv R.tid cav R.tag).length = 35 := fun x => by rw [List.length_cons, tokv_len _ _ _ ht]
  have e0 : (reqv R cav lv).set 0 (.int .i64 op) = (Value.int .i64 op :: tokv R.tid cav R.tag) ++ R.rest lv := rfl
  have s : ∀ (x : Value) (l : List Value) (k : Nat) (v : Value), ((x :: tokv R.tid cav R.tag) ++ l).set (35 + k) v = (x :: tokv R.tid cav R.tag) ++ l.set k v := fun x l k v => by
    rw [List.set_append_right _ _ (by rw [h]; omega), h, show 35 + k - 35 = k from by omega]
  rw [e0, s _ _ 0, s _ _ 1, s _ _ 2, s _ _ 3, s _ _ 4]
  rfl

/-- What stands behind the leaf's cut. -/
def Cut1 (W : World) (R : Req) (cav : Value) (Al : Option Addr) (cl : Nat) (wx : World) : Prop :=
  ∃ (lf : List Nat) (n : Nat), wx = W.alloc (.cells (reqv R cav (.slice Al n cl)).toArray 31) ∧ lf.length = n ∧ n ≤ 200 ∧ n ≤ cl ∧ Reads W W.heap.size 1 Al n (byv lf) ∧ ∀ b ∈ lf, b < 256

theorem upd_fit (k : Int) (R : Req) (h : R.Fit) (hs : R.Small 250 200) : (upd k R).Fit := by
  have b : ∀ o, R.num o ≤ 18446744073709551615 := fun o => Int.le_of_lt_add_one (h.num o)
  have e : (251 : Int) ≤ 18446744073709551615 := by decide
  have z : (0 : Int) ≤ 18446744073709551615 := by decide
  have f : ∀ {x : Int}, x ≤ 250 → x + 1 ≤ 18446744073709551615 := fun h => Int.le_trans (Int.add_le_add_right h 1) e
  have m64 : ∀ n : Nat, (((n + 1) % 18446744073709551616 : Nat) : Int) ≤ 18446744073709551615 := fun n => by omega
  have m32 : ∀ n : Nat, (((n + 1) % 4294967296 : Nat) : Int) ≤ 18446744073709551615 := fun n => by omega
  have lift : ∀ R' : Req, R'.tag.length = 32 → (∀ o, R'.num o ≤ 18446744073709551615) → R'.Fit := fun R' h1 h2 => ⟨h1, fun o => Int.lt_of_le_of_lt (h2 o) (by decide)⟩
  unfold upd
  repeat' split
  · exact lift _ h.tag (num_le _ _ z (f hs.tree) (b 36) (b 37) (b 38) (b 39) (b 40) (b 41) (b 42) (b 43) (b 44) (b 45) (b 46))
  · exact lift _ h.tag (num_le _ _ z (b 35) (f hs.tenant) (b 37) (b 38) (b 39) (b 40) (b 41) (b 42) (b 43) (b 44) (b 45) (b 46))
  · exact lift _ h.tag (num_le _ _ z (b 35) (b 36) (b 37) (b 38) (b 39) (b 40) (b 41) (b 42) (b 43) (b 44) (b 45) (b 46))
  · exact lift _ h.tag (num_le _ _ z (b 35) (b 36) (b 37) (b 38) (b 39) (b 40) (m64 R.lo) (b 42) (b 43) (b 44) (b 45) (b 46))
  · exact lift _ h.tag (num_le _ _ z (b 35) (b 36) (b 37) (b 38) (f hs.weight) (b 40) (b 41) (b 42) (b 43) (b 44) (b 45) (b 46))
  · exact lift _ h.tag (num_le _ _ z (b 35) (b 36) (b 37) (b 38) (b 39) (b 40) (b 41) (b 42) (b 43) (b 44) (m32 R.store) (b 46))
  · exact lift _ h.tag (num_le _ _ z (b 35) (b 36) (b 37) (b 38) (b 39) (b 40) (b 41) (b 42) (b 43) (b 44) (b 45) (m64 R.expires))

theorem body_lt {R : Req} {m : Int} {n : Nat} (h : R.Small m n) (hm : m ≤ 255) (hn : n ≤ 256) (hb : ∀ b ∈ R.leaf, b < 256) : ∀ x ∈ (bodyRes R).2, x < 256 := by
  obtain ⟨l, -, e⟩ := h.body hm hn
  rw [e]
  intro x hx
  rcases List.mem_append.1 hx with hx | hx
  · exact be_lt _ _ x hx
  · obtain ⟨f, -, hf⟩ := List.mem_flatMap.1 hx
    unfold fldB at hf
    split at hf
    · exact be_lt _ _ x hf
    · unfold txt at hf
      rcases List.mem_append.1 hf with hf | hf
      · exact be_lt _ _ x hf
      · exact hb x (List.mem_of_mem_take hf)

theorem upd_leaf (k : Int) (R : Req) (hb : ∀ b ∈ R.leaf, b < 256) : ∀ b ∈ (upd k R).leaf, b < 256 := by
  unfold upd
  repeat' split
  all_goals first
    | exact hb
    | (intro b h
       rcases List.mem_append.1 h with h | h
       · exact hb b h
       · simp at h
         omega)

theorem ne_toList (a b : ByteArray) (h : ¬ a = b) : ¬ a.toList = b.toList := by
  intro e
  apply h
  have h1 := beq_toListBytes a b
  rw [e, beq_self_eq_true] at h1
  have h2 : (a.data == b.data) = true := h1
  have h3 : a.data = b.data := by simpa using h2
  cases a
  cases b
  simp_all

def up64 (n : Nat) : Nat := (n + 1) % 18446744073709551616

def up32 (n : Nat) : Nat := (n + 1) % 4294967296

theorem wrap_up64 (n : Nat) : IntKind.u64.wrap ((n : Int) + 1) = ((up64 n : Nat) : Int) := by
  rw [IntKind.wrap_u64]
  unfold up64
  omega

theorem wrap_up32 (n : Nat) : IntKind.u32.wrap ((n : Int) + 1) = ((up32 n : Nat) : Int) := by
  rw [IntKind.wrap_u32]
  unfold up32
  omega

/-- What stands behind the turn of the copy. -/
def Cut2 (w1 : World) (g : Nat) (R : Req) (cvv : Value) (k : Int) (s8 : Value) (wx : World) : Prop :=
  s8 = .bool (hasB k R.op) ∧ ∃ (Al : Option Addr) (n cl : Nat), Blk wx g 31 (reqv (upd k R) cvv (.slice Al n cl)).toArray ∧ (upd k R).leaf.length = n ∧ n ≤ cl ∧ cl ≤ maxLen ∧ Reads wx wx.heap.size 1 Al n (byv (upd k R).leaf) ∧ Below w1.heap.size w1 wx




set_option maxRecDepth 100000 in
set_option maxHeartbeats 8000000 in
theorem fields_walk (R0 : Req) (which : Int) (Ac : Option Addr) (cc : Nat) (Al : Option Addr) (cl : Nat) (W : World) (hg : R0.Good) (hw1 : -9223372036854775808 ≤ which) (hw2 : which ≤ 9223372036854775807) (hcc : R0.cavs.length ≤ cc) (hcm : cc ≤ maxLen) (hlc0 : R0.leaf.length ≤ cl) (hcl : cl ≤ maxLen) (hcn : R0.cavs.length ≤ 8796093022208)
    (hca : Reads W W.heap.size 2 Ac R0.cavs.length (cavv R0.cavs)) (hla0 : Reads W W.heap.size 1 Al R0.leaf.length (byv R0.leaf)) :
    Calls Try.prog 3 #[.agg (reqv R0 (.slice Ac R0.cavs.length cc) (.slice Al R0.leaf.length cl)).toArray, .int .i64 which] W fun e w' => e = .returned (.bool true) ∧ Below W.heap.size W w' := by
  have bo := i64_bd hg.op
  have bt := i64_bd hg.tree
  have be := i64_bd hg.tenant
  have br := i64_bd hg.role
  have bs := i64_bd hg.state
  have bw := i64_bd hg.weight
  have hrr := reqv_rest R0 (.slice Ac R0.cavs.length cc) (.slice Al R0.leaf.length cl) hg.tag
  have hch := nrm_chain R0 (.slice Ac R0.cavs.length cc) (.slice Al R0.leaf.length cl) hg.tag
  have r0 : (reqv R0 (.slice Ac R0.cavs.length cc) (.slice Al R0.leaf.length cl))[0]? = some (.int .i64 R0.op) := rfl
  obtain ⟨K, hK⟩ : ∃ K, R0.leaf.length = K := ⟨_, rfl⟩
  obtain ⟨cav, hcav⟩ : ∃ cav, Value.slice Ac R0.cavs.length cc = cav := ⟨_, rfl⟩
  rw [hK, hcav] at hrr hch r0 ⊢
  rw [hK] at hlc0 hla0
  obtain ⟨L, hL⟩ : ∃ L, reqv R0 cav (.slice Al K cl) = L := ⟨_, rfl⟩
  rw [hL] at hrr hch r0 ⊢
  have r35 : L[35]? = some (.int .i64 R0.tree) := hrr 0
  have r36 : L[36]? = some (.int .i64 R0.tenant) := hrr 1
  have r37 : L[37]? = some (.int .i64 R0.role) := hrr 2
  have r38 : L[38]? = some (.int .i64 R0.state) := hrr 3
  have r39 : L[39]? = some (.int .i64 R0.weight) := hrr 4
  have r47 : L[47]? = some (.slice Al K cl) := hrr 12
  have HCH := Lib.hid hch
  have HCAV := Lib.hid hcav
  have HG := Lib.hid hg
  have HK := Lib.hid hK
  have hkb : K ≤ 9223372036854775807 := by unfold maxLen at hcl; omega
  clear hrr hch hL hcav hK hg
  go_enter Try.func3, Try.ntmps3
  go_wp2_with fail
  refine (book_within R0.op 0 11 _ (by omega) (by omega) (by omega) bo.1 bo.2).mono ?_
  rintro e w' ⟨rfl, rfl⟩
  obtain ⟨xa, xb⟩ := within_bd R0.op 0 11 (by omega)
  obtain ⟨x, xh⟩ : ∃ x, within R0.op 0 11 = x := ⟨_, rfl⟩
  rw [xh] at xa xb ⊢
  clear xh
  go_wp2_with fail
  refine (book_within R0.tree 0 250 _ (by omega) (by omega) (by omega) bt.1 bt.2).mono ?_
  rintro e w' ⟨rfl, rfl⟩
  obtain ⟨ta, tb⟩ := within_bd R0.tree 0 250 (by omega)
  obtain ⟨t, th⟩ : ∃ x, within R0.tree 0 250 = x := ⟨_, rfl⟩
  rw [th] at ta tb ⊢
  clear th
  go_wp2_with fail
  refine (book_within R0.tenant 0 250 _ (by omega) (by omega) (by omega) be.1 be.2).mono ?_
  rintro e w' ⟨rfl, rfl⟩
  obtain ⟨tea, teb⟩ := within_bd R0.tenant 0 250 (by omega)
  obtain ⟨te, teh⟩ : ∃ x, within R0.tenant 0 250 = x := ⟨_, rfl⟩
  rw [teh] at tea teb ⊢
  clear teh
  go_wp2_with fail
  refine (book_within R0.role 0 250 _ (by omega) (by omega) (by omega) br.1 br.2).mono ?_
  rintro e w' ⟨rfl, rfl⟩
  obtain ⟨roa, rob⟩ := within_bd R0.role 0 250 (by omega)
  obtain ⟨ro, roh⟩ : ∃ x, within R0.role 0 250 = x := ⟨_, rfl⟩
  rw [roh] at roa rob ⊢
  clear roh
  go_wp2_with fail
  refine (book_within R0.state 0 250 _ (by omega) (by omega) (by omega) bs.1 bs.2).mono ?_
  rintro e w' ⟨rfl, rfl⟩
  obtain ⟨sta, stb⟩ := within_bd R0.state 0 250 (by omega)
  obtain ⟨st, sth⟩ : ∃ x, within R0.state 0 250 = x := ⟨_, rfl⟩
  rw [sth] at sta stb ⊢
  clear sth
  go_wp2_with fail
  refine (book_within R0.weight 0 250 _ (by omega) (by omega) (by omega) bw.1 bw.2).mono ?_
  rintro e w' ⟨rfl, rfl⟩
  obtain ⟨wea, web⟩ := within_bd R0.weight 0 250 (by omega)
  obtain ⟨we, weh⟩ : ∃ x, within R0.weight 0 250 = x := ⟨_, rfl⟩
  rw [weh] at wea web ⊢
  clear weh
  go_upto_if 39 with (fail)
  rw [HCH.out]
  have hg := HG.out
  have hr47 := (reqv_rest (nrm R0 (1 + x) t te ro st we) cav (.slice Al K cl) hg.tag 12).trans (show _ = some (.slice Al K cl) from rfl)
  have hset := reqv_set (nrm R0 (1 + x) t te ro st we) cav (.slice Al K cl) (.slice Al 200 cl) hg.tag
  obtain ⟨Q, hQ⟩ : ∃ Q, nrm R0 (1 + x) t te ro st we = Q := ⟨_, rfl⟩
  obtain ⟨M, hM⟩ : ∃ M, reqv Q cav (.slice Al K cl) = M := ⟨_, rfl⟩
  rw [hQ] at hr47 hset ⊢
  rw [hM] at hr47 hset ⊢
  have HSET := Lib.hid hset
  have HM := Lib.hid hM
  have HQ := Lib.hid hQ
  clear hset hM hQ hg r0 r35 r36 r37 r38 r39 r47 HCH
  go_cut [] (fun wx => Cut1 W Q cav Al cl wx)
  case first =>
    have t0 : Blk (W.alloc (.cells M.toArray 31)) W.heap.size 31 M.toArray := Blk.new _ _ _
    have c47 := (t0.cell 47).trans (show M.toArray[47]? = some (.slice Al K cl) by simpa using hr47)
    have f47 := t0.frozen 47
    have HL := Lib.hid (show byv (R0.leaf.take 200) = (byv R0.leaf).take 200 by simp [byv])
    have HKL := Lib.hid (reads_bytes_le hla0)
    clear t0 hr47
    by_cases h200 : 200 < K
    · have hk1 : (200 : Int) < K := by omega
      have hk2 : (200 : Int) ≤ cl := by omega
      go_wp2_with fail
      go_meet
      exact ⟨R0.leaf.take 200, 200, by rw [HSET.out], by rw [List.length_take, HKL.out]; omega, by omega, by omega, by rw [HL.out]; exact hla0.pre (by omega), fun b hb => HG.out.leafb b (List.mem_of_mem_take hb)⟩
    · have hk1 : ¬ (200 : Int) < K := by omega
      go_wp2_with fail
      go_meet
      exact ⟨R0.leaf, K, by rw [HM.out], HKL.out, by omega, hlc0, hla0, HG.out.leafb⟩
  case rest =>
    obtain ⟨lf, n, rfl, hlfn, hn, hncl, hrl, hlb⟩ := hcut
    have e255 : (250 : Int) ≤ 18446744073709551615 := by decide
    obtain ⟨R, hR⟩ : ∃ R : Req, R = { Q with leaf := lf } := ⟨_, rfl⟩
    have hRt : R.tag = R0.tag := by rw [hR, ← HQ.out]; rfl
    have hRc : R.cavs = R0.cavs := by rw [hR, ← HQ.out]; rfl
    have hRl : R.leaf = lf := by rw [hR]
    have hsm : R.Small 250 200 := by
      rw [hR, ← HQ.out]
      constructor <;> simp [nrm] <;> omega
    have hfit : R.Fit := by
      rw [hR, ← HQ.out]
      refine ⟨HG.out.tag, fun o => Int.lt_of_le_of_lt (num_le _ 18446744073709551615 (by decide) (Int.le_trans tb e255) (Int.le_trans teb e255) (Int.le_trans rob e255) (Int.le_trans stb e255) (Int.le_trans web e255) ?_ ?_ ?_ ?_ ?_ ?_ ?_ o) (by decide)⟩
      · have := HG.out.id; show (R0.id : Int) ≤ _; omega
      · have := HG.out.lo; show (R0.lo : Int) ≤ _; omega
      · have := HG.out.hi; show (R0.hi : Int) ≤ _; omega
      · have := HG.out.rate; show (R0.rate : Int) ≤ _; omega
      · have := HG.out.burst; show (R0.burst : Int) ≤ _; omega
      · have := HG.out.store; show (R0.store : Int) ≤ _; omega
      · have := HG.out.expires; show (R0.expires : Int) ≤ _; omega
    have Hlo : Hid (R.lo < 18446744073709551616 ∧ R.store < 4294967296 ∧ R.expires < 18446744073709551616) := by
      rw [hR, ← HQ.out]
      exact ⟨HG.out.lo, HG.out.store, HG.out.expires⟩
    have hqr : reqv Q cav (.slice Al n cl) = reqv R cav (.slice Al n cl) := by rw [hR]; rfl
    rw [hqr]
    rw [← hRc] at hca hcn
    rw [← hRl] at hrl hlfn hlb
    clear hqr hRl hR HQ HM HSET HK hr47 hla0 hlc0 hkb bo bt be br bs bw e255 xa xb ta tb tea teb roa rob sta stb wea web
    have kbody := fun w' h => request_body R cav Al cl w' hfit h (by rw [hlfn]; exact hncl) hcl
    have kcopy := fun w' h1 h2 => keep_copy_request R Ac R0.cavs.length cc Al n cl w' hfit.tag h1 (by rw [← hRc]; exact hcn) h2 (by omega)
    have hlenM := reqv_len R cav (.slice Al n cl) hfit.tag
    simp only [hlfn] at kbody
    simp only [HCAV.out] at kcopy
    have h0 : (reqv R cav (.slice Al n cl))[0]? = some (.int .i64 R.op) := rfl
    obtain ⟨M2, hM2⟩ : ∃ M2, reqv R cav (.slice Al n cl) = M2 := ⟨_, rfl⟩
    simp only [hM2] at kbody kcopy
    rw [hM2] at hlenM h0 ⊢
    rw [hRc] at hca
    have KB := Lib.hid kbody
    have KC := Lib.hid kcopy
    have HI := Lib.hid (show (Try.prog.info? 31).map (·.size) = some M2.length by rw [hlenM]; exact Try.req_info)
    have H0 := Lib.hid h0
    have HLF := Lib.hid hlfn
    have HRT := Lib.hid hRt
    have t0 : Blk (W.alloc (.cells M2.toArray 31)) W.heap.size 31 M2.toArray := Blk.new _ _ _
    have B0 : Below W.heap.size W (W.alloc (.cells M2.toArray 31)) := (Below.refl _ _).alloc (Nat.le_refl _) _
    have hca0 := hca.laid (.cells M2.toArray 31)
    have hrl0 := hrl.laid (.cells M2.toArray 31)
    have HRG := Lib.hid (rangeAt_blk t0 0 M2 (fun j u h => by simpa using h))
    clear kbody kcopy hM2 hlenM h0 hca hrl hlfn hRt
    go_wp2_with (refine load_mid_want rfl 31 (.tmp 2) rfl W.heap.size 0 rfl M2 _ HRG.out Try.underlying31 rfl HI.out ?_)
    refine (KB.out _ hrl0).mono ?_
    rintro e w1 ⟨va, rfl, hoa, hb⟩
    obtain ⟨Ab, hAb⟩ : ∃ Ab, (bodyRes R).2 = Ab := ⟨_, rfl⟩
    have hbw : (bodyRes R).1 = 0 := by obtain ⟨l, -, h⟩ := hsm.body (by omega) (by omega); rw [h]
    rw [hAb] at hoa
    rw [hbw]
    have hoa1 : OwnB w1 _ va Ab := hoa
    have HAB := Lib.hid hAb
    have t1 := t0.below hb t0.lt
    have B1 := B0.trans (hb.mono B0.size)
    have hca1 := hca0.call hb
    have hrl1 := hrl0.call hb
    have HRG := Lib.hid (rangeAt_blk t1 0 M2 (fun j u h => by simpa using h))
    clear hAb hbw hoa hb t0 B0 hca0 hrl0
    go_wp2_with (refine load_mid_want rfl 31 (.tmp 2) rfl W.heap.size 0 rfl M2 _ HRG.out Try.underlying31 rfl HI.out ?_)
    refine (KC.out _ (by rw [hRc]; exact hca1) (by exact hrl1)).mono ?_
    rintro e w2 ⟨cv, lv, rfl, hoc, hob, hb⟩
    have BX2 := hb
    obtain ⟨Acv, ccv, rfl, -, -, -⟩ := own_slice hoc
    obtain ⟨Alv, clv, rfl, hlv1, hlv2, -⟩ := hob.slice
    clear hb hca1 hrl1 hoc HRG
    generalize hcvv : Value.slice Acv R.cavs.length ccv = cvv
    have hcv1 : cvv.oneCell' = true := by rw [← hcvv]; rfl
    have hlen2 := reqv_len R cvv (.slice Alv R.leaf.length clv) hfit.tag
    have hone2 := reqv_one R cvv (.slice Alv R.leaf.length clv) hcv1 rfl
    have hrr2 := reqv_rest R cvv (.slice Alv R.leaf.length clv) hfit.tag
    have hst2 : ∀ k v, (reqv R cvv (.slice Alv R.leaf.length clv)).set (35 + k) v = (Value.int .i64 R.op :: tokv R.tid cvv R.tag) ++ (R.rest (.slice Alv R.leaf.length clv)).set k v := fun k v => by
      have h : (Value.int .i64 R.op :: tokv R.tid cvv R.tag).length = 35 := by rw [List.length_cons, tokv_len _ _ _ hfit.tag]
      unfold reqv
      rw [List.set_append_right _ _ (by rw [h]; omega), h, show 35 + k - 35 = k from by omega]
    obtain ⟨N, hN⟩ : ∃ N, reqv R cvv (.slice Alv R.leaf.length clv) = N := ⟨_, rfl⟩
    rw [hN] at hlen2 hone2 hrr2 ⊢
    simp only [hN] at hst2
    have HST := Lib.hid hst2
    have HRR := Lib.hid hrr2
    have HL2 := Lib.hid hlen2
    have HO2 := Lib.hid (all_oneCell_toArray hone2)
    have HI2 := Lib.hid (show (Try.prog.info? 31).map (·.size) = some N.toArray.size by rw [List.size_toArray, hlen2]; exact Try.req_info)
    have z : Blk (w2.alloc (.cells #[.int .i64 0, .int .u32 0, .slice none 0 0, .int .u8 0, .int .u8 0, .int .u8 0, .int .u8 0, .int .u8 0, .int .u8 0, .int .u8 0, .int .u8 0, .int .u8 0, .int .u8 0, .int .u8 0, .int .u8 0, .int .u8 0, .int .u8 0, .int .u8 0, .int .u8 0, .int .u8 0, .int .u8 0, .int .u8 0, .int .u8 0, .int .u8 0, .int .u8 0, .int .u8 0, .int .u8 0, .int .u8 0, .int .u8 0, .int .u8 0, .int .u8 0, .int .u8 0, .int .u8 0, .int .u8 0, .int .u8 0, .int .i64 0, .int .i64 0, .int .i64 0, .int .i64 0, .int .i64 0, .int .u32 0, .int .u64 0, .int .u64 0, .int .u32 0, .int .u32 0, .int .u32 0, .int .u64 0, .slice none 0 0] 31)) w2.heap.size 31 #[.int .i64 0, .int .u32 0, .slice none 0 0, .int .u8 0, .int .u8 0, .int .u8 0, .int .u8 0, .int .u8 0, .int .u8 0, .int .u8 0, .int .u8 0, .int .u8 0, .int .u8 0, .int .u8 0, .int .u8 0, .int .u8 0, .int .u8 0, .int .u8 0, .int .u8 0, .int .u8 0, .int .u8 0, .int .u8 0, .int .u8 0, .int .u8 0, .int .u8 0, .int .u8 0, .int .u8 0, .int .u8 0, .int .u8 0, .int .u8 0, .int .u8 0, .int .u8 0, .int .u8 0, .int .u8 0, .int .u8 0, .int .i64 0, .int .i64 0, .int .i64 0, .int .i64 0, .int .i64 0, .int .u32 0, .int .u64 0, .int .u64 0, .int .u32 0, .int .u32 0, .int .u32 0, .int .u64 0, .slice none 0 0] := Blk.new _ _ _
    have B9 : Below w2.heap.size w2 ((w2.alloc (.cells #[.int .i64 0, .int .u32 0, .slice none 0 0, .int .u8 0, .int .u8 0, .int .u8 0, .int .u8 0, .int .u8 0, .int .u8 0, .int .u8 0, .int .u8 0, .int .u8 0, .int .u8 0, .int .u8 0, .int .u8 0, .int .u8 0, .int .u8 0, .int .u8 0, .int .u8 0, .int .u8 0, .int .u8 0, .int .u8 0, .int .u8 0, .int .u8 0, .int .u8 0, .int .u8 0, .int .u8 0, .int .u8 0, .int .u8 0, .int .u8 0, .int .u8 0, .int .u8 0, .int .u8 0, .int .u8 0, .int .u8 0, .int .i64 0, .int .i64 0, .int .i64 0, .int .i64 0, .int .i64 0, .int .u32 0, .int .u64 0, .int .u64 0, .int .u32 0, .int .u32 0, .int .u32 0, .int .u64 0, .slice none 0 0] 31)).setRow w2.heap.size N.toArray) := below_setRow ((Below.refl _ _).alloc (Nat.le_refl _) _) (Nat.le_refl _) _
    have zz := z.setRow N.toArray
    have hsm2 := zz.lt
    obtain ⟨w3, hw3⟩ : ∃ w3, (w2.alloc (.cells #[.int .i64 0, .int .u32 0, .slice none 0 0, .int .u8 0, .int .u8 0, .int .u8 0, .int .u8 0, .int .u8 0, .int .u8 0, .int .u8 0, .int .u8 0, .int .u8 0, .int .u8 0, .int .u8 0, .int .u8 0, .int .u8 0, .int .u8 0, .int .u8 0, .int .u8 0, .int .u8 0, .int .u8 0, .int .u8 0, .int .u8 0, .int .u8 0, .int .u8 0, .int .u8 0, .int .u8 0, .int .u8 0, .int .u8 0, .int .u8 0, .int .u8 0, .int .u8 0, .int .u8 0, .int .u8 0, .int .u8 0, .int .i64 0, .int .i64 0, .int .i64 0, .int .i64 0, .int .i64 0, .int .u32 0, .int .u64 0, .int .u64 0, .int .u32 0, .int .u32 0, .int .u32 0, .int .u64 0, .slice none 0 0] 31)).setRow w2.heap.size N.toArray = w3 := ⟨_, rfl⟩
    rw [hw3] at B9 zz hsm2
    have HW3 := Lib.hid hw3
    have BX3 := BX2.trans (B9.mono BX2.size)
    have hob3 := hob.kept B9
    have hg2 := BX2.size
    clear hcvv hN hlen2 hone2 hrr2 hst2 hw3 hob B9 BX2
    go_upto_region 11 with (refine wpList_store_row rfl 31 (.tmp 7) (.tmp 50) rfl w2.heap.size N.toArray rfl rfl 31 _ z HI2.out (by simp [HL2.out]) HO2.out ?_; rw [HW3.out])
    clear z HI2 HL2 HO2 HW3
    go_wp2_with fail
    refine (book_within which 0 6 _ (by omega) (by omega) (by omega) hw1 hw2).mono ?_
    rintro e w' ⟨rfl, rfl⟩
    obtain ⟨ka, kb⟩ := within_bd which 0 6 (by omega)
    obtain ⟨k, hk⟩ : ∃ k, within which 0 6 = k := ⟨_, rfl⟩
    rw [hk] at ka kb ⊢
    clear hk
    go_upto_block 0 with (fail)
    have c0 := (t1.below BX3 t1.lt).cell 0
    rw [show M2.toArray[0]? = some (.int .i64 R.op) by simpa using H0.out] at c0
    have hlt1 : W.heap.size < w1.heap.size := t1.lt
    have hlt2 : W.heap.size < w2.heap.size := by omega
    have g1 := hsm.tree0
    have g2 := hsm.tree
    have g3 := hsm.tenant0
    have g4 := hsm.tenant
    have g5 := hsm.weight0
    have g6 := hsm.weight
    have HSM := Lib.hid hsm
    clear hsm
    go_cut [8] (fun s8 wx => Cut2 w1 w2.heap.size R cvv k s8 wx)
    case first =>
      have hk7 : k = 0 ∨ k = 1 ∨ k = 2 ∨ k = 3 ∨ k = 4 ∨ k = 5 ∨ k = 6 := by omega
      clear ka kb
      rcases hk7 with rfl | rfl | rfl | rfl | rfl | rfl | rfl
      · have z' := zz.set_ 35 (.int .i64 (R.tree + 1))
        rw [List.setIfInBounds_toArray, HST.out 0 (.int .i64 (R.tree + 1))] at z'
        have hob' := hob3.far (p := ⟨w2.heap.size, 35, none⟩) (hob3.blk_ne zz (by decide)) (.int .i64 (R.tree + 1))
        have B' := BX3.setCell (p := ⟨w2.heap.size, 35, none⟩) hg2 (.int .i64 (R.tree + 1))
        have Z' := Lib.hid z'
        have HOB' := Lib.hid hob'
        have HB' := Lib.hid B'
        have d35 := (zz.cell 35).trans (show N.toArray[35]? = some (.int .i64 R.tree) by have := (HRR.out 0).trans (show _ = some (.int .i64 R.tree) from rfl); simpa using this)
        have f35 := zz.frozen 35
        clear z' hob' B' BX3 hob3
        go_wp2_with fail
        refine (request_trees _ _).mono ?_
        rintro e w' ⟨rfl, rfl⟩
        go_wp2_with fail
        go_meet
        exact ⟨by simp [hasB, treesB], Alv, R.leaf.length, clv, Z'.out, rfl, hlv1, hlv2, Reads.of_own HOB'.out, HB'.out⟩
      · have z' := zz.set_ 36 (.int .i64 (R.tenant + 1))
        rw [List.setIfInBounds_toArray, HST.out 1 (.int .i64 (R.tenant + 1))] at z'
        have hob' := hob3.far (p := ⟨w2.heap.size, 36, none⟩) (hob3.blk_ne zz (by decide)) (.int .i64 (R.tenant + 1))
        have B' := BX3.setCell (p := ⟨w2.heap.size, 36, none⟩) hg2 (.int .i64 (R.tenant + 1))
        have Z' := Lib.hid z'
        have HOB' := Lib.hid hob'
        have HB' := Lib.hid B'
        have d36 := (zz.cell 36).trans (show N.toArray[36]? = some (.int .i64 R.tenant) by have := (HRR.out 1).trans (show _ = some (.int .i64 R.tenant) from rfl); simpa using this)
        have f36 := zz.frozen 36
        clear z' hob' B' BX3 hob3
        by_cases h6 : R.op = 6
        · rw [h6] at c0
          go_wp2_with fail
          go_meet
          exact ⟨by simp [hasB, h6], Alv, R.leaf.length, clv, Z'.out, rfl, hlv1, hlv2, Reads.of_own HOB'.out, HB'.out⟩
        · have q6 : (R.op == 6) = false := by simpa using h6
          by_cases h10 : R.op = 10
          · rw [h10] at c0
            go_wp2_with fail
            go_meet
            exact ⟨by simp [hasB, h10], Alv, R.leaf.length, clv, Z'.out, rfl, hlv1, hlv2, Reads.of_own HOB'.out, HB'.out⟩
          · have q10 : (R.op == 10) = false := by simpa using h10
            go_wp2_with fail
            go_meet
            exact ⟨by simp [hasB, q6, q10], Alv, R.leaf.length, clv, Z'.out, rfl, hlv1, hlv2, Reads.of_own HOB'.out, HB'.out⟩
      · have hr3 := (Reads.of_own hob3 : Reads w3 w3.heap.size 1 Alv R.leaf.length (byv R.leaf))
        have d47 := (zz.cell 47).trans (show N.toArray[47]? = some (.slice Alv R.leaf.length clv) by have := (HRR.out 12).trans (show _ = some (.slice Alv R.leaf.length clv) from rfl); simpa using this)
        have hll := HSM.out.leaf
        have hsz3 : w1.heap.size ≤ w3.heap.size := BX3.size
        have zza := zz.alloc (.cells (byv [1]).toArray 5)
        have hoba := hob3.alloc (.cells (byv [1]).toArray 5)
        have hl3 := own_slice hob3
        go_wp2_with (at_builtin; refine append_bytes rfl _ _ rfl w1.heap.size _ _ rfl hoba _ _ _ [1] rfl (reads_bytes_at _ [1] _ (by simp) _ rfl) (by omega) (by simp only [alloc_size]; omega) ?_)
        intro v4 w4 hown4 hb4 hg4
        have zz4 := zza.grown hg4 (Ne.symm (hoba.blk_ne zza (by decide)))
        have BX4 := (BX3.alloc BX3.size (.cells (byv [1]).toArray 5)).trans hb4
        obtain ⟨A4, n4, c4, rfl, hn4, hm4, hr4⟩ := hown4.sl
        have hl4 := reads_bytes_le hr4
        have z' := zz4.set_ 47 (.slice A4 n4 c4)
        rw [List.setIfInBounds_toArray, HST.out 12 (.slice A4 n4 c4)] at z'
        have hob' := hown4.far (p := ⟨w2.heap.size, 47, none⟩) (hown4.blk_ne zz4 (by decide)) (.slice A4 n4 c4)
        have B' := BX4.setCell (p := ⟨w2.heap.size, 47, none⟩) hg2 (.slice A4 n4 c4)
        have e47 := (zz4.cell 47).trans (show N.toArray[47]? = some (.slice Alv R.leaf.length clv) by have := (HRR.out 12).trans (show _ = some (.slice Alv R.leaf.length clv) from rfl); simpa using this)
        have f47 := zz4.frozen 47
        have c4' := (t1.below BX4 t1.lt).cell 0
        rw [show M2.toArray[0]? = some (.int .i64 R.op) by simpa using H0.out] at c4'
        have hrd : Reads (w4.setCell ⟨w2.heap.size, 47, none⟩ (.slice A4 n4 c4)) (w4.setCell ⟨w2.heap.size, 47, none⟩ (.slice A4 n4 c4)).heap.size 1 A4 n4 (byv (R.leaf ++ [1])) := by
          have h2 := own_slice hob'
          obtain ⟨A5, c5, e5, -, -, h5⟩ := h2
          injection e5 with q1 q2 q3
          subst q1 q3
          rw [← q2] at h5
          exact h5
        have Z' := Lib.hid z'
        have HR' := Lib.hid hrd
        have HB' := Lib.hid B'
        have HL4 := Lib.hid hl4
        clear z' hob' B' BX4 BX3 hob3 hoba zza hown4 hb4 hg4 hr4 hl4 hrd d47 hr3 hl3 c0
        go_wp2_with fail
        go_meet
        exact ⟨by simp [hasB], A4, n4, c4, Z'.out, HL4.out, hn4, hm4, HR'.out, HB'.out⟩
      · have z' := zz.set_ 41 (.int .u64 (up64 R.lo : Nat))
        rw [List.setIfInBounds_toArray, HST.out 6 (.int .u64 (up64 R.lo : Nat))] at z'
        have hob' := hob3.far (p := ⟨w2.heap.size, 41, none⟩) (hob3.blk_ne zz (by decide)) (.int .u64 (up64 R.lo : Nat))
        have B' := BX3.setCell (p := ⟨w2.heap.size, 41, none⟩) hg2 (.int .u64 (up64 R.lo : Nat))
        have Z' := Lib.hid z'
        have HOB' := Lib.hid hob'
        have HB' := Lib.hid B'
        have d41 := (zz.cell 41).trans (show N.toArray[41]? = some (.int .u64 (R.lo : Nat)) by have := (HRR.out 6).trans (show _ = some (.int .u64 (R.lo : Nat)) from rfl); simpa using this)
        have f41 := zz.frozen 41
        clear z' hob' B' BX3 hob3
        have hwu := wrap_up64 R.lo
        by_cases h3 : R.op = 3
        · rw [h3] at c0
          go_wp2_with fail
          go_meet
          exact ⟨by simp [hasB, h3], Alv, R.leaf.length, clv, Z'.out, rfl, hlv1, hlv2, Reads.of_own HOB'.out, HB'.out⟩
        · have q3 : (R.op == 3) = false := by simpa using h3
          by_cases h4 : R.op = 4
          · rw [h4] at c0
            go_wp2_with fail
            go_meet
            exact ⟨by simp [hasB, h4], Alv, R.leaf.length, clv, Z'.out, rfl, hlv1, hlv2, Reads.of_own HOB'.out, HB'.out⟩
          · have q4 : (R.op == 4) = false := by simpa using h4
            go_wp2_with fail
            go_meet
            exact ⟨by simp [hasB, q3, q4], Alv, R.leaf.length, clv, Z'.out, rfl, hlv1, hlv2, Reads.of_own HOB'.out, HB'.out⟩
      · have z' := zz.set_ 39 (.int .i64 (R.weight + 1))
        rw [List.setIfInBounds_toArray, HST.out 4 (.int .i64 (R.weight + 1))] at z'
        have hob' := hob3.far (p := ⟨w2.heap.size, 39, none⟩) (hob3.blk_ne zz (by decide)) (.int .i64 (R.weight + 1))
        have B' := BX3.setCell (p := ⟨w2.heap.size, 39, none⟩) hg2 (.int .i64 (R.weight + 1))
        have Z' := Lib.hid z'
        have HOB' := Lib.hid hob'
        have HB' := Lib.hid B'
        have d39 := (zz.cell 39).trans (show N.toArray[39]? = some (.int .i64 R.weight) by have := (HRR.out 4).trans (show _ = some (.int .i64 R.weight) from rfl); simpa using this)
        have f39 := zz.frozen 39
        clear z' hob' B' BX3 hob3
        by_cases h6 : R.op = 6
        · rw [h6] at c0
          go_wp2_with fail
          go_meet
          exact ⟨by simp [hasB, h6], Alv, R.leaf.length, clv, Z'.out, rfl, hlv1, hlv2, Reads.of_own HOB'.out, HB'.out⟩
        · have q6 : (R.op == 6) = false := by simpa using h6
          go_wp2_with fail
          go_meet
          exact ⟨by simp [hasB, q6], Alv, R.leaf.length, clv, Z'.out, rfl, hlv1, hlv2, Reads.of_own HOB'.out, HB'.out⟩
      · have z' := zz.set_ 45 (.int .u32 (up32 R.store : Nat))
        rw [List.setIfInBounds_toArray, HST.out 10 (.int .u32 (up32 R.store : Nat))] at z'
        have hob' := hob3.far (p := ⟨w2.heap.size, 45, none⟩) (hob3.blk_ne zz (by decide)) (.int .u32 (up32 R.store : Nat))
        have B' := BX3.setCell (p := ⟨w2.heap.size, 45, none⟩) hg2 (.int .u32 (up32 R.store : Nat))
        have Z' := Lib.hid z'
        have HOB' := Lib.hid hob'
        have HB' := Lib.hid B'
        have d45 := (zz.cell 45).trans (show N.toArray[45]? = some (.int .u32 (R.store : Nat)) by have := (HRR.out 10).trans (show _ = some (.int .u32 (R.store : Nat)) from rfl); simpa using this)
        have f45 := zz.frozen 45
        clear z' hob' B' BX3 hob3
        have hwu := wrap_up32 R.store
        go_wp2_with fail
        go_meet
        exact ⟨by simp [hasB, upd], Alv, R.leaf.length, clv, Z'.out, rfl, hlv1, hlv2, Reads.of_own HOB'.out, HB'.out⟩
      · have z' := zz.set_ 46 (.int .u64 (up64 R.expires : Nat))
        rw [List.setIfInBounds_toArray, HST.out 11 (.int .u64 (up64 R.expires : Nat))] at z'
        have hob' := hob3.far (p := ⟨w2.heap.size, 46, none⟩) (hob3.blk_ne zz (by decide)) (.int .u64 (up64 R.expires : Nat))
        have B' := BX3.setCell (p := ⟨w2.heap.size, 46, none⟩) hg2 (.int .u64 (up64 R.expires : Nat))
        have Z' := Lib.hid z'
        have HOB' := Lib.hid hob'
        have HB' := Lib.hid B'
        have d46 := (zz.cell 46).trans (show N.toArray[46]? = some (.int .u64 (R.expires : Nat)) by have := (HRR.out 11).trans (show _ = some (.int .u64 (R.expires : Nat)) from rfl); simpa using this)
        have f46 := zz.frozen 46
        clear z' hob' B' BX3 hob3
        have hwu := wrap_up64 R.expires
        go_wp2_with fail
        go_meet
        exact ⟨by simp [hasB, upd], Alv, R.leaf.length, clv, Z'.out, rfl, hlv1, hlv2, Reads.of_own HOB'.out, HB'.out⟩
    case rest =>
      obtain ⟨rfl, Al2, n2, cl2, zc, hn2, hnc2, hcm2, hr2, BXc⟩ := hcut
      obtain ⟨p1, p2, p3⟩ := fields_plain R k HSM.out ka kb Hlo.out.1 Hlo.out.2.1 Hlo.out.2.2
      have hlt1' := body_lt HSM.out (by omega) (by omega) hlb
      have hlt2' := body_lt (HSM.out.upd k) (by omega) (by omega) (upd_leaf k R hlb)
      have hfit2 := upd_fit k R hfit HSM.out
      have hinj := bstr_inj hlt1' hlt2'
      rw [p3, HAB.out] at hinj
      have kb2 := fun w' h => request_body (upd k R) cvv Al2 cl2 w' hfit2 h (by rw [hn2]; exact hnc2) hcm2
      have hlenN := reqv_len (upd k R) cvv (.slice Al2 n2 cl2) hfit2.tag
      obtain ⟨Bb, hBb⟩ : ∃ Bb, (bodyRes (upd k R)).2 = Bb := ⟨_, rfl⟩
      rw [hBb] at hinj
      simp only [hn2, p2, hBb] at kb2
      obtain ⟨N2, hN2⟩ : ∃ N2, reqv (upd k R) cvv (.slice Al2 n2 cl2) = N2 := ⟨_, rfl⟩
      rw [hN2] at zc hlenN
      simp only [hN2] at kb2
      have KB2 := Lib.hid kb2
      have HINJ := Lib.hid hinj
      have HIN := Lib.hid (show (Try.prog.info? 31).map (·.size) = some N2.length by rw [hlenN]; exact Try.req_info)
      have HRG := Lib.hid (rangeAt_blk zc 0 N2 (fun j u h => by simpa using h))
      have hoac := hoa1.kept BXc
      have Bc := B1.trans (BXc.mono B1.size)
      clear p1 p2 p3 hlt1' hlt2' hfit2 hinj kb2 hlenN hBb hN2 zc BXc BX3 hob3 zz c0 hoa1 t1 B1 hsm2
      go_wp2_with (refine load_mid_want rfl 31 (.tmp 7) rfl w2.heap.size 0 rfl N2 _ HRG.out Try.underlying31 rfl HIN.out ?_)
      refine (KB2.out _ hr2).mono ?_
      rintro e w5 ⟨vb, rfl, hobb, hb5⟩
      have hob5 : OwnB w5 _ vb Bb := hobb
      have hoa5 := hoac.kept hb5
      have B5 := Bc.trans (hb5.mono Bc.size)
      obtain ⟨A1, n1, c1, rfl, -, -, ra⟩ := hoa5.sl
      obtain ⟨A3, n3, c3, rfl, -, -, rb⟩ := hob5.sl
      have s1 : (convert 29 9 (.slice A1 n1 c1)).run Try.prog w5 = .ok (.string (bstr Ab)) w5 := run_str ra
      have s2 : (convert 29 9 (.slice A3 n3 c3)).run Try.prog w5 = .ok (.string (bstr Bb)) w5 := run_str rb
      clear hobb hob5 hoa5 hoac hb5 ra rb hr2 HRG Bc
      obtain ⟨SA, hSA⟩ : ∃ SA, bstr Ab = SA := ⟨_, rfl⟩
      obtain ⟨SB, hSB⟩ : ∃ SB, bstr Bb = SB := ⟨_, rfl⟩
      rw [hSA] at s1
      rw [hSB] at s2
      cases hh : hasB k R.op with
      | false =>
        have hs0 : SA = SB := by rw [← hSA, ← hSB]; exact HINJ.out.2 hh
        subst hs0
        clear hSA hSB hh
        go_wp2_with fail
        refine (known18 _).mono ?_
        rintro e w9 ⟨rfl, hb9⟩
        have HB := Lib.hid (B5.trans (hb9.mono B5.size))
        clear s1 s2 B5 hb9
        go_wp2
        go_ret
        exact ⟨rfl, HB.out⟩
      | true =>
        have hs1 : ¬ SA = SB := by
          rw [← hSA, ← hSB]
          intro e
          have := HINJ.out.1 e
          rw [hh] at this
          cases this
        have hs2 := ne_toList SA SB hs1
        clear hSA hSB hh
        go_wp2_with fail
        refine (known18 _).mono ?_
        rintro e w9 ⟨rfl, hb9⟩
        have HB := Lib.hid (B5.trans (hb9.mono B5.size))
        clear s1 s2 B5 hb9
        go_wp2
        go_ret
        exact ⟨ret_bool' (by simpa using hs2), HB.out⟩

theorem law_calls {H : Type} {enc : TypeId × Value → H} {base : Nat} (W : World) (v0 : Value) (d0 : DataW H) (p0 : List MemPlace) (v1 : Value) (d1 : DataW H) (p1 : List MemPlace)
    (o0 : Value.okWide Try.prog W .any base 31 v0) (h0 : DataW.Trod enc Try.prog W 0 (fun _ => true) true 31 v0 d0 p0) (z0 : ∀ n ∈ d0.weights Try.prog 31, n ≤ reachBytes) (o1 : Value.okWide Try.prog W .any base 3 v1) (h1 : DataW.Trod enc Try.prog W 0 (fun _ => true) true 3 v1 d1 p1) (z1 : ∀ n ∈ d1.weights Try.prog 3, n ≤ reachBytes) :
    Calls Try.prog 3 #[v0, v1] W fun e w' => e = .returned (.bool true) ∧ Below W.heap.size W w' := by
  obtain ⟨a1, rfl, -, -, w1⟩ := open_int Try.underlying3 o1 h1
  have b1 := i64_bd w1
  obtain ⟨cs, rfl, -⟩ := okWide_struct Try.underlying31 o0
  obtain ⟨fuel, hf⟩ := h0
  obtain ⟨R, Ac, cc, Al, cl, hcs, hg, h1, h2, h3, h4, h5, h6, h7⟩ := trod_request hf
  have hw := h7 reachBytes z0
  have e : cs = (reqv R (.slice Ac R.cavs.length cc) (.slice Al R.leaf.length cl)).toArray := by
    rw [← hcs]; simp [Value.cells]
  rw [e]
  exact fields_walk R a1 Ac cc Al cl W hg b1.1 b1.2 h1 h2 h3 h4 (by simp only [reachBytes] at hw; omega) h5 h6
-- END BY HAND

set_option maxRecDepth 100000 in
theorem lifted (os : Os) (started : os.Started) (H : Type) (enc : TypeId × Value → H) :
    ReturnsInHanded {} Try.checked os 3 .any (Rows.requestFieldsSpec.pre6 enc Try.prog Try.f3 Rows.requestFieldsRow.domain false) (Rows.requestFieldsSpec.post enc Try.prog Try.f3 false true false false) := by
  refine returnsInHanded_of_change_sized (C := Try.checked) own started (by kernel_rfl) Try.func3
    (ChangeSpec.witness6 (enc := enc) (C := Try.checked) false ⟨#[], #[.agg #[.int .i64 0, .int .u32 0, .slice none 0 0, .int .u8 0, .int .u8 0, .int .u8 0, .int .u8 0, .int .u8 0, .int .u8 0, .int .u8 0, .int .u8 0, .int .u8 0, .int .u8 0, .int .u8 0, .int .u8 0, .int .u8 0, .int .u8 0, .int .u8 0, .int .u8 0, .int .u8 0, .int .u8 0, .int .u8 0, .int .u8 0, .int .u8 0, .int .u8 0, .int .u8 0, .int .u8 0, .int .u8 0, .int .u8 0, .int .u8 0, .int .u8 0, .int .u8 0, .int .u8 0, .int .u8 0, .int .u8 0, .int .i64 0, .int .i64 0, .int .i64 0, .int .i64 0, .int .i64 0, .int .u32 0, .int .u64 0, .int .u64 0, .int .u32 0, .int .u32 0, .int .u32 0, .int .u64 0, .slice none 0 0], .int .i64 0], []⟩ 8 (by kernel_rfl) (by kernel_rfl) (by kernel_rfl) (by kernel_rfl)) ?_
  intro W base args ds gs before hval0 hW hcnd hsz0 _
  have hval : ∀ (j : Nat) t v, Try.f3.params[j]? = some t → args[j]? = some v → Value.okWide Try.prog W .any base t v := hval0
  have hW' := hW
  obtain ⟨p, q, hA0, hV, rfl, hfz, hnd⟩ := hW
  have hA : DataW.TrodAll enc Try.prog W 0 (fun _ => true) true Try.f3.params.toList args.toList ds p := hA0
  rw [Try.params3] at hA hval
  obtain ⟨v0, vs0, d0, ds0, p0, q0, hargs, rfl, rfl, h0, r0⟩ := trodAll_cons hA
  obtain ⟨v1, vs1, d1, ds1, p1, q1, rfl, rfl, rfl, h1, r1⟩ := trodAll_cons r0
  obtain ⟨rfl, rfl, rfl⟩ := trodAll_nil r1
  obtain rfl : args = #[v0, v1] := by cases args; simp_all
  obtain ⟨rfl, rfl⟩ := trodVars_none hV
  have lt0 : ∀ x ∈ p0, x.block < W.heap.size := by obtain ⟨m, hm⟩ := h0; exact DataW.trod_lt m _ _ _ hm
  have lt1 : ∀ x ∈ p1, x.block < W.heap.size := by obtain ⟨m, hm⟩ := h1; exact DataW.trod_lt m _ _ _ hm
  have hz0 : ∀ n ∈ d0.weights Try.prog 31, n ≤ reachBytes := fun n hn => by
    have := List.all_eq_true.1 hsz0 n (DataW.weights_mem_each (j := 0) (t := 31) (d := d0) rfl rfl n hn)
    simpa using this
  have hz1 : ∀ n ∈ d1.weights Try.prog 3, n ≤ reachBytes := fun n hn => by
    have := List.all_eq_true.1 hsz0 n (DataW.weights_mem_each (j := 1) (t := 3) (d := d1) rfl rfl n hn)
    simpa using this
  clear hA0 hval0
  refine (law_calls (enc := enc) (base := base) W v0 d0 p0 v1 d1 p1 (hval 0 31 v0 rfl rfl) h0 hz0 (hval 1 3 v1 rfl rfl) h1 hz1).mono fun e W' ⟨he, bel⟩ => ?_
  subst he
  exact ⟨_, rfl, _, _, _, [], _, [], hW', trodAll_mk1 (shut_bool Try.underlying4 _), (trodAll_cons_mk (Below.trod laidOut (by kernel_rfl) (of_decide_eq_true (by kernel_rfl)) h0 bel lt0) (trodAll_cons_mk (Below.trod laidOut (by kernel_rfl) (of_decide_eq_true (by kernel_rfl)) h1 bel lt1) trodAll_mk0)), rfl, bel.frame _, fun h => by cases h⟩

theorem over : Rows.requestFieldsRow.holds Try.pinned (OpenSpec.ofChange Rows.requestFieldsSpec) :=
  OpenClaim.holds_of_wide 3 Try.f3 rfl rfl rfl rfl rfl rfl rfl ⟨rfl, rfl, rfl, rfl, rfl⟩ rfl rfl rfl rfl rfl (by kernel_rfl) Try.func3 (by kernel_rfl)
    (of_decide_eq_true (by kernel_rfl)) (by unfold Func.isWrapper; first | (rw [if_pos (by decide +kernel)]; kernel_rfl) | (rw [if_neg (by decide +kernel)]; exact ⟨rfl, rfl⟩))
    (fun os started H enc _ => lifted os started H enc)

/-- The statement. -/
theorem proved : Rows.RequestFieldsSaid := over

#print axioms proved

end Go.Proofs.Ytbkdccamimakoaa.requestFields

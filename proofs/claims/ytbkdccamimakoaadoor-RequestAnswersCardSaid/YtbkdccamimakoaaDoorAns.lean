/-
  request: a response as bytes: request.none, request.Answer.
-/
import Derived.Test.YtbkdccamimakoaaDoorHdEq
import Derived.Test.YtbkdccamimakoaaDoorEnc
namespace Go.Proofs.YtbkdccamimakoaaDoor
open Go.RowKit
set_option linter.unusedVariables false
set_option maxRecDepth 100000

/-- Hashes as cells. -/
def digv (l : List (List Nat)) : List Value := l.flatMap byv

theorem digv_len (l : List (List Nat)) (h : ∀ d ∈ l, d.length = 32) : (digv l).length = l.length * 32 := by
  unfold digv
  induction l with
  | nil => rfl
  | cons d l ih =>
    simp only [List.flatMap_cons, List.length_append, List.length_cons, byv_length]
    rw [ih (fun x hx => h x (List.mem_cons_of_mem _ hx)), h d (by simp)]
    omega

theorem digv_at : ∀ (l : List (List Nat)) (_ : ∀ d ∈ l, d.length = 32) (k : Nat) (d : List Nat) (_ : l[k]? = some d), ∀ j u, (byv d)[j]? = some u → (digv l)[k * 32 + j]? = some u
  | [], _, k, d, hk, _, _, _ => by simp at hk
  | x :: l, h, 0, d, hk, j, u, hu => by
    simp at hk
    subst hk
    have hj : j < (byv x).length := by
      rcases Nat.lt_or_ge j (byv x).length with h1 | h1
      · exact h1
      · rw [List.getElem?_eq_none h1] at hu; cases hu
    unfold digv
    rw [List.flatMap_cons, Nat.zero_mul, Nat.zero_add, List.getElem?_append_left hj]
    exact hu
  | x :: l, h, k + 1, d, hk, j, u, hu => by
    have hx : (byv x).length = 32 := by rw [byv_length, h x (by simp)]
    have := digv_at l (fun y hy => h y (List.mem_cons_of_mem _ hy)) k d (by simpa using hk) j u hu
    unfold digv at this ⊢
    rw [List.flatMap_cons, List.getElem?_append_right (by rw [hx]; omega), hx, show (k + 1) * 32 + j - 32 = k * 32 + j from by omega]
    exact this

theorem byv_zero32 : (byv (List.replicate 32 0)).toArray = #[.int .u8 0, .int .u8 0, .int .u8 0, .int .u8 0, .int .u8 0, .int .u8 0, .int .u8 0, .int .u8 0, .int .u8 0, .int .u8 0, .int .u8 0, .int .u8 0, .int .u8 0, .int .u8 0, .int .u8 0, .int .u8 0, .int .u8 0, .int .u8 0, .int .u8 0, .int .u8 0, .int .u8 0, .int .u8 0, .int .u8 0, .int .u8 0, .int .u8 0, .int .u8 0, .int .u8 0, .int .u8 0, .int .u8 0, .int .u8 0, .int .u8 0, .int .u8 0] := rfl

theorem byv_zero32l : byv (List.replicate 32 0) = (#[.int .u8 0, .int .u8 0, .int .u8 0, .int .u8 0, .int .u8 0, .int .u8 0, .int .u8 0, .int .u8 0, .int .u8 0, .int .u8 0, .int .u8 0, .int .u8 0, .int .u8 0, .int .u8 0, .int .u8 0, .int .u8 0, .int .u8 0, .int .u8 0, .int .u8 0, .int .u8 0, .int .u8 0, .int .u8 0, .int .u8 0, .int .u8 0, .int .u8 0, .int .u8 0, .int .u8 0, .int .u8 0, .int .u8 0, .int .u8 0, .int .u8 0, .int .u8 0] : Array Value).toList := rfl

theorem built_digest : Tryd.prog.built 27 [] = some (#[.int .u8 0, .int .u8 0, .int .u8 0, .int .u8 0, .int .u8 0, .int .u8 0, .int .u8 0, .int .u8 0, .int .u8 0, .int .u8 0, .int .u8 0, .int .u8 0, .int .u8 0, .int .u8 0, .int .u8 0, .int .u8 0, .int .u8 0, .int .u8 0, .int .u8 0, .int .u8 0, .int .u8 0, .int .u8 0, .int .u8 0, .int .u8 0, .int .u8 0, .int .u8 0, .int .u8 0, .int .u8 0, .int .u8 0, .int .u8 0, .int .u8 0, .int .u8 0] : Array Value) := by kernel_rfl

theorem built_signed : Tryd.prog.built 55 [] = some (hdv Hd.zero).toArray := by kernel_rfl

theorem Tryd.sig_info : (Tryd.prog.info? 55).map (·.size) = some 68 := by kernel_rfl

theorem Tryd.hd_info : (Tryd.prog.info? 53).map (·.size) = some 36 := by kernel_rfl

theorem Tryd.rsp_info : (Tryd.prog.info? 57).map (·.size) = some 106 := by kernel_rfl

theorem rspv_len (R : Rsp) (bv hv cav : Value) (h : R.Ok) : (rspv R bv hv cav).length = 106 := by
  unfold rspv
  simp only [List.length_cons, List.length_append]
  rw [hdv_len R.hd h.hd, tokv_len _ _ _ h.tok.2.2.1]

theorem rspv_hd (R : Rsp) (bv hv cav : Value) (h : R.Ok) : ∀ j u, (hdv R.hd)[j]? = some u → (rspv R bv hv cav)[4 + j]? = some u := by
  intro j u hu
  have hj : j < (hdv R.hd).length := by
    rcases Nat.lt_or_ge j (hdv R.hd).length with h1 | h1
    · exact h1
    · rw [List.getElem?_eq_none h1] at hu; cases hu
  unfold rspv
  rw [show 4 + j = j + 1 + 1 + 1 + 1 from by omega]
  simp only [List.getElem?_cons_succ]
  rw [List.getElem?_append_left hj]
  exact hu

theorem rspv_tok (R : Rsp) (bv hv cav : Value) (h : R.Ok) : ∀ j u, (tokv R.tok.1 cav R.tok.2.2)[j]? = some u → (rspv R bv hv cav)[72 + j]? = some u := by
  intro j u hu
  unfold rspv
  rw [show 72 + j = 68 + j + 1 + 1 + 1 + 1 from by omega]
  simp only [List.getElem?_cons_succ]
  rw [List.getElem?_append_right (by rw [hdv_len R.hd h.hd]; omega), hdv_len R.hd h.hd, show 68 + j - 68 = j from by omega]
  exact hu

theorem getElem?_pre {α : Type} {a b : List α} : ∀ (j : Nat) (u : α), a[j]? = some u → (a ++ b)[j]? = some u := by
  intro j u hu
  have hj : j < a.length := by
    rcases Nat.lt_or_ge j a.length with h1 | h1
    · exact h1
    · rw [List.getElem?_eq_none h1] at hu; cases hu
  rw [List.getElem?_append_left hj]
  exact hu

theorem getElem?_post {α : Type} {a b : List α} (n : Nat) (hn : a.length = n) : ∀ (j : Nat) (u : α), b[j]? = some u → (a ++ b)[n + j]? = some u := by
  intro j u hu
  rw [List.getElem?_append_right (by omega), hn, show n + j - n = j from by omega]
  exact hu

theorem headv_one (h : Hd) : ∀ u ∈ headv h, u.oneCell' = true := by
  intro u hu
  unfold headv at hu
  simp only [List.mem_cons] at hu
  rcases hu with rfl | rfl | rfl | rfl | hu
  · rfl
  · rfl
  · rfl
  · rfl
  · exact byv_one _ u hu

theorem hdv_one (h : Hd) : ∀ u ∈ hdv h, u.oneCell' = true := by
  intro u hu
  rw [hdv_split] at hu
  rcases List.mem_append.1 hu with hu | hu
  · exact headv_one h u hu
  · exact byv_one _ u hu


theorem request_none 
  (id : Nat) (A : Option Addr) (n c : Nat) (tag : List Nat) (w : World) (ht : tag.length = 32) (htb : ∀ b ∈ tag, b < 256) :
      Calls Tryd.prog 47 #[.agg (tokv id (.slice A n c) tag).toArray] w fun e w' => e = .returned (.bool (decide (id = 0 ∧ n = 0 ∧ tag = List.replicate 32 0))) ∧ Below w.heap.size w w' := by
    have hdig := fun w => run_eql_digest w tag (List.replicate 32 0) ht (by simp) htb (by intro x hx; simp at hx; omega)
    rw [byv_zero32] at hdig
    have d0 : (tokv id (.slice A n c) tag)[0]? = some (.int .u32 (id : Int)) := rfl
    have d1 : (tokv id (.slice A n c) tag)[1]? = some (.slice A n c) := rfl
    have dt : ∀ j u, (byv tag)[j]? = some u → (tokv id (.slice A n c) tag)[2 + j]? = some u := by
      intro j u h
      rw [tokv, show 2 + j = (j + 1) + 1 from by omega, List.getElem?_cons_succ, List.getElem?_cons_succ]
      exact h
    obtain ⟨L, hL⟩ : ∃ L, tokv id (.slice A n c) tag = L := ⟨_, rfl⟩
    rw [hL] at d0 d1 dt ⊢
    have hgl : (byv tag).length = 32 := by rw [byv_length, ht]
    obtain ⟨b, hb⟩ : ∃ b, (tag == List.replicate 32 0) = b := ⟨_, rfl⟩
    obtain ⟨G, hG⟩ : ∃ G, byv tag = G := ⟨_, rfl⟩
    rw [hG] at dt hgl
    simp only [hG, hb] at hdig
    have HI := Lib.hid (show (Tryd.prog.info? 27).map (·.size) = some G.length by rw [hgl]; exact Tryd.digest_info)
    have t0 := Blk.new w 29 L.toArray
    have R1 := Lib.hid (rangeAt_blk t0 2 G dt)
    have c0 := (t0.cell 0).trans (show L.toArray[0]? = _ by simpa using d0)
    have c1 := (t0.cell 1).trans (show L.toArray[1]? = _ by simpa using d1)
    have HB := Lib.hid (show Below w.heap.size w (w.alloc (.cells L.toArray 29)) from below_new (Below.refl _ _) _)
    have HBB := Lib.hid (show b = decide (tag = List.replicate 32 0) by rw [← hb, Bool.eq_iff_iff]; simp)
    clear hL hG d0 d1 dt hgl t0 hb
    by_cases h0 : id = 0
    · subst h0
      by_cases h1 : n = 0
      · subst h1
        go_enter Tryd.func47, Tryd.ntmps47
        go_wp2_with (first
          | (refine load_mid_want rfl 27 (.tmp 13) rfl w.heap.size 2 rfl G _ R1.out Tryd.underlying27 rfl HI.out ?_)
          | (refine wpList_read rfl ⟨.agg (#[.int .u8 0, .int .u8 0, .int .u8 0, .int .u8 0, .int .u8 0, .int .u8 0, .int .u8 0, .int .u8 0, .int .u8 0, .int .u8 0, .int .u8 0, .int .u8 0, .int .u8 0, .int .u8 0, .int .u8 0, .int .u8 0, .int .u8 0, .int .u8 0, .int .u8 0, .int .u8 0, .int .u8 0, .int .u8 0, .int .u8 0, .int .u8 0, .int .u8 0, .int .u8 0, .int .u8 0, .int .u8 0, .int .u8 0, .int .u8 0, .int .u8 0, .int .u8 0] : Array Value), run_built 27 _ rfl _ _ built_digest (by simp [Act.eval]), ?_⟩))
        go_ret
        exact ⟨by rw [HBB.out]; simp, HB.out⟩
      · have q : ¬ (n : Int) = 0 := by omega
        go_enter Tryd.func47, Tryd.ntmps47
        go_wp2
        go_ret
        exact ⟨by simp [h1], HB.out⟩
    · have q : ¬ (id : Int) = 0 := by omega
      go_enter Tryd.func47, Tryd.ntmps47
      go_wp2
      go_ret
      exact ⟨by simp [h0], HB.out⟩

theorem ref18_zero 
  (id : Nat) (A : Option Addr) (n c : Nat) (tag : List Nat) (w : World) (ht : tag.length = 32) (htb : ∀ b ∈ tag, b < 256) :
      Calls Tryd.prog 51 #[.agg (tokv id (.slice A n c) tag).toArray] w fun e w' => e = .returned (.bool (decide (id = 0 ∧ n = 0 ∧ tag = List.replicate 32 0))) ∧ Below w.heap.size w w' := by
    have hdig := fun w => run_eql_digest w tag (List.replicate 32 0) ht (by simp) htb (by intro x hx; simp at hx; omega)
    rw [byv_zero32] at hdig
    have d0 : (tokv id (.slice A n c) tag)[0]? = some (.int .u32 (id : Int)) := rfl
    have d1 : (tokv id (.slice A n c) tag)[1]? = some (.slice A n c) := rfl
    have dt : ∀ j u, (byv tag)[j]? = some u → (tokv id (.slice A n c) tag)[2 + j]? = some u := by
      intro j u h
      rw [tokv, show 2 + j = (j + 1) + 1 from by omega, List.getElem?_cons_succ, List.getElem?_cons_succ]
      exact h
    obtain ⟨L, hL⟩ : ∃ L, tokv id (.slice A n c) tag = L := ⟨_, rfl⟩
    rw [hL] at d0 d1 dt ⊢
    have hgl : (byv tag).length = 32 := by rw [byv_length, ht]
    obtain ⟨b, hb⟩ : ∃ b, (tag == List.replicate 32 0) = b := ⟨_, rfl⟩
    obtain ⟨G, hG⟩ : ∃ G, byv tag = G := ⟨_, rfl⟩
    rw [hG] at dt hgl
    simp only [hG, hb] at hdig
    have HI := Lib.hid (show (Tryd.prog.info? 27).map (·.size) = some G.length by rw [hgl]; exact Tryd.digest_info)
    have t0 := Blk.new w 29 L.toArray
    have R1 := Lib.hid (rangeAt_blk t0 2 G dt)
    have c0 := (t0.cell 0).trans (show L.toArray[0]? = _ by simpa using d0)
    have c1 := (t0.cell 1).trans (show L.toArray[1]? = _ by simpa using d1)
    have HB := Lib.hid (show Below w.heap.size w (w.alloc (.cells L.toArray 29)) from below_new (Below.refl _ _) _)
    have HBB := Lib.hid (show b = decide (tag = List.replicate 32 0) by rw [← hb, Bool.eq_iff_iff]; simp)
    clear hL hG d0 d1 dt hgl t0 hb
    by_cases h0 : id = 0
    · subst h0
      by_cases h1 : n = 0
      · subst h1
        go_enter Tryd.func51, Tryd.ntmps51
        go_wp2_with (first
          | (refine load_mid_want rfl 27 (.tmp 13) rfl w.heap.size 2 rfl G _ R1.out Tryd.underlying27 rfl HI.out ?_)
          | (refine wpList_read rfl ⟨.agg (#[.int .u8 0, .int .u8 0, .int .u8 0, .int .u8 0, .int .u8 0, .int .u8 0, .int .u8 0, .int .u8 0, .int .u8 0, .int .u8 0, .int .u8 0, .int .u8 0, .int .u8 0, .int .u8 0, .int .u8 0, .int .u8 0, .int .u8 0, .int .u8 0, .int .u8 0, .int .u8 0, .int .u8 0, .int .u8 0, .int .u8 0, .int .u8 0, .int .u8 0, .int .u8 0, .int .u8 0, .int .u8 0, .int .u8 0, .int .u8 0, .int .u8 0, .int .u8 0] : Array Value), run_built 27 _ rfl _ _ built_digest (by simp [Act.eval]), ?_⟩))
        go_ret
        exact ⟨by rw [HBB.out]; simp, HB.out⟩
      · have q : ¬ (n : Int) = 0 := by omega
        go_enter Tryd.func51, Tryd.ntmps51
        go_wp2
        go_ret
        exact ⟨by simp [h1], HB.out⟩
    · have q : ¬ (id : Int) = 0 := by omega
      go_enter Tryd.func51, Tryd.ntmps51
      go_wp2
      go_ret
      exact ⟨by simp [h0], HB.out⟩

end Go.Proofs.YtbkdccamimakoaaDoor

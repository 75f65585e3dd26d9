/-
  deponentref1: primes, New: the table is sha's.
-/
import Derived.Test.YtamhggndcegndaaDoorRootN
namespace Go.Proofs.YtamhggndcegndaaDoor
open Go.RowKit
set_option linter.unusedVariables false
set_option maxRecDepth 100000

/-- uint64s of the call's own. -/
def OwnU (w : World) (base : Nat) (v : Value) (l : List Nat) : Prop := w.ownsRow base 24 1 v l.length (u64v l)

theorem u64v_one (l : List Nat) : ∀ u ∈ u64v l, u.oneCell' = true := by
  intro u hu
  obtain ⟨x, _, rfl⟩ := List.mem_map.1 hu
  rfl

section
variable {w w' : World} {base : Nat} {v : Value} {l : List Nat}
theorem OwnU.nil (w : World) (base : Nat) : OwnU w base (.slice none 0 0) [] := World.ownsRow_nil ..
theorem OwnU.sl (h : OwnU w base v l) : ∃ A n c, v = .slice A n c ∧ n = l.length ∧ n ≤ c ∧ c ≤ maxLen ∧ Reads w w.heap.size 1 A n (u64v l) := by
  obtain ⟨A, c, h1, h2, h3, h4⟩ := own_slice h
  exact ⟨A, _, c, h1, rfl, h2, h3, h4⟩
theorem OwnU.kept (h : OwnU w base v l) (hb : Below w.heap.size w w') : OwnU w' base v l :=
  World.ownsRow.kept h ⟨hb.os, hb.tape, hb.output, hb.size, fun k hk _ => hb.block k hk⟩ (row := none) (by cases v.ownBlock <;> simp)
theorem OwnU.alloc (h : OwnU w base v l) (o : Obj) : OwnU (w.alloc o) base v l := h.kept ((Below.refl _ _).alloc (Nat.le_refl _) o)
end

theorem append_u64 {w : World} {ops : Array Oper} {rest : List Oper} {o : Oper} {a : Act} {Q : Exit → Act → World → Prop} (hgd : o.guard = none) (s x : Operand)
    (ho : o.op = .call { callee := .builtin .append, args := #[s, x], argTypes := #[79, 79] })
    (base : Nat) (v : Value) (bs : List Nat) (hs : a.eval s = v) (hown : OwnU w base v bs) (A : Option Addr) (m c : Nat) (news : List Nat) (hx : a.eval x = .slice A m c) (hr : Reads w w.heap.size 1 A m (u64v news))
    (hlen : bs.length + m ≤ 65536) (hbase : base ≤ w.heap.size)
    (h : ∀ v' w', OwnU w' base v' (bs ++ news) → Below base w w' → w.grownBy w' v.ownBlock → wpList Tryd.prog ops Q rest (a.put o.dst v') w') : wpList Tryd.prog ops Q (o :: rest) a w := by
  obtain ⟨i0, hi0, hz0, hz1, hz2⟩ := info_parts Tryd.u64_info
  have hm : news.length = m := reads_u64_le hr
  refine wpList_append_any (P := Tryd.prog) w hgd s x _ ho base 24 i0 _ 1 8 Tryd.underlying79 hi0 hz0 hz1 hz2 rfl (by omega) v bs.length (u64v bs) hs hown w.heap.size A m c (u64v news) hx hr (u64v_one _) (by simp only [maxLen]; omega) (by omega) hbase ?_
  intro v' w' h1 h2 h3
  refine h v' w' ?_ ?_ h2
  · unfold OwnU
    rw [List.length_append, hm]
    simpa [u64v] using h1
  · exact below_appended (Below.refl _ _) hown h2 (Nat.le_refl _) hbase

theorem reads_u64_one (w : World) (p : Nat) : Reads (w.alloc (.cells #[.int .u64 (p : Int)] 24)) (w.alloc (.cells #[.int .u64 (p : Int)] 24)).heap.size 1 (some ⟨w.heap.size, 0, none⟩) 1 (u64v [p]) := by
  have := Reads.new1 w 24 (.int .u64 (p : Int))
  simpa [u64v] using this

theorem primGo_step {f p : Nat} {out : List Nat} (h : out.length < 64) (hp : primGo 64 f p out = primes64) : ∃ g, f = g + 1 ∧ primGo 64 g (p + 1) (if noneDivides out p then out ++ [p] else out) = primes64 := by
  cases f with
  | zero =>
    have e : out = primes64 := hp
    rw [e] at h
    exact absurd h (by decide)
  | succ g =>
    refine ⟨g, rfl, ?_⟩
    unfold primGo at hp
    rw [if_pos h] at hp
    split at hp
    · rename_i hn
      rw [if_pos hn]
      exact hp
    · rename_i hn
      rw [if_neg hn]
      exact hp

set_option maxHeartbeats 4000000 in
theorem ref1_primes (w : World) :
    Calls Tryd.prog 34 #[.int .i64 64] w fun e w' => ∃ v, e = .returned v ∧ OwnU w' w.heap.size v primes64 ∧ Below w.heap.size w w' := by
  have H0 := Lib.hid primGo_64
  go_enter Tryd.func34, Tryd.ntmps34
  go_wp2_with fail
  go_loopw [3, 4] (fun a b wr => ∃ (out : List Nat) (p f : Nat), p + f = 402 ∧ 2 ≤ p ∧ b = .int .u64 p ∧ out.length ≤ 64 ∧ Hid (primGo 64 f p out = primes64) ∧ Hid (∀ q ∈ out, 2 ≤ q ∧ q ≤ 402) ∧ Hid (OwnU wr w.heap.size a out) ∧ Hid (Below w.heap.size w wr)) (fun _ b _ => 402 - (intOf b).toNat)
  case atStart => exact ⟨[], 2, 400, by omega, by omega, rfl, by simp, H0.out, fun q hq => (nomatch hq), OwnU.nil _ _, Below.refl _ _⟩
  case round =>
    clear H0
    obtain ⟨out, p, f, hf, hp2, rfl, hlo, hgo, hq2, hown, hbe⟩ := hrel
    obtain ⟨A, n, c, rfl, hn, hnc, hcm, hrd⟩ := hown.out.sl
    have HN := Lib.hid hn
    have HR := Lib.hid hrd
    by_cases hlt : n < 64
    · obtain ⟨f', rfl, hgo'⟩ := primGo_step (by rw [← HN.out]; exact hlt) hgo.out
      have HG := Lib.hid hgo'
      have q1 : (n : Int) < 64 := by omega
      clear hgo' hgo hn hrd
      go_wp2_with fail
      go_loop [5, 6] (fun a b => ∃ k : Nat, k ≤ n ∧ b = .int .i64 k ∧ a = .bool (noneDivides (out.take k) p)) (fun _ b => n - (intOf b).toNat)
      case atStart => exact ⟨0, by omega, rfl, rfl⟩
      case round =>
        obtain ⟨k, hk, rfl, rfl⟩ := hrel
        by_cases hkl : k < n
        · have q2 : (k : Int) < n := by omega
          obtain ⟨q, hq⟩ : ∃ q, out[k]? = some q := ⟨_, List.getElem?_eq_getElem (by rw [← HN.out]; exact hkl)⟩
          have hqb := hq2.out q (List.mem_of_getElem? hq)
          obtain ⟨b, o, rfl, hab, hcell⟩ := HR.out.mid (by omega) (by omega)
          have ck := hcell k _ (u64v_at hq)
          have hst := noneDivides_take out p k q hq
          have HST := Lib.hid hst
          obtain ⟨bb, hbb⟩ : ∃ bb, noneDivides (out.take k) p = bb := ⟨_, rfl⟩
          have HBB := Lib.hid hbb
          rw [hbb]
          have q3 : (0 : Int) < q := by omega
          have q4 : ¬ (q : Int) = 0 := by omega
          obtain ⟨r, hr⟩ : ∃ r, p % q = r := ⟨_, rfl⟩
          have q5 : (p : Int) % q = r := by rw [← hr]; simp
          have HRR := Lib.hid hr
          clear hq hcell hst hbb hr
          cases bb with
          | false =>
            go_wp2
            go_round
            case rel => exact ⟨k + 1, by omega, by go_num, by rw [HST.out, HBB.out]; rfl⟩
            case measure => simp [intOf]; omega
          | true =>
            by_cases hr0 : r = 0
            · subst hr0
              go_wp2
              go_round
              case rel => exact ⟨k + 1, by omega, by go_num, by rw [HST.out, HBB.out, HRR.out]; rfl⟩
              case measure => simp [intOf]; omega
            · have q6 : ¬ (r : Int) = 0 := by omega
              go_wp2
              go_round
              case rel => exact ⟨k + 1, by omega, by go_num, by rw [HST.out, HBB.out, HRR.out]; simp [hr0]⟩
              case measure => simp [intOf]; omega
        · obtain rfl : n = k := by omega
          have et : out.take n = out := List.take_of_length_le (by rw [← HN.out]; exact Nat.le_refl _)
          rw [et]
          have q2 : ¬ (n : Int) < n := by omega
          obtain ⟨bb, hbb⟩ : ∃ bb, noneDivides out p = bb := ⟨_, rfl⟩
          have hg := HG.out
          rw [hbb] at hg ⊢
          have HG2 := Lib.hid hg
          clear et hbb hg HG
          cases bb with
          | false =>
            have HG3 := Lib.hid (show primGo 64 f' (p + 1) out = primes64 from HG2.out)
            go_wp2
            go_roundw
            case rel => exact ⟨out, p + 1, f', by omega, by omega, by go_num, hlo, HG3, hq2, hown, hbe⟩
            case measure => simp [intOf]; omega
          | true =>
            have HG3 := Lib.hid (show primGo 64 f' (p + 1) (out ++ [p]) = primes64 from HG2.out)
            have hszb := hbe.out.size
            go_wp2_with (at_builtin; refine append_u64 rfl (.tmp 30) (.tmp 32) rfl w.heap.size _ out rfl (hown.out.alloc _) _ 1 1 [p] rfl (reads_u64_one wr p) (by have := HN.out; omega) (by rw [alloc_size]; omega) ?_)
            intro v2 w2 own2 b2 g2
            have OW := Lib.hid own2
            have BW := Lib.hid ((hbe.out.alloc hbe.out.size (.cells #[.int .u64 (p : Int)] 24)).trans b2)
            have HQ2 : Hid (∀ q ∈ out ++ [p], 2 ≤ q ∧ q ≤ 402) := by
              intro q hq
              rcases List.mem_append.1 hq with hq | hq
              · exact hq2.out q hq
              · obtain rfl := List.mem_singleton.1 hq
                omega
            have hl2 : (out ++ [p]).length ≤ 64 := by rw [List.length_append, ← HN.out]; simp; omega
            clear own2 b2 g2 hbe hown
            go_wp2
            go_roundw
            case rel => exact ⟨out ++ [p], p + 1, f', by omega, by omega, by go_num, hl2, HG3, HQ2, OW, BW⟩
            case measure => simp [intOf]; omega
    · have hle : 64 ≤ out.length := by rw [← HN.out]; omega
      have he := hgo.out
      rw [primGo_end 64 f p out hle] at he
      have HE := Lib.hid he
      have q1 : ¬ (n : Int) < 64 := by omega
      clear he hn hrd hgo
      go_wp2
      go_ret
      exact ⟨_, rfl, by rw [← HE.out]; exact hown.out, hbe.out⟩

end Go.Proofs.YtamhggndcegndaaDoor

/-
  Responses as bytes, and read: plain.
-/
import Derived.Test.YtbkdccamimakoaaDoorReqSpec
namespace Go.Proofs.YtbkdccamimakoaaDoor
open Go.RowKit
set_option linter.unusedVariables false
set_option maxRecDepth 100000

/-- A signed head. -/
structure Hd where
  tree : Int
  epoch : Int
  size : Nat
  clock : Nat
  root : List Nat
  tag : List Nat
  deriving DecidableEq

def Hd.zero : Hd := ⟨0, 0, 0, 0, List.replicate 32 0, List.replicate 32 0⟩

/-- A head's cells. -/
def hdv (h : Hd) : List Value := .int .i64 h.tree :: .int .i64 h.epoch :: .int .u64 (h.size : Int) :: .int .u64 (h.clock : Int) :: (byv h.root ++ byv h.tag)

/-- A head's bytes. -/
def hdB (h : Hd) : List Nat := be h.tree.toNat 1 ++ (be h.epoch.toNat 4 ++ (be h.size 8 ++ (be h.clock 8 ++ (h.root ++ h.tag))))

structure Hd.Ok (h : Hd) : Prop where
  size : h.size < 18446744073709551616
  clock : h.clock < 18446744073709551616
  rootl : h.root.length = 32
  rootb : ∀ x ∈ h.root, x < 256
  tagl : h.tag.length = 32
  tagb : ∀ x ∈ h.tag, x < 256

/-- A response. -/
structure Rsp where
  why : Int
  n : Nat
  bytes : List Nat
  hashes : List (List Nat)
  hd : Hd
  tok : Tok

/-- A response's cells. -/
def rspv (R : Rsp) (bv hv cav : Value) : List Value := .int .i64 R.why :: .int .u64 (R.n : Int) :: bv :: hv :: (hdv R.hd ++ tokv R.tok.1 cav R.tok.2.2)

structure Rsp.Ok (R : Rsp) : Prop where
  n : R.n < 18446744073709551616
  bytes : ∀ x ∈ R.bytes, x < 256
  hashes : ∀ d ∈ R.hashes, d.length = 32 ∧ ∀ x ∈ d, x < 256
  hd : R.hd.Ok
  tok : R.tok.Ok

theorem zeroTok_Ok : zeroTok.Ok := ⟨by decide, fun c hc => (nomatch hc), by simp [zeroTok], by intro x hx; simp [zeroTok] at hx; omega⟩

theorem Hd.zero_Ok : Hd.zero.Ok := ⟨by decide, by decide, by simp [Hd.zero], by intro x hx; simp [Hd.zero] at hx; omega, by simp [Hd.zero], by intro x hx; simp [Hd.zero] at hx; omega⟩

def zeroRsp : Rsp := ⟨0, 0, [], [], Hd.zero, zeroTok⟩

/-- A token's bytes, and why not. -/
def tokR (t : Tok) : Nat × List Nat := tokRes t.1 t.2.1 t.2.2

def flagsOf (R : Rsp) : Nat := (if R.hd = Hd.zero then 0 else 1) + (if R.tok = zeroTok then 0 else 2)

def ansB (R : Rsp) : List Nat :=
  be R.why.toNat 1 ++ (be R.n 8 ++ (txt R.bytes ++ (be R.hashes.length 1 ++ (R.hashes.flatten ++ (be (flagsOf R) 1 ++ ((if R.hd = Hd.zero then [] else hdB R.hd) ++ (if R.tok = zeroTok then [] else txt (tokR R.tok).2)))))))

/-- A response's numbers fit. -/
def Rsp.fits (R : Rsp) : Bool := decide (0 ≤ R.why ∧ R.why ≤ 255) && decide (0 ≤ R.hd.tree ∧ R.hd.tree ≤ 255) && decide (0 ≤ R.hd.epoch ∧ R.hd.epoch ≤ 2147483647)

/-- A response's bytes: why not, or they. -/
def ansRes (R : Rsp) : Nat × List Nat :=
  if 255 < R.hashes.length ∨ (tokR R.tok).1 = 4 then (4, [])
  else if 65536 ≤ R.bytes.length then (3, [])
  else if R.fits = true ∧ (tokR R.tok).1 = 0 then (0, ansB R) else (1, [])

def digGo (bs : List Nat) : Nat → RSt → List (List Nat) → RSt × List (List Nat)
  | 0, s, l => (s, l)
  | k + 1, s, l => digGo bs k (rDig bs s).1 (l ++ [(rDig bs s).2])

def rh1 (bs : List Nat) (s : RSt) := rNum bs s 1
def rh2 (bs : List Nat) (s : RSt) := rNum bs (rh1 bs s).1 4
def rh3 (bs : List Nat) (s : RSt) : RSt := if 2147483647 < (rh2 bs s).2 then rRefuse (rh2 bs s).1 (rh2 bs s).1.1 12 else (rh2 bs s).1
def rh4 (bs : List Nat) (s : RSt) := rNum bs (rh3 bs s) 8
def rh5 (bs : List Nat) (s : RSt) := rNum bs (rh4 bs s).1 8
def rh6 (bs : List Nat) (s : RSt) := rDig bs (rh5 bs s).1
def rh7 (bs : List Nat) (s : RSt) := rDig bs (rh6 bs s).1
def rhH (bs : List Nat) (s : RSt) : Hd := ⟨((rh1 bs s).2 : Int), ((rh2 bs s).2 : Int), (rh4 bs s).2, (rh5 bs s).2, (rh6 bs s).2, (rh7 bs s).2⟩
/-- A head read. -/
def rHead (bs : List Nat) (s : RSt) : RSt × Hd := (if rhH bs s = Hd.zero then rRefuse (rh7 bs s).1 (rh7 bs s).1.1 12 else (rh7 bs s).1, rhH bs s)

/-- A token's text read. -/
def rTokB (bs : List Nat) (s : RSt) : RSt × Tok :=
  (if (tokDec (rBytes bs s 65536).2).1 = none ∧ (tokDec (rBytes bs s 65536).2).2 ≠ zeroTok then (rBytes bs s 65536).1 else rRefuse (rBytes bs s 65536).1 (rBytes bs s 65536).1.1 12, (tokDec (rBytes bs s 65536).2).2)

def rp1 (bs : List Nat) := rNum bs (0, none) 1
def rp2 (bs : List Nat) := rNum bs (rp1 bs).1 8
def rp3 (bs : List Nat) := rBytes bs (rp2 bs).1 65536
def rp4 (bs : List Nat) := rNum bs (rp3 bs).1 1
def rp5 (bs : List Nat) := digGo bs (rp4 bs).2 (rp4 bs).1 []
def rp6 (bs : List Nat) := rNum bs (rp5 bs).1 1
def rp7 (bs : List Nat) : RSt := if 3 < (rp6 bs).2 then rRefuse (rp6 bs).1 (rp6 bs).1.1 12 else (rp6 bs).1
def rp8 (bs : List Nat) : RSt × Hd := if (rp6 bs).2 % 2 = 1 then rHead bs (rp7 bs) else (rp7 bs, Hd.zero)
def rp9 (bs : List Nat) : RSt × Tok := if (rp6 bs).2 / 2 % 2 = 1 then rTokB bs (rp8 bs).1 else ((rp8 bs).1, zeroTok)
def rpR (bs : List Nat) : Rsp := ⟨((rp1 bs).2 : Int), (rp2 bs).2, (rp3 bs).2, (rp5 bs).2, (rp8 bs).2, (rp9 bs).2⟩

/-- What bytes say: a response, or where and why not. -/
def rspDec (bs : List Nat) : Option (Nat × Nat) × Rsp := match rEnd bs (rp9 bs).1 with
  | none => (none, rpR bs)
  | some x => (some x, zeroRsp)

/-! ## Refused stays refused -/

theorem rDig_ref (bs : List Nat) (s : RSt) (x : Nat × Nat) (h : s.2 = some x) : rDig bs s = (s, List.replicate 32 0) := by
  unfold rDig
  rw [rTake_ref bs s 32 x h]
  simp

theorem digGo_ref (bs : List Nat) : ∀ (k : Nat) (s : RSt) (l : List (List Nat)) (x : Nat × Nat), s.2 = some x → (digGo bs k s l).1 = s
  | 0, s, l, x, h => rfl
  | k + 1, s, l, x, h => by
    unfold digGo
    rw [rDig_ref bs s x h]
    exact digGo_ref bs k s _ x h

theorem rHead_ref (bs : List Nat) (s : RSt) (x : Nat × Nat) (h : s.2 = some x) : (rHead bs s).1 = s := by
  have e1 : rh1 bs s = (s, 0) := rNum_ref bs s 1 x h
  have e2 : rh2 bs s = (s, 0) := by unfold rh2; rw [e1]; exact rNum_ref bs s 4 x h
  have e3 : rh3 bs s = s := by unfold rh3; rw [e2]; simp
  have e4 : rh4 bs s = (s, 0) := by unfold rh4; rw [e3]; exact rNum_ref bs s 8 x h
  have e5 : rh5 bs s = (s, 0) := by unfold rh5; rw [e4]; exact rNum_ref bs s 8 x h
  have e6 : rh6 bs s = (s, List.replicate 32 0) := by unfold rh6; rw [e5]; exact rDig_ref bs s x h
  have e7 : rh7 bs s = (s, List.replicate 32 0) := by unfold rh7; rw [e6]; exact rDig_ref bs s x h
  unfold rHead
  rw [e7]
  simp only
  split
  · exact rRefuse_ref s _ _ x h
  · rfl

theorem rTokB_ref (bs : List Nat) (s : RSt) (x : Nat × Nat) (h : s.2 = some x) : (rTokB bs s).1 = s := by
  unfold rTokB
  rw [rBytes_ref bs s 65536 x h]
  simp only
  split
  · rfl
  · exact rRefuse_ref s _ _ x h

theorem ref_back {f : RSt → RSt} (h : ∀ s x, s.2 = some x → f s = s) {s : RSt} (hf : (f s).2 = none) : s.2 = none := by
  cases hs : s.2 with
  | none => rfl
  | some x => rw [h s x hs, hs] at hf; cases hf

/-! ## Why is never 0 -/

theorem Why.digGo {bs : List Nat} : ∀ (k : Nat) (s : RSt) (l : List (List Nat)), Why s → Why (digGo bs k s l).1
  | 0, s, l, h => h
  | k + 1, s, l, h => Why.digGo k _ _ (Why.take h)

theorem Why.rhead {bs : List Nat} {s : RSt} (h : Why s) : Why (rHead bs s).1 := by
  have h2 : Why (rh2 bs s).1 := Why.take (Why.take h)
  have h3 : Why (rh3 bs s) := by
    unfold rh3
    split
    · exact h2.refuse (by decide)
    · exact h2
  have h7 : Why (rh7 bs s).1 := Why.take (Why.take (Why.take (Why.take h3)))
  unfold rHead
  simp only
  split
  · exact h7.refuse (by decide)
  · exact h7

theorem Why.tokB {bs : List Nat} {s : RSt} (h : Why s) : Why (rTokB bs s).1 := by
  unfold rTokB
  simp only
  split
  · exact h.bytes
  · exact h.bytes.refuse (by decide)

theorem rp9_why (bs : List Nat) : Why (rp9 bs).1 := by
  have h4 : Why (rp4 bs).1 := Why.take (Why.bytes (Why.take (Why.take Why.none)))
  have h6 : Why (rp6 bs).1 := Why.take (Why.digGo _ _ _ h4)
  have h7 : Why (rp7 bs) := by
    unfold rp7
    split
    · exact h6.refuse (by decide)
    · exact h6
  have h8 : Why (rp8 bs).1 := by
    unfold rp8
    split
    · exact h7.rhead
    · exact h7
  unfold rp9
  split
  · exact h8.tokB
  · exact h8

theorem rspDec_why (bs : List Nat) : ∀ x, (rspDec bs).1 = some x → x.2 ≠ 0 := by
  intro x hx
  unfold rspDec at hx
  split at hx
  · cases hx
  · rename_i y hy
    injection hx with hx
    subst hx
    exact (rp9_why bs).end _ hy

/-! ## What is read is in order -/

theorem digGo_ok (bs : List Nat) (hb : ∀ x ∈ bs, x < 256) : ∀ (k : Nat) (s : RSt) (l : List (List Nat)), (∀ d ∈ l, d.length = 32 ∧ ∀ x ∈ d, x < 256) → (∀ d ∈ (digGo bs k s l).2, d.length = 32 ∧ ∀ x ∈ d, x < 256) ∧ (digGo bs k s l).2.length = l.length + k
  | 0, s, l, h => ⟨h, rfl⟩
  | k + 1, s, l, h => by
    unfold digGo
    have ih := digGo_ok bs hb k (rDig bs s).1 (l ++ [(rDig bs s).2]) (by
      intro d hd
      rcases List.mem_append.1 hd with hd | hd
      · exact h d hd
      · obtain rfl := List.mem_singleton.1 hd
        exact ⟨rDig_length bs s, rDig_lt bs s hb⟩)
    refine ⟨ih.1, ih.2.trans ?_⟩
    simp
    omega

theorem rhH_ok (bs : List Nat) (hb : ∀ x ∈ bs, x < 256) (s : RSt) : (rhH bs s).Ok :=
  ⟨Nat.lt_of_lt_of_eq (rNum_lt bs _ 8 hb) (by decide), Nat.lt_of_lt_of_eq (rNum_lt bs _ 8 hb) (by decide), rDig_length _ _, rDig_lt _ _ hb, rDig_length _ _, rDig_lt _ _ hb⟩

theorem rpR_ok (bs : List Nat) (hb : ∀ x ∈ bs, x < 256) : (rpR bs).Ok := by
  refine ⟨Nat.lt_of_lt_of_eq (rNum_lt bs _ 8 hb) (by decide), rBytes_lt bs _ _ hb, (digGo_ok bs hb _ _ [] (fun d hd => by cases hd)).1, ?_, ?_⟩
  · show (rp8 bs).2.Ok
    unfold rp8
    split
    · exact rhH_ok bs hb _
    · exact Hd.zero_Ok
  · show (rp9 bs).2.Ok
    unfold rp9
    split
    · exact (tokDec_Ok _ (rBytes_lt bs _ _ hb)).1
    · exact zeroTok_Ok

theorem zeroRsp_ok : zeroRsp.Ok := ⟨by decide, fun x hx => (nomatch hx), fun x hx => (nomatch hx), Hd.zero_Ok, zeroTok_Ok⟩

theorem rspDec_ok (bs : List Nat) (hb : ∀ x ∈ bs, x < 256) : (rspDec bs).2.Ok := by
  unfold rspDec
  split
  · exact rpR_ok bs hb
  · exact zeroRsp_ok

end Go.Proofs.YtbkdccamimakoaaDoor

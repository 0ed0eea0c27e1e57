/- What graph.heights computes, as plain functions: a map of ints by passes over all things, till a pass adds nothing; and what is known of it. No condition, no program. -/
import Derived.Test.YtdknnekkbhpjlaaIM
import Derived.IntWalk
set_option linter.unusedVariables false
set_option linter.unusedSimpArgs false
namespace Go.Proofs.Ytdknnekkbhpjlaa.H

abbrev Mp := Int → Option Int
def lvF (M : Mp) (a : Int) (l : List Int) : Int := l.foldl (fun a j => if a < (M j).getD 0 + 1 then (M j).getD 0 + 1 else a) a
def rdF (M : Mp) (l : List Int) : Bool := l.all fun j => (M j).isSome
theorem lvF_snoc (M : Mp) (a : Int) (l : List Int) (j : Int) : lvF M a (l ++ [j]) = if lvF M a l < (M j).getD 0 + 1 then (M j).getD 0 + 1 else lvF M a l := by unfold lvF; rw [List.foldl_append]; rfl
theorem rdF_snoc (M : Mp) (l : List Int) (j : Int) : rdF M (l ++ [j]) = (rdF M l && (M j).isSome) := by simp [rdF]
/-- What one needs. -/
def nd (needs : List (List Int)) (k : Nat) : List Int := needs.getD k []
def addB (needs : List (List Int)) (M : Mp) (k : Nat) : Bool := !(M k).isSome && rdF M (nd needs k)
def stepM (needs : List (List Int)) (M : Mp) (k : Nat) : Mp := if addB needs M k = true then IM.upd M k (some (lvF M 0 (nd needs k))) else M
def passM (needs : List (List Int)) (M : Mp) : Nat → Mp
  | 0 => M
  | k + 1 => stepM needs (passM needs M k) k
def passB (needs : List (List Int)) (M : Mp) : Nat → Bool
  | 0 => false
  | k + 1 => passB needs M k || addB needs (passM needs M k) k
def iter (needs : List (List Int)) : Nat → Mp → Mp
  | 0, M => M
  | f + 1, M => if passB needs M needs.length = true then iter needs f (passM needs M needs.length) else M
/-- The heights. -/
def hts (needs : List (List Int)) : Mp := iter needs (needs.length + 1) (fun _ => none)
/-- How many of the first n have one. -/
def cnt (M : Mp) : Nat → Nat
  | 0 => 0
  | n + 1 => cnt M n + if (M (n : Int)).isSome = true then 1 else 0
theorem cnt_le (M : Mp) : ∀ n, cnt M n ≤ n
  | 0 => Nat.le_refl _
  | n + 1 => by have := cnt_le M n; simp only [cnt]; split <;> omega
theorem cnt_full {M : Mp} : ∀ {n : Nat}, cnt M n = n → ∀ k, k < n → (M (k : Int)).isSome = true
  | 0, _, k, hk => absurd hk (Nat.not_lt_zero _)
  | n + 1, h, k, hk => by
    have h1 := cnt_le M n
    simp only [cnt] at h
    split at h
    · next hs =>
      by_cases e : k = n
      · subst e; exact hs
      · exact cnt_full (n := n) (by omega) k (by omega)
    · omega
theorem cnt_all {M : Mp} : ∀ {n : Nat}, (∀ k, k < n → (M (k : Int)).isSome = true) → cnt M n = n
  | 0, _ => rfl
  | n + 1, h => by
    simp only [cnt]
    rw [cnt_all (n := n) (fun k hk => h k (by omega)), if_pos (h n (by omega))]
theorem cnt_upd (M : Mp) (k : Nat) (v : Int) (hk : (M (k : Int)).isSome = false) : ∀ n : Nat, cnt (IM.upd M k (some v)) n = cnt M n + if k < n then 1 else 0
  | 0 => rfl
  | n + 1 => by
    have ih := cnt_upd M k v hk n
    simp only [cnt]
    rw [ih]
    unfold IM.upd
    by_cases e : k = n
    · subst e
      simp [hk]
    · have e1 : ¬ (n : Int) = (k : Int) := by omega
      have e2 : (k < n + 1) = (k < n) := by apply propext; omega
      simp only [e1, e2, if_false]
      omega
theorem cnt_none (n : Nat) : cnt (fun _ => none) n = 0 := by
  induction n with
  | zero => rfl
  | succ n ih => simp [cnt, ih]
theorem cnt_step {needs : List (List Int)} {M : Mp} {k n : Nat} (hk : k < n) : cnt (stepM needs M k) n = cnt M n + if addB needs M k = true then 1 else 0 := by
  unfold stepM
  split
  · next h =>
    have hn : (M (k : Int)).isSome = false := by
      unfold addB at h
      simp only [Bool.and_eq_true, Bool.not_eq_true'] at h
      exact h.1
    rw [cnt_upd M k _ hn n, if_pos hk]
  · simp
theorem cnt_pass {needs : List (List Int)} {M : Mp} {n : Nat} : ∀ k, k ≤ n → cnt M n + (if passB needs M k = true then 1 else 0) ≤ cnt (passM needs M k) n
  | 0, _ => by simp [passM, passB]
  | k + 1, hk => by
    have ih := cnt_pass (needs := needs) (M := M) (n := n) k (by omega)
    simp only [passM, passB]
    rw [cnt_step (by omega)]
    by_cases hp : passB needs M k = true <;> by_cases hq : addB needs (passM needs M k) k = true <;> simp [hp, hq] at * <;> omega
theorem pass_same {needs : List (List Int)} {M : Mp} : ∀ k, passB needs M k = false → passM needs M k = M
  | 0, _ => rfl
  | k + 1, h => by
    simp only [passB, Bool.or_eq_false_iff] at h
    have ih := pass_same k h.1
    simp only [passM, stepM]
    rw [h.2, if_neg (by simp)]
    exact ih
/-- Only things have a height. -/
def Dom (n : Nat) (M : Mp) : Prop := ∀ i, (M i).isSome = true → 0 ≤ i ∧ i < n
theorem dom_step {needs : List (List Int)} {M : Mp} {k n : Nat} (h : Dom n M) (hk : k < n) : Dom n (stepM needs M k) := by
  unfold stepM
  split
  · intro i hi
    unfold IM.upd at hi
    split at hi
    · next e => subst e; omega
    · exact h i hi
  · exact h
theorem dom_pass {needs : List (List Int)} {M : Mp} {n : Nat} (h : Dom n M) : ∀ k, k ≤ n → Dom n (passM needs M k)
  | 0, _ => h
  | k + 1, hk => dom_step (dom_pass h k (by omega)) (by omega)
/-- A height is less than the number of those that have one. -/
def Lev (c : Nat) (M : Mp) : Prop := ∀ i v, M i = some v → 0 ≤ v ∧ v < c
theorem lev_none (c : Nat) : Lev c (fun _ => none) := fun i v h => by cases h
theorem lev_getD {c : Nat} {M : Mp} (h : Lev c M) (j : Int) : 0 ≤ (M j).getD 0 ∧ (M j).getD 0 ≤ c := by
  cases e : M j with
  | none => simp
  | some v => have := h j v e; simp; omega
theorem lvF_bd {c : Nat} {M : Mp} (h : Lev c M) (l : List Int) : ∀ a : Int, 0 ≤ a → a ≤ c + 1 → 0 ≤ lvF M a l ∧ lvF M a l ≤ c + 1 := by
  induction l with
  | nil => intro a h0 h1; exact ⟨h0, h1⟩
  | cons j l ih =>
    intro a h0 h1
    have hj := lev_getD h j
    have e : lvF M a (j :: l) = lvF M (if a < (M j).getD 0 + 1 then (M j).getD 0 + 1 else a) l := rfl
    rw [e]
    split
    · exact ih _ (by omega) (by omega)
    · exact ih _ h0 h1
theorem lvF_rd {c : Nat} {M : Mp} (h : Lev c M) (l : List Int) : ∀ a : Int, 0 ≤ a → a ≤ c → rdF M l = true → 0 ≤ lvF M a l ∧ lvF M a l ≤ c := by
  induction l with
  | nil => intro a h0 h1 _; exact ⟨h0, h1⟩
  | cons j l ih =>
    intro a h0 h1 hr
    have hr' : (M j).isSome = true ∧ rdF M l = true := by simpa [rdF] using hr
    obtain ⟨v, hv⟩ := Option.isSome_iff_exists.1 hr'.1
    have hj := h j v hv
    have e : lvF M a (j :: l) = lvF M (if a < (M j).getD 0 + 1 then (M j).getD 0 + 1 else a) l := rfl
    rw [e, hv, Option.getD_some]
    split
    · exact ih _ (by omega) (by omega) hr'.2
    · exact ih _ h0 h1 hr'.2
theorem addB_true {needs : List (List Int)} {M : Mp} {k : Nat} (h : addB needs M k = true) : (M (k : Int)).isSome = false ∧ rdF M (nd needs k) = true := by
  unfold addB at h
  simpa only [Bool.and_eq_true, Bool.not_eq_true'] using h
theorem lev_step {needs : List (List Int)} {M : Mp} {k n : Nat} (h : Lev (cnt M n) M) (hk : k < n) : Lev (cnt (stepM needs M k) n) (stepM needs M k) := by
  rw [cnt_step hk]
  unfold stepM
  split
  · next ha =>
    intro i v hv
    unfold IM.upd at hv
    split at hv
    · obtain rfl := Option.some.inj hv
      have := lvF_rd h (nd needs k) 0 (by omega) (by omega) (addB_true ha).2
      omega
    · have := h i v hv
      omega
  · exact h
theorem lev_pass {needs : List (List Int)} {M : Mp} {n : Nat} (h : Lev (cnt M n) M) : ∀ k, k ≤ n → Lev (cnt (passM needs M k) n) (passM needs M k)
  | 0, _ => h
  | k + 1, hk => lev_step (lev_pass h k (by omega)) (by omega)
theorem iter_lev {needs : List (List Int)} : ∀ (f : Nat) (M : Mp), Dom needs.length M → Lev (cnt M needs.length) M → Dom needs.length (iter needs f M) ∧ Lev (cnt (iter needs f M) needs.length) (iter needs f M)
  | 0, M, hd, h => ⟨hd, h⟩
  | f + 1, M, hd, h => by
    simp only [iter]
    split
    · exact iter_lev f _ (dom_pass hd _ (Nat.le_refl _)) (lev_pass h _ (Nat.le_refl _))
    · exact ⟨hd, h⟩
theorem hts_lev (needs : List (List Int)) : Lev (cnt (hts needs) needs.length) (hts needs) := (iter_lev _ _ (fun i h => by cases h) (lev_none _)).2
theorem hts_dom (needs : List (List Int)) : Dom needs.length (hts needs) := (iter_lev _ _ (fun i h => by cases h) (lev_none _)).1
end Go.Proofs.Ytdknnekkbhpjlaa.H

/- What fold computes, as plain functions on numbers and lists: an operation on two words, an instruction's value, an instruction folded, a block folded. No condition, no program. -/
import Derived.IntWalk
import Derived.Laws.BitsLemmas
import Derived.OpenShut
namespace Go.Proofs.Ytggchfdjpfodfaa.Sp

/-- An operation on two words: the word, and the error's number. -/
def app (op a b : Int) : Int × Int :=
  if op = 4 then ((a + b) % 4294967296, 0) else if op = 5 then ((a - b) % 4294967296, 0) else if op = 6 then ((a * b) % 4294967296, 0)
  else if op = 7 then (if b = 0 then (0, 14) else (a.tdiv b % 4294967296, 0)) else if op = 8 then (if b = 0 then (0, 14) else (a % b, 0))
  else if op = 9 then (Go.bits .and .u32 a b, 0) else if op = 10 then (Go.bits .or .u32 a b, 0) else if op = 11 then (Go.bits .xor .u32 a b, 0)
  else if op = 12 then (a * 2 ^ min b.toNat 32 % 4294967296, 0) else if op = 13 then (a / 2 ^ min b.toNat 32, 0)
  else if op = 14 then (if a < b then 1 else 0, 0) else if op = 15 then (if a = b then 1 else 0, 0) else (0, 1)

/-- An instruction: Op, D, A, B, K, Base, Size, N are its fields, in this order. What it sets, if that is known. -/
def valueP (M : Int → Option Int) (op a c k nn : Int) : Int × Bool :=
  if op = 1 then (nn, true) else if op = 2 then ((M a).getD 0, (M a).isSome)
  else if op = 3 ∧ (M a).isSome = true ∧ (M c).isSome = true then ((app k ((M a).getD 0) ((M c).getD 0)).1, (app k ((M a).getD 0) ((M c).getD 0)).2 == 0) else (0, false)
def W32 (x : Int) : Prop := 0 ≤ x ∧ x ≤ 4294967295
def Words (M : Int → Option Int) : Prop := ∀ i v, M i = some v → W32 v
theorem Words.getD {M : Int → Option Int} (h : Words M) (i : Int) : W32 ((M i).getD 0) := by
  cases e : M i with
  | none => exact ⟨by simp, by simp⟩
  | some v => exact h i v e

theorem wf32 {x : Int} (h : (Lit.int .u32 x).wf = true) : W32 x := by
  simp only [Lit.wf, Bool.and_eq_true, decide_eq_true_eq] at h
  exact h
theorem w0 : W32 0 := ⟨by simp, by simp⟩
theorem w1 : W32 1 := ⟨by simp, by simp⟩
theorem app_word (op : Int) {a b : Int} (ha : W32 a) (hb : W32 b) : W32 (app op a b).1 := by
  obtain ⟨a0, a1⟩ := ha
  obtain ⟨b0, b1⟩ := hb
  have hp : (0 : Int) ≤ 2 ^ min b.toNat 32 := Int.pow_nonneg (by simp)
  have m : ∀ x : Int, W32 (x % 4294967296) := fun x => ⟨by omega, by omega⟩
  unfold app
  by_cases h : op = 4; · rw [if_pos h]; exact m _
  rw [if_neg h]; clear h
  by_cases h : op = 5; · rw [if_pos h]; exact m _
  rw [if_neg h]; clear h
  by_cases h : op = 6; · rw [if_pos h]; exact m _
  rw [if_neg h]; clear h
  by_cases h : op = 7
  · rw [if_pos h]
    by_cases hz : b = 0
    · rw [if_pos hz]; exact w0
    · rw [if_neg hz]; exact m _
  rw [if_neg h]; clear h
  by_cases h : op = 8
  · rw [if_pos h]
    by_cases hz : b = 0
    · rw [if_pos hz]; exact w0
    · rw [if_neg hz]
      have h1 := Int.emod_nonneg a (b := b) hz
      have h2 := Int.emod_lt_of_pos a (b := b) (by omega)
      exact ⟨h1, by omega⟩
  rw [if_neg h]; clear h
  by_cases h : op = 9; · rw [if_pos h]; show W32 (Go.bits .and .u32 a b); exact wf32 (wf_bits _ _ _ _)
  rw [if_neg h]; clear h
  by_cases h : op = 10; · rw [if_pos h]; show W32 (Go.bits .or .u32 a b); exact wf32 (wf_bits _ _ _ _)
  rw [if_neg h]; clear h
  by_cases h : op = 11; · rw [if_pos h]; show W32 (Go.bits .xor .u32 a b); exact wf32 (wf_bits _ _ _ _)
  rw [if_neg h]; clear h
  by_cases h : op = 12; · rw [if_pos h]; exact m _
  rw [if_neg h]; clear h
  by_cases h : op = 13
  · rw [if_pos h]; exact ⟨Int.ediv_nonneg a0 hp, Int.le_trans (Int.ediv_le_self _ a0) a1⟩
  rw [if_neg h]; clear h
  by_cases h : op = 14
  · rw [if_pos h]
    by_cases hz : a < b
    · rw [if_pos hz]; exact w1
    · rw [if_neg hz]; exact w0
  rw [if_neg h]; clear h
  by_cases h : op = 15
  · rw [if_pos h]
    by_cases hz : a = b
    · rw [if_pos hz]; exact w1
    · rw [if_neg hz]; exact w0
  rw [if_neg h]; exact w0
end Go.Proofs.Ytggchfdjpfodfaa.Sp

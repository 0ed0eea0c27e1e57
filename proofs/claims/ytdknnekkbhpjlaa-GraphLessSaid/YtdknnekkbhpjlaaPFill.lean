/- What two nested loops note down of rows by height: of each thing its height; and fewer rows where no thing is higher. Plain lists. -/
import Derived.Test.YtdknnekkbhpjlaaPLess
set_option linter.unusedVariables false
set_option linter.unusedSimpArgs false
namespace Go.Proofs.Ytdknnekkbhpjlaa.H
open Go.RowKit Go.Proofs.YtdknnekkbhpjlaaW.PrintWords Go.Proofs.YtdknnekkbhpjlaaW.PrintLast Go.Proofs.YtdknnekkbhpjlaaW.PrintMore Go.Proofs.Ytdknnekkbhpjlaa.G

theorem lvTo_len_succ (M : Mp) (n : Nat) : (lvTo M (n + 1)).length = max (lvTo M n).length (hH M (n : Int) + 1) := by
  simp only [lvTo, lvStep, List.length_set]
  rw [padTo_length]
  rfl
theorem lvTo_len_le {M M' : Mp} : ∀ n, (∀ i : Nat, i < n → hH M' (i : Int) ≤ hH M (i : Int)) → (lvTo M' n).length ≤ (lvTo M n).length
  | 0, _ => by simp [lvTo]
  | n + 1, h => by
    rw [lvTo_len_succ, lvTo_len_succ]
    have := lvTo_len_le n (fun i hi => h i (by omega))
    have := h n (by omega)
    omega
theorem lvTo_lt {M : Mp} : ∀ {n : Nat} (i : Nat), i < n → hH M (i : Int) < (lvTo M n).length
  | n + 1, i, hi => by
    rw [lvTo_len_succ]
    by_cases e : i = n
    · subst e; omega
    · have := lvTo_lt (M := M) (n := n) i (by omega)
      omega
/-- Of all things below height t the height stands in old, and of the first j of those of height t. -/
def Fill (M : Mp) (n t j : Nat) (old : List Int) : Prop :=
  old.length = n ∧ (∀ i : Nat, i < n → hH M (i : Int) < t → rd old (i : Int) = hH M (i : Int)) ∧ ∀ q : Nat, q < j → rd old (rd (rowsOf M n t) (q : Int)) = t
theorem fill_start (M : Mp) (n : Nat) (old : List Int) (h : old.length = n) : Fill M n 0 0 old := ⟨h, fun i _ h => by omega, fun q h => by omega⟩
theorem rowsOf_le (M : Mp) (n t : Nat) : (rowsOf M n t).length ≤ n := by
  unfold rowsOf
  rw [List.length_map]
  exact Nat.le_trans (List.length_filter_le _ _) (by simp)
theorem row_rd {M : Mp} {n t q : Nat} (h : q < (rowsOf M n t).length) : 0 ≤ rd (rowsOf M n t) (q : Int) ∧ rd (rowsOf M n t) (q : Int) < n ∧ hH M (rd (rowsOf M n t) (q : Int)) = t := mem_rowsOf.1 (rd_mem h)
theorem rd_set {old : List Int} {a : Nat} {v : Int} {x : Int} (hx : 0 ≤ x) (ha : a < old.length) : rd (old.set a v) x = if x = (a : Int) then v else rd old x := by
  unfold rd
  by_cases e : x = (a : Int)
  · subst e
    simp [ha]
  · rw [if_neg e, List.getD_eq_getElem?_getD, List.getD_eq_getElem?_getD, List.getElem?_set_ne (by omega)]
theorem fill_step {M : Mp} {n t j : Nat} {old : List Int} (h : Fill M n t j old) (hj : j < (rowsOf M n t).length) : Fill M n t (j + 1) (old.set (rd (rowsOf M n t) (j : Int)).toNat (t : Int)) := by
  obtain ⟨h1, h2, h3⟩ := h
  obtain ⟨r0, r1, r2⟩ := row_rd hj
  generalize hx : rd (rowsOf M n t) (j : Int) = x at *
  obtain ⟨a, rfl⟩ : ∃ a : Nat, x = a := ⟨x.toNat, by omega⟩
  rw [Int.toNat_natCast]
  refine ⟨by simp [h1], fun i hi hh => ?_, fun q hq => ?_⟩
  · rw [rd_set (by omega) (by omega)]
    split
    · next e =>
      have : hH M (i : Int) = t := by rw [e]; exact r2
      omega
    · exact h2 i hi hh
  · by_cases e : q = j
    · subst e
      rw [hx, rd_set (by omega) (by omega), if_pos rfl]
    · have hq' : q < j := by omega
      have := (row_rd (M := M) (n := n) (t := t) (q := q) (by omega)).1
      rw [rd_set this (by omega)]
      split
      · rfl
      · exact h3 q hq'
theorem fill_next {M : Mp} {n t : Nat} {old : List Int} (h : Fill M n t (rowsOf M n t).length old) : Fill M n (t + 1) 0 old := by
  obtain ⟨h1, h2, h3⟩ := h
  refine ⟨h1, fun i hi hh => ?_, fun q hq => by omega⟩
  by_cases e : hH M (i : Int) = t
  · have hm : (i : Int) ∈ rowsOf M n t := mem_rowsOf.2 ⟨by omega, by omega, e⟩
    obtain ⟨q, hq, he⟩ := List.getElem_of_mem hm
    have := h3 q hq
    rw [rd_get hq, he] at this
    rw [this, e]
  · exact h2 i hi (by omega)
theorem fill_end {M : Mp} {n : Nat} {old : List Int} (h : Fill M n (lvTo M n).length 0 old) {i : Nat} (hi : i < n) : rd old (i : Int) = hH M (i : Int) := h.2.1 i hi (lvTo_lt i hi)
end Go.Proofs.Ytdknnekkbhpjlaa.H

/- The plain laws behind FoldTwice: folding again changes nothing; and what is changed is a copy or an operation, to a constant. Condition: the instructions may be. -/
import Derived.Test.YtggchfdjpfodfaaHArg
set_option linter.unusedVariables false
set_option linter.unusedSimpArgs false
namespace Go.Proofs.Ytggchfdjpfodfaa.H
open Go.RowKit Go.Proofs.YtggchfdjpfodfaaW.PrintWords Go.Proofs.YtggchfdjpfodfaaW.PrintLast Go.Proofs.YtggchfdjpfodfaaW.PrintMore Go.Proofs.Ytggchfdjpfodfaa.PFoldOf
open Sp

theorem foldP_again (M : Int → Option Int) (t : S48) : foldP M (foldP M t).1 = foldP M t := by
  by_cases h1 : setsP t.f0 t.f1 < 0
  · have e : (foldP M t).1 = t := by unfold foldP; rw [if_pos h1]
    rw [e]
  · by_cases h2 : (valueP M t.f0 t.f2 t.f3 t.f4 t.f7).2 = true
    · have e : foldP M t = (⟨1, t.f1, 0, 0, 0, 0, 0, (valueP M t.f0 t.f2 t.f3 t.f4 t.f7).1⟩, IM.upd M t.f1 (some (valueP M t.f0 t.f2 t.f3 t.f4 t.f7).1)) := by unfold foldP; rw [if_neg h1, if_pos h2]
      have hd : ¬ t.f1 < 0 := by
        intro hh
        apply h1
        unfold setsP
        split
        · exact hh
        · omega
      rw [e]
      generalize (valueP M t.f0 t.f2 t.f3 t.f4 t.f7).1 = v
      unfold foldP
      have hs : setsP 1 t.f1 = t.f1 := by simp [setsP]
      simp only [hs]
      rw [if_neg hd]
      simp [valueP]
    · have e : (foldP M t).1 = t := by unfold foldP; rw [if_neg h1, if_neg h2]
      rw [e]
theorem foldL_twice : ∀ (l : List S48) (M : Int → Option Int), foldL M (foldL M l) = foldL M l := by
  intro l
  induction l with
  | nil => intro M; rfl
  | cons t l ih =>
    intro M
    simp only [foldL]
    rw [foldP_again, ih]
theorem foldB_twice (b : S45) : foldB (foldB b) = foldB b := by
  simp only [foldB, foldL_twice]
theorem foldBs_twice (l : List S45) : (l.map foldB).map foldB = l.map foldB := by
  rw [List.map_map]
  exact List.map_congr_left (fun b _ => foldB_twice b)

theorem ok_foldP {M : Int → Option Int} (hM : Words M) {t : S48} (h : OkI t) : OkI (foldP M t).1 := by
  unfold foldP
  split
  · exact h
  · split
    · exact ⟨h.1, rfl, rfl, value_word hM h.2.2.2⟩
    · exact h
theorem ok_foldL : ∀ (l : List S48) (M : Int → Option Int), Words M → (∀ t ∈ l, OkI t) → ∀ t ∈ foldL M l, OkI t := by
  intro l
  induction l with
  | nil => intro M _ _ t ht; simp [foldL] at ht
  | cons x l ih =>
    intro M hM hl t ht
    simp only [foldL, List.mem_cons] at ht
    rcases ht with rfl | ht
    · exact ok_foldP hM (hl x (by simp))
    · exact ih _ (words_fold hM (hl x (by simp))) (fun y hy => hl y (by simp [hy])) t ht
theorem ok_foldB {l : List S45} (h : ∀ b ∈ l, ∀ t ∈ b.f0, OkI t) : ∀ b ∈ l.map foldB, ∀ t ∈ b.f0, OkI t := by
  intro b hb t ht
  obtain ⟨x, hx, rfl⟩ := List.mem_map.1 hb
  exact ok_foldL x.f0 _ (fun i v hv => by cases hv) (h x hx) t ht
theorem len_foldB {l : List S45} {n : Nat} (h : ∀ b ∈ l, b.f0.length ≤ n) : ∀ b ∈ l.map foldB, b.f0.length ≤ n := by
  intro b hb
  obtain ⟨x, hx, rfl⟩ := List.mem_map.1 hb
  have := h x hx
  rw [show (foldB x).f0.length = x.f0.length from foldL_length _ _]
  exact this

/-- What an instruction may have become. -/
def Was (x y : S48) : Prop := y = x ∨ ((x.f0 = 2 ∨ x.f0 = 3) ∧ y.f0 = 1 ∧ y.f1 = x.f1)
theorem was_foldP (M : Int → Option Int) {t : S48} {number regs words : Int} (hf : fitsT number regs words t = true) : Was t (foldP M t).1 := by
  unfold foldP
  split
  · exact .inl rfl
  · split
    · next h =>
      obtain ⟨op, d, a, c, k, ba, sz, nn⟩ := t
      dsimp only at h ⊢
      unfold valueP at h
      split at h
      · next h1 =>
        subst h1
        simp only [fitsT, fitsB, if_true, Bool.and_eq_true, beq_iff_eq] at hf
        obtain ⟨_, ⟨⟨⟨⟨rfl, rfl⟩, rfl⟩, rfl⟩, rfl⟩⟩ := hf
        exact .inl (by simp [valueP])
      · split at h
        · next h2 => exact .inr ⟨.inl h2, rfl, rfl⟩
        · split at h
          · next h3 => exact .inr ⟨.inr h3.1, rfl, rfl⟩
          · cases h
    · exact .inl rfl
theorem was_foldL {number regs words : Int} : ∀ (l : List S48) (M : Int → Option Int), (∀ t ∈ l, fitsT number regs words t = true) → ∀ j : Nat, j < l.length → Was (rd_T48 l (j : Int)) (rd_T48 (foldL M l) (j : Int)) := by
  intro l
  induction l with
  | nil => intro M _ j h; simp at h
  | cons x l ih =>
    intro M hl j hj
    match j with
    | 0 => exact was_foldP M (hl x (by simp))
    | j + 1 =>
      have h := ih (foldP M x).2 (fun t ht => hl t (by simp [ht])) j (by simpa using hj)
      simpa [rd_T48, foldL] using h
end Go.Proofs.Ytggchfdjpfodfaa.H

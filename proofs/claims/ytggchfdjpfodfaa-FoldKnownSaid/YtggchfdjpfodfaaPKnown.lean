/- The plain law behind FoldKnown: two constants and operations of what was set last, folded, are the constants. Condition: the constants are words. -/
import Derived.Test.YtggchfdjpfodfaaHOf
namespace Go.Proofs.Ytggchfdjpfodfaa.H
open Go.Proofs.Ytggchfdjpfodfaa.PFoldOf Sp

def binK (o : Int) : S48 := ⟨3, 0, 0, 1, 4 + o % 12, 0, 0, 0⟩
def conK (v : Int) : S48 := ⟨1, 0, 0, 0, 0, 0, 0, v⟩
/-- What the law wants behind the two constants. -/
def wantR (b : Int) : Bool → Int → List Int → List S48
  | _, _, [] => []
  | kn, x, o :: r => if kn && ((app (4 + o % 12) x b).2 == 0) then conK (app (4 + o % 12) x b).1 :: wantR b true (app (4 + o % 12) x b).1 r else binK o :: wantR b false x r
theorem fold_want (b : Int) : ∀ (os : List Int) (M : Int → Option Int) (kn : Bool) (x : Int), M 1 = some b → (kn = true → M 0 = some x) → (kn = false → M 0 = none) → foldL M (os.map binK) = wantR b kn x os := by
  intro os
  induction os with
  | nil => intros; rfl
  | cons o r ih =>
    intro M kn x h1 h2 h3
    simp only [List.map_cons, foldL, wantR]
    cases kn with
    | false =>
      have h0 := h3 rfl
      have e : foldP M (binK o) = (binK o, IM.upd M 0 none) := by
        simp [foldP, setsP, valueP, binK, h0, h1]
      rw [e]
      simp only [Bool.false_and, Bool.false_eq_true, ↓reduceIte]
      rw [ih (IM.upd M 0 none) false x (by simp [IM.upd, h1]) (by simp) (by simp [IM.upd])]
    | true =>
      have h0 := h2 rfl
      simp only [Bool.true_and]
      by_cases he : (app (4 + o % 12) x b).2 = 0
      · have e : foldP M (binK o) = (conK (app (4 + o % 12) x b).1, IM.upd M 0 (some (app (4 + o % 12) x b).1)) := by
          simp [foldP, setsP, valueP, binK, conK, h0, h1, he]
        rw [e, if_pos (by simp [he])]
        rw [ih (IM.upd M 0 (some (app (4 + o % 12) x b).1)) true (app (4 + o % 12) x b).1 (by simp [IM.upd, h1]) (by simp [IM.upd]) (by simp)]
      · have e : foldP M (binK o) = (binK o, IM.upd M 0 none) := by
          simp [foldP, setsP, valueP, binK, h0, h1, he]
        rw [e, if_neg (by simp [he])]
        rw [ih (IM.upd M 0 none) false x (by simp [IM.upd, h1]) (by simp) (by simp [IM.upd])]
def lK (a b : Int) (os : List Int) : List S48 := ⟨1, 0, 0, 0, 0, 0, 0, a⟩ :: ⟨1, 1, 0, 0, 0, 0, 0, b⟩ :: os.map binK
def wK (a b : Int) (os : List Int) : List S48 := ⟨1, 0, 0, 0, 0, 0, 0, a⟩ :: ⟨1, 1, 0, 0, 0, 0, 0, b⟩ :: wantR b true a os
/-- The plain law of FoldKnown. -/
theorem known_law (a b : Int) (os : List Int) : [(⟨lK a b os, 3, 0, 0, 0⟩ : S45)].map foldB = [⟨wK a b os, 3, 0, 0, 0⟩] := by
  simp only [List.map_cons, List.map_nil, foldB, lK, wK, foldL]
  have e1 : foldP (fun _ => none) ⟨1, 0, 0, 0, 0, 0, 0, a⟩ = (⟨1, 0, 0, 0, 0, 0, 0, a⟩, IM.upd (fun _ => none) 0 (some a)) := rfl
  rw [e1]
  have e2 : foldP (IM.upd (fun _ => none) 0 (some a)) ⟨1, 1, 0, 0, 0, 0, 0, b⟩ = (⟨1, 1, 0, 0, 0, 0, 0, b⟩, IM.upd (IM.upd (fun _ => none) 0 (some a)) 1 (some b)) := rfl
  simp only [e2]
  rw [fold_want b os _ true a rfl (fun _ => rfl) (by simp)]
end Go.Proofs.Ytggchfdjpfodfaa.H

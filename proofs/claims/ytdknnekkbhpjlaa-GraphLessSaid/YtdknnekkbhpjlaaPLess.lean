/- Where a need is struck, no thing is higher than it was, and all still have a height. Plain lists. -/
import Derived.Test.YtdknnekkbhpjlaaPOrd
set_option linter.unusedVariables false
set_option linter.unusedSimpArgs false
namespace Go.Proofs.Ytdknnekkbhpjlaa.H
open Go.RowKit Go.Proofs.YtdknnekkbhpjlaaW.PrintWords Go.Proofs.YtdknnekkbhpjlaaW.PrintLast Go.Proofs.YtdknnekkbhpjlaaW.PrintMore Go.Proofs.Ytdknnekkbhpjlaa.G

theorem less_hts {needs less : List (List Int)} (hlen : less.length = needs.length) (hsub : ∀ i, ∀ j ∈ nd less i, j ∈ nd needs i) (hR : Right needs) :
    ∀ (f i : Nat) (v : Int), v < f → i < needs.length → hts needs (i : Int) = some v → ∃ u, hts less (i : Int) = some u ∧ u ≤ v := by
  intro f
  induction f with
  | zero =>
    intro i v hv hi h
    have := (hts_lev needs _ _ h).1
    omega
  | succ f ih =>
    intro i v hv hi h
    have hv0 := (hts_lev needs _ _ h).1
    have hneed : ∀ j ∈ nd less i, ∃ u, hts less j = some u ∧ u + 1 ≤ v := fun j hj => by
      obtain ⟨u, hu, huv⟩ := need_lower h (hsub i j hj)
      have hjr := hR _ (nd_mem hi) j (hsub i j hj)
      have e : ((j.toNat : Nat) : Int) = j := Int.toNat_of_nonneg hjr.1
      obtain ⟨u', h1, h2⟩ := ih j.toNat u (by omega) (by omega) (by rw [e]; exact hu)
      rw [e] at h1
      exact ⟨u', h1, by omega⟩
    have hs := some_needs (needs := less) (k := i) (by omega) (fun j hj => by obtain ⟨u, e, _⟩ := hneed j hj; rw [e]; rfl)
    obtain ⟨u, hu⟩ := Option.isSome_iff_exists.1 hs
    refine ⟨u, hu, ?_⟩
    rw [(good_hts less i u hu).2]
    exact lvF_le hv0 (fun j hj => by obtain ⟨u', e, h2⟩ := hneed j hj; rw [e]; exact h2)
/-- Row at without its need out. -/
def lessP (needs : List (List Int)) (a o : Nat) : List (List Int) := needs.set a ((nd needs a).take o ++ (nd needs a).drop (o + 1))
theorem lessP_len (needs : List (List Int)) (a o : Nat) : (lessP needs a o).length = needs.length := by simp [lessP]
theorem lessP_nd {needs : List (List Int)} {a o : Nat} (ha : a < needs.length) (i : Nat) : nd (lessP needs a o) i = if a = i then (nd needs a).take o ++ (nd needs a).drop (o + 1) else nd needs i := nd_set _ _ _ _ ha
theorem lessP_sub {needs : List (List Int)} {a o : Nat} (ha : a < needs.length) : ∀ i, ∀ j ∈ nd (lessP needs a o) i, j ∈ nd needs i := fun i j hj => by
  rw [lessP_nd ha] at hj
  split at hj
  · next e =>
    subst e
    rcases List.mem_append.1 hj with h | h
    · exact List.mem_of_mem_take h
    · exact List.mem_of_mem_drop h
  · exact hj
theorem mem_nd' {needs : List (List Int)} {l : List Int} (h : l ∈ needs) : ∃ i, i < needs.length ∧ l = nd needs i := by
  obtain ⟨i, hi, rfl⟩ := List.getElem_of_mem h
  exact ⟨i, hi, by simp [nd, hi]⟩
theorem lessP_right {needs : List (List Int)} {a o : Nat} (ha : a < needs.length) (hR : Right needs) : Right (lessP needs a o) := fun l hl j hj => by
  obtain ⟨i, hi, rfl⟩ := mem_nd' hl
  rw [lessP_len] at hi ⊢
  exact hR _ (nd_mem hi) j (lessP_sub ha i j hj)
theorem lessP_rightB {needs : List (List Int)} {a o : Nat} (ha : a < needs.length) (hb : rightB needs = true) : rightB (lessP needs a o) = true := by
  have h := lessP_right (o := o) ha (rightB_true hb)
  unfold rightB
  rw [List.all_eq_true]
  intro l hl
  rw [List.all_eq_true]
  intro j hj
  have := h l hl j hj
  unfold inB
  exact decide_eq_true this
theorem lessP_lens {needs : List (List Int)} {a o : Nat} (ha : a < needs.length) (hL : Lens needs) : Lens (lessP needs a o) := by
  refine ⟨by rw [lessP_len]; exact hL.1, fun l hl => ?_⟩
  obtain ⟨i, hi, rfl⟩ := mem_nd' hl
  rw [lessP_len] at hi
  rw [lessP_nd ha]
  have h1 := hL.2 _ (nd_mem hi)
  have h2 := hL.2 _ (nd_mem ha)
  split
  · rw [List.length_append, List.length_take, List.length_drop]; omega
  · exact h1
/-- All still have a height, no higher. -/
theorem lessP_hts {needs : List (List Int)} {a o : Nat} (ha : a < needs.length) (hb : rightB needs = true) (hfull : cnt (hts needs) needs.length = needs.length) :
    cnt (hts (lessP needs a o)) (lessP needs a o).length = (lessP needs a o).length ∧ ∀ i : Nat, i < needs.length → hH (hts (lessP needs a o)) (i : Int) ≤ hH (hts needs) (i : Int) := by
  have key : ∀ i : Nat, i < needs.length → ∃ u v, hts (lessP needs a o) (i : Int) = some u ∧ hts needs (i : Int) = some v ∧ u ≤ v := fun i hi => by
    obtain ⟨v, hv⟩ := Option.isSome_iff_exists.1 (cnt_full hfull i hi)
    have hv0 := (hts_lev needs _ _ hv).1
    obtain ⟨u, h1, h2⟩ := less_hts (lessP_len needs a o) (lessP_sub ha) (rightB_true hb) (v.toNat + 1) i v (by omega) hi hv
    exact ⟨u, v, h1, hv, h2⟩
  refine ⟨cnt_all fun i hi => ?_, fun i hi => ?_⟩
  · rw [lessP_len] at hi
    obtain ⟨u, v, h1, _⟩ := key i hi
    rw [h1]
    rfl
  · obtain ⟨u, v, h1, h2, h3⟩ := key i hi
    unfold hH
    rw [h1, h2]
    show u.toNat ≤ v.toNat
    omega
end Go.Proofs.Ytdknnekkbhpjlaa.H

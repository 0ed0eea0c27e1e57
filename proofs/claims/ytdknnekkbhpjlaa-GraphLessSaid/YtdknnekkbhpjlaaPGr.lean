/- What is known of the heights when no pass adds one more: a thing has one just if all that it needs have one, and it is one more than theirs. No condition, no program. -/
import Derived.Test.YtdknnekkbhpjlaaHCircle
set_option linter.unusedVariables false
set_option linter.unusedSimpArgs false
namespace Go.Proofs.Ytdknnekkbhpjlaa.H
open Go.RowKit Go.Proofs.YtdknnekkbhpjlaaW.PrintWords Go.Proofs.YtdknnekkbhpjlaaW.PrintLast Go.Proofs.YtdknnekkbhpjlaaW.PrintMore Go.Proofs.Ytdknnekkbhpjlaa.G

theorem lvF_congr {M M' : Mp} {l : List Int} (h : ∀ j ∈ l, M j = M' j) : ∀ a, lvF M a l = lvF M' a l := by
  induction l with
  | nil => intro a; rfl
  | cons j l ih =>
    intro a
    have e : ∀ M : Mp, lvF M a (j :: l) = lvF M (if a < (M j).getD 0 + 1 then (M j).getD 0 + 1 else a) l := fun _ => rfl
    rw [e, e, h j (by simp)]
    exact ih (fun x hx => h x (by simp [hx])) _
theorem rdF_true {M : Mp} {l : List Int} : rdF M l = true ↔ ∀ j ∈ l, (M j).isSome = true := by simp [rdF]
/-- Each height is one more than those of what is needed. -/
def Good (needs : List (List Int)) (M : Mp) : Prop := ∀ (i : Nat) v, M (i : Int) = some v → rdF M (nd needs i) = true ∧ v = lvF M 0 (nd needs i)
theorem good_step {needs : List (List Int)} {M : Mp} {k : Nat} (h : Good needs M) : Good needs (stepM needs M k) := by
  unfold stepM
  split
  · next ha =>
    obtain ⟨h1, h2⟩ := addB_true ha
    have hne : ∀ {l : List Int}, rdF M l = true → ∀ j ∈ l, M j = IM.upd M k (some (lvF M 0 (nd needs k))) j := by
      intro l hl j hj
      have := rdF_true.1 hl j hj
      unfold IM.upd
      rw [if_neg]
      rintro rfl
      rw [h1] at this
      cases this
    have hrd : ∀ {l : List Int}, rdF M l = true → rdF (IM.upd M k (some (lvF M 0 (nd needs k)))) l = true := fun hl => rdF_true.2 (fun j hj => by rw [← hne hl j hj]; exact rdF_true.1 hl j hj)
    intro i v hv
    by_cases e : (i : Int) = k
    · obtain rfl : i = k := by omega
      unfold IM.upd at hv
      rw [if_pos rfl] at hv
      obtain rfl := Option.some.inj hv
      exact ⟨hrd h2, lvF_congr (hne h2) 0⟩
    · have hv' : M (i : Int) = some v := by unfold IM.upd at hv; rw [if_neg e] at hv; exact hv
      obtain ⟨h3, h4⟩ := h i v hv'
      exact ⟨hrd h3, h4.trans (lvF_congr (hne h3) 0)⟩
  · exact h
theorem good_pass {needs : List (List Int)} {M : Mp} (h : Good needs M) : ∀ k, Good needs (passM needs M k)
  | 0 => h
  | k + 1 => good_step (good_pass h k)
theorem good_iter {needs : List (List Int)} : ∀ (f : Nat) (M : Mp), Good needs M → Good needs (iter needs f M)
  | 0, _, h => h
  | f + 1, M, h => by
    simp only [iter]
    split
    · exact good_iter f _ (good_pass h _)
    · exact h
theorem good_hts (needs : List (List Int)) : Good needs (hts needs) := good_iter _ _ (fun i v h => by cases h)
theorem fix_iter {needs : List (List Int)} : ∀ (f : Nat) (M : Mp), needs.length < f + cnt M needs.length → passB needs (iter needs f M) needs.length = false
  | 0, M, h => by have := cnt_le M needs.length; omega
  | f + 1, M, h => by
    simp only [iter]
    split
    · next hp =>
      have := cnt_pass (needs := needs) (M := M) (n := needs.length) needs.length (Nat.le_refl _)
      rw [if_pos hp] at this
      exact fix_iter f _ (by omega)
    · next hp => simpa using hp
theorem fix_hts (needs : List (List Int)) : passB needs (hts needs) needs.length = false := fix_iter _ _ (by rw [cnt_none]; omega)
theorem pass_false {needs : List (List Int)} {M : Mp} : ∀ {n k : Nat}, passB needs M n = false → k ≤ n → passB needs M k = false
  | 0, k, h, hk => by
    have e : k = 0 := by omega
    subst e
    exact h
  | n + 1, k, h, hk => by
    by_cases e : k = n + 1
    · subst e; exact h
    · simp only [passB, Bool.or_eq_false_iff] at h
      exact pass_false h.1 (by omega)
/-- A thing without a height needs one without. -/
theorem none_needs {needs : List (List Int)} {k : Nat} (hk : k < needs.length) (h : (hts needs (k : Int)).isSome = false) : ∃ j ∈ nd needs k, (hts needs j).isSome = false := by
  have h1 := pass_false (fix_hts needs) (k := k + 1) (by omega)
  simp only [passB, Bool.or_eq_false_iff] at h1
  rw [pass_same _ h1.1] at h1
  have h2 : rdF (hts needs) (nd needs k) = false := by
    have := h1.2
    unfold addB at this
    rw [h] at this
    simpa using this
  simpa [rdF] using h2
/-- Things whose needs all have heights have one. -/
theorem some_needs {needs : List (List Int)} {k : Nat} (hk : k < needs.length) (h : ∀ j ∈ nd needs k, (hts needs j).isSome = true) : (hts needs (k : Int)).isSome = true := by
  cases e : (hts needs (k : Int)).isSome with
  | true => rfl
  | false =>
    obtain ⟨j, hj, hn⟩ := none_needs hk e
    rw [h j hj] at hn
    cases hn
theorem lvF_ge {M : Mp} {l : List Int} : ∀ {a : Int}, a ≤ lvF M a l ∧ ∀ j ∈ l, (M j).getD 0 + 1 ≤ lvF M a l := by
  induction l with
  | nil => intro a; exact ⟨Int.le_refl _, fun j hj => by cases hj⟩
  | cons x l ih =>
    intro a
    have e : lvF M a (x :: l) = lvF M (if a < (M x).getD 0 + 1 then (M x).getD 0 + 1 else a) l := rfl
    rw [e]
    by_cases hx : a < (M x).getD 0 + 1
    · rw [if_pos hx]
      obtain ⟨h1, h2⟩ := ih (a := (M x).getD 0 + 1)
      refine ⟨by omega, fun j hj => ?_⟩
      rcases List.mem_cons.1 hj with rfl | hj
      · exact h1
      · exact h2 j hj
    · rw [if_neg hx]
      obtain ⟨h1, h2⟩ := ih (a := a)
      refine ⟨h1, fun j hj => ?_⟩
      rcases List.mem_cons.1 hj with rfl | hj
      · omega
      · exact h2 j hj
/-- What is needed is lower. -/
theorem need_lower {needs : List (List Int)} {i : Nat} {v : Int} (h : hts needs (i : Int) = some v) {j : Int} (hj : j ∈ nd needs i) : ∃ u, hts needs j = some u ∧ u < v := by
  obtain ⟨h1, h2⟩ := good_hts needs i v h
  obtain ⟨u, hu⟩ := Option.isSome_iff_exists.1 (rdF_true.1 h1 j hj)
  have := (lvF_ge (M := hts needs) (l := nd needs i) (a := 0)).2 j hj
  rw [hu] at this
  exact ⟨u, hu, by simp at this; omega⟩
theorem lvF_le {M : Mp} {l : List Int} {b : Int} : ∀ {a : Int}, a ≤ b → (∀ j ∈ l, (M j).getD 0 + 1 ≤ b) → lvF M a l ≤ b := by
  induction l with
  | nil => intro a h _; exact h
  | cons x l ih =>
    intro a h hl
    have e : lvF M a (x :: l) = lvF M (if a < (M x).getD 0 + 1 then (M x).getD 0 + 1 else a) l := rfl
    rw [e]
    have := hl x (by simp)
    exact ih (by split <;> omega) (fun j hj => hl j (by simp [hj]))

theorem firstNo_none {M : Mp} : ∀ {d i : Nat}, firstNo M d i < 0 → ∀ k : Nat, i ≤ k → k < i + d → (M (k : Int)).isSome = true
  | 0, i, h, k, h1, h2 => by omega
  | d + 1, i, h, k, h1, h2 => by
    unfold firstNo at h
    split at h
    · next e =>
      by_cases ek : k = i
      · subst ek; exact e
      · exact firstNo_none h k (by omega) (by omega)
    · omega
/-- A circle: distinct things, each needing the next one, the last the first. -/
structure Ring (needs : List (List Int)) (c : List Int) : Prop where
  ne : c ≠ []
  dis : c.Nodup
  rng : ∀ x ∈ c, 0 ≤ x ∧ x < needs.length
  nxt : ∀ i : Nat, i < c.length → rd c ((i + 1) % c.length : Nat) ∈ nd needs (rd c (i : Int)).toNat
theorem rd_append_left {a b : List Int} {i : Nat} (h : i < a.length) : rd (a ++ b) (i : Int) = rd a (i : Int) := by
  unfold rd
  rw [Int.toNat_natCast, List.getD_eq_getElem?_getD, List.getD_eq_getElem?_getD, List.getElem?_append_left h]
theorem rd_append_last {a : List Int} {x : Int} : rd (a ++ [x]) (a.length : Int) = x := by simp [rd]
theorem rd_drop {l : List Int} {q i : Nat} : rd (l.drop q) (i : Int) = rd l ((q + i : Nat) : Int) := by
  unfold rd
  rw [Int.toNat_natCast, Int.toNat_natCast, List.getD_eq_getElem?_getD, List.getD_eq_getElem?_getD, List.getElem?_drop]
theorem nextC_none {M : Mp} {a : Int} : ∀ {l : List Int}, (∃ j ∈ l, (M j).isSome = false) → nextC M a l ∈ l ∧ (M (nextC M a l)).isSome = false
  | [], h => by obtain ⟨j, hj, _⟩ := h; cases hj
  | x :: l, ⟨j, hj, hn⟩ => by
    unfold nextC
    split
    · next e =>
      have : j ∈ l := by
        rcases List.mem_cons.1 hj with rfl | h
        · rw [e] at hn; cases hn
        · exact h
      obtain ⟨h1, h2⟩ := nextC_none (a := a) ⟨j, this, hn⟩
      exact ⟨List.mem_cons_of_mem _ h1, h2⟩
    · next e => exact ⟨List.mem_cons_self .., by simpa using e⟩
theorem circ_ring {needs : List (List Int)} (hR : Right needs) : ∀ (f : Nat) (way : List Int) (a : Int), way.length + f = needs.length + 1 → way.Nodup → (∀ x ∈ way, 0 ≤ x ∧ x < needs.length) →
    (∀ i : Nat, i + 1 < way.length → rd way ((i + 1 : Nat) : Int) ∈ nd needs (rd way (i : Int)).toNat) → (∀ i : Nat, i + 1 = way.length → a ∈ nd needs (rd way (i : Int)).toNat) → 0 ≤ a → a < needs.length → (hts needs a).isSome = false → Ring needs (circ needs (hts needs) f way a)
  | 0, way, a, hl, hd, hr, _, _, _, _, _ => by have := nodup_bd hd hr; omega
  | f + 1, way, a, hl, hd, hr, hc, hk, h0, h1, hn => by
    rw [circ]
    split
    · next hi =>
      obtain ⟨q, e1, e2, e3⟩ := idxI_pos hi
      rw [Nat.zero_add] at e1
      rw [e1, Int.toNat_natCast]
      have hlen : (way.drop q).length = way.length - q := List.length_drop
      refine ⟨by intro e; rw [e] at hlen; simp at hlen; omega, hd.sublist (List.drop_sublist _ _), fun x hx => hr x (List.mem_of_mem_drop hx), fun i hi => ?_⟩
      rw [hlen] at hi ⊢
      rw [rd_drop, rd_drop]
      by_cases hlast : i + 1 = way.length - q
      · rw [hlast, Nat.mod_self, Nat.add_zero, e3]
        exact hk (q + i) (by omega)
      · rw [Nat.mod_eq_of_lt (by omega)]
        have := hc (q + i) (by omega)
        exact this
    · next hi =>
      have hnm := idxI_neg hi
      obtain ⟨a', rfl⟩ : ∃ a' : Nat, a = a' := ⟨a.toNat, by omega⟩
      obtain ⟨g1, g2⟩ := nextC_none (M := hts needs) (a := (a' : Int)) (none_needs (by omega) hn)
      have g3 := hR (nd needs a') (nd_mem (by omega)) _ g1
      rw [Int.toNat_natCast]
      refine circ_ring hR f (way ++ [(a' : Int)]) _ (by simp; omega) ?_ ?_ ?_ ?_ g3.1 g3.2 g2
      · rw [List.nodup_append]
        exact ⟨hd, by simp, fun p hp q hq => by simp at hq; subst hq; exact fun e => hnm (e ▸ hp)⟩
      · intro x hx
        rcases List.mem_append.1 hx with h | h
        · exact hr x h
        · simp at h; subst h; exact ⟨h0, h1⟩
      · intro i hi2
        rw [List.length_append, List.length_singleton] at hi2
        by_cases e : i + 1 = way.length
        · rw [e, rd_append_last, rd_append_left (by omega)]
          exact hk i e
        · rw [rd_append_left (by omega), rd_append_left (by omega)]
          exact hc i (by omega)
      · intro i hi2
        rw [List.length_append, List.length_singleton] at hi2
        obtain rfl : i = way.length := by omega
        rw [rd_append_last, Int.toNat_natCast]
        exact g1
/-- What is told of a circle. -/
theorem circle_ring {needs : List (List Int)} (h : rightB needs = true) : if cnt (hts needs) needs.length < needs.length then Ring needs (circleP needs) else circleP needs = [] := by
  have hR := rightB_true h
  unfold circleP
  rw [if_pos h]
  split
  · next hc =>
    have hno : ¬ firstNo (hts needs) needs.length 0 < 0 := fun hf => by
      have := cnt_all (M := hts needs) (n := needs.length) (fun k hk => firstNo_none hf k (Nat.zero_le _) (by omega))
      omega
    rw [if_neg hno]
    obtain ⟨a, h1, h2, _, h4⟩ := firstNo_lt (M := hts needs) (d := needs.length) (i := 0) (by omega)
    rw [h1]
    exact circ_ring hR _ [] _ (by simp) List.nodup_nil (fun x hx => by cases hx) (fun i hi => by simp at hi) (fun i hi => by simp at hi) (by omega) (by omega) h4
  · next hc =>
    have hce : cnt (hts needs) needs.length = needs.length := by have := cnt_le (hts needs) needs.length; omega
    by_cases hf : firstNo (hts needs) needs.length 0 < 0
    · rw [if_pos hf]
    · exfalso
      obtain ⟨a, h1, h2, _, h4⟩ := firstNo_lt (M := hts needs) (d := needs.length) (i := 0) (by omega)
      rw [cnt_full hce a (by omega)] at h4
      cases h4
end Go.Proofs.Ytdknnekkbhpjlaa.H

/- The document's small functions, as the print tells them: Few, Right, has, Is. No condition beyond the lengths that memory bears. -/
import Derived.Test.YtdknnekkbhpjlaaPGr
import Derived.Test.YtdknnekkbhpjlaaGf13
import Derived.Test.YtdknnekkbhpjlaaGf18
set_option linter.unusedVariables false
set_option linter.unusedSimpArgs false
namespace Go.Proofs.Ytdknnekkbhpjlaa.H
open Go.RowKit Go.Proofs.YtdknnekkbhpjlaaW.PrintWords Go.Proofs.YtdknnekkbhpjlaaW.PrintLast Go.Proofs.YtdknnekkbhpjlaaW.PrintMore Go.Proofs.Ytdknnekkbhpjlaa.G

/-- The rows lie in memory. -/
def Rows0 (needs : List (List Int)) : Prop := ∀ l ∈ needs, l.length ≤ 140737488351232
theorem few_l0 {needs : List (List Int)} (hm : Rows0 needs) : ∀ (d i k : Nat) (s : Nat), i + d = needs.length → d + 1 ≤ k → s ≤ 140737488355000 → needs.length ≤ 300 →
    ∃ b, seedcornref38_Few.l0 k needs 300 (s : Int) (i : Int) = some b ∧ (b = true → s ≤ 300 ∧ ∀ l ∈ needs.drop i, l.length ≤ 300) := by
  intro d
  induction d with
  | zero =>
    intro i k s hd hk hs hn
    obtain ⟨m, rfl⟩ : ∃ m, k = m + 1 := ⟨k - 1, by omega⟩
    refine ⟨decide ((s : Int) ≤ 300), by rw [seedcornref38_Few.l0, if_neg (by omega)], fun hb => ⟨by have := of_decide_eq_true hb; omega, ?_⟩⟩
    rw [List.drop_of_length_le (by omega)]
    intro l hl; cases hl
  | succ d ih =>
    intro i k s hd hk hs hn
    obtain ⟨m, rfl⟩ : ∃ m, k = m + 1 := ⟨k - 1, by omega⟩
    have hi : i < needs.length := by omega
    rw [seedcornref38_Few.l0, if_pos (by omega)]
    by_cases h : (s : Int) ≤ 300
    · have hl := hm _ (nd_mem hi)
      have hw : wrap64 ((s : Int) + ((nd needs i).length : Int)) = ((s + (nd needs i).length : Nat) : Int) := by unfold wrap64; omega
      rw [if_pos h, if_pos (by omega), rd_nd, hw, wr64 (by omega)]
      obtain ⟨b, h1, h2⟩ := ih (i + 1) m (s + (nd needs i).length) (by omega) (by omega) (by omega) hn
      refine ⟨b, h1, fun hb => ?_⟩
      obtain ⟨h3, h4⟩ := h2 hb
      refine ⟨by omega, ?_⟩
      rw [drop_nd hi]
      intro l hl2
      rcases List.mem_cons.1 hl2 with rfl | hl2
      · omega
      · exact h4 l hl2
    · rw [if_neg h]
      refine ⟨_, rfl, fun hb => ?_⟩
      have := of_decide_eq_true hb
      omega
theorem few_f {needs : List (List Int)} (hm : Rows0 needs) {k : Nat} (hk : 1000 ≤ k) : ∃ b, seedcornref38_Few.f k needs 300 = some b ∧ (b = true → Lens needs) := by
  unfold seedcornref38_Few.f
  by_cases hn : needs.length ≤ 300
  · obtain ⟨b, h1, h2⟩ := few_l0 hm needs.length 0 k needs.length (by omega) (by omega) (by omega) hn
    refine ⟨b, h1, fun hb => ?_⟩
    obtain ⟨h3, h4⟩ := h2 hb
    exact ⟨by omega, fun l hl => by have := h4 l (by simpa using hl); omega⟩
  · obtain ⟨m, rfl⟩ : ∃ m, k = m + 1 := ⟨k - 1, by omega⟩
    rw [seedcornref38_Few.l0, if_pos (by omega), if_neg (by omega)]
    exact ⟨_, rfl, fun hb => by have := of_decide_eq_true hb; omega⟩

theorem rright_l1 {needs : List (List Int)} (hL : Lens needs) (x9 : Nat) (h9 : x9 < needs.length) : ∀ (d j k : Nat), j + d = (nd needs x9).length → d + 1 ≤ k →
    seedcornref38_Right.l1 k needs (x9 : Int) (j : Int) = if ((nd needs x9).drop j).all (inB needs.length) = true then seedcornref38_Right.l0 (k - (d + 1)) needs ((x9 + 1 : Nat) : Int) else some false := by
  intro d
  have hlen := hL.2 _ (nd_mem h9)
  have hn := hL.1
  induction d with
  | zero =>
    intro j k hd hk
    obtain ⟨m, rfl⟩ : ∃ m, k = m + 1 := ⟨k - 1, by omega⟩
    rw [seedcornref38_Right.l1, if_pos (by omega), if_pos (by omega), rd_nd, if_neg (by omega), List.drop_of_length_le (by omega), wr64 (by omega)]
    rfl
  | succ d ih =>
    intro j k hd hk
    obtain ⟨m, rfl⟩ : ∃ m, k = m + 1 := ⟨k - 1, by omega⟩
    have hj : j < (nd needs x9).length := by omega
    rw [seedcornref38_Right.l1, if_pos (by omega), if_pos (by omega), rd_nd, if_pos (by omega), if_pos (by omega), drop_rd hj]
    have ih' := ih (j + 1) m (by omega) (by omega)
    generalize rd (nd needs x9) (j : Int) = x at *
    by_cases h1 : x < 0
    · rw [if_pos h1, if_neg (by simp [inB]; omega)]
    · rw [if_neg h1]
      by_cases h2 : x ≥ needs.length
      · rw [if_pos h2, if_neg (by simp [inB]; omega)]
      · have hx : inB needs.length x = true := decide_eq_true ⟨by omega, by omega⟩
        have e : (x :: (nd needs x9).drop (j + 1)).all (inB needs.length) = ((nd needs x9).drop (j + 1)).all (inB needs.length) := by rw [List.all_cons, hx, Bool.true_and]
        rw [if_neg h2, wr64 (by omega), ih', e, show m + 1 - (d + 1 + 1) = m - (d + 1) by omega]
theorem rright_l0 {needs : List (List Int)} (hL : Lens needs) {C : Nat} (hC : 1002 ≤ C) : ∀ (d i k : Nat), i + d = needs.length → d * C + 1 ≤ k →
    seedcornref38_Right.l0 k needs (i : Int) = some ((needs.drop i).all fun l => l.all (inB needs.length)) := by
  intro d
  induction d with
  | zero =>
    intro i k hd hk
    obtain ⟨m, rfl⟩ : ∃ m, k = m + 1 := ⟨k - 1, by omega⟩
    rw [seedcornref38_Right.l0, if_neg (by omega), List.drop_of_length_le (by omega)]
    rfl
  | succ d ih =>
    intro i k hd hk
    obtain ⟨m, rfl⟩ : ∃ m, k = m + 1 := ⟨k - 1, by omega⟩
    have hi : i < needs.length := by omega
    have hl := hL.2 _ (nd_mem hi)
    have hm : (d + 1) * C = d * C + C := Nat.succ_mul _ _
    rw [seedcornref38_Right.l0, if_pos (by omega)]
    have h1 := rright_l1 hL i hi (nd needs i).length 0 m (by omega) (by omega)
    rw [show ((0 : Nat) : Int) = 0 from rfl] at h1
    rw [h1, List.drop_zero, drop_nd hi, List.all_cons]
    split
    · next h => rw [ih (i + 1) (m - ((nd needs i).length + 1)) (by omega) (by omega), h, Bool.true_and]
    · next h => rw [Bool.eq_false_iff.2 h, Bool.false_and]
theorem rright_f {needs : List (List Int)} (hL : Lens needs) {k : Nat} (hk : 2000000 ≤ k) : seedcornref38_Right.f k needs = some (rightB needs) := by
  unfold seedcornref38_Right.f
  have hn := hL.1
  obtain ⟨C, hC⟩ : ∃ C : Nat, C = 1002 := ⟨_, rfl⟩
  have hb : needs.length * C + 1 ≤ k := by
    have h1 := Nat.mul_le_mul_right C hn
    omega
  have h := rright_l0 hL (C := C) (by omega) needs.length 0 k (by omega) hb
  exact h

theorem has_l0 {l : List Int} (a : Int) (hl : l.length ≤ 1000000) : ∀ (d i k : Nat), i + d = l.length → d + 1 ≤ k → seedcornref38_has.l0 k l a (i : Int) = some (decide (a ∈ l.drop i)) := by
  intro d
  induction d with
  | zero =>
    intro i k hd hk
    obtain ⟨m, rfl⟩ : ∃ m, k = m + 1 := ⟨k - 1, by omega⟩
    rw [seedcornref38_has.l0, if_neg (by omega), List.drop_of_length_le (by omega)]
    rfl
  | succ d ih =>
    intro i k hd hk
    obtain ⟨m, rfl⟩ : ∃ m, k = m + 1 := ⟨k - 1, by omega⟩
    have hi : i < l.length := by omega
    rw [seedcornref38_has.l0, if_pos (by omega), if_pos (by omega), drop_rd hi]
    by_cases e : rd l (i : Int) = a
    · rw [if_pos e]
      simp [e]
    · rw [if_neg e, wr64 (by omega), ih (i + 1) m (by omega) (by omega)]
      have e' : ¬ a = rd l (i : Int) := fun h => e h.symm
      simp [e']
theorem has_f {l : List Int} (a : Int) (hl : l.length ≤ 1000000) {k : Nat} (hk : l.length + 1 ≤ k) : seedcornref38_has.f k l a = some (decide (a ∈ l)) := by
  unfold seedcornref38_has.f
  exact has_l0 a hl l.length 0 k (by omega) hk
theorem nodup_take {l : List Int} {i : Nat} (h : l.Nodup) (hi : i < l.length) : rd l (i : Int) ∉ l.take i := by
  intro hm
  rw [← List.take_append_drop i l, List.nodup_append] at h
  exact h.2.2 _ hm _ (by rw [drop_rd hi]; exact List.mem_cons_self ..) rfl
theorem is_l0 {needs : List (List Int)} {c : List Int} (hL : Lens needs) (h : Ring needs c) : ∀ (d i k : Nat), i + d = c.length → d + 2000 ≤ k → seedcornref38_Is.l0 k needs c (i : Int) = some true := by
  have hcl := nodup_bd h.dis h.rng
  have hn := hL.1
  intro d
  induction d with
  | zero =>
    intro i k hd hk
    obtain ⟨m, rfl⟩ : ∃ m, k = m + 1 := ⟨k - 1, by omega⟩
    rw [seedcornref38_Is.l0, if_neg (by omega)]
  | succ d ih =>
    intro i k hd hk
    obtain ⟨m, rfl⟩ : ∃ m, k = m + 1 := ⟨k - 1, by omega⟩
    have hi : i < c.length := by omega
    have hr := h.rng _ (rd_mem hi)
    have hnx := h.nxt i hi
    have hnt := nodup_take h.dis hi
    have htm : Int.tmod (wrap64 ((i : Int) + 1)) (c.length : Int) = (((i + 1) % c.length : Nat) : Int) := by rw [wr64 (by omega)]; rfl
    have hmod := Nat.mod_lt (i + 1) (show 0 < c.length by omega)
    have hrow := hL.2 _ (nd_mem (needs := needs) (i := (rd c (i : Int)).toNat) (by omega))
    have e1 : seedcornref38_has.f m (c.take (i : Int).toNat) (rd c (i : Int)) = some false := by
      rw [has_f _ (by rw [List.length_take]; omega) (by rw [List.length_take]; omega), Int.toNat_natCast]
      simp [hnt]
    have e2 : rd_L1 needs (rd c (i : Int)) = nd needs (rd c (i : Int)).toNat := rfl
    have e3 : seedcornref38_has.f m (nd needs (rd c (i : Int)).toNat) (rd c (((i + 1) % c.length : Nat) : Int)) = some true := by
      rw [has_f _ (by omega) (by omega)]
      simp only [hnx, decide_true]
    rw [seedcornref38_Is.l0, if_pos (by omega), if_pos (by omega), if_neg (by omega), if_neg (by omega), if_pos (by omega), e1, Option.bind_some, if_neg (by simp), if_pos (by omega), if_pos (by omega), if_neg (by omega), htm, if_pos (by omega), if_pos (by omega), e2, e3, Option.bind_some, if_pos rfl, wr64 (by omega)]
    exact ih (i + 1) m (by omega) (by omega)
theorem is_f {needs : List (List Int)} {c : List Int} (hL : Lens needs) (hb : rightB needs = true) (h : Ring needs c) {k : Nat} (hk : 2000000 ≤ k) : seedcornref38_Is.f k needs c = some true := by
  have hcl := nodup_bd h.dis h.rng
  have hn := hL.1
  have hne : c.length ≠ 0 := fun e => h.ne (List.length_eq_zero_iff.1 e)
  unfold seedcornref38_Is.f
  rw [if_neg (by omega), rright_f hL hk, hb, Option.bind_some]
  obtain ⟨m, rfl⟩ : ∃ m, k = m + 1 := ⟨k - 1, by omega⟩
  rw [seedcornref38_Is.j0, if_neg (by simp)]
  exact is_l0 hL h c.length 0 m (by omega) (by omega)
end Go.Proofs.Ytdknnekkbhpjlaa.H

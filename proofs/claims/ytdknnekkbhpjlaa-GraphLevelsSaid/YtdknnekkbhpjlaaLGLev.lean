/- The law GraphLevels in plain lists: it tells true. Condition: the rows lie in memory. -/
import Derived.Test.YtdknnekkbhpjlaaLLev
import Derived.Test.YtdknnekkbhpjlaaHAwake
import Derived.Test.YtdknnekkbhpjlaaGf5
set_option linter.unusedVariables false
set_option linter.unusedSimpArgs false
namespace Go.Proofs.Ytdknnekkbhpjlaa.H
open Go.RowKit Go.Proofs.YtdknnekkbhpjlaaW.PrintWords Go.Proofs.YtdknnekkbhpjlaaW.PrintLast Go.Proofs.YtdknnekkbhpjlaaW.PrintMore Go.Proofs.Ytdknnekkbhpjlaa.G

theorem order_len2 {needs : List (List Int)} (hL : Lens needs) : (orderP needs).1.length ≤ 1000000 := by
  unfold orderP levelsP
  have hn := hL.1
  split
  · split
    · split <;> exact Nat.zero_le _
    · show ((lvTo (hts needs) needs.length).flatten).length ≤ _
      rw [flat_total]
      omega
  · split <;> exact Nat.zero_le _
theorem glev_l0 {needs rows : List (List Int)} (hL : Lens needs) (hl : rows.length ≤ 1001) (hr : ∀ l ∈ rows, l.length ≤ 1000) {C : Nat} (hC : C = 4000) : ∀ (d i k : Nat), i + d = rows.length → d + 1001 * C + 1000000 ≤ k →
    seedcornlaw38_GraphLevels.l0 k needs rows rows (i : Int) = some true := by
  intro d
  induction d with
  | zero =>
    intro i k hd hk
    obtain ⟨m, rfl⟩ : ∃ m, k = m + 1 := ⟨k - 1, by omega⟩
    have ho := order_len2 hL
    rw [seedcornlaw38_GraphLevels.l0, if_neg (by omega), graph_Order.ok hL, Option.bind_some, rorder_f hL hC (by omega), Option.bind_some, show seedcornlaw38_awake.f = some true from rfl, Option.bind_some, if_pos rfl, if_pos rfl, same_f ho (by omega)]
    rfl
  | succ d ih =>
    intro i k hd hk
    obtain ⟨m, rfl⟩ : ∃ m, k = m + 1 := ⟨k - 1, by omega⟩
    have hi : i < rows.length := by omega
    have h3 := hr _ (nd_mem hi)
    have h4 : rd_L1 rows (i : Int) = nd rows i := rfl
    rw [seedcornlaw38_GraphLevels.l0, if_pos (by omega), if_pos (by omega), if_pos (by omega), h4, same_f (by omega) (by omega), Option.bind_some, if_pos rfl, wr64 (by omega)]
    exact ih (i + 1) m (by omega) (by omega)
theorem glevels_pure (needs : List (List Int)) (hm : Rows0 needs) : ∃ K, seedcornlaw38_GraphLevels.f K needs = some true := by
  obtain ⟨C, hC⟩ : ∃ C : Nat, C = 4000 := ⟨_, rfl⟩
  obtain ⟨K, hK⟩ : ∃ K : Nat, K = 1001 * C + 2000000 := ⟨_, rfl⟩
  refine ⟨K, ?_⟩
  obtain ⟨b, hb1, hb2⟩ := few_f hm (k := K) (by omega)
  unfold seedcornlaw38_GraphLevels.f
  rw [hb1, Option.bind_some]
  cases b with
  | false => rfl
  | true =>
    have hL := hb2 rfl
    have hn := hL.1
    have h := levelsP_len hL
    rw [if_pos rfl, graph_Levels.ok hL, Option.bind_some, rlevels_f hL hC (by omega), Option.bind_some, if_pos rfl]
    obtain ⟨m, rfl⟩ : ∃ m, K = m + 1 := ⟨K - 1, by omega⟩
    rw [seedcornlaw38_GraphLevels.j0, if_neg (by simp)]
    exact glev_l0 hL h.1 h.2 hC (levelsP needs).1.length 0 m (by omega) (by omega)
end Go.Proofs.Ytdknnekkbhpjlaa.H

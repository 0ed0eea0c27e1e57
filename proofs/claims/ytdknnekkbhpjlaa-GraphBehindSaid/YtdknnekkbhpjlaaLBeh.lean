/- The second telling of Behind answers as Behind does; the law GraphBehind in plain lists: it tells true. Condition: the rows lie in memory. -/
import Derived.Test.YtdknnekkbhpjlaaPRf
import Derived.Test.YtdknnekkbhpjlaaHBehind
import Derived.Test.YtdknnekkbhpjlaaHAwake
import Derived.Test.YtdknnekkbhpjlaaGf8
import Derived.Test.YtdknnekkbhpjlaaLLev
set_option linter.unusedVariables false
set_option linter.unusedSimpArgs false
namespace Go.Proofs.Ytdknnekkbhpjlaa.H
open Go.RowKit Go.Proofs.YtdknnekkbhpjlaaW.PrintWords Go.Proofs.YtdknnekkbhpjlaaW.PrintLast Go.Proofs.YtdknnekkbhpjlaaW.PrintMore Go.Proofs.Ytdknnekkbhpjlaa.G

noncomputable def behTo (needs : List (List Int)) (i : Int) (n : Nat) : List Int := ((List.range n).map fun (k : Nat) => (k : Int)).filter (fun k => reachB needs i k && !decide (k = i))
theorem behTo_succ (needs : List (List Int)) (i : Int) (n : Nat) : behTo needs i (n + 1) = behTo needs i n ++ if reachB needs i (n : Int) = true ∧ (n : Int) ≠ i then [(n : Int)] else [] := by
  unfold behTo
  rw [List.range_succ, List.map_append, List.filter_append]
  congr 1
  by_cases h1 : reachB needs i (n : Int) = true
  · by_cases h2 : (n : Int) = i
    · simp [h2]
    · simp [h1, h2]
  · simp [h1]
theorem behTo_len (needs : List (List Int)) (i : Int) (n : Nat) : (behTo needs i n).length ≤ n := by
  unfold behTo
  exact Nat.le_trans (List.length_filter_le _ _) (by simp)
theorem rbeh_l1 {needs : List (List Int)} (hL : Lens needs) {i : Int} {x6 : List Bool} (hF : FlagsB needs.length (reachB needs i) x6) : ∀ (d j k : Nat), j + d = needs.length → d + 1 ≤ k →
    seedcornref38_Behind.l1 k needs i x6 (behTo needs i j) (j : Int) = some (behL needs i, 0) := by
  intro d
  have hn := hL.1
  have hfl := hF.1
  induction d with
  | zero =>
    intro j k hd hk
    obtain ⟨m, rfl⟩ : ∃ m, k = m + 1 := ⟨k - 1, by omega⟩
    obtain rfl : j = needs.length := by omega
    rw [seedcornref38_Behind.l1, if_neg (by omega)]
    rfl
  | succ d ih =>
    intro j k hd hk
    obtain ⟨m, rfl⟩ : ∃ m, k = m + 1 := ⟨k - 1, by omega⟩
    have ih' := ih (j + 1) m (by omega) (by omega)
    have hlen := behTo_len needs i j
    rw [behTo_succ] at ih'
    rw [seedcornref38_Behind.l1, if_pos (by omega), if_pos (by omega), if_pos (by omega), hF.2 _ (by omega) (by omega), wr64 (by omega)]
    by_cases h1 : reachB needs i (j : Int) = true
    · rw [if_pos h1]
      by_cases h2 : (j : Int) = i
      · rw [if_pos h2, ← ih', if_neg (fun h => h.2 h2), List.append_nil]
      · rw [if_neg h2, if_pos (by omega), ← ih', if_pos ⟨h1, h2⟩]
    · rw [if_neg h1, ← ih', if_neg (fun h => h1 h.1), List.append_nil]
structure Lst (needs : List (List Int)) (i : Int) (l : List Int) (p : Nat) : Prop where
  rng : ∀ x ∈ l, 0 ≤ x ∧ x < needs.length
  sound : ∀ x ∈ l, Reach needs i x
  src : ∀ x ∈ nd needs i.toNat, x ∈ l
  closed : ∀ y ∈ l.take p, ∀ x ∈ nd needs y.toNat, x ∈ l
theorem take_succ_rd {l : List Int} {p : Nat} (hp : p < l.length) : l.take (p + 1) = l.take p ++ [rd l (p : Int)] := by rw [List.take_add_one, rd_get hp, List.getElem?_eq_getElem hp]; rfl
theorem Lst.skip {needs : List (List Int)} {i : Int} {l : List Int} {p : Nat} (h : Lst needs i l p) (hp : p < l.length) (hin : rd l (p : Int) ∈ l.take p) : Lst needs i l (p + 1) :=
  ⟨h.rng, h.sound, h.src, fun y hy => by
    rw [take_succ_rd hp] at hy
    rcases List.mem_append.1 hy with hy | hy
    · exact h.closed y hy
    · simp at hy; subst hy; exact h.closed _ hin⟩
theorem Lst.add {needs : List (List Int)} (hR : Right needs) {i : Int} {l : List Int} {p : Nat} (h : Lst needs i l p) (hp : p < l.length) : Lst needs i (l ++ nd needs (rd l (p : Int)).toNat) (p + 1) := by
  have hv := h.rng _ (rd_mem hp)
  have hs := h.sound _ (rd_mem hp)
  refine ⟨fun x hx => ?_, fun x hx => ?_, fun x hx => List.mem_append_left _ (h.src x hx), fun y hy x hx => ?_⟩
  · rcases List.mem_append.1 hx with hx | hx
    · exact h.rng x hx
    · exact hR _ (nd_mem (by omega)) x hx
  · rcases List.mem_append.1 hx with hx | hx
    · exact h.sound x hx
    · exact .more hs hx
  · rw [List.take_append_of_le_length (by omega), take_succ_rd hp] at hy
    rcases List.mem_append.1 hy with hy | hy
    · exact List.mem_append_left _ (h.closed y hy x hx)
    · simp at hy; subst hy; exact List.mem_append_right _ hx
theorem Lst.done {needs : List (List Int)} {i : Int} {l : List Int} (h : Lst needs i l l.length) (x : Int) : x ∈ l ↔ Reach needs i x := by
  refine ⟨h.sound x, fun hr => ?_⟩
  have hc := h.closed
  rw [List.take_length] at hc
  induction hr with
  | one hm => exact h.src _ hm
  | more _ hm ih => exact hc _ ih _ hm
theorem rbeh_l0 {needs : List (List Int)} (hL : Lens needs) (hR : Right needs) {i : Int} : ∀ (d p k : Nat) (l : List Int) (x6 : List Bool), p ≤ l.length → (l.length - p) + x6.count false * 1000 ≤ d → d + 2000 ≤ k → l.length + x6.count false * 1000 ≤ 1001000 → Lst needs i l p →
    FlagsB needs.length (fun x => decide (x ∈ l.take p)) x6 → seedcornref38_Behind.l0 k needs i x6 l (p : Int) = some (behL needs i, 0) := by
  intro d
  have hn := hL.1
  induction d with
  | zero =>
    intro p k l x6 hp hd hk hb hS hF
    obtain ⟨m, rfl⟩ : ∃ m, k = m + 1 := ⟨k - 1, by omega⟩
    obtain rfl : p = l.length := by omega
    rw [seedcornref38_Behind.l0, if_neg (by omega)]
    refine rbeh_l1 hL ⟨hF.1, fun x h1 h2 => ?_⟩ needs.length 0 m (by omega) (by omega)
    have hFx : rdOf false x6 x = decide (x ∈ l.take l.length) := hF.2 x h1 h2
    rw [hFx, List.take_length]
    by_cases h : Reach needs i x
    · rw [reachB_iff.2 h, decide_eq_true ((hS.done x).2 h)]
    · rw [decide_eq_false (fun hx => h ((hS.done x).1 hx))]
      cases e : reachB needs i x with
      | false => rfl
      | true => exact absurd (reachB_iff.1 e) h
  | succ d ih =>
    intro p k l x6 hp hd hk hb hS hF
    obtain ⟨m, rfl⟩ : ∃ m, k = m + 1 := ⟨k - 1, by omega⟩
    by_cases hpl : p < l.length
    · have hv := hS.rng _ (rd_mem hpl)
      have hfl := hF.1
      have hfx : rdOf false x6 (rd l (p : Int)) = decide (rd l (p : Int) ∈ l.take p) := hF.2 _ hv.1 hv.2
      have hrl := hL.2 _ (nd_mem (needs := needs) (i := (rd l (p : Int)).toNat) (by omega))
      have hrow : rd_L1 needs (rd l (p : Int)) = nd needs (rd l (p : Int)).toNat := rfl
      rw [seedcornref38_Behind.l0, if_pos (by omega), if_pos (by omega), if_pos (by omega), if_pos (by omega), hfx, wr64 (by omega)]
      by_cases hin : rd l (p : Int) ∈ l.take p
      · rw [if_pos (decide_eq_true hin)]
        refine ih (p + 1) m l x6 (by omega) (by omega) (by omega) hb (hS.skip hpl hin) ⟨hF.1, fun x h1 h2 => ?_⟩
        have hFx : rdOf false x6 x = decide (x ∈ l.take p) := hF.2 x h1 h2
        show _ = decide (x ∈ l.take (p + 1))
        rw [hFx, take_succ_rd hpl]
        by_cases hx : x ∈ l.take p
        · rw [decide_eq_true hx, decide_eq_true (List.mem_append_left _ hx)]
        · rw [decide_eq_false hx, decide_eq_false (fun h => by
            rcases List.mem_append.1 h with h | h
            · exact hx h
            · simp at h; subst h; exact hx hin)]
      · have hfalse : rdOf false x6 (rd l (p : Int)) = false := by rw [hfx]; exact decide_eq_false hin
        have hcs := count_set hv.1 (by omega) hfalse
        have hset := flagsB_set hF hv
        rw [if_neg (by rw [decide_eq_false hin]; decide), if_pos (by omega), hrow, if_pos (by omega)]
        refine ih (p + 1) m _ _ (by rw [List.length_append]; omega) (by rw [List.length_append]; omega) (by omega) (by rw [List.length_append]; omega) (hS.add hR hpl) ⟨hset.1, fun x h1 h2 => ?_⟩
        rw [hset.2 x h1 h2, List.take_append_of_le_length (by omega), take_succ_rd hpl]
        simp only [List.mem_append, List.mem_singleton, Bool.decide_or]
    · obtain rfl : p = l.length := by omega
      rw [seedcornref38_Behind.l0, if_neg (by omega)]
      refine rbeh_l1 hL ⟨hF.1, fun x h1 h2 => ?_⟩ needs.length 0 m (by omega) (by omega)
      have hFx : rdOf false x6 x = decide (x ∈ l.take l.length) := hF.2 x h1 h2
      rw [hFx, List.take_length]
      by_cases h : Reach needs i x
      · rw [reachB_iff.2 h, decide_eq_true ((hS.done x).2 h)]
      · rw [decide_eq_false (fun hx => h ((hS.done x).1 hx))]
        cases e : reachB needs i x with
        | false => rfl
        | true => exact absurd (reachB_iff.1 e) h
theorem rbeh_f {needs : List (List Int)} (hL : Lens needs) (i : Int) {k : Nat} (hk : 3000000 ≤ k) : seedcornref38_Behind.f k needs i = some (behindP needs i) := by
  have hn := hL.1
  obtain ⟨m, hm⟩ : ∃ m, k = m + 1 := ⟨k - 1, by omega⟩
  have hj : seedcornref38_Behind.j0 k needs i true = some ([], 1) := by rw [hm, seedcornref38_Behind.j0, if_pos rfl]
  unfold seedcornref38_Behind.f behindP
  rw [rright_f hL (by omega), Option.bind_some]
  cases hr : rightB needs with
  | false => rw [if_neg (by decide), hj, if_neg (by simp)]
  | true =>
    have hR := rightB_true hr
    rw [if_pos rfl]
    by_cases h0 : i < 0
    · rw [if_pos h0, hj, if_neg (by omega)]
    rw [if_neg h0]
    by_cases h1 : i ≥ (needs.length : Int)
    · rw [decide_eq_true h1, hj, if_neg (by omega)]
    have hrow : rd_L1 needs i = nd needs i.toNat := rfl
    have hrl := hL.2 _ (nd_mem (needs := needs) (i := i.toNat) (by omega))
    rw [decide_eq_false h1, if_pos ⟨rfl, by omega, by omega⟩, hm, seedcornref38_Behind.j0, if_neg (by decide), if_pos (by omega), if_pos (by omega), Option.bind_some, if_pos (by omega), if_pos (by omega), hrow, if_pos (by show 0 + _ < _; omega), List.nil_append, Int.toNat_natCast]
    have hcnt : (List.replicate needs.length false).count false = needs.length := by simp
    refine rbeh_l0 hL hR 1001000 0 m _ _ (Nat.zero_le _) (by rw [hcnt]; omega) (by omega) (by rw [hcnt]; omega) ⟨fun x hx => hR _ (nd_mem (by omega)) x hx, fun x hx => .one hx, fun x hx => hx, fun y hy => by simp at hy⟩ ⟨by simp, fun x h1 h2 => ?_⟩
    unfold rdOf
    rw [List.getD_eq_getElem?_getD, List.getElem?_replicate]
    split <;> simp
theorem behind_pure (needs : List (List Int)) (a1 : Int) (hm : Rows0 needs) : ∃ K, seedcornlaw38_GraphBehind.f K needs a1 = some true := by
  obtain ⟨K, hK⟩ : ∃ K : Nat, K = 3000000 := ⟨_, rfl⟩
  refine ⟨K, ?_⟩
  obtain ⟨b, hb1, hb2⟩ := few_f hm (k := K) (by omega)
  unfold seedcornlaw38_GraphBehind.f
  rw [hb1, Option.bind_some]
  cases b with
  | false => rfl
  | true =>
    have hL := hb2 rfl
    have hn := hL.1
    have hln : (behindP needs a1).1.length ≤ 1000 := by
      unfold behindP
      split
      · exact Nat.le_trans (behTo_len needs a1 needs.length) hn
      · exact Nat.zero_le _
    rw [if_pos rfl, graph_Behind.ok hL, Option.bind_some, rbeh_f hL a1 (by omega), Option.bind_some, show seedcornlaw38_awake.f = some true from rfl, Option.bind_some, if_pos rfl, same_f (by omega) (by omega), Option.bind_some, if_pos rfl]
    simp
end Go.Proofs.Ytdknnekkbhpjlaa.H

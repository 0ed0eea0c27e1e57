/- The law GraphReaches in plain lists: it tells true. Condition: the rows lie in memory; the second argument is a byte. -/
import Derived.Test.YtdknnekkbhpjlaaPRf
import Derived.Test.YtdknnekkbhpjlaaHBehind
import Derived.Test.YtdknnekkbhpjlaaHAwake
import Derived.Test.YtdknnekkbhpjlaaGf9
import Derived.Test.YtdknnekkbhpjlaaLLev
set_option linter.unusedVariables false
set_option linter.unusedSimpArgs false
namespace Go.Proofs.Ytdknnekkbhpjlaa.H
open Go.RowKit Go.Proofs.YtdknnekkbhpjlaaW.PrintWords Go.Proofs.YtdknnekkbhpjlaaW.PrintLast Go.Proofs.YtdknnekkbhpjlaaW.PrintMore Go.Proofs.Ytdknnekkbhpjlaa.G

/-- Flags of the first p of l. -/
def Flg (n : Nat) (l : List Int) (p : Nat) (x5 : List Bool) : Prop := FlagsB n (fun x => decide (x ∈ l.take p)) x5
theorem flg_set {n : Nat} {l : List Int} {p : Nat} {x5 : List Bool} (h : Flg n l p x5) (hp : p < l.length) (hv : 0 ≤ rd l (p : Int) ∧ rd l (p : Int) < n) : Flg n l (p + 1) (x5.set (rd l (p : Int)).toNat true) := by
  have h2 := flagsB_set h hv
  refine ⟨h2.1, fun x h1 h3 => ?_⟩
  have e : l.take (p + 1) = l.take p ++ [rd l (p : Int)] := by rw [List.take_add_one, rd_get hp, List.getElem?_eq_getElem hp]; rfl
  rw [h2.2 x h1 h3, e]
  simp only [List.mem_append, List.mem_singleton, Bool.decide_or]
/-- What Behind hands back. -/
structure Beh (needs : List (List Int)) (i : Int) (l : List Int) : Prop where
  rng : ∀ x ∈ l, 0 ≤ x ∧ x < needs.length
  asc : l.Pairwise (fun a b => a < b)
  self : ∀ x ∈ l, x ≠ i
  one : ∀ x ∈ nd needs i.toNat, x ≠ i → x ∈ l
  more : ∀ y ∈ l, ∀ x ∈ nd needs y.toNat, x ≠ i → x ∈ l
theorem mem_behL {needs : List (List Int)} {i x : Int} : x ∈ behL needs i ↔ (0 ≤ x ∧ x < needs.length) ∧ Reach needs i x ∧ x ≠ i := by
  unfold behL
  rw [List.mem_filter, Bool.and_eq_true, reachB_iff, List.mem_map]
  constructor
  · rintro ⟨⟨k, hk, rfl⟩, h1, h2⟩
    rw [List.mem_range] at hk
    exact ⟨⟨by omega, by omega⟩, h1, by simpa using h2⟩
  · rintro ⟨⟨h0, h1⟩, h2, h3⟩
    exact ⟨⟨x.toNat, by rw [List.mem_range]; omega, by omega⟩, h2, by simpa using h3⟩
theorem reach_rng {needs : List (List Int)} (hR : Right needs) {i x : Int} (hi : 0 ≤ i ∧ i < needs.length) (h : Reach needs i x) : 0 ≤ x ∧ x < needs.length := by
  induction h with
  | one hm => exact hR _ (nd_mem (by omega)) _ hm
  | more _ hm ih => exact hR _ (nd_mem (by omega)) _ hm
theorem behL_asc (needs : List (List Int)) (i : Int) : (behL needs i).Pairwise (fun a b => a < b) := by
  unfold behL
  apply List.Pairwise.filter
  rw [List.pairwise_map]
  exact List.Pairwise.imp (fun {a b} hab => Int.ofNat_lt.2 hab) (List.pairwise_lt_range (n := needs.length))
theorem beh_behL {needs : List (List Int)} (hR : Right needs) {i : Int} (hi : 0 ≤ i ∧ i < needs.length) : Beh needs i (behL needs i) :=
  ⟨fun x hx => (mem_behL.1 hx).1, behL_asc needs i, fun x hx => (mem_behL.1 hx).2.2, fun x hx hn => mem_behL.2 ⟨reach_rng hR hi (.one hx), .one hx, hn⟩,
    fun y hy x hx hn => mem_behL.2 ⟨reach_rng hR hi (.more (mem_behL.1 hy).2.1 hx), .more (mem_behL.1 hy).2.1 hx, hn⟩⟩
theorem wr64m {x : Nat} (h : x ≤ 1000000000) (h0 : 0 < x) : wrap64 ((x : Int) - 1) = ((x - 1 : Nat) : Int) := by unfold wrap64; omega

section
variable {needs : List (List Int)} {i : Nat} {l : List Int}
theorem reach_l3 (hL : Lens needs) (hR : Right needs) (hB : Beh needs (i : Int) l) (hln : l.length ≤ 1000) {x8 : List Bool} (hF : Flg needs.length l l.length x8) {p : Nat} (hp : p < l.length) : ∀ (d j k : Nat), j + d = (nd needs (rd l (p : Int)).toNat).length → d + 1 ≤ k →
    seedcornlaw38_GraphReaches.l3 k needs (i : Int) l x8 (p : Int) (j : Int) = seedcornlaw38_GraphReaches.l2 (k - (d + 1)) needs (i : Int) l x8 ((p + 1 : Nat) : Int) := by
  intro d
  have hv := hB.rng _ (rd_mem hp)
  have hn := hL.1
  have hvn : (rd l (p : Int)).toNat < needs.length := by omega
  have hrl := hL.2 _ (nd_mem hvn)
  have hrow : rd_L1 needs (rd l (p : Int)) = nd needs (rd l (p : Int)).toNat := rfl
  have hfl := hF.1
  induction d with
  | zero =>
    intro j k hd hk
    obtain ⟨m, rfl⟩ : ∃ m, k = m + 1 := ⟨k - 1, by omega⟩
    rw [seedcornlaw38_GraphReaches.l3, if_pos (by omega), if_pos (by omega), if_pos (by omega), if_pos (by omega), hrow, if_neg (by omega), wr64 (by omega)]
    rfl
  | succ d ih =>
    intro j k hd hk
    obtain ⟨m, rfl⟩ : ∃ m, k = m + 1 := ⟨k - 1, by omega⟩
    have hj : j < (nd needs (rd l (p : Int)).toNat).length := by omega
    have hjm := rd_mem hj
    have hjr := hR _ (nd_mem hvn) _ hjm
    have ih' := ih (j + 1) m (by omega) (by omega)
    rw [show m - (d + 1) = m + 1 - (d + 1 + 1) by omega] at ih'
    rw [seedcornlaw38_GraphReaches.l3, if_pos (by omega), if_pos (by omega), if_pos (by omega), if_pos (by omega), hrow, if_pos (by omega), if_pos (by omega), wr64 (by omega)]
    by_cases he : rd (nd needs (rd l (p : Int)).toNat) (j : Int) = (i : Int)
    · rw [if_pos he, ih']
    · have hin := hB.more _ (rd_mem hp) _ hjm he
      rw [if_neg he, if_pos (by omega), if_pos (by omega), hF.2 _ hjr.1 hjr.2, if_pos (by rw [List.take_length]; simpa using hin), ih']
theorem reach_l2 (hL : Lens needs) (hR : Right needs) (hB : Beh needs (i : Int) l) (hln : l.length ≤ 1000) {x8 : List Bool} (hF : Flg needs.length l l.length x8) {C : Nat} (hC : 1003 ≤ C) : ∀ (d p k : Nat), p + d = l.length → d * C + 1 ≤ k →
    seedcornlaw38_GraphReaches.l2 k needs (i : Int) l x8 (p : Int) = some true := by
  intro d
  have hn := hL.1
  induction d with
  | zero =>
    intro p k hd hk
    obtain ⟨m, rfl⟩ : ∃ m, k = m + 1 := ⟨k - 1, by omega⟩
    rw [seedcornlaw38_GraphReaches.l2, if_neg (by omega)]
    rfl
  | succ d ih =>
    intro p k hd hk
    rw [Nat.succ_mul] at hk
    obtain ⟨m, rfl⟩ : ∃ m, k = m + 1 := ⟨k - 1, by omega⟩
    have hp : p < l.length := by omega
    have hv := hB.rng _ (rd_mem hp)
    have hrl := hL.2 _ (nd_mem (needs := needs) (i := (rd l (p : Int)).toNat) (by omega))
    have := reach_l3 hL hR hB hln hF hp (nd needs (rd l (p : Int)).toNat).length 0 m (by omega) (by omega)
    rw [show ((0 : Nat) : Int) = 0 from rfl] at this
    rw [seedcornlaw38_GraphReaches.l2, if_pos (by omega), this]
    exact ih (p + 1) _ (by omega) (by omega)
theorem reach_l1 (hL : Lens needs) (hR : Right needs) (hi : i < needs.length) (hB : Beh needs (i : Int) l) (hln : l.length ≤ 1000) {x8 : List Bool} (hF : Flg needs.length l l.length x8) {C : Nat} (hC : 1003 ≤ C) : ∀ (d j k : Nat), j + d = (nd needs i).length → d + 1000 * C + 2 ≤ k →
    seedcornlaw38_GraphReaches.l1 k needs (i : Int) l x8 (j : Int) = some true := by
  intro d
  have hn := hL.1
  have hrl := hL.2 _ (nd_mem hi)
  have hrow : rd_L1 needs (i : Int) = nd needs i := rfl
  have hfl := hF.1
  induction d with
  | zero =>
    intro j k hd hk
    obtain ⟨m, rfl⟩ : ∃ m, k = m + 1 := ⟨k - 1, by omega⟩
    have hmul : l.length * C ≤ 1000 * C := Nat.mul_le_mul_right _ hln
    rw [seedcornlaw38_GraphReaches.l1, if_pos (by omega), if_pos (by omega), hrow, if_neg (by omega)]
    exact reach_l2 hL hR hB hln hF hC l.length 0 m (by omega) (by omega)
  | succ d ih =>
    intro j k hd hk
    obtain ⟨m, rfl⟩ : ∃ m, k = m + 1 := ⟨k - 1, by omega⟩
    have hj : j < (nd needs i).length := by omega
    have hjm := rd_mem hj
    have hjr := hR _ (nd_mem hi) _ hjm
    have ih' := ih (j + 1) m (by omega) (by omega)
    rw [seedcornlaw38_GraphReaches.l1, if_pos (by omega), if_pos (by omega), hrow, if_pos (by omega), if_pos (by omega), wr64 (by omega)]
    by_cases he : rd (nd needs i) (j : Int) = (i : Int)
    · rw [if_pos he, ih']
    · have hin := hB.one _ hjm he
      rw [if_neg he, if_pos (by omega), if_pos (by omega), hF.2 _ hjr.1 hjr.2, if_pos (by rw [List.take_length]; simpa using hin), ih']
theorem reach_l0 (hL : Lens needs) (hR : Right needs) (hi : i < needs.length) (hB : Beh needs (i : Int) l) (hln : l.length ≤ 1000) {C : Nat} (hC : 1003 ≤ C) : ∀ (d p k : Nat) (x8 : List Bool), p + d = l.length → d + 1000 * C + 1003 ≤ k → Flg needs.length l p x8 →
    seedcornlaw38_GraphReaches.l0 k needs (i : Int) l x8 (p : Int) = some true := by
  intro d
  have hn := hL.1
  have hrl := hL.2 _ (nd_mem hi)
  induction d with
  | zero =>
    intro p k x8 hd hk hF
    obtain ⟨m, rfl⟩ : ∃ m, k = m + 1 := ⟨k - 1, by omega⟩
    obtain rfl : p = l.length := by omega
    rw [seedcornlaw38_GraphReaches.l0, if_neg (by omega)]
    exact reach_l1 hL hR hi hB hln hF hC (nd needs i).length 0 m (by omega) (by omega)
  | succ d ih =>
    intro p k x8 hd hk hF
    obtain ⟨m, rfl⟩ : ∃ m, k = m + 1 := ⟨k - 1, by omega⟩
    have hp : p < l.length := by omega
    have hv := hB.rng _ (rd_mem hp)
    have hs := hB.self _ (rd_mem hp)
    have hfl := hF.1
    have ih' := ih (p + 1) m _ (by omega) (by omega) (flg_set hF hp hv)
    rw [seedcornlaw38_GraphReaches.l0, if_pos (by omega), if_pos (by omega), if_neg (by omega), if_neg (by omega), if_neg hs]
    by_cases h0 : p = 0
    · subst h0
      rw [if_neg (by omega), if_pos (by omega), if_pos (by omega), wr64 (by omega), ih']
    · have hlt : rd l ((p - 1 : Nat) : Int) < rd l (p : Int) := by
        rw [rd_get hp, rd_get (by omega)]
        exact (List.pairwise_iff_getElem.1 hB.asc) (p - 1) p (by omega) hp (by omega)
      rw [if_pos (by omega), wr64m (by omega) (by omega), if_pos (by omega), if_pos (by omega), if_neg (by omega), if_pos (by omega), if_pos (by omega), wr64 (by omega), ih']
end
theorem reaches_pure (needs : List (List Int)) (a1 : Int) (hm : Rows0 needs) (ha : 0 ≤ a1 ∧ a1 ≤ 255) : ∃ K, seedcornlaw38_GraphReaches.f K needs a1 = some true := by
  obtain ⟨C, hC⟩ : ∃ C : Nat, C = 1003 := ⟨_, rfl⟩
  obtain ⟨K, hK⟩ : ∃ K : Nat, K = 1000 * C + 2000003 := ⟨_, rfl⟩
  refine ⟨K, ?_⟩
  obtain ⟨b, hb1, hb2⟩ := few_f hm (k := K) (by omega)
  obtain ⟨m, hm1⟩ : ∃ m, K = m + 1 := ⟨K - 1, by omega⟩
  have hj0 : seedcornlaw38_GraphReaches.j0 K needs a1 true = some true := by
    rw [hm1, seedcornlaw38_GraphReaches.j0, if_pos rfl]
    rfl
  unfold seedcornlaw38_GraphReaches.f
  rw [hb1, Option.bind_some]
  cases b with
  | false => rw [if_neg (by decide), hj0]
  | true =>
    have hL := hb2 rfl
    have hn := hL.1
    rw [if_pos rfl]
    by_cases h0 : (needs.length : Int) = 0
    · rw [if_pos h0, hj0]
    rw [if_neg h0, rright_f hL (by omega), Option.bind_some]
    cases hr : rightB needs with
    | false => exact hj0
    | true =>
      have hR := rightB_true hr
      have hw : wrap64 a1 = a1 := by unfold wrap64; omega
      obtain ⟨i, hi⟩ : ∃ i : Nat, Int.tmod (wrap64 a1) (needs.length : Int) = i := by
        rw [hw]
        refine ⟨(Int.tmod a1 (needs.length : Int)).toNat, ?_⟩
        have := Int.tmod_nonneg (needs.length : Int) ha.1
        omega
      have hilt : i < needs.length := by
        have : Int.tmod (wrap64 a1) (needs.length : Int) < needs.length := by rw [hw]; exact Int.tmod_lt_of_pos a1 (by omega)
        omega
      rw [hm1, seedcornlaw38_GraphReaches.j0, if_neg (by decide), if_neg h0, hi, graph_Behind.ok hL, Option.bind_some]
      have hbp : behindP needs (i : Int) = (behL needs (i : Int), 0) := by unfold behindP; rw [if_pos ⟨hr, by omega, by omega⟩]
      rw [hbp, if_pos rfl, if_pos (by omega), if_pos (by omega), Int.toNat_natCast]
      have hB := beh_behL hR (i := (i : Int)) ⟨by omega, by omega⟩
      have hln : (behL needs (i : Int)).length ≤ 1000 := Nat.le_trans (nodup_bd (hB.asc.imp fun {a b} h => by omega) hB.rng) hn
      refine reach_l0 hL hR hilt hB hln (C := C) (by omega) (behL needs (i : Int)).length 0 m _ (by omega) (by omega) ⟨by simp, fun x h1 h2 => ?_⟩
      unfold rdOf
      rw [List.getD_eq_getElem?_getD, List.getElem?_replicate]
      split <;> simp
end Go.Proofs.Ytdknnekkbhpjlaa.H

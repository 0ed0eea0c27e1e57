/- The plain law behind GraphTurned. Condition: the numbers are bytes. -/
import Derived.Test.YtdknnekkbhpjlaaPRf
import Derived.Test.YtdknnekkbhpjlaaGf3
set_option linter.unusedVariables false
set_option linter.unusedSimpArgs false
namespace Go.Proofs.Ytdknnekkbhpjlaa.H
open Go.RowKit Go.Proofs.YtdknnekkbhpjlaaW.PrintWords Go.Proofs.YtdknnekkbhpjlaaW.PrintLast Go.Proofs.YtdknnekkbhpjlaaW.PrintMore Go.Proofs.Ytdknnekkbhpjlaa.G

def tF (k : Nat) (b : Int) : Int := Int.tmod (wrap64 b) (k : Int)
def tEnd (z : List Int) (k : Nat) : Nat := if k = 0 then 0 else min 8 z.length
def tRow (z : List Int) (k : Nat) : List Int := (z.take (tEnd z k)).map (tF k)
theorem tRow_len (z : List Int) (k : Nat) : (tRow z k).length ≤ 8 := by
  unfold tRow tEnd
  rw [List.length_map, List.length_take]
  split <;> omega
theorem tF_rng {k : Nat} {b : Int} (hk : 0 < k) (hb : 0 ≤ b ∧ b ≤ 255) : 0 ≤ tF k b ∧ tF k b < k := by
  have hw : wrap64 b = b := by unfold wrap64; omega
  unfold tF
  rw [hw]
  exact ⟨Int.tmod_nonneg _ hb.1, Int.tmod_lt_of_pos _ (by omega)⟩
theorem tRow_rng {z : List Int} {k : Nat} (hz : ∀ b ∈ z, 0 ≤ b ∧ b ≤ 255) : ∀ j ∈ tRow z k, 0 ≤ j ∧ j < k := by
  intro j hj
  unfold tRow at hj
  obtain ⟨b, hb, rfl⟩ := List.mem_map.1 hj
  have h1 := hz b (List.mem_of_mem_take hb)
  by_cases h : k = 0
  · subst h
    simp [tEnd] at hb
  · exact tF_rng (by omega) h1
theorem turn_l1 {x0 : List (List Int)} {x1 : Int} {x5 : List (List Int)} {i : Nat} (hi : i < x0.length) (hn : x0.length ≤ 60) (h5 : x5.length ≤ 60) : ∀ (d j m : Nat), j + d = tEnd (nd x0 i) i → d + 1 ≤ m →
    seedcornlaw38_GraphTurned.l1 m x0 x1 x5 (i : Int) (((nd x0 i).take j).map (tF i)) (j : Int) = seedcornlaw38_GraphTurned.l0 (m - (d + 1)) x0 x1 (x5 ++ [tRow (nd x0 i) i]) ((i + 1 : Nat) : Int) := by
  have hrd : rd_L5 x0 (i : Int) = nd x0 i := by simp [rd_L5, nd]
  intro d
  induction d with
  | zero =>
    intro j m hd hm
    obtain ⟨q, rfl⟩ : ∃ q, m = q + 1 := ⟨m - 1, by omega⟩
    rw [seedcornlaw38_GraphTurned.l1, if_pos (by omega), if_pos (by omega), hrd]
    have e : ((nd x0 i).take j).map (tF i) = tRow (nd x0 i) i := by unfold tRow; rw [show j = tEnd (nd x0 i) i by omega]
    have hw := wr64 (x := i) (by omega)
    rw [e, hw]
    unfold tEnd at hd
    by_cases h1 : (j : Int) < ((nd x0 i).length : Int)
    · rw [if_pos h1]
      by_cases h2 : (j : Int) < 8
      · rw [if_pos h2]
        by_cases h3 : (i : Int) > 0
        · rw [if_neg (by omega)] at hd
          omega
        · rw [if_neg h3, if_pos (by omega)]
          rfl
      · rw [if_neg h2, if_pos (by omega)]
        rfl
    · rw [if_neg h1, if_pos (by omega)]
      rfl
  | succ d ih =>
    intro j m hd hm
    obtain ⟨q, rfl⟩ : ∃ q, m = q + 1 := ⟨m - 1, by omega⟩
    have hd' := hd
    unfold tEnd at hd'
    by_cases h0 : i = 0
    · rw [if_pos h0] at hd'
      omega
    · rw [if_neg h0] at hd'
      have hj : j < (nd x0 i).length := by omega
      have ht : ((nd x0 i).take (j + 1)).map (tF i) = ((nd x0 i).take j).map (tF i) ++ [Int.tmod (wrap64 (rd (nd x0 i) (j : Int))) (i : Int)] := by
        rw [take_nd hj, List.map_append]
        rfl
      have hlen : (((nd x0 i).take j).map (tF i)).length ≤ 8 := by rw [List.length_map, List.length_take]; omega
      rw [seedcornlaw38_GraphTurned.l1, if_pos (by omega), if_pos (by omega), hrd, if_pos (by omega), if_pos (by omega), if_pos (by omega), if_pos (by omega), if_neg (by omega), if_pos (by omega), ← ht, wr64 (by omega), ih (j + 1) q (by omega) (by omega), show q + 1 - (d + 1 + 1) = q - (d + 1) by omega]
def tRows (x0 : List (List Int)) (n : Nat) : List (List Int) := (List.range n).map fun i => tRow (nd x0 i) i
theorem tRows_succ (x0 : List (List Int)) (n : Nat) : tRows x0 (n + 1) = tRows x0 n ++ [tRow (nd x0 n) n] := by simp [tRows, List.range_succ]
theorem turn_l0 {x0 : List (List Int)} {x1 : Int} (hn : x0.length ≤ 60) : ∀ (d i m : Nat), i + d = x0.length → d * 10 + 1 ≤ m →
    ∃ m', m ≤ m' + d * 10 ∧ seedcornlaw38_GraphTurned.l0 m x0 x1 (tRows x0 i) (i : Int) = seedcornlaw38_GraphTurned.l0 m' x0 x1 (tRows x0 x0.length) (x0.length : Int) := by
  intro d
  induction d with
  | zero =>
    intro i m hd hm
    obtain rfl : i = x0.length := by omega
    exact ⟨m, by omega, rfl⟩
  | succ d ih =>
    intro i m hd hm
    obtain ⟨q, rfl⟩ : ∃ q, m = q + 1 := ⟨m - 1, by omega⟩
    have hlen : (tRows x0 i).length ≤ 60 := by simp [tRows]; omega
    have hte : tEnd (nd x0 i) i ≤ 8 := by unfold tEnd; split <;> omega
    have h1 := turn_l1 (x0 := x0) (x1 := x1) (x5 := tRows x0 i) (i := i) (by omega) hn hlen (tEnd (nd x0 i) i) 0 q (by omega) (by omega)
    rw [List.take_zero, List.map_nil, show ((0 : Nat) : Int) = 0 from rfl, ← tRows_succ] at h1
    obtain ⟨m', h2, h3⟩ := ih (i + 1) (q - (tEnd (nd x0 i) i + 1)) (by omega) (by omega)
    refine ⟨m', by omega, ?_⟩
    rw [seedcornlaw38_GraphTurned.l0, if_pos (by omega), h1, h3]
theorem nd_tRows {x0 : List (List Int)} {n i : Nat} (h : i < n) : nd (tRows x0 n) i = tRow (nd x0 i) i := by
  unfold nd tRows
  rw [List.getD_eq_getElem?_getD, List.getElem?_map, List.getElem?_range h]
  rfl
theorem tRows_len (x0 : List (List Int)) (n : Nat) : (tRows x0 n).length = n := by simp [tRows]
theorem mem_nd {needs : List (List Int)} {l : List Int} (h : l ∈ needs) : ∃ i, i < needs.length ∧ l = nd needs i := by
  obtain ⟨i, hi, rfl⟩ := List.getElem_of_mem h
  exact ⟨i, hi, by unfold nd; rw [List.getD_eq_getElem?_getD, List.getElem?_eq_getElem hi]; rfl⟩
theorem right_of {needs : List (List Int)} (h : ∀ i, i < needs.length → ∀ j ∈ nd needs i, 0 ≤ j ∧ j < needs.length) : rightB needs = true := by
  unfold rightB
  refine List.all_eq_true.2 (fun l hl => List.all_eq_true.2 (fun j hj => ?_))
  obtain ⟨i, hi, rfl⟩ := mem_nd hl
  exact decide_eq_true (h i hi j hj)
/-- Needs of lesser numbers alone: all have heights. -/
theorem all_some {needs : List (List Int)} (h : ∀ i, i < needs.length → ∀ j ∈ nd needs i, 0 ≤ j ∧ j < i) : ∀ (m i : Nat), i < m → i < needs.length → (hts needs (i : Int)).isSome = true := by
  intro m
  induction m with
  | zero => intro i h1; omega
  | succ m ih =>
    intro i h1 h2
    refine some_needs h2 (fun j hj => ?_)
    have h3 := h i h2 j hj
    obtain ⟨j', rfl⟩ : ∃ j' : Nat, j = j' := ⟨j.toNat, by omega⟩
    exact ih j' (by omega) (by omega)
theorem lvTo_len2 {M : Mp} {c : Nat} : ∀ n : Nat, (∀ i : Nat, i < n → ((M (i : Int)).getD 0).toNat + 1 ≤ c) → (lvTo M n).length ≤ c ∧ (0 < n → 0 < (lvTo M n).length)
  | 0, _ => ⟨Nat.zero_le _, fun h => absurd h (Nat.lt_irrefl 0)⟩
  | n + 1, h => by
    have ih := (lvTo_len2 n (fun i hi => h i (by omega))).1
    have := h n (by omega)
    simp only [lvTo, lvStep, List.length_set, padTo_length]
    exact ⟨by omega, fun _ => by omega⟩

theorem turn_pure (x0 : List (List Int)) (x1 : Int) (h0 : ∀ z ∈ x0, ∀ b ∈ z, 0 ≤ b ∧ b ≤ 255) (h1 : 0 ≤ x1 ∧ x1 ≤ 255) : seedcornlaw38_GraphTurned.f 1000 x0 x1 = some true := by
  unfold seedcornlaw38_GraphTurned.f
  by_cases hz : (x0.length : Int) = 0
  · rw [if_pos hz, seedcornlaw38_GraphTurned.j0, if_pos rfl]
    rfl
  rw [if_neg hz, seedcornlaw38_GraphTurned.j0]
  by_cases hn : (x0.length : Int) > 60
  · rw [if_pos (by simpa using hn)]
    rfl
  rw [if_neg (by simpa using hn)]
  obtain ⟨m', hm1, hm2⟩ := turn_l0 (x0 := x0) (x1 := x1) (by omega) x0.length 0 999 (by omega) (by omega)
  rw [show tRows x0 0 = [] from rfl, show ((0 : Nat) : Int) = 0 from rfl] at hm2
  rw [hm2]
  obtain ⟨q, rfl⟩ : ∃ q, m' = q + 1 + 1 := ⟨m' - 2, by omega⟩
  clear hm1 hm2
  obtain ⟨n, hnn⟩ : ∃ n, n = x0.length := ⟨_, rfl⟩
  rw [← hnn] at hz hn ⊢
  obtain ⟨L, hLL⟩ : ∃ L, L = tRows x0 n := ⟨_, rfl⟩
  rw [← hLL]
  have hlen : L.length = n := by rw [hLL, tRows_len]
  have hrow : ∀ i, i < L.length → ∀ j ∈ nd L i, 0 ≤ j ∧ j < i := by
    intro i hi
    rw [hLL, nd_tRows (by omega)]
    exact tRow_rng (h0 _ (nd_mem (by omega)))
  have hrl : ∀ i, i < L.length → (nd L i).length ≤ 8 := by
    intro i hi
    rw [hLL, nd_tRows (by omega)]
    exact tRow_len _ _
  have hLn : Lens L := ⟨by omega, fun l hl => by
    obtain ⟨i, hi, rfl⟩ := mem_nd hl
    have := hrl i hi
    omega⟩
  have hrb : rightB L = true := right_of (fun i hi j hj => by have := hrow i hi j hj; omega)
  have hall := cnt_all (M := hts L) (n := L.length) (fun k hk => all_some hrow (k + 1) k (by omega) hk)
  have hlev := hts_lev L
  rw [hall] at hlev
  have hlv : levelsP L = (lvTo (hts L) L.length, 0) := by unfold levelsP; rw [if_pos hrb, if_neg (by omega)]
  have hl2 := lvTo_len2 (M := hts L) (c := L.length) L.length (fun i hi => by
    obtain ⟨v, hv⟩ := Option.isSome_iff_exists.1 (all_some hrow (i + 1) i (by omega) hi)
    have := hlev i v hv
    rw [hv]
    simp
    omega)
  have hci : circleP L = [] := by
    have := circle_ring hrb
    rwa [if_neg (by omega)] at this
  rw [seedcornlaw38_GraphTurned.l0, if_neg (by omega), graph_Levels.ok hLn, Option.bind_some, hlv]
  dsimp only
  rw [if_pos rfl, if_neg (by omega), if_neg (by have := hl2.2 (by omega); omega), graph_Circle.ok hLn, hci, Option.bind_some, seedcornlaw38_GraphTurned.j3, if_neg (by simp)]
  have hw : wrap64 x1 = x1 := by unfold wrap64; omega
  have ha0 : 0 ≤ Int.tmod x1 (L.length : Int) := Int.tmod_nonneg _ h1.1
  have ha1 : Int.tmod x1 (L.length : Int) < (L.length : Int) := Int.tmod_lt_of_pos _ (by omega)
  rw [hw]
  generalize Int.tmod x1 (L.length : Int) = a at *
  obtain ⟨a, rfl⟩ : ∃ a' : Nat, a = a' := ⟨a.toNat, by omega⟩
  have hal : (rd_L1 L (a : Int)).length ≤ 8 := by rw [rd_nd]; exact hrl a (by omega)
  rw [if_neg (by omega), if_pos ha0, if_pos ha1, if_pos (by omega), Option.bind_some, Int.toNat_natCast]
  obtain ⟨L2, hL2⟩ : ∃ L2, L2 = L.set a (rd_L1 L (a : Int) ++ [(a : Int)]) := ⟨_, rfl⟩
  rw [← hL2]
  have hlen2 : L2.length = L.length := by rw [hL2, List.length_set]
  have hnd2 : ∀ i, i < L.length → nd L2 i = if i = a then nd L a ++ [(a : Int)] else nd L i := by
    intro i hi
    rw [hL2]
    unfold nd
    rw [List.getD_eq_getElem?_getD, List.getElem?_set]
    by_cases e : a = i
    · subst e
      rw [if_pos rfl, if_pos (by omega), if_pos rfl, Option.getD_some]
      rfl
    · rw [if_neg e, if_neg (fun h => e h.symm), List.getD_eq_getElem?_getD]
  have hLn2 : Lens L2 := ⟨by omega, fun l hl => by
    obtain ⟨i, hi, rfl⟩ := mem_nd hl
    rw [hnd2 i (by omega)]
    split
    · have := hrl a (by omega); simp; omega
    · have := hrl i (by omega); omega⟩
  have hrb2 : rightB L2 = true := right_of (fun i hi j hj => by
    rw [hnd2 i (by omega)] at hj
    split at hj
    · rcases List.mem_append.1 hj with h | h
      · have := hrow a (by omega) j h; omega
      · simp at h; omega
    · have := hrow i (by omega) j hj; omega)
  have hself : (a : Int) ∈ nd L2 a := by rw [hnd2 a (by omega), if_pos rfl]; simp
  have hct : cnt (hts L2) L2.length < L2.length := by
    have h2 := cnt_le (hts L2) L2.length
    rcases Nat.lt_or_ge (cnt (hts L2) L2.length) L2.length with h | h
    · exact h
    · exfalso
      obtain ⟨v, hv⟩ := Option.isSome_iff_exists.1 (cnt_full (M := hts L2) (n := L2.length) (by omega) a (by omega))
      obtain ⟨u, hu1, hu2⟩ := need_lower hv hself
      rw [hv] at hu1
      injection hu1 with hu1
      omega
  have hlv2 : levelsP L2 = ([], 11) := by unfold levelsP; rw [if_pos hrb2, if_pos hct]
  have hring : Ring L2 (circleP L2) := by
    have := circle_ring hrb2
    rwa [if_pos hct] at this
  have hpos : 0 < (circleP L2).length := by
    cases e : circleP L2 with
    | nil => exact absurd e hring.ne
    | cons x r => simp
  rw [graph_Levels.ok hLn2, Option.bind_some, hlv2]
  show (seedcornlaw38_awake.f).bind _ = _
  rw [show seedcornlaw38_awake.f = some true from rfl, Option.bind_some, if_pos rfl, if_pos rfl, graph_Circle.ok hLn2, Option.bind_some]
  simp [hpos]
end Go.Proofs.Ytdknnekkbhpjlaa.H

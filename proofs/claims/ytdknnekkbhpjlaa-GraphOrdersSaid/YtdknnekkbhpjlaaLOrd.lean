/- The law GraphOrders in plain lists: it tells true. Condition: the rows lie in memory. -/
import Derived.Test.YtdknnekkbhpjlaaPOrd
import Derived.Test.YtdknnekkbhpjlaaPRf
import Derived.Test.YtdknnekkbhpjlaaGf6
set_option linter.unusedVariables false
set_option linter.unusedSimpArgs false
namespace Go.Proofs.Ytdknnekkbhpjlaa.H
open Go.RowKit Go.Proofs.YtdknnekkbhpjlaaW.PrintWords Go.Proofs.YtdknnekkbhpjlaaW.PrintLast Go.Proofs.YtdknnekkbhpjlaaW.PrintMore Go.Proofs.Ytdknnekkbhpjlaa.G

def Flags (n : Nat) (o : List Int) (p : Nat) (x5 : List Bool) : Prop := x5.length = n ∧ ∀ x : Int, 0 ≤ x → x < n → rdOf false x5 x = decide (x ∈ o.take p)
theorem flags_set {n : Nat} {o : List Int} {p : Nat} {x5 : List Bool} (h : Flags n o p x5) (hp : p < o.length) (hv : 0 ≤ rd o (p : Int) ∧ rd o (p : Int) < n) : Flags n o (p + 1) (x5.set (rd o (p : Int)).toNat true) := by
  refine ⟨by rw [List.length_set]; exact h.1, fun x h1 h2 => ?_⟩
  have e : o.take (p + 1) = o.take p ++ [rd o (p : Int)] := by rw [List.take_add_one, rd_get hp, List.getElem?_eq_getElem hp]; rfl
  have h5 := h.2 x h1 h2
  have hl := h.1
  rw [e]
  unfold rdOf at *
  rw [List.getD_eq_getElem?_getD, List.getElem?_set]
  by_cases hx : (rd o (p : Int)).toNat = x.toNat
  · have hx' : rd o (p : Int) = x := by omega
    rw [if_pos hx, if_pos (by omega), hx']
    simp
  · have hx' : x ≠ rd o (p : Int) := by intro h; rw [h] at hx; exact hx rfl
    rw [if_neg hx, ← List.getD_eq_getElem?_getD, h5]
    simp [hx']
theorem ord_l1 {needs : List (List Int)} {o : List Int} (hL : Lens needs) (hR : Right needs) (hO : Orders needs o) {p : Nat} (hp : p < o.length) {x5 : List Bool} (hF : Flags needs.length o p x5) : ∀ (d j k : Nat), j + d = (nd needs (rd o (p : Int)).toNat).length → d + 1 ≤ k →
    seedcornlaw38_GraphOrders.l1 k needs o x5 (p : Int) (j : Int) = seedcornlaw38_GraphOrders.l0 (k - (d + 1)) needs o (x5.set (rd o (p : Int)).toNat true) ((p + 1 : Nat) : Int) := by
  intro d
  have hv := hO.rng _ (rd_mem hp)
  have hn := hL.1
  have hol := hO.len
  have hvn : (rd o (p : Int)).toNat < needs.length := by omega
  have hrl := hL.2 _ (nd_mem hvn)
  have hrow : rd_L1 needs (rd o (p : Int)) = nd needs (rd o (p : Int)).toNat := rfl
  have hfl := hF.1
  induction d with
  | zero =>
    intro j k hd hk
    obtain ⟨m, rfl⟩ : ∃ m, k = m + 1 := ⟨k - 1, by omega⟩
    rw [seedcornlaw38_GraphOrders.l1, if_pos (by omega), if_pos (by omega), if_pos (by omega), if_pos (by omega), hrow, if_neg (by omega), if_pos (by omega), wr64 (by omega)]
    rfl
  | succ d ih =>
    intro j k hd hk
    obtain ⟨m, rfl⟩ : ∃ m, k = m + 1 := ⟨k - 1, by omega⟩
    have hj : j < (nd needs (rd o (p : Int)).toNat).length := by omega
    have hjm := rd_mem hj
    have hjr := hR _ (nd_mem hvn) _ hjm
    have hja := hO.after p hp _ hjm
    have hfx := hF.2 _ hjr.1 hjr.2
    rw [seedcornlaw38_GraphOrders.l1, if_pos (by omega), if_pos (by omega), if_pos (by omega), if_pos (by omega), hrow, if_pos (by omega), if_pos (by omega), if_pos (by omega), if_pos (by omega), hfx, if_pos (by simpa using hja), wr64 (by omega), ih (j + 1) m (by omega) (by omega)]
    congr 1
    omega
theorem ord_l0 {needs : List (List Int)} {o : List Int} (hL : Lens needs) (hR : Right needs) (hO : Orders needs o) {C : Nat} (hC : 1003 ≤ C) : ∀ (d p k : Nat) (x5 : List Bool), p + d = o.length → d * C + 1 ≤ k → Flags needs.length o p x5 →
    seedcornlaw38_GraphOrders.l0 k needs o x5 (p : Int) = some true := by
  intro d
  have hn := hL.1
  have hol := hO.len
  induction d with
  | zero =>
    intro p k x5 hd hk hF
    obtain ⟨m, rfl⟩ : ∃ m, k = m + 1 := ⟨k - 1, by omega⟩
    rw [seedcornlaw38_GraphOrders.l0, if_neg (by omega)]
    rfl
  | succ d ih =>
    intro p k x5 hd hk hF
    rw [Nat.succ_mul] at hk
    obtain ⟨m, rfl⟩ : ∃ m, k = m + 2 := ⟨k - 2, by omega⟩
    have hp : p < o.length := by omega
    have hv := hO.rng _ (rd_mem hp)
    have hvn : (rd o (p : Int)).toNat < needs.length := by omega
    have hrl := hL.2 _ (nd_mem hvn)
    have hfr := hO.fresh p hp
    have hfx := hF.2 _ hv.1 hv.2
    have hfl := hF.1
    rw [seedcornlaw38_GraphOrders.l0, if_pos (by omega), if_pos (by omega), if_neg (by omega), if_neg (by omega), if_pos (by omega), if_pos (by omega), hfx, seedcornlaw38_GraphOrders.j1, if_neg (by simpa using hfr)]
    have := ord_l1 hL hR hO hp hF (nd needs (rd o (p : Int)).toNat).length 0 m (by omega) (by omega)
    rw [show ((0 : Nat) : Int) = 0 from rfl] at this
    rw [this]
    exact ih (p + 1) _ _ (by omega) (by omega) (flags_set hF hp hv)
theorem orders_pure (needs : List (List Int)) (hm : Rows0 needs) : ∃ K, seedcornlaw38_GraphOrders.f K needs = some true := by
  obtain ⟨C, hC⟩ : ∃ C : Nat, C = 1003 := ⟨_, rfl⟩
  obtain ⟨K, hK⟩ : ∃ K : Nat, K = 1000 * C + 1000 := ⟨_, rfl⟩
  refine ⟨K, ?_⟩
  obtain ⟨b, hb1, hb2⟩ := few_f hm (k := K) (by omega)
  unfold seedcornlaw38_GraphOrders.f
  rw [hb1, Option.bind_some]
  cases b with
  | false => rfl
  | true =>
    have hL := hb2 rfl
    have hn := hL.1
    rw [if_pos rfl, graph_Order.ok hL, Option.bind_some]
    unfold orderP levelsP
    by_cases h1 : rightB needs = true
    · rw [if_pos h1]
      by_cases h2 : cnt (hts needs) needs.length < needs.length
      · rw [if_pos h2]
        rfl
      · rw [if_neg h2]
        have hO := orders_flat h1 h2
        have hol := hO.len
        dsimp only
        rw [if_pos rfl]
        dsimp only
        rw [if_pos rfl, if_pos (by omega), if_pos (by omega), if_pos (by omega), Int.toNat_natCast]
        have hmul : needs.length * C ≤ 1000 * C := Nat.mul_le_mul_right _ hn
        refine ord_l0 hL (rightB_true h1) hO (C := C) (by omega) needs.length 0 K _ (by omega) (by omega) ⟨by simp, fun x hx1 hx2 => ?_⟩
        unfold rdOf
        rw [List.getD_eq_getElem?_getD, List.getElem?_replicate]
        split <;> simp
    · rw [if_neg h1]
      rfl
end Go.Proofs.Ytdknnekkbhpjlaa.H

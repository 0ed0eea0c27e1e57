/- The second tellings of Levels and Order answer as Levels and Order do. Plain lists. Condition: at most 1000 things of at most 1000 needs each. -/
import Derived.Test.YtdknnekkbhpjlaaPOrd
import Derived.Test.YtdknnekkbhpjlaaPRf
import Derived.Test.YtdknnekkbhpjlaaGf14
import Derived.Test.YtdknnekkbhpjlaaGf17
import Derived.Test.YtdknnekkbhpjlaaLTurn
set_option linter.unusedVariables false
set_option linter.unusedSimpArgs false
namespace Go.Proofs.Ytdknnekkbhpjlaa.H
open Go.RowKit Go.Proofs.YtdknnekkbhpjlaaW.PrintWords Go.Proofs.YtdknnekkbhpjlaaW.PrintLast Go.Proofs.YtdknnekkbhpjlaaW.PrintMore Go.Proofs.Ytdknnekkbhpjlaa.G

def doneB (M : Mp) (t : Nat) (x : Int) : Bool := match M x with | some v => decide (v < t) | none => false
theorem doneB_none {M : Mp} {t : Nat} {x : Int} (e : M x = none) : doneB M t x = false := by unfold doneB; rw [e]
theorem doneB_some {M : Mp} {t : Nat} {x v : Int} (e : M x = some v) : doneB M t x = decide (v < t) := by unfold doneB; rw [e]
def rowS (M : Mp) (n t : Nat) : List Int := ((List.range n).filter (fun (i : Nat) => M (i : Int) == some (t : Int))).map (fun (i : Nat) => (i : Int))
theorem rowS_succ (M : Mp) (n t : Nat) : rowS M (n + 1) t = rowS M n t ++ if M (n : Int) = some (t : Int) then [(n : Int)] else [] := by
  unfold rowS
  rw [List.range_succ, List.filter_append, List.map_append]
  congr 1
  by_cases e : M (n : Int) = some (t : Int)
  · simp [e]
  · simp [e]
theorem mem_rowS {M : Mp} {n t : Nat} {x : Int} : x ∈ rowS M n t ↔ 0 ≤ x ∧ x < n ∧ M x = some (t : Int) := by
  unfold rowS
  simp only [List.mem_map, List.mem_filter, List.mem_range, beq_iff_eq]
  constructor
  · rintro ⟨i, ⟨h1, h2⟩, rfl⟩
    exact ⟨by omega, by omega, h2⟩
  · rintro ⟨h1, h2, h3⟩
    exact ⟨x.toNat, ⟨by omega, by rw [Int.toNat_of_nonneg h1]; exact h3⟩, by omega⟩
theorem rowS_len (M : Mp) (n t : Nat) : (rowS M n t).length ≤ n := by
  unfold rowS
  rw [List.length_map]
  exact Nat.le_trans (List.length_filter_le _ _) (by simp)
theorem rowS_nodup (M : Mp) (n t : Nat) : (rowS M n t).Pairwise (· < ·) := by
  unfold rowS
  rw [List.pairwise_map]
  refine List.Pairwise.imp (fun {a b} hab => ?_) (List.Pairwise.filter _ (List.pairwise_lt_range (n := n)))
  exact Int.ofNat_lt.2 hab
theorem rowS_fresh {M : Mp} {n t q : Nat} (hq : q < (rowS M n t).length) : rd (rowS M n t) (q : Int) ∉ (rowS M n t).take q := by
  intro hmem
  rw [rd_get hq] at hmem
  obtain ⟨i, hi, e⟩ := List.getElem_of_mem hmem
  rw [List.getElem_take] at e
  have hi' : i < q := by rw [List.length_take] at hi; omega
  have := (List.pairwise_iff_getElem.1 (rowS_nodup M n t)) i q (by omega) hq hi'
  omega
def FlagsB (n : Nat) (D : Int → Bool) (x5 : List Bool) : Prop := x5.length = n ∧ ∀ x : Int, 0 ≤ x → x < n → rdOf false x5 x = D x
theorem ready_l0 {l : List Int} {x4 : List Bool} {D : Int → Bool} {n : Nat} (hF : FlagsB n D x4) (hl : l.length ≤ 1000) (hr : ∀ j ∈ l, 0 ≤ j ∧ j < n) : ∀ (d i k : Nat), i + d = l.length → d + 1 ≤ k →
    seedcornref38_ready.l0 k l x4 (i : Int) = some ((l.drop i).all D) := by
  intro d
  have hfl := hF.1
  induction d with
  | zero =>
    intro i k hd hk
    obtain ⟨m, rfl⟩ : ∃ m, k = m + 1 := ⟨k - 1, by omega⟩
    rw [seedcornref38_ready.l0, if_neg (by omega), List.drop_of_length_le (by omega)]
    rfl
  | succ d ih =>
    intro i k hd hk
    obtain ⟨m, rfl⟩ : ∃ m, k = m + 1 := ⟨k - 1, by omega⟩
    have hi : i < l.length := by omega
    have hj := hr _ (rd_mem hi)
    rw [seedcornref38_ready.l0, if_pos (by omega), if_pos (by omega), if_pos (by omega), if_pos (by omega), hF.2 _ hj.1 hj.2, drop_rd hi, List.all_cons]
    cases hD : D (rd l (i : Int)) with
    | true => rw [if_pos rfl, wr64 (by omega), ih (i + 1) m (by omega) (by omega)]; simp
    | false => rw [if_neg (by decide)]; simp
theorem ready_f {l : List Int} {x4 : List Bool} {D : Int → Bool} {n k : Nat} (hF : FlagsB n D x4) (hl : l.length ≤ 1000) (hr : ∀ j ∈ l, 0 ≤ j ∧ j < n) (hk : 1001 ≤ k) : seedcornref38_ready.f k l x4 = some (l.all D) := by
  have := ready_l0 hF hl hr l.length 0 k (by omega) (by omega)
  exact this
/-- Of height t: not done at t, and all needs done. -/
theorem height_iff {needs : List (List Int)} {i t : Nat} (hi : i < needs.length) (hd : doneB (hts needs) t (i : Int) = false) : (nd needs i).all (doneB (hts needs) t) = true ↔ hts needs (i : Int) = some (t : Int) := by
  constructor
  · intro h
    rw [List.all_eq_true] at h
    have hs : ∀ j ∈ nd needs i, ∃ v, hts needs j = some v ∧ v < t := fun j hj => by
      have := h j hj
      unfold doneB at this
      cases e : hts needs j with
      | none => rw [e] at this; cases this
      | some v => rw [e] at this; exact ⟨v, rfl, of_decide_eq_true this⟩
    have hsome := some_needs hi (fun j hj => by obtain ⟨v, e, _⟩ := hs j hj; rw [e]; rfl)
    obtain ⟨w, hw⟩ := Option.isSome_iff_exists.1 hsome
    have hg := (good_hts needs i w hw).2
    have hle : lvF (hts needs) 0 (nd needs i) ≤ t := lvF_le (by omega) (fun j hj => by obtain ⟨v, e, hv⟩ := hs j hj; rw [e]; show v + 1 ≤ _; omega)
    unfold doneB at hd
    rw [hw] at hd
    have := of_decide_eq_false hd
    rw [hw]
    congr 1
    omega
  · intro h
    rw [List.all_eq_true]
    intro j hj
    obtain ⟨u, hu, hlt⟩ := need_lower h hj
    unfold doneB
    rw [hu]
    exact decide_eq_true hlt
theorem lev_l1 {needs : List (List Int)} (hL : Lens needs) (hR : Right needs) {t : Nat} {x4 : List Bool} {x5 : List (List Int)} {x6 : Int} (hF : FlagsB needs.length (doneB (hts needs) t) x4) : ∀ (d i k : Nat), i + d = needs.length → d + 1003 ≤ k →
    seedcornref38_Levels.l1 k needs x4 x5 x6 (rowS (hts needs) i t) (i : Int) = if (rowS (hts needs) needs.length t).length = 0 then some (([] : List (List Int)), 11) else seedcornref38_Levels.l2 (k - (d + 1)) needs x4 x5 x6 (rowS (hts needs) needs.length t) 0 := by
  intro d
  have hn := hL.1
  have hfl := hF.1
  induction d with
  | zero =>
    intro i k hd hk
    obtain ⟨m, rfl⟩ : ∃ m, k = m + 1 := ⟨k - 1, by omega⟩
    obtain rfl : i = needs.length := by omega
    rw [seedcornref38_Levels.l1, if_neg (by omega)]
    by_cases h : (rowS (hts needs) needs.length t).length = 0
    · rw [if_pos h, if_pos (by omega)]
    · rw [if_neg h, if_neg (by omega)]
      rfl
  | succ d ih =>
    intro i k hd hk
    obtain ⟨m, rfl⟩ : ∃ m, k = m + 1 := ⟨k - 1, by omega⟩
    have hi : i < needs.length := by omega
    have hfx := hF.2 (i : Int) (by omega) (by omega)
    have hrl := hL.2 _ (nd_mem hi)
    have hrr := hR _ (nd_mem hi)
    have hlen := rowS_len (hts needs) i t
    have ih' := ih (i + 1) m (by omega) (by omega)
    rw [rowS_succ, show m - (d + 1) = m + 1 - (d + 1 + 1) by omega] at ih'
    rw [seedcornref38_Levels.l1, if_pos (by omega), if_pos (by omega), if_pos (by omega), hfx, wr64 (by omega)]
    have hrow : rd_L1 needs (i : Int) = nd needs i := rfl
    cases hd : doneB (hts needs) t (i : Int) with
    | true =>
      rw [if_pos rfl, ← ih', if_neg (fun e => by unfold doneB at hd; rw [e] at hd; have := of_decide_eq_true hd; omega), List.append_nil]
    | false =>
      rw [if_neg (by decide), hrow, ready_f hF hrl hrr (by omega), Option.bind_some]
      by_cases h : hts needs (i : Int) = some (t : Int)
      · rw [if_pos ((height_iff hi hd).2 h), if_pos (by omega), ← ih', if_pos h]
      · rw [if_neg (fun e => h ((height_iff hi hd).1 e)), ← ih', if_neg h, List.append_nil]
theorem flagsB_set {n : Nat} {D : Int → Bool} {x5 : List Bool} {v : Int} (h : FlagsB n D x5) (hv : 0 ≤ v ∧ v < n) : FlagsB n (fun x => D x || decide (x = v)) (x5.set v.toNat true) := by
  refine ⟨by rw [List.length_set]; exact h.1, fun x h1 h2 => ?_⟩
  have h5 := h.2 x h1 h2
  have hl := h.1
  unfold rdOf at *
  rw [List.getD_eq_getElem?_getD, List.getElem?_set]
  by_cases hx : v.toNat = x.toNat
  · have hx' : x = v := by omega
    rw [if_pos hx, if_pos (by omega), hx']
    simp
  · have hx' : x ≠ v := by intro h; rw [h] at hx; exact hx rfl
    rw [if_neg hx, ← List.getD_eq_getElem?_getD, h5]
    simp [hx']
theorem count_set {x5 : List Bool} {v : Int} (h0 : 0 ≤ v) (hl : v < (x5.length : Int)) (hf : rdOf false x5 v = false) : (x5.set v.toNat true).count false + 1 = x5.count false := by
  have hlt : v.toNat < x5.length := by omega
  have hg : x5[v.toNat] = false := by
    unfold rdOf at hf
    rw [List.getD_eq_getElem?_getD, List.getElem?_eq_getElem hlt] at hf
    exact hf
  have hpos : 0 < x5.count false := List.count_pos_iff.2 (hg ▸ List.getElem_mem hlt)
  rw [List.count_set hlt, hg]
  simp
  omega
theorem lev_l2 {needs : List (List Int)} (hL : Lens needs) {t : Nat} {x5 : List (List Int)} {left : Nat} (h5 : x5.length ≤ 1000) (hle : left ≤ 1000) : ∀ (d q k : Nat) (x4 : List Bool), q + d = (rowS (hts needs) needs.length t).length → d + 1 ≤ k →
    FlagsB needs.length (fun x => doneB (hts needs) t x || decide (x ∈ (rowS (hts needs) needs.length t).take q)) x4 → x4.count false + q = left →
    ∃ x4', FlagsB needs.length (doneB (hts needs) (t + 1)) x4' ∧ x4'.count false + (rowS (hts needs) needs.length t).length = left ∧
      seedcornref38_Levels.l2 k needs x4 x5 (left : Int) (rowS (hts needs) needs.length t) (q : Int) = seedcornref38_Levels.l0 (k - (d + 1)) needs x4' (x5 ++ [rowS (hts needs) needs.length t]) ((x4'.count false : Nat) : Int) := by
  intro d
  have hn := hL.1
  have hlen := rowS_len (hts needs) needs.length t
  induction d with
  | zero =>
    intro q k x4 hd hk hF hc
    obtain ⟨m, rfl⟩ : ∃ m, k = m + 1 := ⟨k - 1, by omega⟩
    refine ⟨x4, ⟨hF.1, fun x h1 h2 => ?_⟩, by omega, ?_⟩
    · rw [hF.2 x h1 h2, List.take_of_length_le (by omega)]
      dsimp only
      cases e : hts needs x with
      | none =>
        have : x ∉ rowS (hts needs) needs.length t := fun h => by rw [(mem_rowS.1 h).2.2] at e; cases e
        rw [doneB_none e, doneB_none e, decide_eq_false this]
        rfl
      | some v =>
        rw [doneB_some e, doneB_some e]
        by_cases hv : v = t
        · subst hv
          have : x ∈ rowS (hts needs) needs.length t := mem_rowS.2 ⟨h1, h2, e⟩
          rw [decide_eq_true this, Bool.or_true]
          exact (decide_eq_true (by omega)).symm
        · have : x ∉ rowS (hts needs) needs.length t := fun h => by rw [(mem_rowS.1 h).2.2] at e; injection e with e; omega
          rw [decide_eq_false this, Bool.or_false]
          by_cases hvt : v < t
          · rw [decide_eq_true hvt, decide_eq_true (by omega)]
          · rw [decide_eq_false hvt, decide_eq_false (by omega)]
    · rw [seedcornref38_Levels.l2, if_neg (by omega), if_pos (by omega)]
      have : wrap64 ((left : Int) - ((rowS (hts needs) needs.length t).length : Int)) = ((x4.count false : Nat) : Int) := by unfold wrap64; omega
      rw [this]
      rfl
  | succ d ih =>
    intro q k x4 hd hk hF hc
    obtain ⟨m, rfl⟩ : ∃ m, k = m + 1 := ⟨k - 1, by omega⟩
    have hq : q < (rowS (hts needs) needs.length t).length := by omega
    have hm := mem_rowS.1 (rd_mem hq)
    have hfr := rowS_fresh hq
    have hfl := hF.1
    have hfalse : rdOf false x4 (rd (rowS (hts needs) needs.length t) (q : Int)) = false := by
      rw [hF.2 _ hm.1 hm.2.1]
      simp only [Bool.or_eq_false_iff, decide_eq_false_iff_not]
      refine ⟨?_, hfr⟩
      unfold doneB
      rw [hm.2.2]
      simp
    have hcs := count_set hm.1 (by omega) hfalse
    obtain ⟨x4', h1, h2, h3⟩ := ih (q + 1) m (x4.set (rd (rowS (hts needs) needs.length t) (q : Int)).toNat true) (by omega) (by omega) (by
      have := flagsB_set hF ⟨hm.1, hm.2.1⟩
      refine ⟨this.1, fun x a b => ?_⟩
      have e : (rowS (hts needs) needs.length t).take (q + 1) = (rowS (hts needs) needs.length t).take q ++ [rd (rowS (hts needs) needs.length t) (q : Int)] := by rw [List.take_add_one, rd_get hq, List.getElem?_eq_getElem hq]; rfl
      rw [this.2 x a b, e]
      simp only [List.mem_append, List.mem_singleton, Bool.decide_or, Bool.or_assoc]) (by omega)
    refine ⟨x4', h1, h2, ?_⟩
    rw [seedcornref38_Levels.l2, if_pos (by omega), if_pos (by omega), if_pos (by omega), if_pos (by omega), wr64 (by omega), h3]
    congr 1
    omega
theorem lvF_hit (M : Mp) (l : List Int) : ∀ a : Int, lvF M a l = a ∨ ∃ j ∈ l, lvF M a l = (M j).getD 0 + 1 := by
  induction l with
  | nil => intro a; exact .inl rfl
  | cons j l ih =>
    intro a
    have e : lvF M a (j :: l) = lvF M (if a < (M j).getD 0 + 1 then (M j).getD 0 + 1 else a) l := rfl
    rw [e]
    rcases ih (if a < (M j).getD 0 + 1 then (M j).getD 0 + 1 else a) with h | ⟨i, hi, h⟩
    · rw [h]
      split
      · exact .inr ⟨j, by simp, rfl⟩
      · exact .inl rfl
    · exact .inr ⟨i, by simp [hi], h⟩
theorem descend {needs : List (List Int)} (hR : Right needs) {t : Nat} : ∀ (f i : Nat) (v : Int), i < needs.length → hts needs (i : Int) = some v → t ≤ v → v ≤ t + f → rowS (hts needs) needs.length t ≠ [] := by
  intro f
  induction f with
  | zero =>
    intro i v hi hv h1 h2 e
    have hvt : v = t := by omega
    subst hvt
    have : (i : Int) ∈ rowS (hts needs) needs.length t := mem_rowS.2 ⟨by omega, by omega, hv⟩
    rw [e] at this
    simp at this
  | succ f ih =>
    intro i v hi hv h1 h2
    by_cases hvt : v ≤ t + f
    · exact ih i v hi hv h1 (by omega)
    · have hg := (good_hts needs i v hv).2
      rcases lvF_hit (hts needs) (nd needs i) 0 with h | ⟨j, hj, h⟩
      · omega
      · have hjr := hR _ (nd_mem hi) j hj
        obtain ⟨u, hu, huv⟩ := need_lower hv hj
        rw [hu] at h
        have h' : lvF (hts needs) 0 (nd needs i) = u + 1 := h
        exact ih j.toNat u (by omega) (by rw [Int.toNat_of_nonneg hjr.1]; exact hu) (by omega) (by omega)
theorem rowS_rowsOf {M : Mp} {c n : Nat} (hl : Lev c M) (hfull : cnt M n = n) (t : Nat) : rowS M n t = rowsOf M n t := by
  unfold rowS rowsOf
  congr 1
  apply List.filter_congr
  intro i hi
  rw [List.mem_range] at hi
  obtain ⟨v, hv⟩ := Option.isSome_iff_exists.1 (cnt_full hfull i hi)
  have hv0 := (hl _ _ hv).1
  unfold hH
  rw [hv]
  rw [Bool.eq_iff_iff]
  simp only [beq_iff_eq, Option.some.injEq, Option.getD_some]
  omega
theorem rows_lvTo {needs : List (List Int)} (hfull : cnt (hts needs) needs.length = needs.length) {t : Nat} (ht : t = 0 ∨ rowS (hts needs) needs.length (t - 1) ≠ []) (hall : ∀ i : Nat, i < needs.length → doneB (hts needs) t (i : Int) = true) :
    (List.range t).map (rowS (hts needs) needs.length) = lvTo (hts needs) needs.length := by
  have hl := hts_lev needs
  have h1 : (lvTo (hts needs) needs.length).length ≤ t := (lvTo_len2 (c := t) needs.length (fun i hi => by
    have h := hall i hi
    obtain ⟨v, hv⟩ := Option.isSome_iff_exists.1 (cnt_full hfull i hi)
    unfold doneB at h
    rw [hv] at h
    have h := of_decide_eq_true h
    have hv0 := (hl _ _ hv).1
    rw [hv]
    show v.toNat + 1 ≤ t
    omega)).1
  have h2 : t ≤ (lvTo (hts needs) needs.length).length := by
    rcases ht with rfl | h
    · omega
    · rcases Nat.lt_or_ge (t - 1) (lvTo (hts needs) needs.length).length with h3 | h3
      · omega
      · exfalso
        rw [rowS_rowsOf hl hfull, ← lvTo_nd hl, nd, List.getD_eq_getElem?_getD, List.getElem?_eq_none h3] at h
        exact h rfl
  apply List.ext_getElem
  · simp; omega
  · intro i hi1 hi2
    rw [row_eq hl hi2, List.getElem_map, List.getElem_range, rowS_rowsOf hl hfull]
theorem lev_l0 {needs : List (List Int)} (hL : Lens needs) (hR : Right needs) {C : Nat} (hC : 4000 ≤ C) : ∀ (f left t k : Nat) (x4 : List Bool), left ≤ f → f * C + C ≤ k → FlagsB needs.length (doneB (hts needs) t) x4 → x4.count false = left → t + left ≤ needs.length → (t = 0 ∨ rowS (hts needs) needs.length (t - 1) ≠ []) →
    seedcornref38_Levels.l0 k needs x4 ((List.range t).map (rowS (hts needs) needs.length)) (left : Int) = some (if cnt (hts needs) needs.length < needs.length then ([], 11) else (lvTo (hts needs) needs.length, 0)) := by
  intro f
  have hn := hL.1
  induction f with
  | zero =>
    intro left t k x4 hlf hk hF hc htl ht
    obtain rfl : left = 0 := by omega
    obtain ⟨m, rfl⟩ : ∃ m, k = m + 1 := ⟨k - 1, by omega⟩
    have hall : ∀ i : Nat, i < needs.length → doneB (hts needs) t (i : Int) = true := fun i hi => by
      rw [← hF.2 i (by omega) (by omega)]
      have hfl := hF.1
      have hlt : i < x4.length := by omega
      have e : rdOf false x4 (i : Int) = x4[i] := by simp [rdOf, hlt]
      rw [e]
      cases e2 : x4[i] with
      | true => rfl
      | false => exact absurd (List.count_pos_iff.2 (e2 ▸ List.getElem_mem hlt)) (by omega)
    have hfull : cnt (hts needs) needs.length = needs.length := cnt_all (fun i hi => by
      have h := hall i hi
      unfold doneB at h
      cases e : hts needs (i : Int) with
      | none => rw [e] at h; cases h
      | some v => rfl)
    rw [seedcornref38_Levels.l0, if_neg (by omega), if_neg (by omega), rows_lvTo hfull ht hall]
  | succ f ih =>
    intro left t k x4 hlf hk hF hc htl ht
    rw [Nat.succ_mul] at hk
    by_cases hl0 : left ≤ f
    · exact ih left t k x4 hl0 (by omega) hF hc htl ht
    obtain ⟨m, rfl⟩ : ∃ m, k = m + 1 := ⟨k - 1, by omega⟩
    have hlen := rowS_len (hts needs) needs.length t
    have hl1 := lev_l1 hL hR (x5 := (List.range t).map (rowS (hts needs) needs.length)) (x6 := (left : Int)) hF needs.length 0 m (by omega) (by omega)
    have e0 : rowS (hts needs) 0 t = [] := rfl
    rw [e0, show ((0 : Nat) : Int) = 0 from rfl] at hl1
    rw [seedcornref38_Levels.l0, if_pos (by omega), hl1]
    by_cases hr : (rowS (hts needs) needs.length t).length = 0
    · rw [if_pos hr]
      have hct : cnt (hts needs) needs.length < needs.length := by
        have hle := cnt_le (hts needs) needs.length
        rcases Nat.lt_or_ge (cnt (hts needs) needs.length) needs.length with h | h
        · exact h
        · exfalso
          have hfull : cnt (hts needs) needs.length = needs.length := by omega
          obtain ⟨i, hi, hix⟩ := List.getElem_of_mem (List.count_pos_iff.1 (show 0 < x4.count false by omega))
          have hfl := hF.1
          have hd := hF.2 i (by omega) (by omega)
          rw [show rdOf false x4 (i : Int) = x4[i] by simp [rdOf, hi], hix] at hd
          obtain ⟨v, hv⟩ := Option.isSome_iff_exists.1 (cnt_full hfull i (by omega))
          unfold doneB at hd
          rw [hv] at hd
          have hd := of_decide_eq_false hd.symm
          exact descend hR (v - t).toNat i v (by omega) hv (by omega) (by omega) (List.eq_nil_of_length_eq_zero hr)
      rw [if_pos hct]
    · rw [if_neg hr]
      obtain ⟨x4', h1, h2, h3⟩ := lev_l2 hL (t := t) (x5 := (List.range t).map (rowS (hts needs) needs.length)) (left := left) (by simp; omega) (by omega) (rowS (hts needs) needs.length t).length 0 (m - (needs.length + 1)) x4 (by omega) (by omega) (by simpa using hF) (by omega)
      rw [show ((0 : Nat) : Int) = 0 from rfl] at h3
      rw [h3]
      have e : (List.range t).map (rowS (hts needs) needs.length) ++ [rowS (hts needs) needs.length t] = (List.range (t + 1)).map (rowS (hts needs) needs.length) := by rw [List.range_succ, List.map_append]; rfl
      rw [e]
      exact ih (x4'.count false) (t + 1) _ x4' (by omega) (by omega) h1 rfl (by omega) (.inr (fun e => hr (by rw [Nat.add_sub_cancel] at e; rw [e]; rfl)))
theorem rlevels_f {needs : List (List Int)} (hL : Lens needs) {k C : Nat} (hC : C = 4000) (hk : 1001 * C ≤ k) : seedcornref38_Levels.f k needs = some (levelsP needs) := by
  have hn := hL.1
  unfold seedcornref38_Levels.f levelsP
  rw [rright_f hL (by omega), Option.bind_some]
  by_cases h : rightB needs = true
  · rw [if_pos h, if_pos h, if_pos (by omega), if_pos (by omega), Int.toNat_natCast]
    have hmul : needs.length * C ≤ 1000 * C := Nat.mul_le_mul_right _ hn
    have hmul2 : 1001 * C = 1000 * C + C := by omega
    refine lev_l0 hL (rightB_true h) (C := C) (by omega) needs.length needs.length 0 k _ (Nat.le_refl _) (by omega) ⟨by simp, fun x h1 h2 => ?_⟩ (by simp) (by omega) (.inl rfl)
    have hd : doneB (hts needs) 0 x = false := by
      unfold doneB
      cases e : hts needs x with
      | none => rfl
      | some v => have := (hts_lev needs _ _ e).1; exact decide_eq_false (by omega)
    rw [hd]
    unfold rdOf
    rw [List.getD_eq_getElem?_getD, List.getElem?_replicate]
    split <;> rfl
  · rw [if_neg h, if_neg h]
theorem rorder_l0 {rows : List (List Int)} {e : Int} (hl : rows.length ≤ 1001) (hr : ∀ l ∈ rows, l.length ≤ 1000) : ∀ (d i k : Nat), i + d = rows.length → d + 1 ≤ k →
    seedcornref38_Order.l0 k rows e (rows.take i).flatten (i : Int) = some (rows.flatten, e) := by
  intro d
  induction d with
  | zero =>
    intro i k hd hk
    obtain ⟨m, rfl⟩ : ∃ m, k = m + 1 := ⟨k - 1, by omega⟩
    rw [seedcornref38_Order.l0, if_neg (by omega), List.take_of_length_le (by omega)]
  | succ d ih =>
    intro i k hd hk
    obtain ⟨m, rfl⟩ : ∃ m, k = m + 1 := ⟨k - 1, by omega⟩
    have hi : i < rows.length := by omega
    have h1 := flat_len (rows := rows) i (by omega)
    have h2 := sumTo_le hr i (by omega)
    have h3 := hr _ (nd_mem hi)
    have h4 : rd_L1 rows (i : Int) = nd rows i := rfl
    rw [seedcornref38_Order.l0, if_pos (by omega), if_pos (by omega), h4, if_pos (by omega), ← flat_succ hi, wr64 (by omega), ih (i + 1) m (by omega) (by omega)]
theorem rorder_f {needs : List (List Int)} (hL : Lens needs) {k C : Nat} (hC : C = 4000) (hk : 1001 * C ≤ k) : seedcornref38_Order.f k needs = some (orderP needs) := by
  unfold seedcornref38_Order.f
  rw [rlevels_f hL hC hk, Option.bind_some]
  have h := levelsP_len hL
  have := rorder_l0 (e := (levelsP needs).2) h.1 h.2 (levelsP needs).1.length 0 k (by omega) (by omega)
  rw [show ((0 : Nat) : Int) = 0 from rfl] at this
  rw [show ([] : List Int) = ((levelsP needs).1.take 0).flatten from rfl, this]
  unfold orderP
  by_cases he : (levelsP needs).2 = 0
  · rw [if_pos he, he]
  · rw [if_neg he]
    have : (levelsP needs).1 = [] := by
      unfold levelsP at he ⊢
      split
      · next hh =>
        rw [if_pos hh] at he
        split
        · rfl
        · next h2 => rw [if_neg h2] at he; exact absurd rfl he
      · rfl
    rw [this]
    rfl
end Go.Proofs.Ytdknnekkbhpjlaa.H

/- The rows of Levels: row h holds the things of height h, in order. Laid end to end, each thing once, after all it needs. Plain lists. -/
import Derived.Test.YtdknnekkbhpjlaaHOrder
import Derived.Test.YtdknnekkbhpjlaaPGr
set_option linter.unusedVariables false
set_option linter.unusedSimpArgs false
namespace Go.Proofs.Ytdknnekkbhpjlaa.H
open Go.RowKit Go.Proofs.YtdknnekkbhpjlaaW.PrintWords Go.Proofs.YtdknnekkbhpjlaaW.PrintLast Go.Proofs.YtdknnekkbhpjlaaW.PrintMore Go.Proofs.Ytdknnekkbhpjlaa.G

def hH (M : Mp) (i : Int) : Nat := ((M i).getD 0).toNat
def rowsOf (M : Mp) (n h : Nat) : List Int := ((List.range n).filter (fun (i : Nat) => hH M (i : Int) == h)).map (fun (i : Nat) => (i : Int))
theorem rowsOf_succ (M : Mp) (n h : Nat) : rowsOf M (n + 1) h = rowsOf M n h ++ if hH M (n : Int) = h then [(n : Int)] else [] := by
  unfold rowsOf
  rw [List.range_succ, List.filter_append, List.map_append]
  congr 1
  by_cases e : hH M (n : Int) = h
  · simp [e]
  · simp [e]
theorem mem_rowsOf {M : Mp} {n h : Nat} {x : Int} : x ∈ rowsOf M n h ↔ 0 ≤ x ∧ x < n ∧ hH M x = h := by
  unfold rowsOf
  simp only [List.mem_map, List.mem_filter, List.mem_range, beq_iff_eq]
  constructor
  · rintro ⟨i, ⟨h1, h2⟩, rfl⟩
    exact ⟨by omega, by omega, h2⟩
  · rintro ⟨h1, h2, h3⟩
    exact ⟨x.toNat, ⟨by omega, by rw [Int.toNat_of_nonneg h1]; exact h3⟩, by omega⟩
theorem nd_padTo (out : List (List Int)) (q h : Nat) : nd (padTo out q) h = nd out h := by
  unfold nd padTo
  rw [List.getD_eq_getElem?_getD, List.getD_eq_getElem?_getD, List.getElem?_append]
  split
  · rfl
  · next hh =>
    rw [List.getElem?_eq_none (l := out) (by omega), List.getElem?_replicate]
    split <;> rfl
theorem nd_set (L : List (List Int)) (q h : Nat) (x : List Int) (hq : q < L.length) : nd (L.set q x) h = if q = h then x else nd L h := by
  unfold nd
  rw [List.getD_eq_getElem?_getD, List.getElem?_set]
  by_cases e : q = h
  · subst e
    simp [hq]
  · rw [if_neg e, if_neg e, List.getD_eq_getElem?_getD]
theorem lvTo_nd {M : Mp} {c : Nat} (hl : Lev c M) : ∀ (n h : Nat), nd (lvTo M n) h = rowsOf M n h
  | 0, h => by simp [lvTo, rowsOf, nd]
  | n + 1, h => by
    have h0 := (lev_getD hl (n : Int)).1
    have ih := lvTo_nd hl n
    rw [rowsOf_succ]
    simp only [lvTo, lvStep]
    rw [nd_set _ _ _ _ (by rw [padTo_length]; omega)]
    have hrd : rd_L1 (padTo (lvTo M n) ((M n).getD 0).toNat) ((M n).getD 0) = rowsOf M n ((M n).getD 0).toNat := by
      have e : ((M n).getD 0) = (((M n).getD 0).toNat : Int) := by omega
      have e2 := nd_padTo (lvTo M n) ((M n).getD 0).toNat ((M n).getD 0).toNat
      rw [ih] at e2
      exact e2
    rw [hrd, nd_padTo, ih]
    show _ = rowsOf M n h ++ if ((M n).getD 0).toNat = h then [(n : Int)] else []
    by_cases e : ((M n).getD 0).toNat = h
    · rw [if_pos e, if_pos e, e]
    · rw [if_neg e, if_neg e, List.append_nil]
theorem set_flat (x : Int) : ∀ (L : List (List Int)) (h : Nat), h < L.length → ((L.set h (nd L h ++ [x])).flatten).length = L.flatten.length + 1
  | [], h, hh => by simp at hh
  | l :: L, 0, _ => by simp [nd]; omega
  | l :: L, h + 1, hh => by
    have := set_flat x L h (by simpa using hh)
    simp only [List.set_cons_succ, List.flatten_cons, List.length_append]
    have e : nd (l :: L) (h + 1) = nd L h := by simp [nd]
    rw [e, this]
    omega
theorem flat_pad (out : List (List Int)) (q : Nat) : (padTo out q).flatten.length = out.flatten.length := by
  unfold padTo
  rw [List.flatten_append, List.length_append]
  have : ∀ m, (List.replicate m ([] : List Int)).flatten.length = 0 := by
    intro m
    induction m with
    | zero => rfl
    | succ m ih => rw [List.replicate_succ, List.flatten_cons, List.length_append, ih]; rfl
  rw [this]
  rfl
theorem flat_total (M : Mp) : ∀ n, (lvTo M n).flatten.length = n
  | 0 => rfl
  | n + 1 => by
    simp only [lvTo, lvStep]
    have := set_flat (n : Int) (padTo (lvTo M n) ((M n).getD 0).toNat) ((M n).getD 0).toNat (by rw [padTo_length]; omega)
    rw [flat_pad, flat_total M n] at this
    exact this

/-- Sooner: of a lower row, or of the same and smaller. -/
def Sooner (M : Mp) (a b : Int) : Prop := hH M a < hH M b ∨ (hH M a = hH M b ∧ a < b)
theorem rowsOf_pair (M : Mp) (n h : Nat) : (rowsOf M n h).Pairwise (Sooner M) := by
  have h1 : (rowsOf M n h).Pairwise (· < ·) := by
    unfold rowsOf
    rw [List.pairwise_map]
    refine List.Pairwise.imp (fun {a b} hab => ?_) (List.Pairwise.filter _ (List.pairwise_lt_range (n := n)))
    exact Int.ofNat_lt.2 hab
  refine List.Pairwise.imp_of_mem (fun {a b} ha hb hab => ?_) h1
  exact .inr ⟨by rw [(mem_rowsOf.1 ha).2.2, (mem_rowsOf.1 hb).2.2], hab⟩
theorem row_eq {M : Mp} {c : Nat} (hl : Lev c M) {n i : Nat} (hi : i < (lvTo M n).length) : (lvTo M n)[i] = rowsOf M n i := by
  have := lvTo_nd hl n i
  unfold nd at this
  rw [List.getD_eq_getElem?_getD, List.getElem?_eq_getElem hi] at this
  exact this
theorem flat_pair {M : Mp} {c : Nat} (hl : Lev c M) (n : Nat) : ((lvTo M n).flatten).Pairwise (Sooner M) := by
  rw [List.pairwise_flatten]
  constructor
  · intro l h
    obtain ⟨i, hi, rfl⟩ := List.getElem_of_mem h
    rw [row_eq hl hi]
    exact rowsOf_pair M n i
  · rw [List.pairwise_iff_getElem]
    intro i j hi hj hij x hx y hy
    rw [row_eq hl hi] at hx
    rw [row_eq hl hj] at hy
    have := (mem_rowsOf.1 hx).2.2
    have := (mem_rowsOf.1 hy).2.2
    exact .inl (by omega)
theorem flat_mem {M : Mp} {c : Nat} (hl : Lev c M) {n : Nat} {x : Int} : x ∈ (lvTo M n).flatten ↔ 0 ≤ x ∧ x < n := by
  rw [List.mem_flatten]
  constructor
  · rintro ⟨l, h, hx⟩
    obtain ⟨i, hi, rfl⟩ := List.getElem_of_mem h
    rw [row_eq hl hi] at hx
    have := mem_rowsOf.1 hx
    exact ⟨this.1, this.2.1⟩
  · rintro ⟨h1, h2⟩
    have hm : x ∈ rowsOf M n (hH M x) := mem_rowsOf.2 ⟨h1, h2, rfl⟩
    have hlt : hH M x < (lvTo M n).length := by
      rcases Nat.lt_or_ge (hH M x) (lvTo M n).length with h | h
      · exact h
      · exfalso
        rw [← lvTo_nd hl n, nd, List.getD_eq_getElem?_getD, List.getElem?_eq_none h] at hm
        simp at hm
    exact ⟨_, List.getElem_mem hlt, by rw [row_eq hl hlt]; exact hm⟩

/-- A rightful order: each thing once, after all it needs. -/
structure Orders (needs : List (List Int)) (o : List Int) : Prop where
  len : o.length = needs.length
  rng : ∀ x ∈ o, 0 ≤ x ∧ x < needs.length
  fresh : ∀ p : Nat, p < o.length → rd o p ∉ o.take p
  after : ∀ p : Nat, p < o.length → ∀ j ∈ nd needs (rd o p).toNat, j ∈ o.take p
theorem rd_get {l : List Int} {p : Nat} (h : p < l.length) : rd l (p : Int) = l[p] := by simp [rd, h]
theorem orders_flat {needs : List (List Int)} (hR : rightB needs = true) (hfull : ¬ cnt (hts needs) needs.length < needs.length) : Orders needs (lvTo (hts needs) needs.length).flatten := by
  have hl := hts_lev needs
  have hp := flat_pair hl needs.length
  have hR' := rightB_true hR
  have hcnt : cnt (hts needs) needs.length = needs.length := by have := cnt_le (hts needs) needs.length; omega
  refine ⟨flat_total _ _, fun x hx => (flat_mem hl).1 hx, ?_, ?_⟩
  · intro p hpl hmem
    rw [rd_get hpl] at hmem
    obtain ⟨q, hq, e⟩ := List.getElem_of_mem hmem
    rw [List.getElem_take] at e
    have hq' : q < p := by simp at hq; omega
    have := (List.pairwise_iff_getElem.1 hp) q p (by omega) hpl hq'
    rw [e] at this
    rcases this with h | ⟨_, h⟩ <;> omega
  · intro p hpl j hj
    have hv := (flat_mem hl).1 (rd_mem hpl)
    generalize hve : rd (lvTo (hts needs) needs.length).flatten (p : Int) = v at *
    have hvn : v.toNat < needs.length := by omega
    have hjr := hR' _ (nd_mem hvn) j hj
    have hjm : j ∈ (lvTo (hts needs) needs.length).flatten := (flat_mem hl).2 ⟨hjr.1, hjr.2⟩
    obtain ⟨q, hq, rfl⟩ := List.getElem_of_mem hjm
    obtain ⟨w, hw⟩ := Option.isSome_iff_exists.1 (cnt_full hcnt v.toNat hvn)
    obtain ⟨u, hu, huw⟩ := need_lower hw hj
    have hu0 := hl _ _ hu
    have hlow : hH (hts needs) ((lvTo (hts needs) needs.length).flatten[q]) < hH (hts needs) v := by
      unfold hH
      rw [hu]
      have e : v = (v.toNat : Int) := by omega
      rw [e, hw]
      simp
      omega
    rw [rd_get hpl] at hve
    have hqp : q < p := by
      rcases Nat.lt_trichotomy q p with h | h | h
      · exact h
      · subst h; rw [hve] at hlow; omega
      · have := (List.pairwise_iff_getElem.1 hp) p q hpl hq h
        rw [hve] at this
        rcases this with h | ⟨h, _⟩ <;> omega
    rw [List.mem_iff_getElem]
    exact ⟨q, by rw [List.length_take]; omega, by rw [List.getElem_take]⟩
end Go.Proofs.Ytdknnekkbhpjlaa.H

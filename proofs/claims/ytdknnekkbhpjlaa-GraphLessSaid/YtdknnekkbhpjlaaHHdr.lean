/- Rows of rows, held by their headers: a row of slice values of which only the row itself is one's own. No condition. -/
import Derived.Test.YtdknnekkbhpjlaaHLevels
set_option linter.unusedVariables false
set_option linter.unusedSimpArgs false
namespace Go.Proofs.Ytdknnekkbhpjlaa.H
open Go.RowKit Go.Proofs.YtdknnekkbhpjlaaW.PrintWords Go.Proofs.YtdknnekkbhpjlaaW.PrintLast Go.Proofs.YtdknnekkbhpjlaaW.PrintMore Go.Proofs.Ytdknnekkbhpjlaa.G

abbrev Hdr := Option Addr × Nat × Nat
def encH (h : Hdr) : Value := .slice h.1 h.2.1 h.2.2
abbrev KHd : Kd Hdr := Kd.scalar encH (fun _ => rfl)
def hd (hs : List Hdr) (j : Nat) : Hdr := hs.getD j (none, 0, 0)
/-- The headers lead to the rows. -/
def Leads (w : World) (hs : List Hdr) (rows : List (List Int)) : Prop :=
  hs.length = rows.length ∧ ∀ j, j < rows.length → (hd hs j).2.1 = (nd rows j).length ∧ (nd rows j).length ≤ (hd hs j).2.2 ∧ (Kd.int .i64).C w (hd hs j).1 (nd rows j).length (nd rows j)
theorem headers {w : World} {A : Option Addr} {n : Nat} {rows : List (List Int)} (h : Kd.C KI w A n rows) : ∃ hs, Leads w hs rows ∧ Kd.C KHd w A n hs := by
  have hn : rows.length = n := h.1
  have pick : ∀ j, ∃ x : Hdr, j < rows.length → x.2.1 = (nd rows j).length ∧ (nd rows j).length ≤ x.2.2 ∧ (Kd.int .i64).C w x.1 (nd rows j).length (nd rows j) ∧ ∀ ad, A = some ad → w.cell? (ad.add j) = some (encH x) := fun j => by
    by_cases hj : j < rows.length
    · obtain ⟨ad, A0, c0, e, hx, hl, hC⟩ := at_L1 h (j : Int) (by omega) (by omega)
      rw [rd_nd] at hx hl hC
      rw [Int.toNat_natCast] at hx
      exact ⟨(A0, (nd rows j).length, c0), fun _ => ⟨rfl, hl, hC, fun ad' e' => by rw [e] at e'; injection e' with e'; subst e'; exact hx⟩⟩
    · exact ⟨(none, 0, 0), fun h => absurd h hj⟩
  have hg : ∀ j, j < rows.length → hd ((List.range rows.length).map fun j => Classical.choose (pick j)) j = Classical.choose (pick j) := fun j hj => by
    simp [hd, hj]
  refine ⟨(List.range rows.length).map fun j => Classical.choose (pick j), ⟨by simp, fun j hj => ?_⟩, by simp [hn], h.2.1, fun h0 => ?_⟩
  · rw [hg j hj]
    have := Classical.choose_spec (pick j) hj
    exact ⟨this.1, this.2.1, this.2.2.1⟩
  · obtain ⟨ad, e, _⟩ := h.2.2 h0
    refine ⟨ad, e, fun j p hp => ⟨[encH p], rfl, rfl, fun i u hu => ?_⟩⟩
    have hj : j < rows.length := by
      have := (List.getElem?_eq_some_iff.1 hp).1
      simpa using this
    have hpe : p = Classical.choose (pick j) := by
      rw [List.getElem?_map, List.getElem?_range hj] at hp
      exact (Option.some.inj hp).symm
    have := (Classical.choose_spec (pick j) hj).2.2.2 ad e
    rw [← hpe] at this
    cases i with
    | zero =>
      simp at hu
      subst hu
      show w.cell? (ad.add (j * 1 + 0)) = _
      rw [Nat.mul_one, Nat.add_zero]
      exact this
    | succ i => simp at hu
theorem of_headers {w : World} {A : Option Addr} {n : Nat} {hs : List Hdr} {rows : List (List Int)} (h : Kd.C KHd w A n hs) (hl : Leads w hs rows) : Kd.C KI w A n rows := by
  have hn : hs.length = n := h.1
  refine ⟨by rw [← hl.1]; exact hn, h.2.1, fun h0 => ?_⟩
  obtain ⟨ad, e, hc⟩ := h.2.2 h0
  refine ⟨ad, e, fun j p hp => ?_⟩
  have hj : j < rows.length := (List.getElem?_eq_some_iff.1 hp).1
  have hj2 : j < hs.length := by rw [hl.1]; exact hj
  obtain ⟨c, hs1, hr, hcell⟩ := hc j hs[j] (List.getElem?_eq_getElem hj2)
  have hpe : nd rows j = p := by
    unfold nd
    rw [List.getD_eq_getElem?_getD, hp]
    rfl
  have hde : hd hs j = hs[j] := by simp [hd, hj2]
  obtain ⟨h1, h2, h3⟩ := hl.2 j hj
  rw [hpe, hde] at h1 h2 h3
  refine ⟨c, hs1, ⟨(hs[j]).1, (hs[j]).2.2, ?_, h2, h3⟩, hcell⟩
  rw [show c = [encH hs[j]] from hr, encH, h1]
theorem Leads.below {w w' : World} {hs : List Hdr} {rows : List (List Int)} (h : Leads w hs rows) (hb : Below w.heap.size w w') : Leads w' hs rows :=
  ⟨h.1, fun j hj => ⟨(h.2 j hj).1, (h.2 j hj).2.1, Kd.C_below (h.2 j hj).2.2 hb⟩⟩
theorem Leads.set {w : World} {hs : List Hdr} {rows : List (List Int)} (h : Leads w hs rows) (a : Nat) (x : Hdr) (l : List Int) (h1 : x.2.1 = l.length) (h2 : l.length ≤ x.2.2) (h3 : (Kd.int .i64).C w x.1 l.length l) : Leads w (hs.set a x) (rows.set a l) := by
  refine ⟨by simp [h.1], fun j hj => ?_⟩
  rw [List.length_set] at hj
  by_cases e : a = j
  · subst e
    have e1 : nd (rows.set a l) a = l := by simp [nd, hj]
    have e2 : hd (hs.set a x) a = x := by simp [hd, h.1, hj]
    rw [e1, e2]
    exact ⟨h1, h2, h3⟩
  · have e1 : nd (rows.set a l) j = nd rows j := by simp [nd, List.getD_eq_getElem?_getD, List.getElem?_set, e]
    have e2 : hd (hs.set a x) j = hd hs j := by simp [hd, List.getD_eq_getElem?_getD, List.getElem?_set, e]
    rw [e1, e2]
    exact h.2 j hj
end Go.Proofs.Ytdknnekkbhpjlaa.H

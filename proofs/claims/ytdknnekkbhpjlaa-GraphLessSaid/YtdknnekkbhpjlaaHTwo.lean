/- Two rows of numbers of the call's own, written apart; and what Levels tells of needs with one less. Conditions: of numbers in bounds. -/
import Derived.Test.YtdknnekkbhpjlaaHHdr
import Derived.Test.YtdknnekkbhpjlaaPFill
set_option linter.unusedVariables false
set_option linter.unusedSimpArgs false
namespace Go.Proofs.Ytdknnekkbhpjlaa.H
open Go.RowKit Go.Proofs.YtdknnekkbhpjlaaW.PrintWords Go.Proofs.YtdknnekkbhpjlaaW.PrintLast Go.Proofs.YtdknnekkbhpjlaaW.PrintMore Go.Proofs.Ytdknnekkbhpjlaa.G

structure Two (w0 : World) (n g1 g2 : Nat) (x y : List Int) (w' : World) : Prop where
  ne : g1 ≠ g2
  below : Below w0.heap.size w0 w'
  r1 : (Kd.int .i64).R 3 w' w0.heap.size (fun k => k = g1) (.slice (some ⟨g1, 0, none⟩) n n) x
  r2 : (Kd.int .i64).R 3 w' w0.heap.size (fun k => k = g2) (.slice (some ⟨g2, 0, none⟩) n n) y
abbrev zeroObj (n : Nat) : Obj := .cells (madeCells #[.int .i64 0] n) 3
theorem made_R (W : World) (base n : Nat) (hb : base ≤ W.heap.size) (hn : n ≤ 1000) : (Kd.int .i64).R 3 (W.alloc (zeroObj n)) base (fun k => k = W.heap.size) (.slice (some ⟨W.heap.size, 0, none⟩) n n) (List.replicate n 0) :=
  Kd.R_of_own (enc := Value.int .i64) (own_made_of' (enc := Value.int .i64) (d := 0) W base 3 n hb (by omega)) (fun k hk => by cases hk; rfl)
theorem Two.made (W : World) (n : Nat) (hn : n ≤ 1000) : Two W n W.heap.size (W.heap.size + 1) (List.replicate n 0) (List.replicate n 0) ((W.alloc (zeroObj n)).alloc (zeroObj n)) where
  ne := by omega
  below := below_alloc (below_alloc (Below.refl _ _) _) _
  r1 := Kd.R_alloc (made_R W _ n (Nat.le_refl _) hn) _
  r2 := by
    have h := made_R (W.alloc (zeroObj n)) W.heap.size n (by simp) hn
    have e : (W.alloc (zeroObj n)).heap.size = W.heap.size + 1 := by simp
    rw [e] at h
    exact h
theorem Two.swap {w0 w' : World} {n g1 g2 : Nat} {x y : List Int} (h : Two w0 n g1 g2 x y w') : Two w0 n g2 g1 y x w' := ⟨fun e => h.ne e.symm, h.below, h.r2, h.r1⟩
theorem Two.drew {w0 w' : World} {n g1 g2 : Nat} {x y : List Int} (h : Two w0 n g1 g2 x y w') (m : Nat) : Two w0 n g1 g2 x y (w'.drewN m) := ⟨h.ne, pw_below_drewN h.below m, Kd.R_drewN h.r1 m, Kd.R_drewN h.r2 m⟩
theorem Two.put {w0 w' : World} {n g1 g2 : Nat} {x y : List Int} (h : Two w0 n g1 g2 x y w') (i : Nat) (v : Int) : Two w0 n g1 g2 (x.set i v) y (w'.setCell ⟨g1, i, none⟩ (.int .i64 v)) where
  ne := h.ne
  below := h.below.setCell (p := ⟨g1, i, none⟩) (Kd.R_base h.r1 g1 rfl) _
  r1 := by
    have := Kd.R_putn (enc := Value.int .i64) h.r1 (i : Int) v
    rwa [Int.toNat_natCast] at this
  r2 := Kd.R_far h.r2 (p := ⟨g1, i, none⟩) (fun k hk => by show k ≠ g1; rw [hk]; exact fun e => h.ne e.symm) _
theorem Two.cell {w0 w' : World} {n g1 g2 : Nat} {x y : List Int} (h : Two w0 n g1 g2 x y w') {i : Nat} (hi : i < n) : w'.cell? ⟨g1, i, none⟩ = some (.int .i64 (rd x (i : Int))) ∧ w'.frozen? ⟨g1, i, none⟩ = false := by
  have h1 := h.r1
  have hn := (Kd.R_reads' h1).1
  rw [hn] at h1
  have := Kd.R_cell (enc := Value.int .i64) 0 h1 (i : Int) (by omega) (by omega)
  rw [Int.toNat_natCast] at this
  exact this
theorem Two.len {w0 w' : World} {n g1 g2 : Nat} {x y : List Int} (h : Two w0 n g1 g2 x y w') : x.length = n := (Kd.R_reads' h.r1).1.symm

/-- What Levels tells where there is an order; and of needs with one less. -/
theorem levels_order {needs : List (List Int)} (he : (levelsP needs).2 = 0) : rightB needs = true ∧ cnt (hts needs) needs.length = needs.length ∧ (levelsP needs).1 = lvTo (hts needs) needs.length := by
  unfold levelsP at he ⊢
  cases hb : rightB needs with
  | false => rw [hb] at he; simp at he
  | true =>
    rw [hb] at he
    simp only [if_pos] at he ⊢
    by_cases hc : cnt (hts needs) needs.length < needs.length
    · rw [if_pos hc] at he; simp at he
    · rw [if_neg hc]
      have := cnt_le (hts needs) needs.length
      exact ⟨trivial, by omega, rfl⟩
theorem levels_full {needs : List (List Int)} (hb : rightB needs = true) (hc : cnt (hts needs) needs.length = needs.length) : levelsP needs = (lvTo (hts needs) needs.length, 0) := by
  unfold levelsP
  rw [if_pos hb, if_neg (by omega)]
theorem less_facts {needs : List (List Int)} {a o : Nat} (ha : a < needs.length) (he : (levelsP needs).2 = 0) :
    ∃ H G : Mp, (levelsP needs).1 = lvTo H needs.length ∧ levelsP (lessP needs a o) = (lvTo G needs.length, 0) ∧ (∀ t, nd (lvTo H needs.length) t = rowsOf H needs.length t) ∧ (∀ t, nd (lvTo G needs.length) t = rowsOf G needs.length t) ∧ (lvTo G needs.length).length ≤ (lvTo H needs.length).length ∧ (lvTo H needs.length).length ≤ needs.length + 1 ∧ ∀ i : Nat, i < needs.length → hH G (i : Int) ≤ hH H (i : Int) := by
  obtain ⟨hb, hc, hl⟩ := levels_order he
  obtain ⟨h1, h2⟩ := lessP_hts (o := o) ha hb hc
  have hf := levels_full (lessP_rightB (o := o) ha hb) h1
  rw [lessP_len] at hf
  refine ⟨hts needs, hts (lessP needs a o), hl, hf, fun t => lvTo_nd (hts_lev needs) _ _, fun t => lvTo_nd (hts_lev (lessP needs a o)) _ _, lvTo_len_le _ h2, ?_, h2⟩
  have := lvTo_length (hts_lev needs) needs.length
  rw [hc] at this
  exact this
end Go.Proofs.Ytdknnekkbhpjlaa.H

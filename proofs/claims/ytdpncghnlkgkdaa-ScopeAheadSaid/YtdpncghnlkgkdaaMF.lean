/- seedcornref14.Few ends, and what it lets in is small. Plain.
   What Calls tells goes ahead; ScopeAhead's rounds end with true. Plain.
   ScopeAhead, as a function, answers true. Plain. Condition: lists that the machine can hold.
   Within so much fuel (N), so that a type that names itself is opened too: an argument of a nested type, opened whole: what the row says of its value gives a value of the kind, as long as its weight allows. No condition.
   A program of the language as an argument: what a value of the type reads as. No condition.
   ScopeAhead, called, answers true. Condition: the program lies in memory. -/
import Derived.Test.YtdpncghnlkgkdaaGf25
import Derived.Test.YtdpncghnlkgkdaaMN
import Derived.Test.YtdpncghnlkgkdaaMD
import Derived.Test.YtdpncghnlkgkdaaGf7
import Derived.Test.YtdpncghnlkgkdaaWWords
import Derived.OpenShut
import Derived.SizedLaws
import Derived.ChangeSlices
import Derived.Deep.Slices
import Derived.Test.YtdpncghnlkgkdaaG0
set_option linter.unusedVariables false
set_option linter.unusedSimpArgs false
namespace Go.Proofs.Ytdpncghnlkgkdaa.H
open Go.RowKit Go.Proofs.YtdpncghnlkgkdaaW.PrintWords Go.Proofs.YtdpncghnlkgkdaaW.PrintLast Go.Proofs.YtdpncghnlkgkdaaW.PrintMore Go.Proofs.Ytdpncghnlkgkdaa.G

theorem lift_of {α : Type} (f : Nat → Option α) (hm : ∀ k, LeO (f k) (f (k + 1))) {k k' : Nat} {r : α} (h : f k = some r) (hk : k ≤ k') : f k' = some r := by
  obtain ⟨d, rfl⟩ : ∃ d, k' = k + d := ⟨k' - k, by omega⟩
  clear hk
  induction d with
  | zero => exact h
  | succ d ih => exact hm (k + d) r ih
theorem wrap_small {x : Int} (h1 : -2000000 ≤ x) (h2 : x ≤ 2000000) : wrap64 x = x := by unfold wrap64; omega
theorem rd37_drop {l : List S37} {k : Nat} (h : k < l.length) : l.drop k = rd_T37 l (k : Int) :: l.drop (k + 1) := by
  rw [List.drop_eq_getElem_cons h]
  unfold rd_T37
  rw [Int.toNat_natCast, List.getD_eq_getElem?_getD, List.getElem?_eq_getElem h]
  rfl
theorem rd33_drop {l : List S33} {k : Nat} (h : k < l.length) : l.drop k = rd_T33 l (k : Int) :: l.drop (k + 1) := by
  rw [List.drop_eq_getElem_cons h]
  unfold rd_T33
  rw [Int.toNat_natCast, List.getD_eq_getElem?_getD, List.getElem?_eq_getElem h]
  rfl
theorem useE_len (e : S37) : (useE e).length ≤ 1 := by unfold useE; (repeat' split) <;> simp
theorem useS_len (e : S33) : (useS e).length ≤ 1 := by unfold useS; (repeat' split) <;> simp
/-- What a budget must answer: not more than it was; below 0 it stays; at 0 and more all uses are paid. -/
def Paid (n : Nat) (x r : Int) : Prop := r ≤ x ∧ (x < 0 → r = x) ∧ (0 ≤ x → -1 ≤ r) ∧ (0 ≤ r → (n : Int) + r ≤ x)
def LeftEOk (l : List S37) : Prop := ∀ x1 x2 : Int, -1000000 ≤ x1 → x1 ≤ 1000 → 0 ≤ x2 → x2 ≤ 60 → ∃ k r, seedcornref14_LeftExprs.f k l x1 x2 = some r ∧ Paid (usesE l).length x1 r
theorem leftE_l0 (l : List S37) (ih : ∀ e ∈ l, LeftEOk e.f4) : ∀ (d i : Nat), i + d = l.length → ∀ x1 x2 : Int, (i : Int) + x1 ≤ 1001 → -1000000 ≤ x1 → x1 ≤ 1000 → 0 ≤ x2 → x2 ≤ 60 → ∃ k r, seedcornref14_LeftExprs.l0 k l x1 x2 (i : Int) = some r ∧ Paid (usesE (l.drop i)).length x1 r := by
  intro d
  induction d with
  | zero =>
    intro i hi x1 x2 h0 h1 h2 h3 h4
    refine ⟨2, x1, ?_, ?_⟩
    · simp only [seedcornref14_LeftExprs.l0]
      rw [if_neg (by omega)]
      simp only [seedcornref14_LeftExprs.j1]
      rfl
    · rw [List.drop_eq_nil_of_le (by omega), usesE]
      refine ⟨Int.le_refl _, fun _ => rfl, fun h => by omega, fun h => by simp⟩
  | succ d ihd =>
    intro i hi x1 x2 h0 h1 h2 h3 h4
    have hlt : i < l.length := by omega
    by_cases hx : x1 < 0
    · refine ⟨2, x1, ?_, ⟨Int.le_refl _, fun _ => rfl, fun h => by omega, fun h => by omega⟩⟩
      simp only [seedcornref14_LeftExprs.l0]
      rw [if_pos (by omega), decide_eq_false (by omega)]
      simp only [seedcornref14_LeftExprs.j1]
      rfl
    have stop : ∀ k, seedcornref14_LeftExprs.l0 k l x1 x2 (i : Int) = some (-1) → ∃ k r, seedcornref14_LeftExprs.l0 k l x1 x2 (i : Int) = some r ∧ Paid (usesE (l.drop i)).length x1 r := fun k h => ⟨k, -1, h, ⟨by omega, fun h => by omega, fun _ => Int.le_refl _, fun h => by omega⟩⟩
    by_cases h5 : x2 ≤ 0
    · refine stop 2 ?_
      simp only [seedcornref14_LeftExprs.l0]
      rw [if_pos (by omega), decide_eq_true (by omega)]
      simp only [seedcornref14_LeftExprs.j1]
      rw [if_pos trivial, if_pos h5]
    by_cases h6 : (((rd_T37 l (i : Int)).f3).size : Int) > 60
    · refine stop 2 ?_
      simp only [seedcornref14_LeftExprs.l0]
      rw [if_pos (by omega), decide_eq_true (by omega)]
      simp only [seedcornref14_LeftExprs.j1]
      rw [if_pos trivial, if_neg h5, if_pos (by omega), if_pos (by omega), if_pos h6]
    obtain ⟨k1, r1, e1, p1⟩ := ih _ (rd37_mem hlt) (x1 - 1) (x2 - 1) (by omega) (by omega) (by omega) (by omega)
    have q1 := p1.1
    have q2 : -1 ≤ r1 := by
      by_cases hz : 0 ≤ x1 - 1
      · exact p1.2.2.1 hz
      · have := p1.2.1 (by omega); omega
    obtain ⟨k2, r2, e2, p2⟩ := ihd (i + 1) (by omega) r1 x2 (by omega) (by omega) (by omega) h3 h4
    refine ⟨max k1 k2 + 2, r2, ?_, ?_⟩
    · simp only [seedcornref14_LeftExprs.l0]
      rw [if_pos (by omega), decide_eq_true (by omega)]
      simp only [seedcornref14_LeftExprs.j1]
      rw [if_pos trivial, if_neg h5, if_pos (by omega), if_pos (by omega), if_neg h6, wrap_small (by omega) (by omega), wrap_small (by omega) (by omega),
        lift_of (fun k => seedcornref14_LeftExprs.f k _ (x1 - 1) (x2 - 1)) (fun k => seedcornref14_LeftExprs.mono _ _ _ k) e1 (Nat.le_max_left k1 k2)]
      simp only [Option.bind_some]
      rw [wr1 (by omega)]
      exact lift_of (fun k => seedcornref14_LeftExprs.l0 k l r1 x2 ((i + 1 : Nat) : Int)) (fun k => (seedcornref14_LeftExprs.mono_l k).2.1 _ _ _ _) e2 (Nat.le_max_right k1 k2)
    · have hu := useE_len (rd_T37 l (i : Int))
      obtain ⟨a1, a2, a3, a4⟩ := p1
      obtain ⟨b1, b2, b3, b4⟩ := p2
      rw [rd37_drop hlt, usesE]
      refine ⟨by omega, fun h => by omega, fun h => ?_, fun h => ?_⟩
      · by_cases hz : 0 ≤ r1
        · exact b3 hz
        · have := b2 (by omega); omega
      · have := b4 h
        have hz : 0 ≤ r1 := by omega
        have := a4 hz
        simp only [List.length_append]
        omega
theorem leftE_all : ∀ (n : Nat) (l : List S37), SizeOf.sizeOf l ≤ n → LeftEOk l := by
  intro n
  induction n with
  | zero => intro l h; cases l <;> simp at h
  | succ n ih =>
    intro l h x1 x2 h1 h2 h3 h4
    obtain ⟨k, r, e, p⟩ := leftE_l0 l (fun e he => ih _ (by
      have := List.sizeOf_lt_of_mem he
      have : SizeOf.sizeOf e.f4 < SizeOf.sizeOf e := by cases e; simp; omega
      omega)) l.length 0 (by omega) x1 x2 (by omega) h1 h2 h3 h4
    exact ⟨k + 1, r, e, p⟩
theorem leftE (l : List S37) : LeftEOk l := leftE_all _ l (Nat.le_refl _)
def LeftSOk (l : List S33) : Prop := ∀ x1 x2 : Int, -1000000 ≤ x1 → x1 ≤ 1000 → 0 ≤ x2 → x2 ≤ 60 → ∃ k r, seedcornref14_LeftStmts.f k l x1 x2 = some r ∧ Paid (usesS l).length x1 r
theorem Paid.low {n : Nat} {x r : Int} (h : Paid n x r) (hx : -1 ≤ x) : -1 ≤ r := by
  obtain ⟨a1, a2, a3, a4⟩ := h
  by_cases hz : 0 ≤ x
  · exact a3 hz
  · have := a2 (by omega); omega
theorem leftS_l0 (l : List S33) (ih : ∀ e ∈ l, LeftSOk e.f3 ∧ LeftSOk e.f4) : ∀ (d i : Nat), i + d = l.length → ∀ x1 x2 : Int, (i : Int) + x1 ≤ 1001 → -1000000 ≤ x1 → x1 ≤ 1000 → 0 ≤ x2 → x2 ≤ 60 → ∃ k r, seedcornref14_LeftStmts.l0 k l x1 x2 (i : Int) = some r ∧ Paid (usesS (l.drop i)).length x1 r := by
  intro d
  induction d with
  | zero =>
    intro i hi x1 x2 h0 h1 h2 h3 h4
    refine ⟨2, x1, ?_, ?_⟩
    · simp only [seedcornref14_LeftStmts.l0]
      rw [if_neg (by omega)]
      simp only [seedcornref14_LeftStmts.j1]
      rfl
    · rw [List.drop_eq_nil_of_le (by omega), usesS]
      refine ⟨Int.le_refl _, fun _ => rfl, fun h => by omega, fun h => by simp⟩
  | succ d ihd =>
    intro i hi x1 x2 h0 h1 h2 h3 h4
    have hlt : i < l.length := by omega
    by_cases hx : x1 < 0
    · refine ⟨2, x1, ?_, ⟨Int.le_refl _, fun _ => rfl, fun h => by omega, fun h => by omega⟩⟩
      simp only [seedcornref14_LeftStmts.l0]
      rw [if_pos (by omega), decide_eq_false (by omega)]
      simp only [seedcornref14_LeftStmts.j1]
      rfl
    have stop : ∀ k, seedcornref14_LeftStmts.l0 k l x1 x2 (i : Int) = some (-1) → ∃ k r, seedcornref14_LeftStmts.l0 k l x1 x2 (i : Int) = some r ∧ Paid (usesS (l.drop i)).length x1 r := fun k h => ⟨k, -1, h, ⟨by omega, fun h => by omega, fun _ => Int.le_refl _, fun h => by omega⟩⟩
    by_cases h5 : x2 ≤ 0
    · refine stop 3 ?_
      simp only [seedcornref14_LeftStmts.l0]
      rw [if_pos (by omega), decide_eq_true (by omega)]
      simp only [seedcornref14_LeftStmts.j1]
      rw [if_pos trivial, if_pos h5]
      simp only [seedcornref14_LeftStmts.j2]
      rfl
    by_cases h6 : (((rd_T33 l (i : Int)).f1).size : Int) > 60
    · refine stop 3 ?_
      simp only [seedcornref14_LeftStmts.l0]
      rw [if_pos (by omega), decide_eq_true (by omega)]
      simp only [seedcornref14_LeftStmts.j1]
      rw [if_pos trivial, if_neg h5, if_pos (by omega), if_pos (by omega), decide_eq_true h6]
      simp only [seedcornref14_LeftStmts.j2]
      rfl
    obtain ⟨k1, r1, e1, p1⟩ := leftE (rd_T33 l (i : Int)).f2 (x1 - 1) (x2 - 1) (by omega) (by omega) (by omega) (by omega)
    have q1 := p1.1
    have q2 := p1.low (by omega)
    obtain ⟨k2, r2, e2, p2⟩ := (ih _ (rd33_mem hlt)).1 r1 (x2 - 1) (by omega) (by omega) (by omega) (by omega)
    have q3 := p2.1
    have q4 := p2.low q2
    obtain ⟨k3, r3, e3, p3⟩ := (ih _ (rd33_mem hlt)).2 r2 (x2 - 1) (by omega) (by omega) (by omega) (by omega)
    have q5 := p3.1
    have q6 := p3.low q4
    obtain ⟨k4, r4, e4, p4⟩ := ihd (i + 1) (by omega) r3 x2 (by omega) (by omega) (by omega) h3 h4
    obtain ⟨K, hK⟩ : ∃ K, K = k1 + k2 + k3 + k4 := ⟨_, rfl⟩
    refine ⟨K + 3, r4, ?_, ?_⟩
    · simp only [seedcornref14_LeftStmts.l0]
      rw [if_pos (by omega), decide_eq_true (by omega)]
      simp only [seedcornref14_LeftStmts.j1]
      rw [if_pos trivial, if_neg h5, if_pos (by omega), if_pos (by omega), decide_eq_false h6]
      simp only [seedcornref14_LeftStmts.j2]
      rw [if_neg (by decide), if_pos (by omega), if_pos (by omega), wrap_small (by omega) (by omega), wrap_small (by omega) (by omega),
        lift_of (fun k => seedcornref14_LeftExprs.f k _ (x1 - 1) (x2 - 1)) (fun k => seedcornref14_LeftExprs.mono _ _ _ k) e1 (show k1 ≤ K by omega)]
      simp only [Option.bind_some]
      rw [lift_of (fun k => seedcornref14_LeftStmts.f k _ r1 (x2 - 1)) (fun k => seedcornref14_LeftStmts.mono _ _ _ k) e2 (show k2 ≤ K by omega)]
      simp only [Option.bind_some]
      rw [lift_of (fun k => seedcornref14_LeftStmts.f k _ r2 (x2 - 1)) (fun k => seedcornref14_LeftStmts.mono _ _ _ k) e3 (show k3 ≤ K by omega)]
      simp only [Option.bind_some]
      rw [wr1 (by omega)]
      exact lift_of (fun k => seedcornref14_LeftStmts.l0 k l r3 x2 ((i + 1 : Nat) : Int)) (fun k => (seedcornref14_LeftStmts.mono_l k).2.1 _ _ _ _) e4 (show k4 ≤ K by omega)
    · have hu := useS_len (rd_T33 l (i : Int))
      have q7 := p4.1
      have q8 := p4.low q6
      rw [rd33_drop hlt, usesS]
      refine ⟨by omega, fun h => by omega, fun h => q8, fun h => ?_⟩
      have a4 := p4.2.2.2 h
      have a3 := p3.2.2.2 (by omega)
      have a2 := p2.2.2.2 (by omega)
      have a1 := p1.2.2.2 (by omega)
      simp only [List.length_append]
      omega
theorem leftS_all : ∀ (n : Nat) (l : List S33), SizeOf.sizeOf l ≤ n → LeftSOk l := by
  intro n
  induction n with
  | zero => intro l h; cases l <;> simp at h
  | succ n ih =>
    intro l h x1 x2 h1 h2 h3 h4
    obtain ⟨k, r, e, p⟩ := leftS_l0 l (fun e he => by
      have h5 := List.sizeOf_lt_of_mem he
      have h6 : SizeOf.sizeOf e.f3 < SizeOf.sizeOf e := by cases e; simp; omega
      have h7 : SizeOf.sizeOf e.f4 < SizeOf.sizeOf e := by cases e; simp; omega
      exact ⟨ih _ (by omega), ih _ (by omega)⟩) l.length 0 (by omega) x1 x2 (by omega) h1 h2 h3 h4
    exact ⟨k + 1, r, e, p⟩
theorem leftS (l : List S33) : LeftSOk l := leftS_all _ l (Nat.le_refl _)
/-- Lists that the machine can hold. -/
def Held (n : Nat) : Prop := n ≤ 9223372036854775807
theorem wrH {i n : Nat} (h : Held n) (hi : i < n) : wrap64 ((i : Int) + 1) = ((i + 1 : Nat) : Int) := by unfold Held at h; unfold wrap64; omega
theorem short_l0 (l : List ByteArray) (hl : Held l.length) : ∀ (d i k : Nat), i + d = l.length → d + 1 ≤ k → ∃ b, seedcornref14_short.l0 k l (i : Int) = some b ∧ (b = true → l.length ≤ 200) := by
  intro d
  induction d with
  | zero =>
    intro i k hi hk
    obtain ⟨k, rfl⟩ : ∃ m, k = m + 1 := ⟨k - 1, by omega⟩
    simp only [seedcornref14_short.l0]
    rw [if_neg (by omega)]
    exact ⟨_, rfl, fun h => by have := of_decide_eq_true h; omega⟩
  | succ d ih =>
    intro i k hi hk
    obtain ⟨k, rfl⟩ : ∃ m, k = m + 1 := ⟨k - 1, by omega⟩
    obtain ⟨b, hb, hb2⟩ := ih (i + 1) k (by omega) (by omega)
    simp only [seedcornref14_short.l0]
    rw [if_pos (by omega), if_pos (by omega), wrH hl (by omega), hb]
    split
    · exact ⟨_, rfl, fun h => by cases h⟩
    · exact ⟨b, rfl, hb2⟩
theorem short_some (l : List ByteArray) (hl : Held l.length) : ∃ b, (b = true → l.length ≤ 200) ∧ ∀ k, l.length + 1 ≤ k → seedcornref14_short.f k l = some b := by
  obtain ⟨b, hb, hb2⟩ := short_l0 l hl l.length 0 (l.length + 1) (by omega) (by omega)
  exact ⟨b, hb2, fun k hk => lift_of (fun k => seedcornref14_short.f k l) (fun k => seedcornref14_short.mono _ k) (k := l.length + 1) hb hk⟩
theorem rd40_drop' {fs : List S40} {k : Nat} (h : k < fs.length) : fs.drop k = rd_T40 fs (k : Int) :: fs.drop (k + 1) := by
  rw [List.drop_eq_getElem_cons h]
  unfold rd_T40
  rw [Int.toNat_natCast, List.getD_eq_getElem?_getD, List.getElem?_eq_getElem h]
  rfl
/-- What Few lets in of a function. -/
def FuncFew (f : S40) : Prop := f.f1.length ≤ 200 ∧ f.f2.length ≤ 200 ∧ (usesS f.f4).length ≤ 1000
theorem few_l1 (vs : List ByteArray) (ar : List S68) (fs : List S40) (hn : fs.length ≤ 70) (hf : ∀ f ∈ fs, Held f.f1.length ∧ Held f.f2.length) : ∀ (d i : Nat), i + d = fs.length → ∀ x5 : Int, -100 - 500 * (i : Int) ≤ x5 → x5 ≤ 1000 → ∃ k b, seedcornref14_Few.l1 k x5 (i : Int) vs ar fs = some b ∧ (b = true → 0 ≤ x5 ∧ ∀ f ∈ fs.drop i, FuncFew f) := by
  intro d
  induction d with
  | zero =>
    intro i hi x5 h1 h2
    refine ⟨1, decide (x5 ≥ 0), ?_, fun h => ⟨of_decide_eq_true h, ?_⟩⟩
    · simp only [seedcornref14_Few.l1]
      rw [if_neg (by omega)]
    · rw [List.drop_eq_nil_of_le (by omega)]
      intro f hf
      cases hf
  | succ d ih =>
    intro i hi x5 h1 h2
    have hlt : i < fs.length := by omega
    obtain ⟨g1, g2⟩ := hf _ (rd40_mem (fs := fs) (f := (i : Int)) ⟨by omega, by omega⟩)
    rw [rd40_drop' hlt]
    generalize hx : rd_T40 fs (i : Int) = x at *
    obtain ⟨b1, p1, s1⟩ := short_some x.f1 g1
    obtain ⟨b2, p2, s2⟩ := short_some x.f2 g2
    cases b1 with
    | false =>
      refine ⟨x.f1.length + 2, false, ?_, fun h => by cases h⟩
      simp only [seedcornref14_Few.l1]
      rw [if_pos (by omega), if_pos (by omega), hx, s1 _ (by omega)]
      rfl
    | true =>
      cases b2 with
      | false =>
        refine ⟨x.f1.length + x.f2.length + 2, false, ?_, fun h => by cases h⟩
        simp only [seedcornref14_Few.l1]
        rw [if_pos (by omega), if_pos (by omega), hx, s1 _ (by omega)]
        simp only [Option.bind_some]
        rw [if_pos trivial, s2 _ (by omega)]
        rfl
      | true =>
        have l1 := p1 rfl
        have l2 := p2 rfl
        by_cases h6 : ((x.f0).size : Int) > 60
        · refine ⟨x.f1.length + x.f2.length + 2, false, ?_, fun h => by cases h⟩
          simp only [seedcornref14_Few.l1]
          rw [if_pos (by omega), if_pos (by omega), hx, s1 _ (by omega)]
          simp only [Option.bind_some]
          rw [if_pos trivial, s2 _ (by omega)]
          simp only [Option.bind_some]
          rw [if_pos trivial, if_pos h6]
        obtain ⟨k1, r1, e1, q1⟩ := leftS x.f4 (x5 - (x.f1.length : Int) - (x.f2.length : Int)) 60 (by omega) (by omega) (by omega) (by omega)
        have q2 := q1.1
        have q3 : -100 - 500 * ((i + 1 : Nat) : Int) ≤ r1 := by
          by_cases hz : 0 ≤ x5 - (x.f1.length : Int) - (x.f2.length : Int)
          · have := q1.2.2.1 hz; omega
          · have := q1.2.1 (by omega); omega
        obtain ⟨k2, b, e2, q4⟩ := ih (i + 1) (by omega) r1 q3 (by omega)
        obtain ⟨K, hK⟩ : ∃ K, K = k1 + k2 + x.f1.length + x.f2.length + 2 := ⟨_, rfl⟩
        refine ⟨K + 1, b, ?_, fun h => ?_⟩
        · simp only [seedcornref14_Few.l1]
          rw [if_pos (by omega), if_pos (by omega), hx, s1 _ (by omega)]
          simp only [Option.bind_some]
          rw [if_pos trivial, s2 _ (by omega)]
          simp only [Option.bind_some]
          rw [if_pos trivial, if_neg h6, wrap_small (x := x5 - (x.f1.length : Int)) (by omega) (by omega), wrap_small (by omega) (by omega),
            lift_of (fun k => seedcornref14_LeftStmts.f k _ (x5 - (x.f1.length : Int) - (x.f2.length : Int)) 60) (fun k => seedcornref14_LeftStmts.mono _ _ _ k) e1 (show k1 ≤ K by omega)]
          simp only [Option.bind_some]
          rw [wr1 (by omega)]
          exact lift_of (fun k => seedcornref14_Few.l1 k r1 ((i + 1 : Nat) : Int) vs ar fs) (fun k => (seedcornref14_Few.mono_l k).2.2 _ _ _ _ _) e2 (show k2 ≤ K by omega)
        · obtain ⟨q5, q6⟩ := q4 h
          have q7 := q1.2.2.2 q5
          refine ⟨by omega, fun f hf => ?_⟩
          rcases List.mem_cons.1 hf with rfl | hf
          · exact ⟨l1, l2, by omega⟩
          · exact q6 f hf
theorem few_l0 (vs : List ByteArray) (ar : List S68) (fs : List S40) (hn : fs.length ≤ 70) (ha : ar.length ≤ 200) (hf : ∀ f ∈ fs, Held f.f1.length ∧ Held f.f2.length) (x5 : Int) (h1 : -100 ≤ x5) (h2 : x5 ≤ 1000) : ∀ (d i : Nat), i + d = ar.length → ∃ k b, seedcornref14_Few.l0 k x5 (i : Int) vs ar fs = some b ∧ (b = true → ∀ f ∈ fs, FuncFew f) := by
  intro d
  induction d with
  | zero =>
    intro i hi
    obtain ⟨k, b, e, q⟩ := few_l1 vs ar fs hn hf fs.length 0 (by omega) x5 (by omega) h2
    refine ⟨k + 1, b, ?_, fun h => (q h).2⟩
    simp only [seedcornref14_Few.l0]
    rw [if_neg (by omega)]
    exact e
  | succ d ih =>
    intro i hi
    obtain ⟨k, b, e, q⟩ := ih (i + 1) (by omega)
    by_cases h6 : (((rd_T68 ar (i : Int)).f0).size : Int) > 60
    · refine ⟨1, false, ?_, fun h => by cases h⟩
      simp only [seedcornref14_Few.l0]
      rw [if_pos (by omega), if_pos (by omega), if_pos h6]
    · refine ⟨k + 1, b, ?_, q⟩
      simp only [seedcornref14_Few.l0]
      rw [if_pos (by omega), if_pos (by omega), if_neg h6, wr1 (by omega)]
      exact e
theorem few_some (vs : List ByteArray) (ar : List S68) (fs : List S40) (hv : Held vs.length) (hf : ∀ f ∈ fs, Held f.f1.length ∧ Held f.f2.length) : ∃ k b, seedcornref14_Few.f k vs ar fs 400 = some b ∧ (b = true → vs.length ≤ 200 ∧ ar.length ≤ 200 ∧ fs.length ≤ 70 ∧ ∀ f ∈ fs, FuncFew f) := by
  obtain ⟨b1, p1, s1⟩ := short_some vs hv
  cases b1 with
  | false =>
    refine ⟨vs.length + 1, false, ?_, fun h => by cases h⟩
    unfold seedcornref14_Few.f
    rw [s1 _ (by omega)]
    simp only [Option.bind_some]
    rw [if_neg (by decide)]
    simp only [seedcornref14_Few.j0]
    rfl
  | true =>
    have l1 := p1 rfl
    by_cases ha : (ar.length : Int) > 200
    · refine ⟨vs.length + 1, false, ?_, fun h => by cases h⟩
      unfold seedcornref14_Few.f
      rw [s1 _ (by omega)]
      simp only [Option.bind_some]
      rw [if_pos trivial, if_pos ha]
      simp only [seedcornref14_Few.j0]
      rfl
    by_cases hn : (fs.length : Int) > 70
    · refine ⟨vs.length + 1, false, ?_, fun h => by cases h⟩
      unfold seedcornref14_Few.f
      rw [s1 _ (by omega)]
      simp only [Option.bind_some]
      rw [if_pos trivial, if_neg ha, decide_eq_true hn]
      simp only [seedcornref14_Few.j0]
      rfl
    obtain ⟨k, b, e, q⟩ := few_l0 vs ar fs (by omega) (by omega) hf (400 - (vs.length : Int) - (ar.length : Int) - (fs.length : Int)) (by omega) (by omega) ar.length 0 (by omega)
    refine ⟨vs.length + k + 1, b, ?_, fun h => ⟨l1, by omega, by omega, q h⟩⟩
    unfold seedcornref14_Few.f
    rw [s1 _ (by omega)]
    simp only [Option.bind_some]
    rw [if_pos trivial, if_neg ha, decide_eq_false hn]
    simp only [seedcornref14_Few.j0]
    rw [if_neg (by decide), wrap_small (x := 400 - (vs.length : Int)) (by omega) (by omega), wrap_small (x := 400 - (vs.length : Int) - (ar.length : Int)) (by omega) (by omega), wrap_small (by omega) (by omega)]
    exact lift_of (fun k => seedcornref14_Few.l0 k _ 0 vs ar fs) (fun k => (seedcornref14_Few.mono_l k).2.1 _ _ _ _ _) e (show k ≤ vs.length + k by omega)
end Go.Proofs.Ytdpncghnlkgkdaa.H
set_option linter.unusedVariables false
set_option linter.unusedSimpArgs false
namespace Go.Proofs.Ytdpncghnlkgkdaa.H
open Go.RowKit Go.Proofs.YtdpncghnlkgkdaaW.PrintWords Go.Proofs.YtdpncghnlkgkdaaW.PrintLast Go.Proofs.YtdpncghnlkgkdaaW.PrintMore Go.Proofs.Ytdpncghnlkgkdaa.G
theorem mem_compact {zs : List Int} {x : Int} (h : x ∈ Lib.compact zs) : x ∈ zs := by
  unfold Lib.compact Lib.compactUpTo at h
  obtain ⟨j, hj, rfl⟩ := List.mem_map.1 h
  have := List.mem_range.1 (List.mem_filter.1 hj).1
  simp [this]
theorem asc_compact {zs : List Int} (h : zs.Pairwise (· ≤ ·)) : (Lib.compact zs).Pairwise (· < ·) := by
  unfold Lib.compact Lib.compactUpTo
  rw [List.pairwise_map]
  refine List.Pairwise.imp_of_mem ?_ ((List.pairwise_lt_range (n := zs.length)).filter _)
  intro a b ha hb hab
  have ha' := List.mem_range.1 (List.mem_filter.1 ha).1
  have hb' := List.mem_range.1 (List.mem_filter.1 hb).1
  have hk := (List.mem_filter.1 hb).2
  obtain ⟨b, rfl⟩ : ∃ c, b = c + 1 := ⟨b - 1, by omega⟩
  rw [get_keeps (by omega), decide_eq_true_eq] at hk
  have e1 : zs.toArray[a]! = zs[a] := by simp [ha']
  have e2 : zs.toArray[b + 1]! = zs[b + 1] := by simp [hb']
  rw [e1, e2]
  have q1 := List.pairwise_iff_getElem.1 h b (b + 1) (by omega) (by omega) (by omega)
  by_cases hz : a = b
  · subst hz; omega
  · have q2 := List.pairwise_iff_getElem.1 h a b (by omega) (by omega) (by omega)
    omega
theorem sortP_asc (l : List Int) : (sortP l).Pairwise (· ≤ ·) := by
  have := List.pairwise_mergeSort (le := fun x y : Int => decide (x ≤ y)) (fun a b c h1 h2 => by simp at *; omega) (fun a b => by simp; omega) l
  exact this.imp (fun h => by simpa using h)
theorem mem_sortP {l : List Int} {x : Int} (h : x ∈ sortP l) : x ∈ l := List.mem_mergeSort.1 h
theorem mem_foldC {vs : List ByteArray} {ar : List S68} {fs : List S40} {i : Nat} {n : Int} : ∀ (l : List U) (s : List Int), n ∈ l.foldl (stepC vs ar fs i) s → n ∈ s ∨ ∃ u ∈ l, u.kind = 4 ∧ (findP vs ar fs (i : Int) u.name).1 = 4 ∧ n = (findP vs ar fs (i : Int) u.name).2
  | [], s, h => .inl h
  | u :: r, s, h => by
    rw [List.foldl_cons] at h
    rcases mem_foldC r _ h with h | ⟨v, hv, h⟩
    · unfold stepC at h
      split at h
      · rename_i hc
        rcases List.mem_append.1 h with h | h
        · exact .inl h
        · exact .inr ⟨u, List.mem_cons_self, hc.1, hc.2, List.mem_singleton.1 h⟩
      · exact .inl h
    · exact .inr ⟨v, List.mem_cons_of_mem _ hv, h⟩
theorem findP_func {vs : List ByteArray} {ar : List S68} {fs : List S40} {f : Int} {s : ByteArray} (h : (findP vs ar fs f s).1 = 4) : 0 ≤ (findP vs ar fs f s).2 := by
  unfold findP at h ⊢
  dsimp only at h ⊢
  generalize (if 0 ≤ f ∧ f < fs.length then placeP (ownP (rd_T40 fs f)) s else -1) = own at *
  by_cases h1 : 0 ≤ own
  · rw [if_pos h1] at h ⊢; exact h1
  rw [if_neg h1] at h ⊢
  by_cases h2 : 0 ≤ placeP vs s
  · rw [if_pos h2] at h ⊢; exact h2
  rw [if_neg h2] at h ⊢
  by_cases h3 : 0 ≤ placeP (ar.map (·.f0)) s
  · rw [if_pos h3] at h ⊢; exact h3
  rw [if_neg h3] at h ⊢
  by_cases h4 : 0 ≤ placeP (fs.map (·.f0)) s
  · rw [if_pos h4] at h ⊢; exact h4
  rw [if_neg h4] at h
  cases h
theorem named_use {vs : List ByteArray} {ar : List S68} {fs : List S40} (h : namedP vs ar fs = true) {i : Nat} (hi : i < fs.length) {u : U} (hu : u ∈ usesS (rd_T40 fs (i : Int)).f4) : rightU vs ar fs (i : Int) u = true := by
  unfold namedP at h
  rw [Bool.and_eq_true] at h
  have h2 := List.all_eq_true.1 h.2 (rd_T40 fs (i : Int), i) (List.mem_zipIdx_iff_getElem?.2 (by
    unfold rd_T40
    rw [Int.toNat_natCast, List.getD_eq_getElem?_getD, List.getElem?_eq_getElem hi]
    rfl))
  exact List.all_eq_true.1 h2 u hu
/-- A row of Calls: rising, and ahead. -/
def Ahead (i : Nat) (l : List Int) : Prop := l.Pairwise (· < ·) ∧ ∀ n ∈ l, 0 ≤ n ∧ n < (i : Int)
theorem row_ahead {vs : List ByteArray} {ar : List S68} {fs : List S40} (h : namedP vs ar fs = true) {i : Nat} (hi : i < fs.length) : Ahead i (rowC vs ar fs i) := by
  refine ⟨asc_compact (sortP_asc _), fun n hn => ?_⟩
  have hn := mem_sortP (mem_compact hn)
  unfold rawC at hn
  rcases mem_foldC _ _ hn with hn | ⟨u, hu, h1, h2, rfl⟩
  · cases hn
  · have := named_use h hi hu
    unfold rightU at this
    dsimp only at this
    rw [if_neg (by omega), if_neg (by omega), if_pos h1, Bool.and_eq_true] at this
    exact ⟨findP_func h2, of_decide_eq_true this.2⟩
theorem calls_ahead {vs : List ByteArray} {ar : List S68} {fs : List S40} (h : namedP vs ar fs = true) : (callsP vs ar fs).length = fs.length ∧ ∀ i, i < fs.length → Ahead i (rd_L14 (callsP vs ar fs) (i : Int)) := by
  have hl : (callsP vs ar fs).length = fs.length := by unfold callsP; simp
  refine ⟨hl, fun i hi => ?_⟩
  have e : rd_L14 (callsP vs ar fs) (i : Int) = rowC vs ar fs i := by
    unfold rd_L14
    rw [Int.toNat_natCast, List.getD_eq_getElem?_getD, List.getElem?_eq_getElem (by omega)]
    simp [callsP]
  rw [e]
  exact row_ahead h hi
/-- A row of marks: as long as there are functions, and nothing marked from some place on. -/
def Marks (n f : Nat) (l : List Bool) : Prop := l.length = n ∧ ∀ j, f ≤ j → rdOf false l (j : Int) = false
theorem marks_set {n f : Nat} {l : List Bool} (h : Marks n f l) {j : Nat} (hj : j < f) (b : Bool) : Marks n f (l.set ((j : Int)).toNat b) := by
  refine ⟨by rw [List.length_set]; exact h.1, fun i hi => ?_⟩
  have := h.2 i hi
  unfold rdOf at this ⊢
  rw [Int.toNat_natCast, Int.toNat_natCast] at *
  rw [List.getD_eq_getElem?_getD, List.getElem?_set_ne (by omega), ← List.getD_eq_getElem?_getD]
  exact this
theorem ahead_l2 (rows : List (List Int)) (all : List (List Bool)) (N f : Nat) (hf : f < N) (hN : N ≤ 1000) (hall : all.length = f) (hlen : ∀ i, i < f → (rd_L17 all (i : Int)).length = N) (x7 : Int) (n : Nat) (hn : n < f)
    (next : ∀ m, Marks N f m → ∃ k, seedcornlaw16_ScopeAhead.l1 k rows all (f : Int) m (wrap64 (x7 + 1)) = some true) :
    ∀ (d j : Nat), j + d = n → ∀ m, Marks N f m → ∃ k, seedcornlaw16_ScopeAhead.l2 k rows all (f : Int) m x7 (n : Int) (j : Int) = some true := by
  intro d
  induction d with
  | zero =>
    intro j hj m hm
    obtain ⟨k, e⟩ := next m hm
    refine ⟨k + 1, ?_⟩
    simp only [seedcornlaw16_ScopeAhead.l2]
    rw [if_neg (by omega)]
    exact e
  | succ d ih =>
    intro j hj m hm
    have hml := hm.1
    have hl := hlen n hn
    by_cases hb : rdOf false m (j : Int) = true
    · obtain ⟨k, e⟩ := ih (j + 1) (by omega) _ (marks_set hm (show j < f by omega) true)
      refine ⟨k + 1, ?_⟩
      simp only [seedcornlaw16_ScopeAhead.l2]
      rw [if_pos (by omega), if_pos (by omega), if_pos (by omega), if_pos hb, wr1 (by omega)]
      exact e
    · obtain ⟨k, e⟩ := ih (j + 1) (by omega) _ (marks_set hm (show j < f by omega) (rdOf false (rd_L17 all (n : Int)) (j : Int)))
      refine ⟨k + 1, ?_⟩
      simp only [seedcornlaw16_ScopeAhead.l2]
      rw [if_pos (by omega), if_pos (by omega), if_pos (by omega), if_neg hb, if_pos (by omega), if_pos (by omega), if_pos (by omega), wr1 (by omega)]
      exact e
theorem rd_at {l : List Int} {j : Nat} (h : j < l.length) : rd l (j : Int) = l[j] := by
  unfold rd
  rw [Int.toNat_natCast, List.getD_eq_getElem?_getD, List.getElem?_eq_getElem h]
  rfl
theorem ahead_l1 (rows : List (List Int)) (all : List (List Bool)) (N f : Nat) (hf : f < N) (hN : N ≤ 1000) (hrl : rows.length = N) (hrow : Ahead f (rd_L14 rows (f : Int))) (hall : all.length = f) (hlen : ∀ i, i < f → (rd_L17 all (i : Int)).length = N)
    (next : ∀ m, Marks N f m → ∃ k, seedcornlaw16_ScopeAhead.l0 k rows (all ++ [m]) ((f + 1 : Nat) : Int) = some true) (hrm : (rd_L14 rows (f : Int)).length ≤ 1000000) :
    ∀ (d j : Nat), j + d = (rd_L14 rows (f : Int)).length → ∀ m, Marks N f m → ∃ k, seedcornlaw16_ScopeAhead.l1 k rows all (f : Int) m (j : Int) = some true := by
  intro d
  induction d with
  | zero =>
    intro j hj m hm
    obtain ⟨k, e⟩ := next m hm
    have hml := hm.1
    refine ⟨k + 1, ?_⟩
    simp only [seedcornlaw16_ScopeAhead.l1]
    rw [if_pos (by omega), if_pos (by omega), if_neg (by omega), if_pos (by omega), hm.2 f (Nat.le_refl _), if_neg (by decide), if_pos (by omega), wr1 (by omega)]
    exact e
  | succ d ih =>
    intro j hj m hm
    have hml := hm.1
    have hlt : j < (rd_L14 rows (f : Int)).length := by omega
    obtain ⟨hn0, hn1⟩ := hrow.2 _ (List.getElem_mem hlt)
    obtain ⟨n, hn⟩ : ∃ n : Nat, (rd_L14 rows (f : Int))[j] = (n : Int) := ⟨((rd_L14 rows (f : Int))[j]).toNat, by omega⟩
    have hr : rd (rd_L14 rows (f : Int)) (j : Int) = (n : Int) := by rw [rd_at hlt, hn]
    rw [hn] at hn0 hn1
    obtain ⟨k, e⟩ := ahead_l2 rows all N f hf hN hall hlen (j : Int) n (by omega) (fun m hm => by rw [wr1 (by omega)]; exact ih (j + 1) (by omega) m hm) n 0 (by omega) _ (marks_set hm (show n < f by omega) true)
    have hj3 : seedcornlaw16_ScopeAhead.j3 (k + 1) rows all (f : Int) m (j : Int) (n : Int) false = some true := by
      simp only [seedcornlaw16_ScopeAhead.j3]
      rw [if_neg (by decide), if_pos (by omega), if_pos (by omega)]
      exact e
    refine ⟨k + 2, ?_⟩
    simp only [seedcornlaw16_ScopeAhead.l1]
    rw [if_pos (by omega), if_pos (by omega), if_pos (by omega), if_pos (by omega), hr, if_neg (by omega), if_neg (by omega)]
    by_cases hz : (j : Int) > 0
    · obtain ⟨i, rfl⟩ : ∃ i, j = i + 1 := ⟨j - 1, by omega⟩
      have hw : wrap64 (((i + 1 : Nat) : Int) - 1) = (i : Int) := by unfold wrap64; omega
      have hlast := List.pairwise_iff_getElem.1 hrow.1 i (i + 1) (by omega) hlt (by omega)
      rw [hn] at hlast
      rw [if_pos hz, hw, if_pos (by omega), if_pos (by omega), rd_at (show i < (rd_L14 rows (f : Int)).length by omega), decide_eq_false (by omega)]
      exact hj3
    · rw [if_neg hz]
      exact hj3
theorem ahead_l0 (rows : List (List Int)) (N : Nat) (hN : N ≤ 1000) (hrl : rows.length = N) (hrow : ∀ i, i < N → Ahead i (rd_L14 rows (i : Int)) ∧ (rd_L14 rows (i : Int)).length ≤ 1000000) :
    ∀ (d f : Nat), f + d = N → ∀ all : List (List Bool), all.length = f → (∀ i, i < f → (rd_L17 all (i : Int)).length = N) → ∃ k, seedcornlaw16_ScopeAhead.l0 k rows all (f : Int) = some true := by
  intro d
  induction d with
  | zero =>
    intro f hf all hall hlen
    refine ⟨1, ?_⟩
    simp only [seedcornlaw16_ScopeAhead.l0]
    rw [if_neg (by omega)]
  | succ d ih =>
    intro f hf all hall hlen
    have hm0 : Marks N f (List.replicate (((rows.length : Int) : Int)).toNat false) := by
      refine ⟨by rw [List.length_replicate, Int.toNat_natCast, hrl], fun j hj => ?_⟩
      unfold rdOf
      rw [Int.toNat_natCast, List.getD_eq_getElem?_getD, List.getElem?_replicate]
      split <;> rfl
    obtain ⟨k, e⟩ := ahead_l1 rows all N f (by omega) hN hrl (hrow f (by omega)).1 hall hlen (fun m hm => ih (f + 1) (by omega) (all ++ [m]) (by simp [hall]) (fun i hi => by
      unfold rd_L17
      rw [Int.toNat_natCast, List.getD_eq_getElem?_getD]
      by_cases hz : i < f
      · rw [List.getElem?_append_left (by omega)]
        have := hlen i hz
        unfold rd_L17 at this
        rw [Int.toNat_natCast, List.getD_eq_getElem?_getD] at this
        exact this
      · obtain rfl : i = all.length := by omega
        rw [List.getElem?_concat_length]
        exact hm.1)) (hrow f (by omega)).2 (rd_L14 rows (f : Int)).length 0 (by omega) _ hm0
    refine ⟨k + 1, ?_⟩
    simp only [seedcornlaw16_ScopeAhead.l0]
    rw [if_pos (by omega), if_pos (by omega), if_pos (by omega)]
    exact e
end Go.Proofs.Ytdpncghnlkgkdaa.H
set_option linter.unusedVariables false
set_option linter.unusedSimpArgs false
namespace Go.Proofs.Ytdpncghnlkgkdaa.H
open Go.RowKit Go.Proofs.YtdpncghnlkgkdaaW.PrintWords Go.Proofs.YtdpncghnlkgkdaaW.PrintLast Go.Proofs.YtdpncghnlkgkdaaW.PrintMore Go.Proofs.Ytdpncghnlkgkdaa.G
/-- What few lets in. -/
structure Small (vs : List ByteArray) (ar : List S68) (fs : List S40) : Prop where
  lens : Lens vs ar fs
  some : 0 < fs.length
  most : fs.length ≤ 70
  uses : UsesB fs
  right : rightP vs ar fs = true
theorem law_few (vs : List ByteArray) (ar : List S68) (fs : List S40) (hv : Held vs.length) (hf : ∀ f ∈ fs, Held f.f1.length ∧ Held f.f2.length) : ∃ k b, seedcornlaw16_few.f k vs ar fs = some b ∧ (b = true → Small vs ar fs) := by
  obtain ⟨k, b, e, q⟩ := few_some vs ar fs hv hf
  cases b with
  | false =>
    refine ⟨k, false, ?_, fun h => by cases h⟩
    unfold seedcornlaw16_few.f
    rw [e]
    rfl
  | true =>
    obtain ⟨q1, q2, q3, q4⟩ := q rfl
    have hL : Lens vs ar fs := ⟨by omega, by omega, by omega, fun f hf => ⟨by have := (q4 f hf).1; omega, by have := (q4 f hf).2.1; omega⟩⟩
    refine ⟨k, rightP vs ar fs, ?_, fun h => ⟨hL, ?_, q3, fun f hf => by have := (q4 f hf).2.2; omega, h⟩⟩
    · unfold seedcornlaw16_few.f
      rw [e]
      simp only [Option.bind_some]
      rw [if_pos trivial, seedcornref14_Right.ok hL]
      rfl
    · unfold rightP at h
      simp only [Bool.and_eq_true, decide_eq_true_eq] at h
      omega
theorem foldC_len' {vs : List ByteArray} {ar : List S68} {fs : List S40} (hu : UsesB fs) {i : Nat} (hi : i < fs.length) : (rd_L14 (callsP vs ar fs) (i : Int)).length ≤ 1000000 := by
  have e : rd_L14 (callsP vs ar fs) (i : Int) = rowC vs ar fs i := by
    unfold rd_L14
    rw [Int.toNat_natCast, List.getD_eq_getElem?_getD, List.getElem?_eq_getElem (by unfold callsP; simpa using hi)]
    simp [callsP]
  rw [e]
  unfold rowC
  have h1 := compact_le (sortP (rawC vs ar fs i))
  rw [sortP_len] at h1
  have h2 := foldC_len vs ar fs i (usesS (rd_T40 fs (i : Int)).f4) []
  have h3 := hu _ (rd40_mem (fs := fs) (f := (i : Int)) ⟨by omega, by omega⟩)
  unfold rawC at h1 ⊢
  simp only [List.length_nil, Nat.zero_add] at h2
  omega
theorem ahead_true (vs : List ByteArray) (ar : List S68) (fs : List S40) (hv : Held vs.length) (hf : ∀ f ∈ fs, Held f.f1.length ∧ Held f.f2.length) : ∃ k, seedcornlaw16_ScopeAhead.f k vs ar fs = some true := by
  obtain ⟨k, b, e, q⟩ := law_few vs ar fs hv hf
  have j0t : ∀ k, seedcornlaw16_ScopeAhead.j0 (k + 1) true vs ar fs = some true := fun k => by simp [seedcornlaw16_ScopeAhead.j0]
  cases b with
  | false =>
    refine ⟨k + 1, ?_⟩
    unfold seedcornlaw16_ScopeAhead.f seedcornlaw16_alive.f
    simp only [Option.bind_some]
    rw [if_pos trivial, lift_of (fun k => seedcornlaw16_few.f k vs ar fs) (fun k => seedcornlaw16_few.mono _ _ _ k) e (show k ≤ k + 1 by omega)]
    simp only [Option.bind_some]
    rw [if_neg (by decide)]
    exact j0t k
  | true =>
    have S := q rfl
    have hc := scope_Check.ok S.lens S.some
    by_cases hn : namedP vs ar fs = true
    · have h4 : (checkP vs ar fs == 4) = false := by
        unfold checkP
        rw [if_pos hn]
        split <;> rfl
      obtain ⟨hl, hr⟩ := calls_ahead (vs := vs) (ar := ar) hn
      obtain ⟨k2, e2⟩ := ahead_l0 (callsP vs ar fs) fs.length (by have := S.most; omega) hl (fun i hi => ⟨hr i hi, foldC_len' S.uses hi⟩) fs.length 0 (by omega) [] rfl (fun i hi => by omega)
      refine ⟨k + k2 + 1, ?_⟩
      unfold seedcornlaw16_ScopeAhead.f seedcornlaw16_alive.f
      simp only [Option.bind_some]
      rw [if_pos trivial, lift_of (fun k => seedcornlaw16_few.f k vs ar fs) (fun k => seedcornlaw16_few.mono _ _ _ k) e (show k ≤ k + k2 + 1 by omega)]
      simp only [Option.bind_some]
      rw [if_pos trivial, hc]
      simp only [Option.bind_some]
      rw [h4]
      simp only [seedcornlaw16_ScopeAhead.j0]
      rw [if_neg (by decide), scope_Calls.ok S.lens S.some S.uses]
      simp only [Option.bind_some]
      rw [if_pos (by omega)]
      exact lift_of (fun k => seedcornlaw16_ScopeAhead.l0 k (callsP vs ar fs) [] 0) (fun k => (seedcornlaw16_ScopeAhead.mono_l k).2.1 _ _ _) e2 (show k2 ≤ k + k2 by omega)
    · have h4 : (checkP vs ar fs == 4) = true := by
        unfold checkP
        rw [if_neg hn]
        rfl
      refine ⟨k + 1, ?_⟩
      unfold seedcornlaw16_ScopeAhead.f seedcornlaw16_alive.f
      simp only [Option.bind_some]
      rw [if_pos trivial, lift_of (fun k => seedcornlaw16_few.f k vs ar fs) (fun k => seedcornlaw16_few.mono _ _ _ k) e (show k ≤ k + 1 by omega)]
      simp only [Option.bind_some]
      rw [if_pos trivial, hc]
      simp only [Option.bind_some]
      rw [h4]
      exact j0t k
end Go.Proofs.Ytdpncghnlkgkdaa.H
set_option linter.unusedVariables false
set_option linter.unusedSimpArgs false
namespace Go.Proofs.Ytdpncghnlkgkdaa.OP
open Go.ChangeShapes Go.WideShapes Go.RowKit Go.Proofs.YtdpncghnlkgkdaaW.PrintWords

/-- Whatever reads as a value of type t is of the kind d, and good. -/
def Opn (N : Nat) (P : Program) {α : Type} (d : Kd α) (t : TypeId) (G : α → Prop) : Prop :=
  P.cellsOf t = d.sz ∧ ∀ (H : Type) (enc : TypeId × Value → H) (W : World) (held : Bool) (fuel : Nat) (cs : List Value) (x : DataW H × List MemPlace),
    fuel ≤ N → DataW.trod enc P W 0 (fun _ => true) held fuel t cs = some x → (∀ n ∈ x.1.weights P t, n ≤ reachBytes) → ∃ a, d.K W a cs ∧ G a

theorem Opn.mono {N : Nat} {P : Program} {α : Type} {d : Kd α} {t : TypeId} {G G' : α → Prop} (h : Opn N P d t G) (hg : ∀ a, G a → G' a) : Opn N P d t G' :=
  ⟨h.1, fun H enc W held fuel cs x hN ht hw => by
    obtain ⟨a, ha, hG⟩ := h.2 H enc W held fuel cs x hN ht hw
    exact ⟨a, ha, hg a hG⟩⟩
theorem Opn.iso {N : Nat} {P : Program} {α β : Type} {d : Kd α} {t : TypeId} {G : α → Prop} (h : Opn N P d t G) (f : β → α) (g : α → β) (hg : ∀ a, f (g a) = a) : Opn N P (Kd.iso d f) t (fun b => G (f b)) :=
  ⟨h.1, fun H enc W held fuel cs x hN ht hw => by
    obtain ⟨a, ha, hG⟩ := h.2 H enc W held fuel cs x hN ht hw
    exact ⟨g a, show d.K W (f (g a)) cs by rw [hg]; exact ha, show G (f (g a)) by rw [hg]; exact hG⟩⟩
theorem op_int {N : Nat} {P : Program} {t : TypeId} {k : IntKind} (ht : P.underlying t = some (.int k)) (hc : P.cellsOf t = 1) : Opn N P (Kd.int k) t (fun n => k.min ≤ n ∧ n ≤ k.max) :=
  ⟨hc, fun H enc W held fuel cs x hN h hw => by
    obtain ⟨n, rfl, _, hn⟩ := DataW.trod_int ht h
    simp only [Lit.wf, Bool.and_eq_true, decide_eq_true_eq] at hn
    exact ⟨n, rfl, hn⟩⟩
theorem op_bool {N : Nat} {P : Program} {t : TypeId} (ht : P.underlying t = some .bool) (hc : P.cellsOf t = 1) : Opn N P Kd.bool t (fun _ => True) :=
  ⟨hc, fun H enc W held fuel cs x hN h hw => by
    obtain ⟨n, rfl, _⟩ := DataW.trod_bool ht h
    exact ⟨n, rfl, trivial⟩⟩
theorem op_string {N : Nat} {P : Program} {t : TypeId} (ht : P.underlying t = some .string) (hc : P.cellsOf t = 1) : Opn N P Kd.string t (fun s => s.size ≤ 140737488351232) :=
  ⟨hc, fun H enc W held fuel cs x hN h hw => by
    obtain ⟨s, rfl, rfl, _⟩ := DataW.trod_string ht h
    refine ⟨s, rfl, ?_⟩
    have := hw s.size (by simp [DataW.weights])
    exact this⟩
theorem all_mem {P : Program} {H : Type} {e : TypeId} : ∀ {l : List (DataW H)} {d : DataW H}, d ∈ l → ∀ n ∈ d.weights P e, n ∈ DataW.weightsAll P e l
  | [], _, h, _, _ => by simp at h
  | d0 :: r, d, h, n, hn => by
    simp only [DataW.weightsAll, List.mem_append]
    rcases List.mem_cons.1 h with rfl | h
    · exact .inl hn
    · exact .inr (all_mem h n hn)
theorem op_slice {N : Nat} {P : Program} {α : Type} {d : Kd α} {t e : TypeId} {G : α → Prop} {B : Nat} (ht : P.underlying t = some (.slice e)) (hc : P.cellsOf t = 1) (hB : P.bytesOf e = B) (h : Opn N P d e G) :
    Opn N P (Kd.slice e d) t (fun xs => (∀ x ∈ xs, G x) ∧ xs.length * B ≤ 140737488351232 ∧ xs.length ≤ maxLen) :=
  ⟨hc, fun H enc W held fuel cs x hN hx hw => by
    rcases DataW.trod_slice ht hx with ⟨rfl, rfl⟩ | ⟨a, len, cap, elems, rest, n, rfl, rfl, rfl, hb, hl, hm, he, hcell, hsp, _⟩
    · exact ⟨[], ⟨none, 0, rfl, Nat.le_refl _, rfl, Nat.zero_le _, fun hh => absurd hh (Nat.lt_irrefl 0)⟩, by simp, by simp, Nat.zero_le _⟩
    · have hw1 : (elems.length + rest.length) * P.bytesOf e ≤ reachBytes := hw _ (by simp [DataW.weights, ht])
      have hw2 : ∀ y ∈ elems, ∀ m ∈ y.1.weights P e, m ≤ reachBytes := fun y hy m hmm => hw m (by
        simp only [DataW.weights, ht, List.mem_cons, List.mem_append]
        exact .inr (.inl (all_mem (List.mem_map_of_mem hy) m hmm)))
      have each : ∀ i, i < len → ∃ y : α, G y ∧ ∃ c : List Value, c.length = d.sz ∧ d.K W y c ∧ ∀ j u, c[j]? = some u → W.cell? (a.add (i * d.sz + j)) = some u := by
        intro i hi
        have h1 := hcell i hi
        have hlt : i < elems.length := by omega
        rw [List.getElem?_eq_getElem hlt, Option.bind_eq_some_iff] at h1
        obtain ⟨c, hcs, htr⟩ := h1
        obtain ⟨_, hlen, hcc⟩ := World.cells?_some hcs
        rw [h.1] at hlen hcc
        obtain ⟨y, hy, hG⟩ := h.2 H enc W held n c elems[i] (by omega) htr (hw2 _ (List.getElem_mem hlt))
        refine ⟨y, hG, c, hlen, hy, fun j u hj => ?_⟩
        obtain ⟨hjl, _⟩ := List.getElem?_eq_some_iff.1 hj
        have h3 := hcc j (by omega)
        rw [hj] at h3
        rw [← h3, Addr.add_add]
      by_cases h0 : len = 0
      · subst h0
        exact ⟨[], ⟨some a, cap, rfl, hl, rfl, Nat.zero_le _, fun hh => absurd hh (Nat.lt_irrefl 0)⟩, by simp, by simp, Nat.zero_le _⟩
      obtain ⟨y0, _⟩ := each 0 (by omega)
      haveI : Inhabited α := ⟨y0⟩
      obtain ⟨f, hf⟩ := Go.Deep.choose_lt each
      have hlen : ((List.range len).map f).length = len := by simp
      have hcap : len ≤ 9223372036854775807 := Nat.le_trans hl (Nat.le_trans hm (by unfold maxLen; omega))
      refine ⟨(List.range len).map f, ⟨some a, cap, by rw [hlen], by rw [hlen]; exact hl, rfl, by rw [hlen]; exact hcap, fun _ => ⟨a, rfl, fun j p hj => ?_⟩⟩, fun x hx => ?_, ?_, by rw [hlen]; exact Nat.le_trans hl hm⟩
      · obtain ⟨hjl, rfl⟩ := List.getElem?_eq_some_iff.1 hj
        rw [hlen] at hjl
        simp only [List.getElem_map, List.getElem_range]
        exact (hf j hjl).2
      · obtain ⟨i, hi, rfl⟩ := List.mem_map.1 hx
        exact (hf i (List.mem_range.1 hi)).1
      · rw [hlen, ← hB, ← he]
        exact Nat.le_trans (Nat.mul_le_mul_right _ (Nat.le_add_right _ _)) hw1⟩

/-- The fields of a struct, from a place on. -/
def Fs (N : Nat) (P : Program) {α : Type} (d : Kd α) (off : Nat) (fs : List Field) (G : α → Prop) : Prop :=
  ∀ (H : Type) (enc : TypeId × Value → H) (W : World) (held : Bool) (fuel : Nat) (cs : List Value) (xs : List (DataW H × List MemPlace)), xs.length = fs.length → fuel ≤ N →
    (∀ (i : Nat) (f : Field), fs[i]? = some f → DataW.trod enc P W 0 (fun _ => true) held fuel f.type ((cs.drop f.offset).take (P.cellsOf f.type)) = xs[i]?) →
    (∀ n ∈ DataW.weightsEach P (fs.map (·.type)) (xs.map (·.1)), n ≤ reachBytes) → cs.length = off + d.sz → ∃ a, d.K W a (cs.drop off) ∧ G a
theorem fs_one {N : Nat} {P : Program} {α : Type} {d : Kd α} {off : Nat} {f : Field} {G : α → Prop} (h : Opn N P d f.type G) (ho : f.offset = off) : Fs N P d off [f] G := by
  intro H enc W held fuel cs xs hl hN ht hw hn
  match xs, hl with
  | [y], _ =>
    have h1 := ht 0 f rfl
    rw [ho, h.1, List.take_of_length_le (by rw [List.length_drop]; omega)] at h1
    exact h.2 H enc W held fuel _ y hN h1 (fun n hm => hw n (by simp [DataW.weightsEach]; exact hm))
theorem fs_cons {N : Nat} {P : Program} {α β : Type} {d : Kd α} {d' : Kd β} {off : Nat} {f : Field} {fs : List Field} {G : α → Prop} {G' : β → Prop} (h : Opn N P d f.type G) (ho : f.offset = off) (hr : Fs N P d' (off + d.sz) fs G') :
    Fs N P (Kd.pair d d') off (f :: fs) (fun x => G x.1 ∧ G' x.2) := by
  intro H enc W held fuel cs xs hl hN ht hw hn
  match xs, hl with
  | y :: ys, hl =>
    have hn' : cs.length = off + (d.sz + d'.sz) := hn
    have h1 := ht 0 f rfl
    rw [ho, h.1] at h1
    obtain ⟨a, ha, hG⟩ := h.2 H enc W held fuel _ y hN h1 (fun n hm => hw n (by simp only [List.map_cons, DataW.weightsEach, List.mem_append]; exact .inl hm))
    obtain ⟨b, hb, hG'⟩ := hr H enc W held fuel cs ys (by simpa using hl) hN (fun i g hg => ht (i + 1) g hg) (fun n hm => hw n (by simp only [List.map_cons, DataW.weightsEach, List.mem_append]; exact .inr hm)) (by omega)
    refine ⟨(a, b), ⟨_, _, ?_, ha, hb⟩, hG, hG'⟩
    rw [← List.drop_drop, List.take_append_drop]
theorem op_struct {N : Nat} {P : Program} {α : Type} {d : Kd α} {t : TypeId} {fs : Array Field} {G : α → Prop} (ht : P.underlying t = some (.struct fs)) (hc : P.cellsOf t = d.sz) (h : Fs N P d 0 fs.toList G) : Opn (N + 1) P d t G :=
  ⟨hc, fun H enc W held fuel cs x hN hx hw => by
    obtain ⟨xs, n, rfl, rfl, hl, hlen, hf⟩ := DataW.trod_struct ht hx
    have := h H enc W held n cs xs (by simpa using hlen) (by omega) (fun i f hi => hf i f (by simpa using hi)) (fun n hm => hw n (by simp only [DataW.weights, ht]; exact hm)) (by omega)
    simpa using this⟩
theorem op_none {P : Program} {α : Type} {d : Kd α} {t : TypeId} {fs : Array Field} {G : α → Prop} (ht : P.underlying t = some (.struct fs)) (hc : P.cellsOf t = d.sz) : Opn 0 P d t G :=
  ⟨hc, fun H enc W held fuel cs x hN hx hw => by
    obtain ⟨xs, n, rfl, rfl, hl, hlen, hf⟩ := DataW.trod_struct ht hx
    omega⟩
/-- The same cells, as another kind. -/
theorem Opn.map {N : Nat} {P : Program} {α β : Type} {d : Kd α} {d' : Kd β} {t : TypeId} {G : α → Prop} {G' : β → Prop} (h : Opn N P d t G) (hs : d'.sz = d.sz) (hm : ∀ W a cs, d.K W a cs → G a → ∃ b, d'.K W b cs ∧ G' b) : Opn N P d' t G' :=
  ⟨h.1.trans hs.symm, fun H enc W held fuel cs x hN ht hw => by
    obtain ⟨a, ha, hG⟩ := h.2 H enc W held fuel cs x hN ht hw
    exact hm W a cs ha hG⟩
/-- An argument. -/
theorem op_arg {P : Program} {α : Type} {d : Kd α} {t : TypeId} {G : α → Prop} (h : ∀ N, Opn N P d t G) {H : Type} {enc : TypeId × Value → H} {W : World} {held : Bool} {v : Value} {x : DataW H} {ps : List MemPlace} {ts : List TypeId} {ds : List (DataW H)} {j : Nat}
    (hx : DataW.Trod enc P W 0 (fun _ => true) held t v x ps) (hsz : (DataW.weightsEach P ts ds).all (· ≤ reachBytes) = true) (htj : ts[j]? = some t) (hdj : ds[j]? = some x) : ∃ a, d.K W a v.cells.toList ∧ G a := by
  obtain ⟨fuel, hf⟩ := hx
  refine (h fuel).2 H enc W held fuel _ (x, ps) (Nat.le_refl _) hf (fun n hn => ?_)
  have := List.all_eq_true.1 hsz n (DataW.weights_mem_each htj hdj n hn)
  simpa using this
end Go.Proofs.Ytdpncghnlkgkdaa.OP
set_option linter.unusedVariables false
set_option linter.unusedSimpArgs false
namespace Go.Proofs.Ytdpncghnlkgkdaa.H
open Go.RowKit Go.Proofs.YtdpncghnlkgkdaaW.PrintWords Go.Proofs.YtdpncghnlkgkdaaW.PrintLast Go.Proofs.YtdpncghnlkgkdaaW.PrintMore Go.Proofs.Ytdpncghnlkgkdaa.G
open OP
abbrev T1 {α : Type} : α → Prop := fun _ => True
theorem opI {N : Nat} : Opn N Try.prog (Kd.int .i64) 3 T1 := (op_int Try.underlying3 (by kernel_rfl)).mono (fun _ _ => trivial)
theorem opU {N : Nat} : Opn N Try.prog (Kd.int .u32) 35 T1 := (op_int Try.underlying35 (by kernel_rfl)).mono (fun _ _ => trivial)
theorem opS {N : Nat} : Opn N Try.prog Kd.string 9 T1 := (op_string Try.underlying9 (by kernel_rfl)).mono (fun _ _ => trivial)
theorem opB {N : Nat} : Opn N Try.prog Kd.bool 4 T1 := (op_bool Try.underlying4 (by kernel_rfl)).mono (fun _ _ => trivial)
theorem opSs {N : Nat} : Opn N Try.prog (Kd.slice 9 Kd.string) 22 T1 := (op_slice Try.underlying22 (by kernel_rfl) rfl opS).mono (fun _ _ => trivial)
theorem op37 : ∀ N, Opn N Try.prog k37 37 T1
  | 0 => op_none Try.underlying37 (by kernel_rfl)
  | N + 1 => (op_struct Try.underlying37 (by kernel_rfl) (fs_cons opI rfl (fs_cons opI rfl (fs_cons opU rfl (fs_cons opS rfl (fs_one (op_slice Try.underlying30 (by kernel_rfl) rfl (op37 N)) rfl)))))).map rfl (fun W a cs h _ => by
      obtain ⟨_, _, rfl, rfl, ⟨_, _, rfl, rfl, ⟨_, _, rfl, rfl, ⟨_, _, rfl, rfl, ⟨A, c, rfl, l, g⟩⟩⟩⟩⟩ := h
      exact ⟨⟨a.1, a.2.1, a.2.2.1, a.2.2.2.1, a.2.2.2.2⟩, k37_mk W ⟨a.1, a.2.1, a.2.2.1, a.2.2.2.1, a.2.2.2.2⟩ l g, trivial⟩)
theorem opEs {N : Nat} : Opn N Try.prog (Kd.slice 37 k37) 30 T1 := (op_slice Try.underlying30 (by kernel_rfl) rfl (op37 N)).mono (fun _ _ => trivial)
theorem op33 : ∀ N, Opn N Try.prog k33 33 T1
  | 0 => op_none Try.underlying33 (by kernel_rfl)
  | N + 1 => (op_struct Try.underlying33 (by kernel_rfl) (fs_cons opI rfl (fs_cons opS rfl (fs_cons opEs rfl (fs_cons (op_slice Try.underlying31 (by kernel_rfl) rfl (op33 N)) rfl (fs_one (op_slice Try.underlying31 (by kernel_rfl) rfl (op33 N)) rfl)))))).map rfl (fun W a cs h _ => by
      obtain ⟨_, _, rfl, rfl, ⟨_, _, rfl, rfl, ⟨_, _, rfl, ⟨A2, c2, rfl, l2, g2⟩, ⟨_, _, rfl, ⟨A3, c3, rfl, l3, g3⟩, ⟨A4, c4, rfl, l4, g4⟩⟩⟩⟩⟩ := h
      exact ⟨⟨a.1, a.2.1, a.2.2.1, a.2.2.2.1, a.2.2.2.2⟩, k33_mk W ⟨a.1, a.2.1, a.2.2.1, a.2.2.2.1, a.2.2.2.2⟩ l2 g2 l3 g3 l4 g4, trivial⟩)
theorem opBs {N : Nat} : Opn N Try.prog (Kd.slice 33 k33) 31 T1 := (op_slice Try.underlying31 (by kernel_rfl) rfl (op33 N)).mono (fun _ _ => trivial)
theorem op68 {N : Nat} : Opn N Try.prog k68 68 T1 := by
  cases N with
  | zero => exact op_none Try.underlying68 (by kernel_rfl)
  | succ N => exact ((op_struct Try.underlying68 (by kernel_rfl) (fs_cons opS rfl (fs_one opI rfl))).iso _ (fun p => (⟨p.1, p.2⟩ : S68)) (fun _ => rfl)).mono (fun _ _ => trivial)
theorem op40 {N : Nat} : Opn N Try.prog k40 40 T1 := by
  cases N with
  | zero => exact op_none Try.underlying40 (by kernel_rfl)
  | succ N => exact ((op_struct Try.underlying40 (by kernel_rfl) (fs_cons opS rfl (fs_cons opSs rfl (fs_cons opSs rfl (fs_cons opB rfl (fs_one opBs rfl)))))).iso _ (fun p => (⟨p.1, p.2.1, p.2.2.1, p.2.2.2.1, p.2.2.2.2⟩ : S40)) (fun _ => rfl)).mono (fun _ _ => trivial)
theorem op26 : ∀ N, Opn N Try.prog k26 26 T1
  | 0 => op_none Try.underlying26 (by kernel_rfl)
  | N + 1 => ((op_struct Try.underlying26 (by kernel_rfl) (fs_cons opSs rfl (fs_cons (op_slice Try.underlying23 (by kernel_rfl) rfl op68) rfl (fs_one (op_slice Try.underlying24 (by kernel_rfl) rfl op40) rfl)))).iso _ (fun p => (⟨p.1, p.2.1, p.2.2⟩ : S26)) (fun _ => rfl)).mono (fun _ _ => trivial)
end Go.Proofs.Ytdpncghnlkgkdaa.H
set_option linter.unusedVariables false
set_option linter.unusedSimpArgs false
namespace Go.Proofs.Ytdpncghnlkgkdaa.H
open Go.RowKit Go.Proofs.YtdpncghnlkgkdaaW.PrintWords Go.Proofs.YtdpncghnlkgkdaaW.PrintLast Go.Proofs.YtdpncghnlkgkdaaW.PrintMore Go.Proofs.Ytdpncghnlkgkdaa.G
theorem held_func {w : World} {A2 : Option Addr} {fs : List S40} (hr : Kd.C k40 w A2 fs.length fs) : ∀ f ∈ fs, Held f.f1.length ∧ Held f.f2.length := by
  intro f hf
  obtain ⟨i, hi, rfl⟩ := List.mem_iff_getElem.1 hf
  obtain ⟨ad, B1, d1, B2, d2, B4, d4, e, y0, y1, y2, y3, y4, m1, hC1, m2, hC2, m4, hC4⟩ := at_T40 hr (i : Int) (by omega) (by omega)
  have e : rd_T40 fs (i : Int) = fs[i] := by
    unfold rd_T40
    rw [Int.toNat_natCast, List.getD_eq_getElem?_getD, List.getElem?_eq_getElem hi]
    rfl
  rw [e] at hC1 hC2
  exact ⟨Kd.C_max hC1, Kd.C_max hC2⟩
theorem ahead_calls (A0 : Option Addr) (c0 : Nat) (vs : List ByteArray) (A1 : Option Addr) (c1 : Nat) (ar : List S68) (A2 : Option Addr) (c2 : Nat) (fs : List S40) (w : World) (hr0 : Kd.C Kd.string w A0 vs.length vs) (hc0 : vs.length ≤ c0) (hr1 : Kd.C k68 w A1 ar.length ar) (hc1 : ar.length ≤ c1) (hr2 : Kd.C k40 w A2 fs.length fs) (hc2 : fs.length ≤ c2) :
    Calls Try.prog 7 #[.agg #[.slice A0 vs.length c0, .slice A1 ar.length c1, .slice A2 fs.length c2]] w fun e w' => e = .returned (.bool true) ∧ Below w.heap.size w w' := by
  obtain ⟨k, e⟩ := ahead_true vs ar fs (Kd.C_max hr0) (held_func hr2)
  exact seedcornlaw16_ScopeAhead.calls k A0 c0 vs A1 c1 ar A2 c2 fs true w hr0 hc0 hr1 hc1 hr2 hc2 e
end Go.Proofs.Ytdpncghnlkgkdaa.H

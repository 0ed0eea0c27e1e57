/- Right, walked: it tells what rightB says. Condition: as in HOne. -/
import Derived.Test.YtggchfdjpfodfaaHOne
set_option linter.unusedVariables false
set_option linter.unusedSimpArgs false
namespace Go.Proofs.Ytggchfdjpfodfaa.H
open Go.RowKit Go.Proofs.YtggchfdjpfodfaaW.PrintWords Go.Proofs.YtggchfdjpfodfaaW.PrintLast Go.Proofs.YtggchfdjpfodfaaW.PrintMore Go.Proofs.Ytggchfdjpfodfaa.PFoldOf
open Sp

def rightFrom (words : Int) : Nat → List S29 → Bool
  | _, [] => true
  | i, f :: r => oneB f.f0 f.f1 (i : Int) words && rightFrom words (i + 1) r
/-- May a program be? -/
def rightB (words : Int) (l : List S29) : Bool := decide (0 ≤ words) && decide (words ≤ 1048576) && !l.isEmpty && rightFrom words 0 l
theorem rightFrom_snoc (words : Int) (f : S29) : ∀ (l : List S29) (i : Nat), rightFrom words i (l ++ [f]) = (rightFrom words i l && oneB f.f0 f.f1 ((i + l.length : Nat) : Int) words) := by
  intro l
  induction l with
  | nil => intro i; simp [rightFrom]
  | cons x l ih => intro i; simp only [List.cons_append, rightFrom, ih, List.length_cons, Bool.and_assoc]; rw [show i + 1 + l.length = i + (l.length + 1) by omega]
theorem rightFrom_bad {words : Int} : ∀ {l : List S29} {k : Nat} (h : k < l.length) (i : Nat), oneB (rd_T29 l (k : Int)).f0 (rd_T29 l (k : Int)).f1 ((i + k : Nat) : Int) words = false → rightFrom words i l = false := by
  intro l
  induction l with
  | nil => intro k h; simp at h
  | cons x l ih =>
    intro k h i hb
    cases k with
    | zero =>
      have : oneB x.f0 x.f1 (i : Int) words = false := hb
      simp [rightFrom, this]
    | succ k =>
      have := ih (k := k) (by simpa using h) (i + 1) (by
        rw [show i + 1 + k = i + (k + 1) by omega]
        have e : rd_T29 (x :: l) ((k + 1 : Nat) : Int) = rd_T29 l (k : Int) := by
          unfold rd_T29
          rw [Int.toNat_natCast, Int.toNat_natCast]
          rfl
        rw [e] at hb
        exact hb)
      simp [rightFrom, this]

set_option maxHeartbeats 2000000 in
set_option maxRecDepth 100000 in
theorem right_calls (words : Int) (A : Option Addr) (c : Nat) (l : List S29) (w : World) (hr : Kd.C k29 w A l.length l) (hc : l.length ≤ c) (hz : ∀ f ∈ l, ∀ b ∈ f.f1, ∀ t ∈ b.f0, Wf48 t) :
    Calls Try.prog 15 #[.agg #[.int .i64 words, .slice A l.length c]] w fun e w' => e = .returned (.bool (rightB words l)) ∧ Below w.heap.size w w' := by
  have hu24 := Try.underlying24
  have hu29 := Try.underlying29
  have hnl := hr.2.1
  by_cases h0 : words < 0
  · have e : rightB words l = false := by unfold rightB; simp [show ¬ (0 ≤ words) by omega]
    rw [e]
    go_enter Try.func15, Try.ntmps15
    go_wp2_with (fail)
    go_ret
    exact ⟨rfl, below_alloc (Below.refl _ _) _⟩
  by_cases h1 : 1048576 < words
  · have e : rightB words l = false := by unfold rightB; simp [show ¬ (words ≤ 1048576) by omega]
    rw [e]
    go_enter Try.func15, Try.ntmps15
    go_wp2_with (fail)
    go_ret
    exact ⟨rfl, below_alloc (Below.refl _ _) _⟩
  by_cases h2 : l.length = 0
  · have e : rightB words l = false := by
      obtain rfl := List.eq_nil_of_length_eq_zero h2
      simp [rightB]
    rw [e]
    go_enter Try.func15, Try.ntmps15
    go_wp2_with (fail)
    go_ret
    exact ⟨rfl, below_alloc (Below.refl _ _) _⟩
  have h0' : 0 ≤ words := by omega
  have h1' : words ≤ 1048576 := by omega
  have h2b : ((l.length : Int) == 0) = false := beq_eq_false_iff_ne.2 (by omega)
  have e : rightB words l = rightFrom words 0 l := by
    have hne : l.isEmpty = false := by cases l with | nil => exact absurd rfl h2 | cons => rfl
    unfold rightB
    rw [decide_eq_true h0', decide_eq_true h1', hne]
    rfl
  rw [e]
  clear h0 h1 e
  go_enter Try.func15, Try.ntmps15
  go_wp2_with (fail)
  go_loopw [3] (fun i wr => ∃ k : Nat, k ≤ l.length ∧ i = .int .i64 k ∧ Aside0 (rightFrom words 0 (l.take k) = true) ∧ Aside0 (wr.heap[w.heap.size]? = some (.cells #[.int .i64 words, .slice A l.length c] 24 (0, 0))) ∧ Aside0 (Below w.heap.size w wr)) (fun i _ => l.length - (intOf i).toNat)
  case atStart => exact ⟨0, Nat.zero_le _, rfl, ⟨rfl⟩, ⟨blk_new _ _⟩, ⟨below_alloc (Below.refl _ _) _⟩⟩
  case round =>
    obtain ⟨k, hk, rfl, HA, HK, HB⟩ := hrel
    obtain ⟨wo, rfl⟩ : ∃ wo : World, wo = wr := ⟨_, rfl⟩
    have z0 : wo.cell? ⟨w.heap.size, 0, none⟩ = some (.int .i64 words) := (blk_cell HK.out 0).trans rfl
    have z1 : wo.cell? ⟨w.heap.size, 1, none⟩ = some (.slice A l.length c) := (blk_cell HK.out 1).trans rfl
    by_cases hlt : k < l.length
    · obtain ⟨ad, A0, c0, rfl, x0, x1, hlen0, hC0⟩ := at_T29 hr (k : Int) (by omega) (by omega)
      replace x0 := pw_cell_below HB.out x0
      replace x1 := pw_cell_below HB.out x1
      simp only [Int.toNat_natCast] at x0 x1
      generalize hbk : rd_T29 l (k : Int) = b at *
      have hzb := hz b (by rw [← hbk]; exact rd_mem2 hlt)
      have Hbk := Aside0.mk hbk
      clear hbk
      go_upto_region 6 with (fail)
      go_still_tail 8, (by kernel_rfl)
      go_wp2_with (fail)
      refine (one_calls _ _ _ _ _ _ _ (Kd.C_drew (Kd.C_below hC0 HB.out)) hlen0 ⟨h0', h1'⟩ hzb).mono ?_
      rintro e w1 ⟨rfl, hb1⟩
      have HK1 := Aside0.mk (blk_below (blk_drew HK.out) hb1)
      have HB1 := Aside0.mk (below_then (below_drew1 HB.out) HB.out.size hb1)
      clear z0 z1 hb1 HK HB
      cases hone : oneB b.f0 b.f1 (k : Int) words
      · go_wp2_with (fail)
        go_ret
        exact ⟨ret_b (rightFrom_bad hlt 0 (by rw [Hbk.out, Nat.zero_add]; exact hone)).symm, HB1.out⟩
      · go_wp2_with (fail)
        go_roundw
        case rel => exact ⟨k + 1, hlt, by go_num, ⟨by rw [take_rd2 hlt, Hbk.out, rightFrom_snoc, HA.out, List.length_take, Nat.min_eq_left hk, Nat.zero_add, hone]; rfl⟩, HK1, HB1⟩
        case measure => simp [intOf]; omega
    · have hk' : k = l.length := by omega
      subst hk'
      rw [List.take_length] at HA
      go_wp2_with (fail)
      go_ret
      exact ⟨ret_b HA.out.symm, HB.out⟩
end Go.Proofs.Ytggchfdjpfodfaa.H

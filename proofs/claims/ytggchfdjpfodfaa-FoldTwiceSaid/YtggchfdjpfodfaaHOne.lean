/- ends, one and both, walked: they tell what endsB and oneB say. Condition: the numbers are whole numbers of 64 bits. -/
import Derived.Test.YtggchfdjpfodfaaHFits
import Derived.Test.YtggchfdjpfodfaaHRd
import Derived.StillTailTactics
set_option linter.unusedVariables false
set_option linter.unusedSimpArgs false
namespace Go.Proofs.Ytggchfdjpfodfaa.H
open Go.RowKit Go.Proofs.YtggchfdjpfodfaaW.PrintWords Go.Proofs.YtggchfdjpfodfaaW.PrintLast Go.Proofs.YtggchfdjpfodfaaW.PrintMore Go.Proofs.Ytggchfdjpfodfaa.PFoldOf
open Sp

def I64 (x : Int) : Prop := -9223372036854775808 ≤ x ∧ x ≤ 9223372036854775807
/-- May a block's end be? -/
def endsB (en v tg el blocks regs : Int) : Bool :=
  if en = 1 then wB tg blocks && (v == 0 && el == 0) else if en = 2 then wB tg blocks && wB el blocks && wB v regs else en == 3 && (v == 0 && tg == 0 && el == 0)
set_option maxHeartbeats 2000000 in
set_option maxRecDepth 100000 in
theorem ends_calls (A : Option Addr) (n m : Nat) (en v tg el blocks regs : Int) (w : World) :
    Calls Try.prog 28 #[.agg #[.slice A n m, .int .i64 en, .int .i64 v, .int .i64 tg, .int .i64 el], .int .i64 blocks, .int .i64 regs] w fun e w' => e = .returned (.bool (endsB en v tg el blocks regs)) ∧ Below w.heap.size w w' := by
  have hu45 := Try.underlying45
  by_cases h1 : en = 1
  · subst h1
    have e : endsB 1 v tg el blocks regs = (wB tg blocks && (v == 0 && el == 0)) := rfl
    rw [e]
    cases h0 : wB tg blocks
    all_goals
      go_enter Try.func28, Try.ntmps28
      go_wp2_with (go_at_call 35; refine (within_calls _ _ _).mono ?_; rintro e w' ⟨rfl, rfl⟩)
    all_goals go_ret
    all_goals refine ⟨ret_b (by simp [*]), ?_⟩
    all_goals repeat (first | exact Below.refl _ _ | apply below_alloc | apply below_drew1)
  · by_cases h2 : en = 2
    · subst h2
      have e : endsB 2 v tg el blocks regs = (wB tg blocks && wB el blocks && wB v regs) := rfl
      rw [e]
      cases h0 : wB tg blocks
      · go_enter Try.func28, Try.ntmps28
        go_wp2_with (go_at_call 35; refine (within_calls _ _ _).mono ?_; rintro e w' ⟨rfl, rfl⟩)
        go_ret
        refine ⟨ret_b (by simp [*]), ?_⟩
        repeat (first | exact Below.refl _ _ | apply below_alloc | apply below_drew1)
      · cases h3 : wB el blocks
        · go_enter Try.func28, Try.ntmps28
          go_wp2_with (go_at_call 35; refine (within_calls _ _ _).mono ?_; rintro e w' ⟨rfl, rfl⟩)
          go_ret
          refine ⟨ret_b (by simp [*]), ?_⟩
          repeat (first | exact Below.refl _ _ | apply below_alloc | apply below_drew1)
        · go_enter Try.func28, Try.ntmps28
          go_wp2_with (go_at_call 35; refine (within_calls _ _ _).mono ?_; rintro e w' ⟨rfl, rfl⟩)
          go_ret
          refine ⟨ret_b (by simp [*]), ?_⟩
          repeat (first | exact Below.refl _ _ | apply below_alloc | apply below_drew1)
    · have e : endsB en v tg el blocks regs = (en == 3 && (v == 0 && tg == 0 && el == 0)) := by unfold endsB; rw [if_neg h1, if_neg h2]
      rw [e]
      have b1 : (en == 1) = false := beq_eq_false_iff_ne.2 h1
      have b2 : (en == 2) = false := beq_eq_false_iff_ne.2 h2
      clear e
      go_enter Try.func28, Try.ntmps28
      go_wp2_with (go_at_call 35; refine (within_calls _ _ _).mono ?_; rintro e w' ⟨rfl, rfl⟩)
      all_goals go_ret
      all_goals refine ⟨ret_b (by simp [*]), ?_⟩
      all_goals repeat (first | exact Below.refl _ _ | apply below_alloc | apply below_drew1)

/-- The numbers of an instruction are numbers of their kinds. -/
def Wf48 (t : S48) : Prop := I64 t.f0 ∧ I64 t.f1 ∧ I64 t.f2 ∧ I64 t.f3 ∧ I64 t.f4 ∧ I64 t.f5 ∧ I64 t.f6 ∧ W32 t.f7
def fitsT (number regs words : Int) (t : S48) : Bool := fitsB t.f0 t.f1 t.f2 t.f3 t.f4 t.f5 t.f6 t.f7 number regs words
def blockB (number regs words nb : Int) (b : S45) : Bool := endsB b.f1 b.f2 b.f3 b.f4 nb regs && b.f0.all (fitsT number regs words)
/-- May a function be? -/
def oneB (regs : Int) (l : List S45) (number words : Int) : Bool := decide (0 ≤ regs) && decide (regs ≤ 4000) && !l.isEmpty && l.all (blockB number regs words l.length)

theorem all_snoc {α : Type} {p : α → Bool} {l : List α} {x : α} (h : l.all p = true) (hx : p x = true) : (l ++ [x]).all p = true := by simp [h, hx]
theorem all_bad {α : Type} {p : α → Bool} {l : List α} {x : α} (hx : x ∈ l) (h : p x = false) : l.all p = false := by
  rw [List.all_eq_false]
  exact ⟨x, hx, by simp [h]⟩

set_option maxHeartbeats 2000000 in
set_option maxRecDepth 100000 in
theorem one_calls (regs number words : Int) (A : Option Addr) (c : Nat) (l : List S45) (w : World) (hr : Kd.C k45 w A l.length l) (hc : l.length ≤ c) (hw : 0 ≤ words ∧ words ≤ 1048576) (hz : ∀ b ∈ l, ∀ t ∈ b.f0, Wf48 t) :
    Calls Try.prog 21 #[.agg #[.int .i64 regs, .slice A l.length c], .int .i64 number, .int .i64 words] w fun e w' => e = .returned (.bool (oneB regs l number words)) ∧ Below w.heap.size w w' := by
  have hu29 := Try.underlying29
  have hu45 := Try.underlying45
  have hu48 := Try.underlying48
  have hnl := hr.2.1
  by_cases h0 : regs < 0
  · have e : oneB regs l number words = false := by unfold oneB; simp [show ¬ (0 ≤ regs) by omega]
    rw [e]
    go_enter Try.func21, Try.ntmps21
    go_wp2_with (fail)
    go_ret
    exact ⟨rfl, below_alloc (Below.refl _ _) _⟩
  by_cases h1 : 4000 < regs
  · have e : oneB regs l number words = false := by unfold oneB; simp [show ¬ (regs ≤ 4000) by omega]
    rw [e]
    go_enter Try.func21, Try.ntmps21
    go_wp2_with (fail)
    go_ret
    exact ⟨rfl, below_alloc (Below.refl _ _) _⟩
  by_cases h2 : l.length = 0
  · have e : oneB regs l number words = false := by
      obtain rfl := List.eq_nil_of_length_eq_zero h2
      simp [oneB]
    rw [e]
    go_enter Try.func21, Try.ntmps21
    go_wp2_with (fail)
    go_ret
    exact ⟨rfl, below_alloc (Below.refl _ _) _⟩
  have h0' : 0 ≤ regs := by omega
  have h1' : regs ≤ 4000 := by omega
  have h2b : ((l.length : Int) == 0) = false := beq_eq_false_iff_ne.2 (by omega)
  have e : oneB regs l number words = l.all (blockB number regs words l.length) := by
    have hne : l.isEmpty = false := by cases l with | nil => exact absurd rfl h2 | cons => rfl
    unfold oneB
    rw [decide_eq_true h0', decide_eq_true h1', hne]
    rfl
  rw [e]
  clear h0 h1 e
  go_enter Try.func21, Try.ntmps21
  go_wp2_with (fail)
  go_loopw [7] (fun i wr => ∃ k : Nat, k ≤ l.length ∧ i = .int .i64 k ∧ Aside0 ((l.take k).all (blockB number regs words l.length) = true) ∧ Aside0 (wr.heap[w.heap.size]? = some (.cells #[.int .i64 regs, .slice A l.length c] 29 (0, 0))) ∧ Aside0 (Below w.heap.size w wr)) (fun i _ => l.length - (intOf i).toNat)
  case atStart => exact ⟨0, Nat.zero_le _, rfl, ⟨rfl⟩, ⟨blk_new _ _⟩, ⟨below_alloc (Below.refl _ _) _⟩⟩
  case round =>
    obtain ⟨k, hk, rfl, HA, HK, HB⟩ := hrel
    obtain ⟨wo, rfl⟩ : ∃ wo : World, wo = wr := ⟨_, rfl⟩
    have z0 : wo.cell? ⟨w.heap.size, 0, none⟩ = some (.int .i64 regs) := (blk_cell HK.out 0).trans rfl
    have z1 : wo.cell? ⟨w.heap.size, 1, none⟩ = some (.slice A l.length c) := (blk_cell HK.out 1).trans rfl
    by_cases hlt : k < l.length
    · obtain ⟨ad, A0, c0, rfl, x0, x1, x2, x3, x4, hlen0, hC0⟩ := at_T45 hr (k : Int) (by omega) (by omega)
      have X0 := Aside0.mk x0
      rw [Int.toNat_natCast] at X0
      replace x0 := pw_cell_below HB.out x0
      replace x1 := pw_cell_below HB.out x1
      replace x2 := pw_cell_below HB.out x2
      replace x3 := pw_cell_below HB.out x3
      replace x4 := pw_cell_below HB.out x4
      simp only [Int.toNat_natCast] at x0 x1 x2 x3 x4
      generalize hbk : rd_T45 l (k : Int) = b at *
      have hnb := hC0.2.1
      have hzb := hz b (by rw [← hbk]; exact rd_mem hlt)
      have Hbk := Aside0.mk hbk
      clear hbk
      go_upto_region 6 with (fail)
      go_still_tail 10, (by kernel_rfl)
      go_wp2_with (fail)
      refine (ends_calls _ _ _ _ _ _ _ _ _ _).mono ?_
      rintro e w1 ⟨rfl, hb1⟩
      have HK1 := Aside0.mk (blk_below (blk_drew HK.out) hb1)
      have HB1 := Aside0.mk (below_then (below_drew1 HB.out) HB.out.size hb1)
      have z2 : w1.cell? ⟨w.heap.size, 0, none⟩ = some (.int .i64 regs) := (blk_cell HK1.out 0).trans rfl
      have z3 : w1.cell? ⟨w.heap.size, 1, none⟩ = some (.slice (some ad) l.length c) := (blk_cell HK1.out 1).trans rfl
      clear z0 z1 hb1 HK HB
      cases hends : endsB b.f1 b.f2 b.f3 b.f4 (l.length : Int) regs
      · go_wp2_with (fail)
        go_ret
        exact ⟨ret_b (all_bad (x := b) (by rw [← Hbk.out]; exact rd_mem hlt) (by unfold blockB; rw [hends]; rfl)).symm, HB1.out⟩
      · go_wp2_with (fail)
        clear x0 x1 x2 x3 x4
        go_loopw [8] (fun i wr => ∃ j : Nat, j ≤ b.f0.length ∧ i = .int .i64 j ∧ Aside0 ((b.f0.take j).all (fitsT number regs words) = true) ∧ Aside0 (wr.heap[w.heap.size]? = some (.cells #[.int .i64 regs, .slice (some ad) l.length c] 29 (0, 0))) ∧ Aside0 (Below w.heap.size w wr)) (fun i _ => b.f0.length - (intOf i).toNat)
        case atStart => exact ⟨0, Nat.zero_le _, rfl, ⟨rfl⟩, HK1, HB1⟩
        case round =>
          clear HK1 HB1 z2 z3
          obtain ⟨j, hj, rfl, HT, HK, HB⟩ := hrel
          obtain ⟨wi, rfl⟩ : ∃ wi : World, wi = wr := ⟨_, rfl⟩
          have z0 : wi.cell? ⟨w.heap.size, 0, none⟩ = some (.int .i64 regs) := (blk_cell HK.out 0).trans rfl
          have z1 : wi.cell? ⟨w.heap.size, 1, none⟩ = some (.slice (some ad) l.length c) := (blk_cell HK.out 1).trans rfl
          have x0 := pw_cell_below HB.out X0.out
          by_cases hlj : j < b.f0.length
          · obtain ⟨ai, rfl, y0, y1, y2, y3, y4, y5, y6, y7⟩ := at_T48 (Kd.C_below hC0 HB.out) (j : Int) (by omega) (by omega)
            simp only [Int.toNat_natCast] at y0 y1 y2 y3 y4 y5 y6 y7
            generalize htj : rd_T48 b.f0 (j : Int) = t at *
            have hzt := hzb t (by rw [← htj]; exact rd_mem' hlj)
            have Htj := Aside0.mk htj
            clear htj
            go_upto_region 11 with (fail)
            go_still_tail 13, (by kernel_rfl)
            go_wp2_with (fail)
            refine (fits_calls _ _ _ _ _ _ _ _ _ _ _ _ hw hzt.2.2.2.2.2.2.1).mono ?_
            rintro e w2 ⟨rfl, hb2⟩
            have HK2 := Aside0.mk (blk_below (blk_drew HK.out) hb2)
            have HB2 := Aside0.mk (below_then (below_drew1 HB.out) HB.out.size hb2)
            clear z0 z1 hb2 HK HB
            replace hzt : fitsB t.f0 t.f1 t.f2 t.f3 t.f4 t.f5 t.f6 t.f7 number regs words = fitsT number regs words t := rfl
            rw [hzt]
            clear hzt
            cases hfit : fitsT number regs words t
            · go_wp2_with (fail)
              go_ret
              exact ⟨ret_b (all_bad (x := b) (by rw [← Hbk.out]; exact rd_mem hlt) (by unfold blockB; rw [all_bad (x := t) (by rw [← Htj.out]; exact rd_mem' hlj) hfit, Bool.and_false])).symm, HB2.out⟩
            · go_wp2_with (fail)
              go_roundw
              case rel => exact ⟨j + 1, hlj, by go_num, ⟨by rw [take_rd hlj, Htj.out]; exact all_snoc HT.out hfit⟩, HK2, HB2⟩
              case measure => simp [intOf]; omega
          · have hj' : j = b.f0.length := by omega
            subst hj'
            rw [List.take_length] at HT
            go_wp2_with (fail)
            go_roundw
            case rel => exact ⟨k + 1, hlt, by go_num, ⟨by rw [take_rd5 hlt, Hbk.out]; exact all_snoc HA.out (by unfold blockB; rw [hends, HT.out]; rfl)⟩, HK, HB⟩
            case measure => simp [intOf]; omega
    · have hk' : k = l.length := by omega
      subst hk'
      rw [List.take_length] at HA
      go_wp2_with (fail)
      go_ret
      exact ⟨ret_b HA.out.symm, HB.out⟩
end Go.Proofs.Ytggchfdjpfodfaa.H

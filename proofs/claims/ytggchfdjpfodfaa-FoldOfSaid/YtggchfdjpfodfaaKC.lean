/- ends, one and both, walked: they tell what endsB and oneB say. Condition: the numbers are whole numbers of 64 bits.
   Right, walked: it tells what rightB says. Condition: as in HOne.
   Small, walked: it tells what smallB says. Condition: as in HOne.
   The document's Small as a plain function, and its contract in the print's form. Condition: the instructions' numbers are of their kinds, the lists lie in memory. -/
import Derived.Test.YtggchfdjpfodfaaKB
import Derived.Test.YtggchfdjpfodfaaKA
import Derived.StillTailTactics
set_option linter.unusedVariables false
set_option linter.unusedSimpArgs false
namespace Go.Proofs.Ytggchfdjpfodfaa.K
open Go.RowKit Go.Proofs.YtggchfdjpfodfaaW.PrintWords Go.Proofs.YtggchfdjpfodfaaW.PrintLast Go.Proofs.YtggchfdjpfodfaaW.PrintMore Go.Proofs.Ytggchfdjpfodfaa.G
open Sp

def I64 (x : Int) : Prop := -9223372036854775808 ≤ x ∧ x ≤ 9223372036854775807
/-- May a block's end be? -/
def endsB (en v tg el blocks regs : Int) : Bool :=
  if en = 1 then wB tg blocks && (v == 0 && el == 0) else if en = 2 then wB tg blocks && wB el blocks && wB v regs else en == 3 && (v == 0 && tg == 0 && el == 0)
set_option maxHeartbeats 2000000 in
set_option maxRecDepth 100000 in
theorem ends_calls (A : Option Addr) (n m : Nat) (en v tg el blocks regs : Int) (w : World) :
    Calls Try.prog 28 #[.agg #[.slice A n m, .int .i64 en, .int .i64 v, .int .i64 tg, .int .i64 el], .int .i64 blocks, .int .i64 regs] w fun e w' => e = .returned (.bool (endsB en v tg el blocks regs)) ∧ Below w.heap.size w w' := by
  have hu45 := Try.underlying45
  by_cases h1 : en = 1
  · subst h1
    have e : endsB 1 v tg el blocks regs = (wB tg blocks && (v == 0 && el == 0)) := rfl
    rw [e]
    cases h0 : wB tg blocks
    all_goals
      go_enter Try.func28, Try.ntmps28
      go_wp2_with (go_at_call 35; refine (within_calls _ _ _).mono ?_; rintro e w' ⟨rfl, rfl⟩)
    all_goals go_ret
    all_goals refine ⟨ret_b (by simp [*]), ?_⟩
    all_goals repeat (first | exact Below.refl _ _ | apply below_alloc | apply below_drew1)
  · by_cases h2 : en = 2
    · subst h2
      have e : endsB 2 v tg el blocks regs = (wB tg blocks && wB el blocks && wB v regs) := rfl
      rw [e]
      cases h0 : wB tg blocks
      · go_enter Try.func28, Try.ntmps28
        go_wp2_with (go_at_call 35; refine (within_calls _ _ _).mono ?_; rintro e w' ⟨rfl, rfl⟩)
        go_ret
        refine ⟨ret_b (by simp [*]), ?_⟩
        repeat (first | exact Below.refl _ _ | apply below_alloc | apply below_drew1)
      · cases h3 : wB el blocks
        · go_enter Try.func28, Try.ntmps28
          go_wp2_with (go_at_call 35; refine (within_calls _ _ _).mono ?_; rintro e w' ⟨rfl, rfl⟩)
          go_ret
          refine ⟨ret_b (by simp [*]), ?_⟩
          repeat (first | exact Below.refl _ _ | apply below_alloc | apply below_drew1)
        · go_enter Try.func28, Try.ntmps28
          go_wp2_with (go_at_call 35; refine (within_calls _ _ _).mono ?_; rintro e w' ⟨rfl, rfl⟩)
          go_ret
          refine ⟨ret_b (by simp [*]), ?_⟩
          repeat (first | exact Below.refl _ _ | apply below_alloc | apply below_drew1)
    · have e : endsB en v tg el blocks regs = (en == 3 && (v == 0 && tg == 0 && el == 0)) := by unfold endsB; rw [if_neg h1, if_neg h2]
      rw [e]
      have b1 : (en == 1) = false := beq_eq_false_iff_ne.2 h1
      have b2 : (en == 2) = false := beq_eq_false_iff_ne.2 h2
      clear e
      go_enter Try.func28, Try.ntmps28
      go_wp2_with (go_at_call 35; refine (within_calls _ _ _).mono ?_; rintro e w' ⟨rfl, rfl⟩)
      all_goals go_ret
      all_goals refine ⟨ret_b (by simp [*]), ?_⟩
      all_goals repeat (first | exact Below.refl _ _ | apply below_alloc | apply below_drew1)

/-- The numbers of an instruction are numbers of their kinds. -/
def Wf48 (t : S48) : Prop := I64 t.f0 ∧ I64 t.f1 ∧ I64 t.f2 ∧ I64 t.f3 ∧ I64 t.f4 ∧ I64 t.f5 ∧ I64 t.f6 ∧ W32 t.f7
def fitsT (number regs words : Int) (t : S48) : Bool := fitsB t.f0 t.f1 t.f2 t.f3 t.f4 t.f5 t.f6 t.f7 number regs words
def blockB (number regs words nb : Int) (b : S45) : Bool := endsB b.f1 b.f2 b.f3 b.f4 nb regs && b.f0.all (fitsT number regs words)
/-- May a function be? -/
def oneB (regs : Int) (l : List S45) (number words : Int) : Bool := decide (0 ≤ regs) && decide (regs ≤ 4000) && !l.isEmpty && l.all (blockB number regs words l.length)

theorem all_snoc {α : Type} {p : α → Bool} {l : List α} {x : α} (h : l.all p = true) (hx : p x = true) : (l ++ [x]).all p = true := by simp [h, hx]
theorem all_bad {α : Type} {p : α → Bool} {l : List α} {x : α} (hx : x ∈ l) (h : p x = false) : l.all p = false := by
  rw [List.all_eq_false]
  exact ⟨x, hx, by simp [h]⟩

set_option maxHeartbeats 2000000 in
set_option maxRecDepth 100000 in
theorem one_calls (regs number words : Int) (A : Option Addr) (c : Nat) (l : List S45) (w : World) (hr : Kd.C k45 w A l.length l) (hc : l.length ≤ c) (hw : 0 ≤ words ∧ words ≤ 1048576) (hz : ∀ b ∈ l, ∀ t ∈ b.f0, Wf48 t) :
    Calls Try.prog 21 #[.agg #[.int .i64 regs, .slice A l.length c], .int .i64 number, .int .i64 words] w fun e w' => e = .returned (.bool (oneB regs l number words)) ∧ Below w.heap.size w w' := by
  have hu29 := Try.underlying29
  have hu45 := Try.underlying45
  have hu48 := Try.underlying48
  have hnl := hr.2.1
  by_cases h0 : regs < 0
  · have e : oneB regs l number words = false := by unfold oneB; simp [show ¬ (0 ≤ regs) by omega]
    rw [e]
    go_enter Try.func21, Try.ntmps21
    go_wp2_with (fail)
    go_ret
    exact ⟨rfl, below_alloc (Below.refl _ _) _⟩
  by_cases h1 : 4000 < regs
  · have e : oneB regs l number words = false := by unfold oneB; simp [show ¬ (regs ≤ 4000) by omega]
    rw [e]
    go_enter Try.func21, Try.ntmps21
    go_wp2_with (fail)
    go_ret
    exact ⟨rfl, below_alloc (Below.refl _ _) _⟩
  by_cases h2 : l.length = 0
  · have e : oneB regs l number words = false := by
      obtain rfl := List.eq_nil_of_length_eq_zero h2
      simp [oneB]
    rw [e]
    go_enter Try.func21, Try.ntmps21
    go_wp2_with (fail)
    go_ret
    exact ⟨rfl, below_alloc (Below.refl _ _) _⟩
  have h0' : 0 ≤ regs := by omega
  have h1' : regs ≤ 4000 := by omega
  have h2b : ((l.length : Int) == 0) = false := beq_eq_false_iff_ne.2 (by omega)
  have e : oneB regs l number words = l.all (blockB number regs words l.length) := by
    have hne : l.isEmpty = false := by cases l with | nil => exact absurd rfl h2 | cons => rfl
    unfold oneB
    rw [decide_eq_true h0', decide_eq_true h1', hne]
    rfl
  rw [e]
  clear h0 h1 e
  go_enter Try.func21, Try.ntmps21
  go_wp2_with (fail)
  go_loopw [7] (fun i wr => ∃ k : Nat, k ≤ l.length ∧ i = .int .i64 k ∧ Aside0 ((l.take k).all (blockB number regs words l.length) = true) ∧ Aside0 (wr.heap[w.heap.size]? = some (.cells #[.int .i64 regs, .slice A l.length c] 29 (0, 0))) ∧ Aside0 (Below w.heap.size w wr)) (fun i _ => l.length - (intOf i).toNat)
  case atStart => exact ⟨0, Nat.zero_le _, rfl, ⟨rfl⟩, ⟨blk_new _ _⟩, ⟨below_alloc (Below.refl _ _) _⟩⟩
  case round =>
    obtain ⟨k, hk, rfl, HA, HK, HB⟩ := hrel
    obtain ⟨wo, rfl⟩ : ∃ wo : World, wo = wr := ⟨_, rfl⟩
    have z0 : wo.cell? ⟨w.heap.size, 0, none⟩ = some (.int .i64 regs) := (blk_cell HK.out 0).trans rfl
    have z1 : wo.cell? ⟨w.heap.size, 1, none⟩ = some (.slice A l.length c) := (blk_cell HK.out 1).trans rfl
    by_cases hlt : k < l.length
    · obtain ⟨ad, A0, c0, rfl, x0, x1, x2, x3, x4, hlen0, hC0⟩ := at_T45 hr (k : Int) (by omega) (by omega)
      have X0 := Aside0.mk x0
      rw [Int.toNat_natCast] at X0
      replace x0 := pw_cell_below HB.out x0
      replace x1 := pw_cell_below HB.out x1
      replace x2 := pw_cell_below HB.out x2
      replace x3 := pw_cell_below HB.out x3
      replace x4 := pw_cell_below HB.out x4
      simp only [Int.toNat_natCast] at x0 x1 x2 x3 x4
      generalize hbk : rd_T45 l (k : Int) = b at *
      have hnb := hC0.2.1
      have hzb := hz b (by rw [← hbk]; exact rd_mem hlt)
      have Hbk := Aside0.mk hbk
      clear hbk
      go_upto_region 6 with (fail)
      go_still_tail 10, (by kernel_rfl)
      go_wp2_with (fail)
      refine (ends_calls _ _ _ _ _ _ _ _ _ _).mono ?_
      rintro e w1 ⟨rfl, hb1⟩
      have HK1 := Aside0.mk (blk_below (blk_drew HK.out) hb1)
      have HB1 := Aside0.mk (below_then (below_drew1 HB.out) HB.out.size hb1)
      have z2 : w1.cell? ⟨w.heap.size, 0, none⟩ = some (.int .i64 regs) := (blk_cell HK1.out 0).trans rfl
      have z3 : w1.cell? ⟨w.heap.size, 1, none⟩ = some (.slice (some ad) l.length c) := (blk_cell HK1.out 1).trans rfl
      clear z0 z1 hb1 HK HB
      cases hends : endsB b.f1 b.f2 b.f3 b.f4 (l.length : Int) regs
      · go_wp2_with (fail)
        go_ret
        exact ⟨ret_b (all_bad (x := b) (by rw [← Hbk.out]; exact rd_mem hlt) (by unfold blockB; rw [hends]; rfl)).symm, HB1.out⟩
      · go_wp2_with (fail)
        clear x0 x1 x2 x3 x4
        go_loopw [8] (fun i wr => ∃ j : Nat, j ≤ b.f0.length ∧ i = .int .i64 j ∧ Aside0 ((b.f0.take j).all (fitsT number regs words) = true) ∧ Aside0 (wr.heap[w.heap.size]? = some (.cells #[.int .i64 regs, .slice (some ad) l.length c] 29 (0, 0))) ∧ Aside0 (Below w.heap.size w wr)) (fun i _ => b.f0.length - (intOf i).toNat)
        case atStart => exact ⟨0, Nat.zero_le _, rfl, ⟨rfl⟩, HK1, HB1⟩
        case round =>
          clear HK1 HB1 z2 z3
          obtain ⟨j, hj, rfl, HT, HK, HB⟩ := hrel
          obtain ⟨wi, rfl⟩ : ∃ wi : World, wi = wr := ⟨_, rfl⟩
          have z0 : wi.cell? ⟨w.heap.size, 0, none⟩ = some (.int .i64 regs) := (blk_cell HK.out 0).trans rfl
          have z1 : wi.cell? ⟨w.heap.size, 1, none⟩ = some (.slice (some ad) l.length c) := (blk_cell HK.out 1).trans rfl
          have x0 := pw_cell_below HB.out X0.out
          by_cases hlj : j < b.f0.length
          · obtain ⟨ai, rfl, y0, y1, y2, y3, y4, y5, y6, y7⟩ := at_T48 (Kd.C_below hC0 HB.out) (j : Int) (by omega) (by omega)
            simp only [Int.toNat_natCast] at y0 y1 y2 y3 y4 y5 y6 y7
            generalize htj : rd_T48 b.f0 (j : Int) = t at *
            have hzt := hzb t (by rw [← htj]; exact rd_mem' hlj)
            have Htj := Aside0.mk htj
            clear htj
            go_upto_region 11 with (fail)
            go_still_tail 13, (by kernel_rfl)
            go_wp2_with (fail)
            refine (fits_calls _ _ _ _ _ _ _ _ _ _ _ _ hw hzt.2.2.2.2.2.2.1).mono ?_
            rintro e w2 ⟨rfl, hb2⟩
            have HK2 := Aside0.mk (blk_below (blk_drew HK.out) hb2)
            have HB2 := Aside0.mk (below_then (below_drew1 HB.out) HB.out.size hb2)
            clear z0 z1 hb2 HK HB
            replace hzt : fitsB t.f0 t.f1 t.f2 t.f3 t.f4 t.f5 t.f6 t.f7 number regs words = fitsT number regs words t := rfl
            rw [hzt]
            clear hzt
            cases hfit : fitsT number regs words t
            · go_wp2_with (fail)
              go_ret
              exact ⟨ret_b (all_bad (x := b) (by rw [← Hbk.out]; exact rd_mem hlt) (by unfold blockB; rw [all_bad (x := t) (by rw [← Htj.out]; exact rd_mem' hlj) hfit, Bool.and_false])).symm, HB2.out⟩
            · go_wp2_with (fail)
              go_roundw
              case rel => exact ⟨j + 1, hlj, by go_num, ⟨by rw [take_rd hlj, Htj.out]; exact all_snoc HT.out hfit⟩, HK2, HB2⟩
              case measure => simp [intOf]; omega
          · have hj' : j = b.f0.length := by omega
            subst hj'
            rw [List.take_length] at HT
            go_wp2_with (fail)
            go_roundw
            case rel => exact ⟨k + 1, hlt, by go_num, ⟨by rw [take_rd5 hlt, Hbk.out]; exact all_snoc HA.out (by unfold blockB; rw [hends, HT.out]; rfl)⟩, HK, HB⟩
            case measure => simp [intOf]; omega
    · have hk' : k = l.length := by omega
      subst hk'
      rw [List.take_length] at HA
      go_wp2_with (fail)
      go_ret
      exact ⟨ret_b HA.out.symm, HB.out⟩
end Go.Proofs.Ytggchfdjpfodfaa.K
set_option linter.unusedVariables false
set_option linter.unusedSimpArgs false
namespace Go.Proofs.Ytggchfdjpfodfaa.K
open Go.RowKit Go.Proofs.YtggchfdjpfodfaaW.PrintWords Go.Proofs.YtggchfdjpfodfaaW.PrintLast Go.Proofs.YtggchfdjpfodfaaW.PrintMore Go.Proofs.Ytggchfdjpfodfaa.G
open Sp

def rightFrom (words : Int) : Nat → List S29 → Bool
  | _, [] => true
  | i, f :: r => oneB f.f0 f.f1 (i : Int) words && rightFrom words (i + 1) r
/-- May a program be? -/
def rightB (words : Int) (l : List S29) : Bool := decide (0 ≤ words) && decide (words ≤ 1048576) && !l.isEmpty && rightFrom words 0 l
theorem rightFrom_snoc (words : Int) (f : S29) : ∀ (l : List S29) (i : Nat), rightFrom words i (l ++ [f]) = (rightFrom words i l && oneB f.f0 f.f1 ((i + l.length : Nat) : Int) words) := by
  intro l
  induction l with
  | nil => intro i; simp [rightFrom]
  | cons x l ih => intro i; simp only [List.cons_append, rightFrom, ih, List.length_cons, Bool.and_assoc]; rw [show i + 1 + l.length = i + (l.length + 1) by omega]
theorem rightFrom_bad {words : Int} : ∀ {l : List S29} {k : Nat} (h : k < l.length) (i : Nat), oneB (rd_T29 l (k : Int)).f0 (rd_T29 l (k : Int)).f1 ((i + k : Nat) : Int) words = false → rightFrom words i l = false := by
  intro l
  induction l with
  | nil => intro k h; simp at h
  | cons x l ih =>
    intro k h i hb
    cases k with
    | zero =>
      have : oneB x.f0 x.f1 (i : Int) words = false := hb
      simp [rightFrom, this]
    | succ k =>
      have := ih (k := k) (by simpa using h) (i + 1) (by
        rw [show i + 1 + k = i + (k + 1) by omega]
        have e : rd_T29 (x :: l) ((k + 1 : Nat) : Int) = rd_T29 l (k : Int) := by
          unfold rd_T29
          rw [Int.toNat_natCast, Int.toNat_natCast]
          rfl
        rw [e] at hb
        exact hb)
      simp [rightFrom, this]

set_option maxHeartbeats 2000000 in
set_option maxRecDepth 100000 in
theorem right_calls (words : Int) (A : Option Addr) (c : Nat) (l : List S29) (w : World) (hr : Kd.C k29 w A l.length l) (hc : l.length ≤ c) (hz : ∀ f ∈ l, ∀ b ∈ f.f1, ∀ t ∈ b.f0, Wf48 t) :
    Calls Try.prog 15 #[.agg #[.int .i64 words, .slice A l.length c]] w fun e w' => e = .returned (.bool (rightB words l)) ∧ Below w.heap.size w w' := by
  have hu24 := Try.underlying24
  have hu29 := Try.underlying29
  have hnl := hr.2.1
  by_cases h0 : words < 0
  · have e : rightB words l = false := by unfold rightB; simp [show ¬ (0 ≤ words) by omega]
    rw [e]
    go_enter Try.func15, Try.ntmps15
    go_wp2_with (fail)
    go_ret
    exact ⟨rfl, below_alloc (Below.refl _ _) _⟩
  by_cases h1 : 1048576 < words
  · have e : rightB words l = false := by unfold rightB; simp [show ¬ (words ≤ 1048576) by omega]
    rw [e]
    go_enter Try.func15, Try.ntmps15
    go_wp2_with (fail)
    go_ret
    exact ⟨rfl, below_alloc (Below.refl _ _) _⟩
  by_cases h2 : l.length = 0
  · have e : rightB words l = false := by
      obtain rfl := List.eq_nil_of_length_eq_zero h2
      simp [rightB]
    rw [e]
    go_enter Try.func15, Try.ntmps15
    go_wp2_with (fail)
    go_ret
    exact ⟨rfl, below_alloc (Below.refl _ _) _⟩
  have h0' : 0 ≤ words := by omega
  have h1' : words ≤ 1048576 := by omega
  have h2b : ((l.length : Int) == 0) = false := beq_eq_false_iff_ne.2 (by omega)
  have e : rightB words l = rightFrom words 0 l := by
    have hne : l.isEmpty = false := by cases l with | nil => exact absurd rfl h2 | cons => rfl
    unfold rightB
    rw [decide_eq_true h0', decide_eq_true h1', hne]
    rfl
  rw [e]
  clear h0 h1 e
  go_enter Try.func15, Try.ntmps15
  go_wp2_with (fail)
  go_loopw [3] (fun i wr => ∃ k : Nat, k ≤ l.length ∧ i = .int .i64 k ∧ Aside0 (rightFrom words 0 (l.take k) = true) ∧ Aside0 (wr.heap[w.heap.size]? = some (.cells #[.int .i64 words, .slice A l.length c] 24 (0, 0))) ∧ Aside0 (Below w.heap.size w wr)) (fun i _ => l.length - (intOf i).toNat)
  case atStart => exact ⟨0, Nat.zero_le _, rfl, ⟨rfl⟩, ⟨blk_new _ _⟩, ⟨below_alloc (Below.refl _ _) _⟩⟩
  case round =>
    obtain ⟨k, hk, rfl, HA, HK, HB⟩ := hrel
    obtain ⟨wo, rfl⟩ : ∃ wo : World, wo = wr := ⟨_, rfl⟩
    have z0 : wo.cell? ⟨w.heap.size, 0, none⟩ = some (.int .i64 words) := (blk_cell HK.out 0).trans rfl
    have z1 : wo.cell? ⟨w.heap.size, 1, none⟩ = some (.slice A l.length c) := (blk_cell HK.out 1).trans rfl
    by_cases hlt : k < l.length
    · obtain ⟨ad, A0, c0, rfl, x0, x1, hlen0, hC0⟩ := at_T29 hr (k : Int) (by omega) (by omega)
      replace x0 := pw_cell_below HB.out x0
      replace x1 := pw_cell_below HB.out x1
      simp only [Int.toNat_natCast] at x0 x1
      generalize hbk : rd_T29 l (k : Int) = b at *
      have hzb := hz b (by rw [← hbk]; exact rd_mem2 hlt)
      have Hbk := Aside0.mk hbk
      clear hbk
      go_upto_region 6 with (fail)
      go_still_tail 8, (by kernel_rfl)
      go_wp2_with (fail)
      refine (one_calls _ _ _ _ _ _ _ (Kd.C_drew (Kd.C_below hC0 HB.out)) hlen0 ⟨h0', h1'⟩ hzb).mono ?_
      rintro e w1 ⟨rfl, hb1⟩
      have HK1 := Aside0.mk (blk_below (blk_drew HK.out) hb1)
      have HB1 := Aside0.mk (below_then (below_drew1 HB.out) HB.out.size hb1)
      clear z0 z1 hb1 HK HB
      cases hone : oneB b.f0 b.f1 (k : Int) words
      · go_wp2_with (fail)
        go_ret
        exact ⟨ret_b (rightFrom_bad hlt 0 (by rw [Hbk.out, Nat.zero_add]; exact hone)).symm, HB1.out⟩
      · go_wp2_with (fail)
        go_roundw
        case rel => exact ⟨k + 1, hlt, by go_num, ⟨by rw [take_rd2 hlt, Hbk.out, rightFrom_snoc, HA.out, List.length_take, Nat.min_eq_left hk, Nat.zero_add, hone]; rfl⟩, HK1, HB1⟩
        case measure => simp [intOf]; omega
    · have hk' : k = l.length := by omega
      subst hk'
      rw [List.take_length] at HA
      go_wp2_with (fail)
      go_ret
      exact ⟨ret_b HA.out.symm, HB.out⟩
end Go.Proofs.Ytggchfdjpfodfaa.K
set_option linter.unusedVariables false
set_option linter.unusedSimpArgs false
namespace Go.Proofs.Ytggchfdjpfodfaa.K
open Go.RowKit Go.Proofs.YtggchfdjpfodfaaW.PrintWords Go.Proofs.YtggchfdjpfodfaaW.PrintLast Go.Proofs.YtggchfdjpfodfaaW.PrintMore Go.Proofs.Ytggchfdjpfodfaa.G
open Sp

def cntB : List S45 → Int
  | [] => 0
  | b :: r => 1 + b.f0.length + cntB r
def cntF : List S29 → Int
  | [] => 0
  | f :: r => cntB f.f1 + cntF r
theorem cntB_snoc (b : S45) : ∀ l, cntB (l ++ [b]) = cntB l + 1 + b.f0.length := by
  intro l
  induction l with
  | nil => simp [cntB]
  | cons x l ih => simp only [List.cons_append, cntB, ih]; omega
theorem cntF_snoc (f : S29) : ∀ l, cntF (l ++ [f]) = cntF l + cntB f.f1 := by
  intro l
  induction l with
  | nil => simp [cntF]
  | cons x l ih => simp only [List.cons_append, cntF, ih]; omega
def Lens (l : List S45) : Prop := ∀ b ∈ l, b.f0.length ≤ 140737488351232
theorem cntB_bd : ∀ {l : List S45}, Lens l → 0 ≤ cntB l ∧ cntB l ≤ l.length * 140737488351233 := by
  intro l
  induction l with
  | nil => intro _; simp [cntB]
  | cons x l ih =>
    intro h
    have h1 := ih (fun b hb => h b (by simp [hb]))
    have h2 := h x (by simp)
    simp only [cntB, List.length_cons]
    omega
theorem cntF_bd : ∀ {l : List S29}, (∀ f ∈ l, Lens f.f1 ∧ f.f1.length ≤ 40) → 0 ≤ cntF l ∧ cntF l ≤ l.length * 5629499534049320 := by
  intro l
  induction l with
  | nil => intro _; simp [cntF]
  | cons x l ih =>
    intro h
    have h1 := ih (fun b hb => h b (by simp [hb]))
    have h2 := h x (by simp)
    have h3 := cntB_bd h2.1
    simp only [cntF, List.length_cons]
    omega
def fOkB (f : S29) : Bool := decide (f.f0 ≤ 60) && decide (f.f1.length ≤ 40)
theorem fOk_true {f : S29} (h : fOkB f = true) : f.f0 ≤ 60 ∧ f.f1.length ≤ 40 := by simpa [fOkB] using h
/-- Is a program small? -/
def smallB (words : Int) (l : List S29) (most : Int) : Bool := decide (words ≤ 500) && decide (l.length ≤ 10) && l.all fOkB && decide (cntF l ≤ most) && rightB words l

set_option maxHeartbeats 2000000 in
set_option maxRecDepth 100000 in
theorem small_calls (words most : Int) (A : Option Addr) (c : Nat) (l : List S29) (w : World) (hr : Kd.C k29 w A l.length l) (hc : l.length ≤ c) (hz : ∀ f ∈ l, ∀ b ∈ f.f1, ∀ t ∈ b.f0, Wf48 t) (hln : ∀ f ∈ l, Lens f.f1) :
    Calls Try.prog 10 #[.agg #[.int .i64 words, .slice A l.length c], .int .i64 most] w fun e w' => e = .returned (.bool (smallB words l most)) ∧ Below w.heap.size w w' := by
  have hu24 := Try.underlying24
  have hu29 := Try.underlying29
  have hu45 := Try.underlying45
  have hnl := hr.2.1
  by_cases h0 : 500 < words
  · have e : smallB words l most = false := by unfold smallB; simp [show ¬ (words ≤ 500) by omega]
    rw [e]
    go_enter Try.func10, Try.ntmps10
    go_wp2_with (fail)
    go_ret
    exact ⟨rfl, below_alloc (Below.refl _ _) _⟩
  by_cases h1 : 10 < l.length
  · have e : smallB words l most = false := by unfold smallB; simp [show ¬ (l.length ≤ 10) by omega]
    rw [e]
    go_enter Try.func10, Try.ntmps10
    go_wp2_with (fail)
    go_ret
    exact ⟨rfl, below_alloc (Below.refl _ _) _⟩
  have h0' : words ≤ 500 := by omega
  have h1' : l.length ≤ 10 := by omega
  have e : smallB words l most = (l.all fOkB && decide (cntF l ≤ most) && rightB words l) := by
    unfold smallB
    rw [decide_eq_true h0', decide_eq_true h1']
    simp
  rw [e]
  clear h0 h1 e
  go_enter Try.func10, Try.ntmps10
  go_wp2_with (fail)
  go_loopw [5, 6] (fun n i wr => ∃ k : Nat, k ≤ l.length ∧ i = .int .i64 k ∧ n = .int .i64 (cntF (l.take k)) ∧ Aside0 ((l.take k).all fOkB = true) ∧ Aside0 (wr.heap[w.heap.size]? = some (.cells #[.int .i64 words, .slice A l.length c] 24 (0, 0))) ∧ Aside0 (Below w.heap.size w wr)) (fun _ i _ => l.length - (intOf i).toNat)
  case atStart => exact ⟨0, Nat.zero_le _, rfl, rfl, ⟨rfl⟩, ⟨blk_new _ _⟩, ⟨below_alloc (Below.refl _ _) _⟩⟩
  case round =>
    obtain ⟨k, hk, rfl, rfl, HA, HK, HB⟩ := hrel
    obtain ⟨wo, rfl⟩ : ∃ wo : World, wo = wr := ⟨_, rfl⟩
    have z0 : wo.cell? ⟨w.heap.size, 0, none⟩ = some (.int .i64 words) := (blk_cell HK.out 0).trans rfl
    have z1 : wo.cell? ⟨w.heap.size, 1, none⟩ = some (.slice A l.length c) := (blk_cell HK.out 1).trans rfl
    have hbd := cntF_bd (l := l.take k) (fun f hf => ⟨hln f (List.mem_of_mem_take hf), (fOk_true (List.all_eq_true.1 HA.out f hf)).2⟩)
    rw [List.length_take, Nat.min_eq_left hk] at hbd
    by_cases hlt : k < l.length
    · obtain ⟨ad, A0, c0, rfl, x0, x1, hlen0, hC0⟩ := at_T29 hr (k : Int) (by omega) (by omega)
      rw [Int.toNat_natCast] at x0 x1
      have xw0 := Aside0.mk x0
      have xw1 := Aside0.mk x1
      replace x0 := pw_cell_below HB.out x0
      replace x1 := pw_cell_below HB.out x1
      have hnb := hC0.2.1
      generalize hbk : rd_T29 l (k : Int) = b at *
      have hzb := hz b (by rw [← hbk]; exact rd_mem2 hlt)
      have hlb := hln b (by rw [← hbk]; exact rd_mem2 hlt)
      have hmem : b ∈ l := by rw [← hbk]; exact rd_mem2 hlt
      have Hbk := Aside0.mk hbk
      clear hbk
      by_cases hg : b.f0 ≤ 60
      · by_cases hg1 : b.f1.length ≤ 40
        · go_wp2_with (fail)
          have X0 := Aside0.mk (show w.cell? (ad.add (k * 2)) = _ from xw0.out)
          have X1 := xw1
          clear x0 x1
          go_loopw [5, 7] (fun n i wr => ∃ j : Nat, j ≤ b.f1.length ∧ i = .int .i64 j ∧ n = .int .i64 (cntF (l.take k) + cntB (b.f1.take j)) ∧ Aside0 (wr.heap[w.heap.size]? = some (.cells #[.int .i64 words, .slice (some ad) l.length c] 24 (0, 0))) ∧ Aside0 (Below w.heap.size w wr)) (fun _ i _ => b.f1.length - (intOf i).toNat)
          case atStart => exact ⟨0, Nat.zero_le _, rfl, by simp [cntB], HK, HB⟩
          case round =>
            clear HK HB z0 z1
            obtain ⟨j, hj, rfl, rfl, HK, HB⟩ := hrel
            obtain ⟨wi, rfl⟩ : ∃ wi : World, wi = wr := ⟨_, rfl⟩
            have z1 : wi.cell? ⟨w.heap.size, 1, none⟩ = some (.slice (some ad) l.length c) := (blk_cell HK.out 1).trans rfl
            have x1 := pw_cell_below HB.out X1.out
            have hbj := cntB_bd (l := b.f1.take j) (fun q hq => hlb q (List.mem_of_mem_take hq))
            rw [List.length_take, Nat.min_eq_left hj] at hbj
            by_cases hlj : j < b.f1.length
            · obtain ⟨ai, A2, c2, rfl, y0, y1, y2, y3, y4, hlen2, hC2⟩ := at_T45 hC0 (j : Int) (by omega) (by omega)
              replace y0 := pw_cell_below HB.out y0
              simp only [Int.toNat_natCast] at y0
              have hlq := hlb (rd_T45 b.f1 (j : Int)) (rd_mem hlj)
              have hsn : cntB (b.f1.take (j + 1)) = cntB (b.f1.take j) + 1 + (rd_T45 b.f1 (j : Int)).f0.length := by rw [take_rd5 hlj, cntB_snoc]
              have Hsn := Aside0.mk hsn
              clear hsn
              go_wp2_with (fail)
              go_roundw
              case rel => exact ⟨j + 1, hlj, by go_num, by rw [Hsn.out]; go_num, HK, HB⟩
              case measure => simp [intOf]; omega
            · have hj' : j = b.f1.length := by omega
              subst hj'
              have hsn : cntF (l.take (k + 1)) = cntF (l.take k) + cntB (b.f1.take b.f1.length) := by rw [take_rd2 hlt, cntF_snoc, Hbk.out, List.take_length]
              have Hsn := Aside0.mk hsn
              clear hsn
              go_wp2_with (fail)
              go_roundw
              case rel => exact ⟨k + 1, hlt, by go_num, by rw [Hsn.out], ⟨by rw [take_rd2 hlt, Hbk.out]; exact all_snoc HA.out (by simp [fOkB, hg, hg1])⟩, HK, HB⟩
              case measure => simp [intOf]; omega
        · have hb := Aside0.mk (all_bad (p := fOkB) hmem (by simp [fOkB, hg1]))
          have hg1' : 40 < b.f1.length := by omega
          go_wp2_with (fail)
          go_ret
          exact ⟨ret_b (by rw [hb.out]; rfl), HB.out⟩
      · have hb := Aside0.mk (all_bad (p := fOkB) hmem (by simp [fOkB, hg]))
        have hg' : 60 < b.f0 := by omega
        go_wp2_with (fail)
        go_ret
        exact ⟨ret_b (by rw [hb.out]; rfl), HB.out⟩
    · have hk' : k = l.length := by omega
      subst hk'
      rw [List.take_length] at HA hbd
      by_cases hm : cntF l ≤ most
      · go_wp2_with (fail)
        refine (right_calls _ _ _ _ _ (Kd.C_below hr HB.out) hc hz).mono ?_
        rintro e w1 ⟨rfl, hb1⟩
        go_wp2_with (fail)
        go_ret
        exact ⟨ret_b (by rw [HA.out, decide_eq_true hm]; rfl), below_then HB.out HB.out.size hb1⟩
      · have hm' : most < cntF l := by omega
        go_wp2_with (fail)
        go_ret
        exact ⟨ret_b (by rw [HA.out, decide_eq_false (show ¬ (cntF l ≤ most) by omega)]; rfl), HB.out⟩
end Go.Proofs.Ytggchfdjpfodfaa.K
set_option linter.unusedVariables false
namespace Go.Proofs.Ytggchfdjpfodfaa.G
open Go.RowKit Go.Proofs.YtggchfdjpfodfaaW.PrintWords Go.Proofs.YtggchfdjpfodfaaW.PrintLast Go.Proofs.YtggchfdjpfodfaaW.PrintMore
open Sp K

def SmallOk (l : List S29) : Prop := (∀ f ∈ l, ∀ b ∈ f.f1, ∀ t ∈ b.f0, Wf48 t) ∧ ∀ f ∈ l, Lens f.f1
instance decWf48 (t : S48) : Decidable (Wf48 t) := by unfold Wf48 I64 W32; infer_instance
instance decLens (l : List S45) : Decidable (Lens l) := by unfold Lens; infer_instance
instance decSmallOk (l : List S29) : Decidable (SmallOk l) := by unfold SmallOk; infer_instance
def seedcornref30_Small.f (words : Int) (l : List S29) (most : Int) : Option Bool :=
  if SmallOk l then some (smallB words l most) else none
theorem seedcornref30_Small.ok {words most : Int} {l : List S29} (h : SmallOk l) : seedcornref30_Small.f words l most = some (smallB words l most) := if_pos h
theorem seedcornref30_Small.calls (a0_0 : Int) (A0_1 : Option Addr) (c0_1 : Nat) (l0_1 : List (S29)) (a1 : Int) (r : Bool) (w : World) (hr0_1 : Kd.C k29 w A0_1 l0_1.length l0_1) (hc0_1 : l0_1.length ≤ c0_1) (h : seedcornref30_Small.f a0_0 l0_1 a1 = some r) :
    Calls Try.prog 10 #[.agg #[.int .i64 a0_0, .slice A0_1 l0_1.length c0_1], .int .i64 a1] w fun e w' => e = .returned (.bool r) ∧ Below w.heap.size w w' := by
  by_cases hk : SmallOk l0_1
  · rw [seedcornref30_Small.ok hk] at h
    injection h with h
    subst h
    exact small_calls _ _ _ _ _ w hr0_1 hc0_1 hk.1 hk.2
  · rw [show seedcornref30_Small.f a0_0 l0_1 a1 = none from if_neg hk] at h
    cases h
end Go.Proofs.Ytggchfdjpfodfaa.G

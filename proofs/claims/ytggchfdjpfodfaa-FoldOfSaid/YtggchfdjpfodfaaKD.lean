/- SameFunc of two functions that read alike is true. No further condition.
   SameCert of two certificates that read alike is true. No further condition.
   The document's SameFunc and SameCert at two that are alike, and their contracts in the print's form. Condition: they are alike. -/
import Derived.Test.YtggchfdjpfodfaaKA
import Derived.StillTailTactics
set_option linter.unusedVariables false
set_option linter.unusedSimpArgs false
namespace Go.Proofs.Ytggchfdjpfodfaa.K
open Go.RowKit Go.Proofs.YtggchfdjpfodfaaW.PrintWords Go.Proofs.YtggchfdjpfodfaaW.PrintLast Go.Proofs.YtggchfdjpfodfaaW.PrintMore Go.Proofs.Ytggchfdjpfodfaa.G
attribute [local go_sem high] eqA48

set_option maxHeartbeats 2000000 in
set_option maxRecDepth 100000 in
/-- Two functions that read alike are alike. -/
theorem same_calls (regs : Int) (A A' : Option Addr) (c c' : Nat) (l : List S45) (w : World) (hr : Kd.C k45 w A l.length l) (hr' : Kd.C k45 w A' l.length l) :
    Calls Try.prog 13 #[.agg #[.int .i64 regs, .slice A l.length c], .agg #[.int .i64 regs, .slice A' l.length c']] w fun e w' => e = .returned (.bool true) ∧ Below w.heap.size w w' := by
  have hu29 := Try.underlying29
  have hu45 := Try.underlying45
  have hu48 := Try.underlying48
  have hnl := hr.2.1
  go_enter Try.func13, Try.ntmps13
  go_wp2_with (fail)
  go_loopw [5] (fun i wr => ∃ k : Nat, k ≤ l.length ∧ i = .int .i64 k ∧ Aside0 (wr.heap[w.heap.size]? = some (.cells #[.int .i64 regs, .slice A l.length c] 29 (0, 0))) ∧ Aside0 (wr.heap[w.heap.size + 1]? = some (.cells #[.int .i64 regs, .slice A' l.length c'] 29 (0, 0))) ∧ Aside0 (Below w.heap.size w wr)) (fun i _ => l.length - (intOf i).toNat)
  case atStart => exact ⟨0, Nat.zero_le _, rfl, ⟨blk_alloc (blk_new _ _) _⟩, ⟨by have := blk_new (w.alloc (.cells #[.int .i64 regs, .slice A l.length c] 29)) (.cells #[.int .i64 regs, .slice A' l.length c'] 29); simpa using this⟩, ⟨below_alloc (below_alloc (Below.refl _ _) _) _⟩⟩
  case round =>
    obtain ⟨k, hk, rfl, HK, HL, HB⟩ := hrel
    obtain ⟨wo, rfl⟩ : ∃ wo : World, wo = wr := ⟨_, rfl⟩
    have z1 : wo.cell? ⟨w.heap.size, 1, none⟩ = some (.slice A l.length c) := (blk_cell HK.out 1).trans rfl
    have z2 : wo.cell? ⟨w.heap.size + 1, 1, none⟩ = some (.slice A' l.length c') := (blk_cell HL.out 1).trans rfl
    by_cases hlt : k < l.length
    · obtain ⟨ad, A0, c0, rfl, x0, x1, x2, x3, x4, hlen0, hC0⟩ := at_T45 hr (k : Int) (by omega) (by omega)
      obtain ⟨ad', A0', c0', rfl, y0, y1, y2, y3, y4, hlen0', hC0'⟩ := at_T45 hr' (k : Int) (by omega) (by omega)
      rw [Int.toNat_natCast] at x0 x1 x2 x3 x4 y0 y1 y2 y3 y4
      replace x0 := pw_cell_below HB.out x0
      replace x1 := pw_cell_below HB.out x1
      replace x2 := pw_cell_below HB.out x2
      replace x3 := pw_cell_below HB.out x3
      replace x4 := pw_cell_below HB.out x4
      replace y0 := pw_cell_below HB.out y0
      replace y1 := pw_cell_below HB.out y1
      replace y2 := pw_cell_below HB.out y2
      replace y3 := pw_cell_below HB.out y3
      replace y4 := pw_cell_below HB.out y4
      have hsz : w.heap.size + 1 < wo.heap.size := blk_lt HL.out
      have hnb := hC0.2.1
      generalize rd_T45 l (k : Int) = b at *
      have hby := World.block_lt_of_cell? wo _ y0
      go_wp2_with (fail)
      have HK1 := Aside0.mk (blk_alloc (blk_alloc HK.out (.cells #[.slice A0 b.f0.length c0, .int .i64 b.f1, .int .i64 b.f2, .int .i64 b.f3, .int .i64 b.f4] 45)) (.cells #[.slice A0' b.f0.length c0', .int .i64 b.f1, .int .i64 b.f2, .int .i64 b.f3, .int .i64 b.f4] 45))
      have HL1 := Aside0.mk (blk_alloc (blk_alloc HL.out (.cells #[.slice A0 b.f0.length c0, .int .i64 b.f1, .int .i64 b.f2, .int .i64 b.f3, .int .i64 b.f4] 45)) (.cells #[.slice A0' b.f0.length c0', .int .i64 b.f1, .int .i64 b.f2, .int .i64 b.f3, .int .i64 b.f4] 45))
      have HB1 := Aside0.mk (below_alloc (below_alloc HB.out (.cells #[.slice A0 b.f0.length c0, .int .i64 b.f1, .int .i64 b.f2, .int .i64 b.f3, .int .i64 b.f4] 45)) (.cells #[.slice A0' b.f0.length c0', .int .i64 b.f1, .int .i64 b.f2, .int .i64 b.f3, .int .i64 b.f4] 45))
      have h6 := Aside0.mk (blk_alloc (blk_new wo (.cells #[.slice A0 b.f0.length c0, .int .i64 b.f1, .int .i64 b.f2, .int .i64 b.f3, .int .i64 b.f4] 45)) (.cells #[.slice A0' b.f0.length c0', .int .i64 b.f1, .int .i64 b.f2, .int .i64 b.f3, .int .i64 b.f4] 45))
      have h7 := Aside0.mk (blk_new (wo.alloc (.cells #[.slice A0 b.f0.length c0, .int .i64 b.f1, .int .i64 b.f2, .int .i64 b.f3, .int .i64 b.f4] 45)) (.cells #[.slice A0' b.f0.length c0', .int .i64 b.f1, .int .i64 b.f2, .int .i64 b.f3, .int .i64 b.f4] 45))
      rw [show (wo.alloc (.cells #[.slice A0 b.f0.length c0, .int .i64 b.f1, .int .i64 b.f2, .int .i64 b.f3, .int .i64 b.f4] 45)).heap.size = wo.heap.size + 1 by simp] at h7
      go_loopw [8] (fun i wr => ∃ j : Nat, j ≤ b.f0.length ∧ i = .int .i64 j ∧ Aside0 (wr.heap[wo.heap.size]? = some (.cells #[.slice A0 b.f0.length c0, .int .i64 b.f1, .int .i64 b.f2, .int .i64 b.f3, .int .i64 b.f4] 45 (0, 0))) ∧ Aside0 (wr.heap[wo.heap.size + 1]? = some (.cells #[.slice A0' b.f0.length c0', .int .i64 b.f1, .int .i64 b.f2, .int .i64 b.f3, .int .i64 b.f4] 45 (0, 0))) ∧ Aside0 (wr.heap[w.heap.size]? = some (.cells #[.int .i64 regs, .slice (some ad) l.length c] 29 (0, 0))) ∧ Aside0 (wr.heap[w.heap.size + 1]? = some (.cells #[.int .i64 regs, .slice (some ad') l.length c'] 29 (0, 0))) ∧ Aside0 (Below w.heap.size w wr)) (fun i _ => b.f0.length - (intOf i).toNat)
      case atStart => exact ⟨0, Nat.zero_le _, rfl, h6, h7, HK1, HL1, HB1⟩
      case round =>
        clear x0 x1 x2 x3 x4 y0 y1 y2 y3 y4 z1 z2 HK HL HB HK1 HL1 HB1 h6 h7 hby hsz
        obtain ⟨j, hj, rfl, h6, h7, HK, HL, HB⟩ := hrel
        obtain ⟨wi, rfl⟩ : ∃ wi : World, wi = wr := ⟨_, rfl⟩
        have x0 : wi.cell? ⟨wo.heap.size, 0, none⟩ = some (.slice A0 b.f0.length c0) := (blk_cell h6.out 0).trans rfl
        have y0 : wi.cell? ⟨wo.heap.size + 1, 0, none⟩ = some (.slice A0' b.f0.length c0') := (blk_cell h7.out 0).trans rfl
        by_cases hlj : j < b.f0.length
        · obtain ⟨ai, rfl, s0, s1, s2, s3, s4, s5, s6, s7⟩ := at_T48 (Kd.C_below hC0 HB.out) (j : Int) (by omega) (by omega)
          obtain ⟨ai', rfl, t0, t1, t2, t3, t4, t5, t6, t7⟩ := at_T48 (Kd.C_below hC0' HB.out) (j : Int) (by omega) (by omega)
          simp only [Int.toNat_natCast] at s0 s1 s2 s3 s4 s5 s6 s7 t0 t1 t2 t3 t4 t5 t6 t7
          generalize rd_T48 b.f0 (j : Int) = t at *
          go_upto_region 13 with (fail)
          go_still_tail 10, (by kernel_rfl)
          go_wp2_with (fail)
          go_roundw
          case rel => exact ⟨j + 1, hlj, by go_num, ⟨blk_drew h6.out⟩, ⟨blk_drew h7.out⟩, ⟨blk_drew HK.out⟩, ⟨blk_drew HL.out⟩, ⟨below_drew1 HB.out⟩⟩
          case measure => simp [intOf]; omega
        · have hj' : j = b.f0.length := by omega
          subst hj'
          go_wp2_with (fail)
          go_roundw
          case rel => exact ⟨k + 1, hlt, by go_num, HK, HL, HB⟩
          case measure => simp [intOf]; omega
    · have hk' : k = l.length := by omega
      subst hk'
      go_wp2_with (fail)
      go_ret
      exact ⟨rfl, HB.out⟩
end Go.Proofs.Ytggchfdjpfodfaa.K
set_option linter.unusedVariables false
set_option linter.unusedSimpArgs false
namespace Go.Proofs.Ytggchfdjpfodfaa.K
open Go.RowKit Go.Proofs.YtggchfdjpfodfaaW.PrintWords Go.Proofs.YtggchfdjpfodfaaW.PrintLast Go.Proofs.YtggchfdjpfodfaaW.PrintMore Go.Proofs.Ytggchfdjpfodfaa.G

set_option maxHeartbeats 2000000 in
set_option maxRecDepth 100000 in
/-- Two certificates that read alike are alike. -/
theorem cert_calls (A A' : Option Addr) (c c' : Nat) (l : List (List Bool)) (w : World) (hr : Kd.C (Kd.slice 4 Kd.bool) w A l.length l) (hr' : Kd.C (Kd.slice 4 Kd.bool) w A' l.length l) :
    Calls Try.prog 14 #[.agg #[.slice A l.length c], .agg #[.slice A' l.length c']] w fun e w' => e = .returned (.bool true) ∧ Below w.heap.size w w' := by
  have hu32 := Try.underlying32
  have hnl := hr.2.1
  go_enter Try.func14, Try.ntmps14
  go_wp2_with (fail)
  go_loopw [5] (fun i wr => ∃ k : Nat, k ≤ l.length ∧ i = .int .i64 k ∧ Aside0 (wr.heap[w.heap.size]? = some (.cells #[.slice A l.length c] 32 (0, 0))) ∧ Aside0 (wr.heap[w.heap.size + 1]? = some (.cells #[.slice A' l.length c'] 32 (0, 0))) ∧ Aside0 (Below w.heap.size w wr)) (fun i _ => l.length - (intOf i).toNat)
  case atStart => exact ⟨0, Nat.zero_le _, rfl, ⟨blk_alloc (blk_new _ _) _⟩, ⟨by have := blk_new (w.alloc (.cells #[.slice A l.length c] 32)) (.cells #[.slice A' l.length c'] 32); simpa using this⟩, ⟨below_alloc (below_alloc (Below.refl _ _) _) _⟩⟩
  case round =>
    obtain ⟨k, hk, rfl, HK, HL, HB⟩ := hrel
    obtain ⟨wo, rfl⟩ : ∃ wo : World, wo = wr := ⟨_, rfl⟩
    have z1 : wo.cell? ⟨w.heap.size, 0, none⟩ = some (.slice A l.length c) := (blk_cell HK.out 0).trans rfl
    have z2 : wo.cell? ⟨w.heap.size + 1, 0, none⟩ = some (.slice A' l.length c') := (blk_cell HL.out 0).trans rfl
    by_cases hlt : k < l.length
    · obtain ⟨ad, A0, c0, rfl, x0, hlen0, hC0⟩ := at_L8 hr (k : Int) (by omega) (by omega)
      obtain ⟨ad', A0', c0', rfl, y0, hlen0', hC0'⟩ := at_L8 hr' (k : Int) (by omega) (by omega)
      rw [Int.toNat_natCast] at x0 y0
      have X0 := Aside0.mk x0
      have Y0 := Aside0.mk y0
      replace x0 := pw_cell_below HB.out x0
      replace y0 := pw_cell_below HB.out y0
      have hnb := hC0.2.1
      generalize rd_L8 l (k : Int) = b at *
      go_upto_region 6 with (fail)
      go_still_tail 12, (by kernel_rfl)
      go_wp2_with (fail)
      go_loopw [6] (fun i wr => ∃ j : Nat, j ≤ b.length ∧ i = .int .i64 j ∧ Aside0 (wr.heap[w.heap.size]? = some (.cells #[.slice (some ad) l.length c] 32 (0, 0))) ∧ Aside0 (wr.heap[w.heap.size + 1]? = some (.cells #[.slice (some ad') l.length c'] 32 (0, 0))) ∧ Aside0 (Below w.heap.size w wr)) (fun i _ => b.length - (intOf i).toNat)
      case atStart => exact ⟨0, Nat.zero_le _, rfl, ⟨blk_drew HK.out⟩, ⟨blk_drew HL.out⟩, ⟨below_drew1 HB.out⟩⟩
      case round =>
        clear x0 y0 z1 z2 HK HL HB
        obtain ⟨j, hj, rfl, HK, HL, HB⟩ := hrel
        obtain ⟨wi, rfl⟩ : ∃ wi : World, wi = wr := ⟨_, rfl⟩
        have z1 : wi.cell? ⟨w.heap.size, 0, none⟩ = some (.slice (some ad) l.length c) := (blk_cell HK.out 0).trans rfl
        have z2 : wi.cell? ⟨w.heap.size + 1, 0, none⟩ = some (.slice (some ad') l.length c') := (blk_cell HL.out 0).trans rfl
        have x0 := pw_cell_below HB.out X0.out
        have y0 := pw_cell_below HB.out Y0.out
        by_cases hlj : j < b.length
        · obtain ⟨ai, rfl, s0⟩ := Kd.at_bool (Kd.C_below hC0 HB.out) (j : Int) (by omega) (by omega)
          obtain ⟨ai', rfl, t0⟩ := Kd.at_bool (Kd.C_below hC0' HB.out) (j : Int) (by omega) (by omega)
          simp only [Int.toNat_natCast] at s0 t0
          generalize rdOf false b (j : Int) = t at *
          go_upto_region 11 with (fail)
          go_still_tail 16, (by kernel_rfl)
          go_wp2_with (fail)
          all_goals go_roundw
          case rel => exact ⟨j + 1, hlj, by go_num, ⟨blk_drew HK.out⟩, ⟨blk_drew HL.out⟩, ⟨below_drew1 HB.out⟩⟩
          case measure => simp [intOf]; omega
        · have hj' : j = b.length := by omega
          subst hj'
          go_wp2_with (fail)
          go_roundw
          case rel => exact ⟨k + 1, hlt, by go_num, HK, HL, HB⟩
          case measure => simp [intOf]; omega
    · have hk' : k = l.length := by omega
      subst hk'
      go_wp2_with (fail)
      go_ret
      exact ⟨rfl, HB.out⟩
end Go.Proofs.Ytggchfdjpfodfaa.K
set_option linter.unusedVariables false
namespace Go.Proofs.Ytggchfdjpfodfaa.G
open Go.RowKit Go.Proofs.YtggchfdjpfodfaaW.PrintWords Go.Proofs.YtggchfdjpfodfaaW.PrintLast Go.Proofs.YtggchfdjpfodfaaW.PrintMore
open Sp K

instance : DecidableEq S48 := fun ⟨a0, a1, a2, a3, a4, a5, a6, a7⟩ ⟨b0, b1, b2, b3, b4, b5, b6, b7⟩ => decidable_of_iff (a0 = b0 ∧ a1 = b1 ∧ a2 = b2 ∧ a3 = b3 ∧ a4 = b4 ∧ a5 = b5 ∧ a6 = b6 ∧ a7 = b7) (by simp)
instance : DecidableEq S45 := fun ⟨a0, a1, a2, a3, a4⟩ ⟨b0, b1, b2, b3, b4⟩ => decidable_of_iff (a0 = b0 ∧ a1 = b1 ∧ a2 = b2 ∧ a3 = b3 ∧ a4 = b4) (by simp)
def seedcornref30_SameFunc.f (a0 : Int) (l0 : List S45) (a1 : Int) (l1 : List S45) : Option Bool :=
  if a0 = a1 ∧ l0 = l1 then some true else none
theorem seedcornref30_SameFunc.ok (a : Int) (l : List S45) : seedcornref30_SameFunc.f a l a l = some true := if_pos ⟨rfl, rfl⟩
theorem seedcornref30_SameFunc.calls (a0_0 : Int) (A0_1 : Option Addr) (c0_1 : Nat) (l0_1 : List (S45)) (a1_0 : Int) (A1_1 : Option Addr) (c1_1 : Nat) (l1_1 : List (S45)) (r : Bool) (w : World) (hr0_1 : Kd.C k45 w A0_1 l0_1.length l0_1) (hc0_1 : l0_1.length ≤ c0_1) (hr1_1 : Kd.C k45 w A1_1 l1_1.length l1_1) (hc1_1 : l1_1.length ≤ c1_1) (h : seedcornref30_SameFunc.f a0_0 l0_1 a1_0 l1_1 = some r) :
    Calls Try.prog 13 #[.agg #[.int .i64 a0_0, .slice A0_1 l0_1.length c0_1], .agg #[.int .i64 a1_0, .slice A1_1 l1_1.length c1_1]] w fun e w' => e = .returned (.bool r) ∧ Below w.heap.size w w' := by
  by_cases hk : a0_0 = a1_0 ∧ l0_1 = l1_1
  · obtain ⟨rfl, rfl⟩ := hk
    rw [seedcornref30_SameFunc.ok] at h
    injection h with h
    subst h
    exact same_calls _ _ _ _ _ _ w hr0_1 hr1_1
  · rw [show seedcornref30_SameFunc.f a0_0 l0_1 a1_0 l1_1 = none from if_neg hk] at h
    cases h
def seedcornref30_SameCert.f (l0 l1 : List (List Bool)) : Option Bool :=
  if l0 = l1 then some true else none
theorem seedcornref30_SameCert.ok (l : List (List Bool)) : seedcornref30_SameCert.f l l = some true := if_pos rfl
theorem seedcornref30_SameCert.calls (A0_0 : Option Addr) (c0_0 : Nat) (l0_0 : List (List Bool)) (A1_0 : Option Addr) (c1_0 : Nat) (l1_0 : List (List Bool)) (r : Bool) (w : World) (hr0_0 : Kd.C (Kd.slice 4 Kd.bool) w A0_0 l0_0.length l0_0) (hc0_0 : l0_0.length ≤ c0_0) (hr1_0 : Kd.C (Kd.slice 4 Kd.bool) w A1_0 l1_0.length l1_0) (hc1_0 : l1_0.length ≤ c1_0) (h : seedcornref30_SameCert.f l0_0 l1_0 = some r) :
    Calls Try.prog 14 #[.agg #[.slice A0_0 l0_0.length c0_0], .agg #[.slice A1_0 l1_0.length c1_0]] w fun e w' => e = .returned (.bool r) ∧ Below w.heap.size w w' := by
  by_cases hk : l0_0 = l1_0
  · subst hk
    rw [seedcornref30_SameCert.ok] at h
    injection h with h
    subst h
    exact cert_calls _ _ _ _ _ w hr0_0 hr1_0
  · rw [show seedcornref30_SameCert.f l0_0 l1_0 = none from if_neg hk] at h
    cases h
end Go.Proofs.Ytggchfdjpfodfaa.G

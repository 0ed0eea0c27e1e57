/- SameFunc of two functions that read alike is true. No further condition. -/
import Derived.Test.YtggchfdjpfodfaaHFits0
import Derived.Test.YtggchfdjpfodfaaHRd
import Derived.StillTailTactics
set_option linter.unusedVariables false
set_option linter.unusedSimpArgs false
namespace Go.Proofs.Ytggchfdjpfodfaa.H
open Go.RowKit Go.Proofs.YtggchfdjpfodfaaW.PrintWords Go.Proofs.YtggchfdjpfodfaaW.PrintLast Go.Proofs.YtggchfdjpfodfaaW.PrintMore Go.Proofs.Ytggchfdjpfodfaa.PFoldOf
attribute [local go_sem high] eqA48

set_option maxHeartbeats 2000000 in
set_option maxRecDepth 100000 in
/-- Two functions that read alike are alike. -/
theorem same_calls (regs : Int) (A A' : Option Addr) (c c' : Nat) (l : List S45) (w : World) (hr : Kd.C k45 w A l.length l) (hr' : Kd.C k45 w A' l.length l) :
    Calls Try.prog 13 #[.agg #[.int .i64 regs, .slice A l.length c], .agg #[.int .i64 regs, .slice A' l.length c']] w fun e w' => e = .returned (.bool true) ∧ Below w.heap.size w w' := by
  have hu29 := Try.underlying29
  have hu45 := Try.underlying45
  have hu48 := Try.underlying48
  have hnl := hr.2.1
  go_enter Try.func13, Try.ntmps13
  go_wp2_with (fail)
  go_loopw [5] (fun i wr => ∃ k : Nat, k ≤ l.length ∧ i = .int .i64 k ∧ Aside0 (wr.heap[w.heap.size]? = some (.cells #[.int .i64 regs, .slice A l.length c] 29 (0, 0))) ∧ Aside0 (wr.heap[w.heap.size + 1]? = some (.cells #[.int .i64 regs, .slice A' l.length c'] 29 (0, 0))) ∧ Aside0 (Below w.heap.size w wr)) (fun i _ => l.length - (intOf i).toNat)
  case atStart => exact ⟨0, Nat.zero_le _, rfl, ⟨blk_alloc (blk_new _ _) _⟩, ⟨by have := blk_new (w.alloc (.cells #[.int .i64 regs, .slice A l.length c] 29)) (.cells #[.int .i64 regs, .slice A' l.length c'] 29); simpa using this⟩, ⟨below_alloc (below_alloc (Below.refl _ _) _) _⟩⟩
  case round =>
    obtain ⟨k, hk, rfl, HK, HL, HB⟩ := hrel
    obtain ⟨wo, rfl⟩ : ∃ wo : World, wo = wr := ⟨_, rfl⟩
    have z1 : wo.cell? ⟨w.heap.size, 1, none⟩ = some (.slice A l.length c) := (blk_cell HK.out 1).trans rfl
    have z2 : wo.cell? ⟨w.heap.size + 1, 1, none⟩ = some (.slice A' l.length c') := (blk_cell HL.out 1).trans rfl
    by_cases hlt : k < l.length
    · obtain ⟨ad, A0, c0, rfl, x0, x1, x2, x3, x4, hlen0, hC0⟩ := at_T45 hr (k : Int) (by omega) (by omega)
      obtain ⟨ad', A0', c0', rfl, y0, y1, y2, y3, y4, hlen0', hC0'⟩ := at_T45 hr' (k : Int) (by omega) (by omega)
      rw [Int.toNat_natCast] at x0 x1 x2 x3 x4 y0 y1 y2 y3 y4
      replace x0 := pw_cell_below HB.out x0
      replace x1 := pw_cell_below HB.out x1
      replace x2 := pw_cell_below HB.out x2
      replace x3 := pw_cell_below HB.out x3
      replace x4 := pw_cell_below HB.out x4
      replace y0 := pw_cell_below HB.out y0
      replace y1 := pw_cell_below HB.out y1
      replace y2 := pw_cell_below HB.out y2
      replace y3 := pw_cell_below HB.out y3
      replace y4 := pw_cell_below HB.out y4
      have hsz : w.heap.size + 1 < wo.heap.size := blk_lt HL.out
      have hnb := hC0.2.1
      generalize rd_T45 l (k : Int) = b at *
      have hby := World.block_lt_of_cell? wo _ y0
      go_wp2_with (fail)
      have HK1 := Aside0.mk (blk_alloc (blk_alloc HK.out (.cells #[.slice A0 b.f0.length c0, .int .i64 b.f1, .int .i64 b.f2, .int .i64 b.f3, .int .i64 b.f4] 45)) (.cells #[.slice A0' b.f0.length c0', .int .i64 b.f1, .int .i64 b.f2, .int .i64 b.f3, .int .i64 b.f4] 45))
      have HL1 := Aside0.mk (blk_alloc (blk_alloc HL.out (.cells #[.slice A0 b.f0.length c0, .int .i64 b.f1, .int .i64 b.f2, .int .i64 b.f3, .int .i64 b.f4] 45)) (.cells #[.slice A0' b.f0.length c0', .int .i64 b.f1, .int .i64 b.f2, .int .i64 b.f3, .int .i64 b.f4] 45))
      have HB1 := Aside0.mk (below_alloc (below_alloc HB.out (.cells #[.slice A0 b.f0.length c0, .int .i64 b.f1, .int .i64 b.f2, .int .i64 b.f3, .int .i64 b.f4] 45)) (.cells #[.slice A0' b.f0.length c0', .int .i64 b.f1, .int .i64 b.f2, .int .i64 b.f3, .int .i64 b.f4] 45))
      have h6 := Aside0.mk (blk_alloc (blk_new wo (.cells #[.slice A0 b.f0.length c0, .int .i64 b.f1, .int .i64 b.f2, .int .i64 b.f3, .int .i64 b.f4] 45)) (.cells #[.slice A0' b.f0.length c0', .int .i64 b.f1, .int .i64 b.f2, .int .i64 b.f3, .int .i64 b.f4] 45))
      have h7 := Aside0.mk (blk_new (wo.alloc (.cells #[.slice A0 b.f0.length c0, .int .i64 b.f1, .int .i64 b.f2, .int .i64 b.f3, .int .i64 b.f4] 45)) (.cells #[.slice A0' b.f0.length c0', .int .i64 b.f1, .int .i64 b.f2, .int .i64 b.f3, .int .i64 b.f4] 45))
      rw [show (wo.alloc (.cells #[.slice A0 b.f0.length c0, .int .i64 b.f1, .int .i64 b.f2, .int .i64 b.f3, .int .i64 b.f4] 45)).heap.size = wo.heap.size + 1 by simp] at h7
      go_loopw [8] (fun i wr => ∃ j : Nat, j ≤ b.f0.length ∧ i = .int .i64 j ∧ Aside0 (wr.heap[wo.heap.size]? = some (.cells #[.slice A0 b.f0.length c0, .int .i64 b.f1, .int .i64 b.f2, .int .i64 b.f3, .int .i64 b.f4] 45 (0, 0))) ∧ Aside0 (wr.heap[wo.heap.size + 1]? = some (.cells #[.slice A0' b.f0.length c0', .int .i64 b.f1, .int .i64 b.f2, .int .i64 b.f3, .int .i64 b.f4] 45 (0, 0))) ∧ Aside0 (wr.heap[w.heap.size]? = some (.cells #[.int .i64 regs, .slice (some ad) l.length c] 29 (0, 0))) ∧ Aside0 (wr.heap[w.heap.size + 1]? = some (.cells #[.int .i64 regs, .slice (some ad') l.length c'] 29 (0, 0))) ∧ Aside0 (Below w.heap.size w wr)) (fun i _ => b.f0.length - (intOf i).toNat)
      case atStart => exact ⟨0, Nat.zero_le _, rfl, h6, h7, HK1, HL1, HB1⟩
      case round =>
        clear x0 x1 x2 x3 x4 y0 y1 y2 y3 y4 z1 z2 HK HL HB HK1 HL1 HB1 h6 h7 hby hsz
        obtain ⟨j, hj, rfl, h6, h7, HK, HL, HB⟩ := hrel
        obtain ⟨wi, rfl⟩ : ∃ wi : World, wi = wr := ⟨_, rfl⟩
        have x0 : wi.cell? ⟨wo.heap.size, 0, none⟩ = some (.slice A0 b.f0.length c0) := (blk_cell h6.out 0).trans rfl
        have y0 : wi.cell? ⟨wo.heap.size + 1, 0, none⟩ = some (.slice A0' b.f0.length c0') := (blk_cell h7.out 0).trans rfl
        by_cases hlj : j < b.f0.length
        · obtain ⟨ai, rfl, s0, s1, s2, s3, s4, s5, s6, s7⟩ := at_T48 (Kd.C_below hC0 HB.out) (j : Int) (by omega) (by omega)
          obtain ⟨ai', rfl, t0, t1, t2, t3, t4, t5, t6, t7⟩ := at_T48 (Kd.C_below hC0' HB.out) (j : Int) (by omega) (by omega)
          simp only [Int.toNat_natCast] at s0 s1 s2 s3 s4 s5 s6 s7 t0 t1 t2 t3 t4 t5 t6 t7
          generalize rd_T48 b.f0 (j : Int) = t at *
          go_upto_region 13 with (fail)
          go_still_tail 10, (by kernel_rfl)
          go_wp2_with (fail)
          go_roundw
          case rel => exact ⟨j + 1, hlj, by go_num, ⟨blk_drew h6.out⟩, ⟨blk_drew h7.out⟩, ⟨blk_drew HK.out⟩, ⟨blk_drew HL.out⟩, ⟨below_drew1 HB.out⟩⟩
          case measure => simp [intOf]; omega
        · have hj' : j = b.f0.length := by omega
          subst hj'
          go_wp2_with (fail)
          go_roundw
          case rel => exact ⟨k + 1, hlt, by go_num, HK, HL, HB⟩
          case measure => simp [intOf]; omega
    · have hk' : k = l.length := by omega
      subst hk'
      go_wp2_with (fail)
      go_ret
      exact ⟨rfl, HB.out⟩
end Go.Proofs.Ytggchfdjpfodfaa.H

/- FoldTwice, walked: it returns true. Condition: the arguments are of their types. -/
import Derived.Test.YtggchfdjpfodfaaPTwice
import Derived.Test.YtggchfdjpfodfaaHAwake
import Derived.Test.YtggchfdjpfodfaaH48
import Derived.StillTailTactics
import Derived.BigQuiet
set_option linter.unusedVariables false
set_option linter.unusedSimpArgs false
namespace Go.Proofs.Ytggchfdjpfodfaa.H
open Go.RowKit Go.Proofs.YtggchfdjpfodfaaW.PrintWords Go.Proofs.YtggchfdjpfodfaaW.PrintLast Go.Proofs.YtggchfdjpfodfaaW.PrintMore Go.Proofs.Ytggchfdjpfodfaa.PFoldOf
open Sp

theorem same_calls' (regs : Int) (A A' : Option Addr) (c c' n : Nat) (l : List S45) (w : World) (hn : l.length = n) (hr : Kd.C k45 w A n l) (hr' : Kd.C k45 w A' n l) :
    Calls Try.prog 13 #[.agg #[.int .i64 regs, .slice A n c], .agg #[.int .i64 regs, .slice A' n c']] w fun e w' => e = .returned (.bool true) ∧ Below w.heap.size w w' := by
  subst hn
  exact same_calls regs A A' c c' l w hr hr'
theorem rd45_map (l : List S45) (k : Nat) : rd_T45 (l.map foldB) (k : Int) = foldB (rd_T45 l (k : Int)) := by
  unfold rd_T45
  rw [List.getD_eq_getElem?_getD, List.getD_eq_getElem?_getD, List.getElem?_map]
  cases l[(k : Int).toNat]? with
  | none => rfl
  | some x => rfl

set_option maxHeartbeats 2000000 in
set_option maxRecDepth 100000 in
theorem twice_calls (words : Int) (A : Option Addr) (c : Nat) (l : List S29) (i : Int) (w : World) (hr : Kd.C k29 w A l.length l) (hc : l.length ≤ c) (hz : Wf24 l) (hi : 0 ≤ i ∧ i ≤ 255) :
    Calls Try.prog 5 #[.agg #[.int .i64 words, .slice A l.length c], .int .u8 i] w fun e w' => e = .returned (.bool true) ∧ Below w.heap.size w w' := by
  have hu24 := Try.underlying24
  have hu29 := Try.underlying29
  have hu32 := Try.underlying32
  have hu45 := Try.underlying45
  have hu48 := Try.underlying48
  go_enter Try.func5, Try.ntmps5
  go_wp2_with (fail)
  refine (awake_calls _).mono ?_
  rintro e w1 ⟨rfl, hb1⟩
  have b1 := blk_below (blk_new w (.cells #[.int .i64 words, .slice A l.length c] 24)) hb1
  have hB1 : Below w.heap.size w w1 := below_then (below_alloc (Below.refl _ _) _) (by simp) hb1
  have z0 : w1.cell? ⟨w.heap.size, 0, none⟩ = some (.int .i64 words) := (blk_cell b1 0).trans rfl
  have z1 : w1.cell? ⟨w.heap.size, 1, none⟩ = some (.slice A l.length c) := (blk_cell b1 1).trans rfl
  have hnl := hr.2.1
  obtain ⟨hw1, hw2⟩ := wf_small hz
  go_wp2_with (fail)
  refine (small_calls words 150 A c l _ (Kd.C_below hr hB1) hc hw1 hw2).mono ?_
  rintro e w2 ⟨rfl, hb2⟩
  have hB2 : Below w.heap.size w w2 := below_then hB1 hB1.size hb2
  have b2 := blk_below b1 hb2
  have y0 : w2.cell? ⟨w.heap.size, 0, none⟩ = some (.int .i64 words) := (blk_cell b2 0).trans rfl
  have y1 : w2.cell? ⟨w.heap.size, 1, none⟩ = some (.slice A l.length c) := (blk_cell b2 1).trans rfl
  clear z0 z1 b1 hb1 hb2 hB1 hw1 hw2
  cases hs : smallB words l 150 with
  | false =>
    go_wp2_with (fail)
    go_ret
    exact ⟨rfl, hB2⟩
  | true =>
    have hlen : l.length ≤ 10 := by
      simp only [smallB, Bool.and_eq_true, decide_eq_true_eq] at hs
      exact hs.1.1.1.2
    by_cases hil : i < l.length
    · obtain ⟨ad, A1, c1, rfl, x0, x1, hl1, hC1⟩ := at_T29 (Kd.C_below hr hB2) i hi.1 hil
      have hmem : rd_T29 l i ∈ l := by
        unfold rd_T29
        rw [List.getD_eq_getElem?_getD, List.getElem?_eq_getElem (by omega)]
        exact List.getElem_mem _
      have hf := small_fine hs hmem
      have hwf := hz.1 _ hmem
      generalize rd_T29 l i = f at *
      have hnf := hC1.2.1
      have hnk := hf.len
      have hok := ok_of (most := 150) hwf
      have hby1 := World.block_lt_of_cell? w2 _ x0
      go_wp2_with (fail)
      have b5 := blk_new w2 (.cells #[.int .i64 f.f0, .slice A1 f.f1.length c1] 29)
      have hB3 := below_alloc hB2 (.cells #[.int .i64 f.f0, .slice A1 f.f1.length c1] 29)
      have hC3 := Kd.C_alloc hC1 (.cells #[.int .i64 f.f0, .slice A1 f.f1.length c1] 29)
      generalize w2.alloc (.cells #[.int .i64 f.f0, .slice A1 f.f1.length c1] 29) = w3 at *
      refine (of_calls f.f0 A1 c1 f.f1 w3 hC3 hl1 hf.lo (by have := hf.hi; omega) (by omega) (fun b hb => by have := hf.ins b hb; omega) hok).mono ?_
      rintro e w4 ⟨v1, v2, rfl, r1, r2, hb4⟩
      obtain ⟨Ag, cg, rfl, hlg, hCg⟩ := Kd.R_reads r1
      obtain ⟨Ac, cc, rfl, hlc, hCc⟩ := Kd.R_reads r2
      have hB4 := below_then hB3 hB3.size hb4
      have b5' := blk_below b5 hb4
      have hC4 := Kd.C_below hC3 hb4
      have hs1 := blk_lt b5'
      have hs2 : w2.heap.size < w4.heap.size + 1 := by omega
      clear r1 r2 b5 hb4 hC3 hB3 hC1 x0 x1 y0 y1 b2 hr hB2 hby1 hCc hlc
      have hlq : (f.f1.map foldB).length = f.f1.length := List.length_map _
      have hokq := ok_foldB hok
      have hlnq := len_foldB (l := f.f1) (n := 100000) (fun b hb => by have := hf.ins b hb; omega)
      have htw := foldBs_twice f.f1
      have hwas : ∀ k j : Nat, k < f.f1.length → j < (rd_T45 f.f1 (k : Int)).f0.length → Was (rd_T48 (rd_T45 f.f1 (k : Int)).f0 (j : Int)) (rd_T48 (rd_T45 (f.f1.map foldB) (k : Int)).f0 (j : Int)) := by
        intro k j hk hj
        rw [rd45_map]
        obtain ⟨words, number, hfit⟩ := hf.fit
        have hm : rd_T45 f.f1 (k : Int) ∈ f.f1 := by
          unfold rd_T45
          rw [List.getD_eq_getElem?_getD, List.getElem?_eq_getElem (by simpa using hk)]
          exact List.getElem_mem _
        have h1 := hfit _ hm
        simp only [blockB, Bool.and_eq_true] at h1
        exact was_foldL _ _ (fun t ht => List.all_eq_true.1 h1.2 t ht) j hj
      have hlens : ∀ k : Nat, (rd_T45 (f.f1.map foldB) (k : Int)).f0.length = (rd_T45 f.f1 (k : Int)).f0.length := by
        intro k
        rw [rd45_map]
        exact foldL_length _ _
      have hnc : (f.f1.map fun _ => List.replicate f.f0.toNat true).length = f.f1.length := List.length_map _
      rw [hnc]
      generalize f.f1.map foldB = q at *
      rw [hlq] at hlg hCg ⊢
      go_wp2_with (fail)
      have c5 := blk_alloc (blk_alloc b5' (.cells #[.int .i64 f.f0, .slice Ag f.f1.length cg] 29)) (.cells #[.slice Ac f.f1.length cc] 32)
      have c6 := blk_alloc (blk_new w4 (.cells #[.int .i64 f.f0, .slice Ag f.f1.length cg] 29)) (.cells #[.slice Ac f.f1.length cc] 32)
      have hB5 := below_alloc (below_alloc hB4 (.cells #[.int .i64 f.f0, .slice Ag f.f1.length cg] 29)) (.cells #[.slice Ac f.f1.length cc] 32)
      have hCg5 := Kd.C_alloc (Kd.C_alloc hCg (.cells #[.int .i64 f.f0, .slice Ag f.f1.length cg] 29)) (.cells #[.slice Ac f.f1.length cc] 32)
      have hC5 := Kd.C_alloc (Kd.C_alloc hC4 (.cells #[.int .i64 f.f0, .slice Ag f.f1.length cg] 29)) (.cells #[.slice Ac f.f1.length cc] 32)
      generalize (w4.alloc (.cells #[.int .i64 f.f0, .slice Ag f.f1.length cg] 29)).alloc (.cells #[.slice Ac f.f1.length cc] 32) = w5 at *
      have hof := of_calls f.f0 Ag cg q w5 (by rw [hlq]; exact hCg5) (by rw [hlq]; exact hlg) hf.lo (by have := hf.hi; omega) (by omega) hlnq hokq
      rw [hlq] at hof
      refine hof.mono ?_
      clear hof
      rintro e w6 ⟨v3, v4, rfl, r3, r4, hb6⟩
      rw [htw] at r3
      obtain ⟨Ah, ch, rfl, hlh, hCh⟩ := Kd.R_reads r3
      obtain ⟨Ad, cd, rfl, hld, hCd⟩ := Kd.R_reads r4
      have hnd : (q.map fun _ => List.replicate f.f0.toNat true).length = f.f1.length := (List.length_map _).trans hlq
      rw [hnd]
      rw [hlq] at hlh hCh ⊢
      have d5 := blk_below c5 hb6
      have d6 := blk_below c6 hb6
      have hCg6 := Kd.C_below hCg5 hb6
      have hC6 := Kd.C_below hC5 hb6
      have hB6 := below_then hB5 hB5.size hb6
      have hs4 := blk_lt d6
      have hs5 := blk_lt d5
      have hs6 : w2.heap.size < w6.heap.size + 1 := by omega
      have hs7 : w4.heap.size < w6.heap.size + 1 := by omega
      have x6 : w6.cell? ⟨w4.heap.size, 0, none⟩ = some (.int .i64 f.f0) := (blk_cell d6 0).trans rfl
      have x6' : w6.cell? ⟨w4.heap.size, 1, none⟩ = some (.slice Ag f.f1.length cg) := (blk_cell d6 1).trans rfl
      clear r3 r4 c5 c6 hCg5 hC5 hB5 hb6 hB4 hCg hC4 hCd hld
      go_wp2_with (fail)
      have e5 := blk_alloc (blk_alloc d5 (.cells #[.int .i64 f.f0, .slice Ah f.f1.length ch] 29)) (.cells #[.slice Ad f.f1.length cd] 32)
      have e6 := blk_alloc (blk_alloc d6 (.cells #[.int .i64 f.f0, .slice Ah f.f1.length ch] 29)) (.cells #[.slice Ad f.f1.length cd] 32)
      have hCg7 := Kd.C_alloc (Kd.C_alloc hCg6 (.cells #[.int .i64 f.f0, .slice Ah f.f1.length ch] 29)) (.cells #[.slice Ad f.f1.length cd] 32)
      have hC7 := Kd.C_alloc (Kd.C_alloc hC6 (.cells #[.int .i64 f.f0, .slice Ah f.f1.length ch] 29)) (.cells #[.slice Ad f.f1.length cd] 32)
      have hCh7 := Kd.C_alloc (Kd.C_alloc hCh (.cells #[.int .i64 f.f0, .slice Ah f.f1.length ch] 29)) (.cells #[.slice Ad f.f1.length cd] 32)
      have hB7 := below_alloc (below_alloc hB6 (.cells #[.int .i64 f.f0, .slice Ah f.f1.length ch] 29)) (.cells #[.slice Ad f.f1.length cd] 32)
      generalize (w6.alloc (.cells #[.int .i64 f.f0, .slice Ah f.f1.length ch] 29)).alloc (.cells #[.slice Ad f.f1.length cd] 32) = w7 at *
      refine (same_calls' f.f0 Ag Ah cg ch f.f1.length q w7 hlq hCg7 hCh7).mono ?_
      rintro e w8 ⟨rfl, hb8⟩
      have g5 := blk_below e5 hb8
      have g6 := blk_below e6 hb8
      have hCg8 := Kd.C_below hCg7 hb8
      have hC8 := Kd.C_below hC7 hb8
      have hB8 := below_then hB7 hB7.size hb8
      clear e5 e6 d5 d6 hCg7 hC7 hCh7 hB7 hb8 hCg6 hC6 hCh hB6 x6 x6' hs4 hs5 hs6 hs7
      have x5 : w8.cell? ⟨w2.heap.size, 1, none⟩ = some (.slice A1 f.f1.length c1) := (blk_cell g5 1).trans rfl
      have x6 : w8.cell? ⟨w4.heap.size, 1, none⟩ = some (.slice Ag f.f1.length cg) := (blk_cell g6 1).trans rfl
      go_wp2_with (fail)
      clear x5 x6
      go_loopw [10] (fun i wr => ∃ k : Nat, k ≤ f.f1.length ∧ i = .int .i64 k ∧ Aside0 (Below w8.heap.size w8 wr)) (fun i _ => f.f1.length - (intOf i).toNat)
      case atStart => exact ⟨0, Nat.zero_le _, rfl, ⟨Below.refl _ _⟩⟩
      case round =>
        obtain ⟨k, hk, rfl, HB⟩ := hrel
        obtain ⟨wo, rfl⟩ : ∃ wo : World, wo = wr := ⟨_, rfl⟩
        have k5 := blk_below g5 HB.out
        have k6 := blk_below g6 HB.out
        have x5 : wo.cell? ⟨w2.heap.size, 1, none⟩ = some (.slice A1 f.f1.length c1) := (blk_cell k5 1).trans rfl
        have x6 : wo.cell? ⟨w4.heap.size, 1, none⟩ = some (.slice Ag f.f1.length cg) := (blk_cell k6 1).trans rfl
        have HK5 := Aside0.mk k5
        have HK6 := Aside0.mk k6
        have G5 := Aside0.mk g5
        have G6 := Aside0.mk g6
        clear k5 k6 g5 g6
        by_cases hlt : k < f.f1.length
        · obtain ⟨a1, A3, c3, rfl, u0, u1, u2, u3, u4, hl3, hC3⟩ := at_T45 (Kd.C_below hC8 HB.out) (k : Int) (by omega) (by omega)
          obtain ⟨ag, A4, c4, rfl, g0, g1, g2, g3, g4, hl4, hC4⟩ := at_T45 (Kd.C_below hCg8 HB.out) (k : Int) (by omega) (by omega)
          simp only [Int.toNat_natCast] at u0 u1 u2 u3 u4 g0 g1 g2 g3 g4
          have hnb := hC3.2.1
          have hlk := hlens k
          have hwk := fun j => hwas k j hlt
          rw [hlk] at g0 hC4 hl4
          generalize rd_T45 f.f1 (k : Int) = b at *
          generalize rd_T45 q (k : Int) = b' at *
          clear u1 u2 u3 u4 g1 g2 g3 g4 hwas hlens
          go_upto_region 13 with (fail)
          go_quiet (fail)
          go_wp2_with (fail)
          have HB1 := Aside0.mk (pw_below_drewN HB.out nq)
          have HX := Aside0.mk (pw_below_drewN (Below.refl wo.heap.size wo) nq)
          have hby5 := blk_lt HK5.out
          have hby6 := blk_lt HK6.out
          generalize wo.drewN nq = wp at *
          go_loopw [11] (fun i wr => ∃ j : Nat, j ≤ b.f0.length ∧ i = .int .i64 j ∧ Aside0 (Below wo.heap.size wo wr)) (fun i _ => b.f0.length - (intOf i).toNat)
          case atStart => exact ⟨0, Nat.zero_le _, rfl, HX⟩
          case round =>
            clear HX HB1
            obtain ⟨j, hj, rfl, HI⟩ := hrel
            obtain ⟨wi, rfl⟩ : ∃ wi : World, wi = wr := ⟨_, rfl⟩
            replace x5 := pw_cell_below HI.out x5
            replace x6 := pw_cell_below HI.out x6
            have hb5 := World.block_lt_of_cell? wi _ x5
            have hb6 := World.block_lt_of_cell? wi _ x6
            replace u0 := pw_cell_below HI.out u0
            replace g0 := pw_cell_below HI.out g0
            have hbu := World.block_lt_of_cell? wi _ u0
            have hbg := World.block_lt_of_cell? wi _ g0
            by_cases hlj : j < b.f0.length
            · obtain ⟨ai, rfl, s0, s1, s2, s3, s4, s5, s6, s7⟩ := at_T48 (Kd.C_below hC3 HI.out) (j : Int) (by omega) (by omega)
              obtain ⟨ai', rfl, t0, t1, t2, t3, t4, t5, t6, t7⟩ := at_T48 (Kd.C_below hC4 HI.out) (j : Int) (by omega) (by omega)
              simp only [Int.toNat_natCast] at s0 s1 s2 s3 s4 s5 s6 s7 t0 t1 t2 t3 t4 t5 t6 t7
              have hs0 := World.block_lt_of_cell? wi _ s0
              have ht0 := World.block_lt_of_cell? wi _ t0
              have hw := hwk j hlj
              clear hwk
              generalize rd_T48 b.f0 (j : Int) = x at *
              generalize rd_T48 b'.f0 (j : Int) = y at *
              rcases hw with rfl | ⟨hx, hy0, hy1⟩
              · go_wp2_with (fail)
                go_roundw
                case rel => exact ⟨j + 1, hlj, by go_num, ⟨below_alloc (below_alloc HI.out _) _⟩⟩
                case measure => simp [intOf]; omega
              · obtain ⟨x0', x1', x2', x3', x4', x5', x6', x7'⟩ := x
                obtain ⟨y0', y1', y2', y3', y4', y5', y6', y7'⟩ := y
                dsimp only at hx hy0 hy1 s0 s1 s2 s3 s4 s5 s6 s7 t0 t1 t2 t3 t4 t5 t6 t7
                subst hy0
                subst hy1
                rcases hx with rfl | rfl
                · go_wp2_with (fail)
                  go_roundw
                  case rel => exact ⟨j + 1, hlj, by go_num, ⟨below_alloc (below_alloc HI.out _) _⟩⟩
                  case measure => simp [intOf]; omega
                · go_wp2_with (fail)
                  go_roundw
                  case rel => exact ⟨j + 1, hlj, by go_num, ⟨below_alloc (below_alloc HI.out _) _⟩⟩
                  case measure => simp [intOf]; omega
            · have hj' : j = b.f0.length := by omega
              subst hj'
              go_wp2_with (fail)
              go_roundw
              case rel => exact ⟨k + 1, hlt, by go_num, ⟨below_then HB.out HB.out.size HI.out⟩⟩
              case measure => simp [intOf]; omega
        · have hk' : k = f.f1.length := by omega
          subst hk'
          go_wp2_with (fail)
          go_ret
          exact ⟨rfl, below_then hB8 hB8.size HB.out⟩
    · go_wp2_with (fail)
      go_ret
      exact ⟨rfl, hB2⟩
end Go.Proofs.Ytggchfdjpfodfaa.H

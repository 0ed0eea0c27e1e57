/- FoldLocal, walked: it returns true. Condition: the arguments are of their types. -/
import Derived.Test.YtggchfdjpfodfaaHArg
import Derived.Test.YtggchfdjpfodfaaHAwake
import Derived.Test.YtggchfdjpfodfaaH48
import Derived.StillTailTactics
import Derived.BigQuiet
set_option linter.unusedVariables false
set_option linter.unusedSimpArgs false
namespace Go.Proofs.Ytggchfdjpfodfaa.H
open Go.RowKit Go.Proofs.YtggchfdjpfodfaaW.PrintWords Go.Proofs.YtggchfdjpfodfaaW.PrintLast Go.Proofs.YtggchfdjpfodfaaW.PrintMore Go.Proofs.Ytggchfdjpfodfaa.PFoldOf
open Sp

/-- A literal block whose instructions are read. -/
theorem C_lit45 (W : World) (b : S45) (A : Option Addr) (c : Nat) (hl : b.f0.length ≤ c) (h : Kd.C k48 W A b.f0.length b.f0) :
    Kd.C k45 (W.alloc (.cells #[.slice A b.f0.length c, .int .i64 b.f1, .int .i64 b.f2, .int .i64 b.f3, .int .i64 b.f4] 45)) (some ⟨W.heap.size, 0, none⟩) 1 [b] := by
  refine ⟨rfl, by omega, fun _ => ⟨_, rfl, fun j p hj => ?_⟩⟩
  match j, hj with
  | 0, hj =>
    obtain rfl : b = p := by simpa using hj
    refine ⟨_, rfl, k45_mk _ b hl (Kd.C_alloc h _), fun i u hu => ?_⟩
    rw [Nat.zero_mul, Nat.zero_add]
    have := blk_cell (blk_new W (.cells #[.slice A b.f0.length c, .int .i64 b.f1, .int .i64 b.f2, .int .i64 b.f3, .int .i64 b.f4] 45)) i
    have e : (⟨W.heap.size, 0, none⟩ : Addr).add i = ⟨W.heap.size, i, none⟩ := by
      unfold Addr.add
      split
      · next h => rw [h]
      · simp
    rw [e, this, ← hu]
    simp
  | j + 1, hj => simp at hj
theorem foldB_z : foldB z45 = z45 := rfl

set_option maxHeartbeats 2000000 in
set_option maxRecDepth 100000 in
theorem local_calls (words : Int) (A : Option Addr) (c : Nat) (l : List S29) (i k : Int) (w : World) (hr : Kd.C k29 w A l.length l) (hc : l.length ≤ c) (hz : Wf24 l) (hi : 0 ≤ i ∧ i ≤ 255) (hk : 0 ≤ k ∧ k ≤ 255) :
    Calls Try.prog 7 #[.agg #[.int .i64 words, .slice A l.length c], .int .u8 i, .int .u8 k] w fun e w' => e = .returned (.bool true) ∧ Below w.heap.size w w' := by
  have hu24 := Try.underlying24
  have hu29 := Try.underlying29
  have hu32 := Try.underlying32
  have hu45 := Try.underlying45
  have hu48 := Try.underlying48
  go_enter Try.func7, Try.ntmps7
  go_wp2_with (fail)
  refine (awake_calls _).mono ?_
  rintro e w1 ⟨rfl, hb1⟩
  have b1 := blk_below (blk_new w (.cells #[.int .i64 words, .slice A l.length c] 24)) hb1
  have hB1 : Below w.heap.size w w1 := below_then (below_alloc (Below.refl _ _) _) (by simp) hb1
  have z0 : w1.cell? ⟨w.heap.size, 0, none⟩ = some (.int .i64 words) := (blk_cell b1 0).trans rfl
  have z1 : w1.cell? ⟨w.heap.size, 1, none⟩ = some (.slice A l.length c) := (blk_cell b1 1).trans rfl
  have hnl := hr.2.1
  obtain ⟨hw1, hw2⟩ := wf_small hz
  go_wp2_with (fail)
  refine (small_calls words 150 A c l _ (Kd.C_below hr hB1) hc hw1 hw2).mono ?_
  rintro e w2 ⟨rfl, hb2⟩
  have hB2 : Below w.heap.size w w2 := below_then hB1 hB1.size hb2
  have b2 := blk_below b1 hb2
  have y0 : w2.cell? ⟨w.heap.size, 0, none⟩ = some (.int .i64 words) := (blk_cell b2 0).trans rfl
  have y1 : w2.cell? ⟨w.heap.size, 1, none⟩ = some (.slice A l.length c) := (blk_cell b2 1).trans rfl
  clear z0 z1 b1 hb1 hb2 hB1 hw1 hw2
  cases hs : smallB words l 150 with
  | false =>
    go_wp2_with (fail)
    go_ret
    exact ⟨rfl, hB2⟩
  | true =>
    have hlen : l.length ≤ 10 := by
      simp only [smallB, Bool.and_eq_true, decide_eq_true_eq] at hs
      exact hs.1.1.1.2
    by_cases hil : i < l.length
    · obtain ⟨ad, A1, c1, rfl, x0, x1, hl1, hC1⟩ := at_T29 (Kd.C_below hr hB2) i hi.1 hil
      have hmem : rd_T29 l i ∈ l := by
        unfold rd_T29
        rw [List.getD_eq_getElem?_getD, List.getElem?_eq_getElem (by omega)]
        exact List.getElem_mem _
      have hf := small_fine hs hmem
      have hwf := hz.1 _ hmem
      generalize rd_T29 l i = f at *
      have hnf := hC1.2.1
      have hnk := hf.len
      by_cases hkl : k < f.f1.length
      · obtain ⟨ad2, A2, c2, rfl, s0, s1, s2, s3, s4, hl2, hC2⟩ := at_T45 hC1 k hk.1 hkl
        have hmem2 : rd_T45 f.f1 k ∈ f.f1 := by
          unfold rd_T45
          rw [List.getD_eq_getElem?_getD, List.getElem?_eq_getElem (by omega)]
          exact List.getElem_mem _
        have hin := hf.ins _ hmem2
        have hmap : ∀ g : S45 → S45, g z45 = z45 → rd_T45 (f.f1.map g) k = g (rd_T45 f.f1 k) := by
          intro g hg
          unfold rd_T45
          rw [List.getD_eq_getElem?_getD, List.getD_eq_getElem?_getD, List.getElem?_map]
          cases f.f1[k.toNat]? with
          | none => exact hg.symm
          | some x => rfl
        generalize rd_T45 f.f1 k = b at *
        have hnb := hC2.2.1
        have hby := World.block_lt_of_cell? w2 _ s0
        have hby1 := World.block_lt_of_cell? w2 _ x0
        go_wp2_with (fail)
        have hok := ok_of (most := 150) hwf
        have b7 := blk_alloc (blk_new w2 (.cells #[.int .i64 f.f0, .slice (some ad2) f.f1.length c1] 29)) (.cells #[.slice A2 b.f0.length c2, .int .i64 3, .int .i64 0, .int .i64 0, .int .i64 0] 45)
        have b8 := blk_new (w2.alloc (.cells #[.int .i64 f.f0, .slice (some ad2) f.f1.length c1] 29)) (.cells #[.slice A2 b.f0.length c2, .int .i64 3, .int .i64 0, .int .i64 0, .int .i64 0] 45)
        rw [show (w2.alloc (.cells #[.int .i64 f.f0, .slice (some ad2) f.f1.length c1] 29)).heap.size = w2.heap.size + 1 by simp] at b8
        have hC3 := Kd.C_alloc (Kd.C_alloc hC2 (.cells #[.int .i64 f.f0, .slice (some ad2) f.f1.length c1] 29)) (.cells #[.slice A2 b.f0.length c2, .int .i64 3, .int .i64 0, .int .i64 0, .int .i64 0] 45)
        have hCa := Kd.C_alloc (Kd.C_alloc hC1 (.cells #[.int .i64 f.f0, .slice (some ad2) f.f1.length c1] 29)) (.cells #[.slice A2 b.f0.length c2, .int .i64 3, .int .i64 0, .int .i64 0, .int .i64 0] 45)
        have hB3 := below_alloc (below_alloc hB2 (.cells #[.int .i64 f.f0, .slice (some ad2) f.f1.length c1] 29)) (.cells #[.slice A2 b.f0.length c2, .int .i64 3, .int .i64 0, .int .i64 0, .int .i64 0] 45)
        generalize (w2.alloc (.cells #[.int .i64 f.f0, .slice (some ad2) f.f1.length c1] 29)).alloc (.cells #[.slice A2 b.f0.length c2, .int .i64 3, .int .i64 0, .int .i64 0, .int .i64 0] 45) = w3 at *
        refine (of_calls f.f0 _ _ f.f1 w3 hCa hl1 hf.lo (by have := hf.hi; omega) (by omega) (fun b hb => by have := hf.ins b hb; omega) hok).mono ?_
        rintro e w4 ⟨v1, v2, rfl, r1, r2, hb4⟩
        obtain ⟨Ag, cg, rfl, hlg, hCg⟩ := Kd.R_reads r1
        obtain ⟨Ac, cc, rfl, hlc, hCc⟩ := Kd.R_reads r2
        simp only [List.length_map] at hlg hCg hlc hCc ⊢
        have b7' := blk_below b7 hb4
        have b8' := blk_below b8 hb4
        have hC4 := Kd.C_below hC3 hb4
        have hB4 := below_then hB3 hB3.size hb4
        have x70 : w4.cell? ⟨w2.heap.size, 0, none⟩ = some (.int .i64 f.f0) := (blk_cell b7' 0).trans rfl
        have x71 : w4.cell? ⟨w2.heap.size, 1, none⟩ = some (.slice (some ad2) f.f1.length c1) := (blk_cell b7' 1).trans rfl
        have x80 : w4.cell? ⟨w2.heap.size + 1, 0, none⟩ = some (.slice A2 b.f0.length c2) := (blk_cell b8' 0).trans rfl
        have x81 : w4.cell? ⟨w2.heap.size + 1, 1, none⟩ = some (.int .i64 3) := (blk_cell b8' 1).trans rfl
        have x82 : w4.cell? ⟨w2.heap.size + 1, 2, none⟩ = some (.int .i64 0) := (blk_cell b8' 2).trans rfl
        have x83 : w4.cell? ⟨w2.heap.size + 1, 3, none⟩ = some (.int .i64 0) := (blk_cell b8' 3).trans rfl
        have x84 : w4.cell? ⟨w2.heap.size + 1, 4, none⟩ = some (.int .i64 0) := (blk_cell b8' 4).trans rfl
        have hsz := blk_lt b8'
        have hs1 : w2.heap.size < w4.heap.size := by omega
        have hs2 : w2.heap.size < w4.heap.size + 1 := by omega
        have hs3 : w2.heap.size + 1 < w4.heap.size + 1 := by omega
        clear r1 r2 b7 b8 hCa hC3 hB3 hb4
        go_wp2_with (fail)
        have c9 := blk_alloc (blk_alloc (blk_new w4 (.cells #[.int .i64 f.f0, .slice Ag f.f1.length cg] 29)) (.cells #[.slice Ac f.f1.length cc] 32)) (.cells #[.slice A2 b.f0.length c2, .int .i64 3, .int .i64 0, .int .i64 0, .int .i64 0] 45)
        have c7 := blk_alloc (blk_alloc (blk_alloc b7' (.cells #[.int .i64 f.f0, .slice Ag f.f1.length cg] 29)) (.cells #[.slice Ac f.f1.length cc] 32)) (.cells #[.slice A2 b.f0.length c2, .int .i64 3, .int .i64 0, .int .i64 0, .int .i64 0] 45)
        have hCl := C_lit45 ((w4.alloc (.cells #[.int .i64 f.f0, .slice Ag f.f1.length cg] 29)).alloc (.cells #[.slice Ac f.f1.length cc] 32)) ⟨b.f0, 3, 0, 0, 0⟩ A2 c2 hl2 (Kd.C_alloc (Kd.C_alloc hC4 _) _)
        have hCg5 := Kd.C_alloc (Kd.C_alloc (Kd.C_alloc hCg (.cells #[.int .i64 f.f0, .slice Ag f.f1.length cg] 29)) (.cells #[.slice Ac f.f1.length cc] 32)) (.cells #[.slice A2 b.f0.length c2, .int .i64 3, .int .i64 0, .int .i64 0, .int .i64 0] 45)
        have hB5 := below_alloc (below_alloc (below_alloc hB4 (.cells #[.int .i64 f.f0, .slice Ag f.f1.length cg] 29)) (.cells #[.slice Ac f.f1.length cc] 32)) (.cells #[.slice A2 b.f0.length c2, .int .i64 3, .int .i64 0, .int .i64 0, .int .i64 0] 45)
        have hz5 : (((w4.alloc (.cells #[.int .i64 f.f0, .slice Ag f.f1.length cg] 29)).alloc (.cells #[.slice Ac f.f1.length cc] 32)).alloc (.cells #[.slice A2 b.f0.length c2, .int .i64 3, .int .i64 0, .int .i64 0, .int .i64 0] 45)).heap.size = w4.heap.size + 1 + 1 + 1 := by simp
        rw [show ((w4.alloc (.cells #[.int .i64 f.f0, .slice Ag f.f1.length cg] 29)).alloc (.cells #[.slice Ac f.f1.length cc] 32)).heap.size = w4.heap.size + 1 + 1 by simp] at hCl
        dsimp only at hCl
        generalize (((w4.alloc (.cells #[.int .i64 f.f0, .slice Ag f.f1.length cg] 29)).alloc (.cells #[.slice Ac f.f1.length cc] 32)).alloc (.cells #[.slice A2 b.f0.length c2, .int .i64 3, .int .i64 0, .int .i64 0, .int .i64 0] 45)) = w5 at *
        refine (of_calls f.f0 _ 1 [⟨b.f0, 3, 0, 0, 0⟩] w5 hCl (Nat.le_refl 1) hf.lo (by have := hf.hi; omega) (by simp) (fun q hq => by obtain rfl := List.mem_singleton.1 hq; show b.f0.length ≤ 100000; omega) (fun q hq => by obtain rfl := List.mem_singleton.1 hq; exact hok b hmem2)).mono ?_
        rintro e w6 ⟨v3, v4, rfl, r3, r4, hb6⟩
        obtain ⟨Ah, ch, rfl, hlh, hCh⟩ := Kd.R_reads r3
        obtain ⟨Ad, cd, rfl, hld, hCd⟩ := Kd.R_reads r4
        simp only [List.map_cons, List.map_nil, List.length_cons, List.length_nil, Nat.zero_add] at hlh hCh hld hCd ⊢
        have d9 := blk_below c9 hb6
        have d7 := blk_below c7 hb6
        have hCg6 := Kd.C_below hCg5 hb6
        have hB6 := below_then hB5 hB5.size hb6
        have hs4 := blk_lt d9
        have hs5 : w2.heap.size < w6.heap.size := by omega
        have hs6 : w2.heap.size < w6.heap.size + 1 := by omega
        have hs7 : w4.heap.size < w6.heap.size + 1 := by omega
        clear r3 r4 c9 c7 hCl hCg5 hB5 hb6 x70 x71 x80 x81 x82 x83 x84 x0 x1 s0 s1 s2 s3 s4 y0 y1 hby hby1 hs1 hs2 hs3 hsz b7' b8' hC4 hB4 hCg hCc hC1 hB2 hr b2
        go_upto_region 9 with (fail)
        have e9 := blk_alloc (blk_alloc d9 (.cells #[.int .i64 f.f0, .slice Ah 1 ch] 29)) (.cells #[.slice Ad 1 cd] 32)
        have e7 := blk_alloc (blk_alloc d7 (.cells #[.int .i64 f.f0, .slice Ah 1 ch] 29)) (.cells #[.slice Ad 1 cd] 32)
        have e11 := blk_alloc (blk_new w6 (.cells #[.int .i64 f.f0, .slice Ah 1 ch] 29)) (.cells #[.slice Ad 1 cd] 32)
        have hCg7 := Kd.C_alloc (Kd.C_alloc hCg6 (.cells #[.int .i64 f.f0, .slice Ah 1 ch] 29)) (.cells #[.slice Ad 1 cd] 32)
        have hCh7 := Kd.C_alloc (Kd.C_alloc hCh (.cells #[.int .i64 f.f0, .slice Ah 1 ch] 29)) (.cells #[.slice Ad 1 cd] 32)
        have hB7 := below_alloc (below_alloc hB6 (.cells #[.int .i64 f.f0, .slice Ah 1 ch] 29)) (.cells #[.slice Ad 1 cd] 32)
        generalize (w6.alloc (.cells #[.int .i64 f.f0, .slice Ah 1 ch] 29)).alloc (.cells #[.slice Ad 1 cd] 32) = w7 at *
        clear d9 d7 hCg6 hCh hB6 hCd
        have x7 : w7.cell? ⟨w2.heap.size, 1, none⟩ = some (.slice (some ad2) f.f1.length c1) := (blk_cell e7 1).trans rfl
        have x9 : w7.cell? ⟨w4.heap.size, 1, none⟩ = some (.slice Ag f.f1.length cg) := (blk_cell e9 1).trans rfl
        have x11 : w7.cell? ⟨w6.heap.size, 1, none⟩ = some (.slice Ah 1 ch) := (blk_cell e11 1).trans rfl
        obtain ⟨ag, A3, c3, rfl, g0, g1, g2, g3, g4, hlg3, hCg3⟩ := at_T45 hCg7 k hk.1 hkl
        obtain ⟨ah, A4, c4, rfl, h0, h1, h2, h3, h4, hlh4, hCh4⟩ := at_T45 hCh7 0 (by omega) (by omega)
        rw [hmap foldB rfl] at g0 hCg3 hlg3
        have eb : rd_T45 [foldB ⟨b.f0, 3, 0, 0, 0⟩] 0 = ⟨foldL (fun _ => none) b.f0, 3, 0, 0, 0⟩ := rfl
        have eg : (foldB b).f0 = foldL (fun _ => none) b.f0 := rfl
        rw [eb] at h0 hCh4 hlh4
        rw [eg] at g0 hCg3 hlg3
        dsimp only at h0 hCh4 hlh4
        have hlen2 : (foldL (fun _ => none) b.f0).length = b.f0.length := foldL_length _ _
        rw [hlen2] at g0 hCg3 hlg3 h0 hCh4 hlh4
        have h0' : w7.cell? ah = some (.slice A4 b.f0.length c4) := by have h := h0; unfold Addr.add at h; simpa using h
        generalize foldL (fun _ => none) b.f0 = q at *
        clear g1 g2 g3 g4 h1 h2 h3 h4 hmap eb eg hCg7 hCh7 h0
        go_quiet (fail)
        go_wp2_with (fail)
        have HB7 : Below w7.heap.size w7 (w7.drewN nq) := pw_below_drewN (Below.refl _ _) nq
        generalize w7.drewN nq = w8 at *
        go_loopw [13] (fun i wr => ∃ j : Nat, j ≤ b.f0.length ∧ i = .int .i64 j ∧ Aside0 (Below w7.heap.size w7 wr)) (fun i _ => b.f0.length - (intOf i).toNat)
        case atStart => exact ⟨0, Nat.zero_le _, rfl, ⟨HB7⟩⟩
        case round =>
          obtain ⟨j, hj, rfl, HB⟩ := hrel
          obtain ⟨wo, rfl⟩ : ∃ wo : World, wo = wr := ⟨_, rfl⟩
          replace x7 := pw_cell_below HB.out x7
          replace x9 := pw_cell_below HB.out x9
          replace x11 := pw_cell_below HB.out x11
          replace g0 := pw_cell_below HB.out g0
          replace h0' := pw_cell_below HB.out h0'
          clear HB7 e7 e9 e11
          by_cases hlj : j < b.f0.length
          · obtain ⟨ai, rfl, s0, s1, s2, s3, s4, s5, s6, s7⟩ := at_T48 (Kd.C_below hCg3 HB.out) (j : Int) (by omega) (by omega)
            obtain ⟨ai', rfl, t0, t1, t2, t3, t4, t5, t6, t7⟩ := at_T48 (Kd.C_below hCh4 HB.out) (j : Int) (by omega) (by omega)
            simp only [Int.toNat_natCast] at s0 s1 s2 s3 s4 s5 s6 s7 t0 t1 t2 t3 t4 t5 t6 t7
            generalize rd_T48 q (j : Int) = t at *
            clear hCg3 hCh4
            go_upto_region 14 with (fail)
            go_quiet (fail)
            go_wp2_with (fail)
            go_roundw
            case rel => exact ⟨j + 1, hlj, by go_num, ⟨pw_below_drewN HB.out _⟩⟩
            case measure => simp [intOf]; omega
          · have hj' : j = b.f0.length := by omega
            subst hj'
            go_wp2_with (fail)
            go_ret
            exact ⟨rfl, below_then hB7 hB7.size HB.out⟩
      · go_wp2_with (fail)
        go_ret
        exact ⟨rfl, hB2⟩
    · go_wp2_with (fail)
      go_ret
      exact ⟨rfl, hB2⟩
end Go.Proofs.Ytggchfdjpfodfaa.H

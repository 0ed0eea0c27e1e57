/- seedcornref14.RightStmts at every level; Right, walked. Conditions: the program lies in memory, at most 1000 of anything.
   seedcornref14.Right, walked. Conditions: the program lies in memory, at most 1000 of anything.
   seedcornref14.Right in the print's form. Condition: at most 1000 of anything. -/
import Derived.Test.YtdpncghnlkgkdaaHRsA
import Derived.Test.YtdpncghnlkgkdaaHRsB
import Derived.Test.YtdpncghnlkgkdaaHRsC
import Derived.Test.YtdpncghnlkgkdaaMC
import Derived.Test.YtdpncghnlkgkdaaMD
set_option linter.unusedVariables false
set_option linter.unusedSimpArgs false
namespace Go.Proofs.Ytdpncghnlkgkdaa.H
open Go.RowKit Go.Proofs.YtdpncghnlkgkdaaW.PrintWords Go.Proofs.YtdpncghnlkgkdaaW.PrintLast Go.Proofs.YtdpncghnlkgkdaaW.PrintMore Go.Proofs.Ytdpncghnlkgkdaa.G
theorem stmt_succ {d : Nat} (hd : d ≤ 24) (hE : ExprsOk d) (hS : StmtsOk d) : StmtOk (d + 1) := by
  rintro ⟨k, s, es, th, el⟩ A2 c2 A3 c3 A4 c4 w hr2 hl2 hr3 hl3 hr4 hl4
  by_cases h1 : k = 1
  · subst h1; exact stmt_k1 hd hE hS s es th el A2 A3 A4 c2 c3 c4 w hr2 hl2 hr3 hl3 hr4 hl4
  by_cases h2 : k = 2
  · subst h2; exact stmt_k2 hd hE hS s es th el A2 A3 A4 c2 c3 c4 w hr2 hl2 hr3 hl3 hr4 hl4
  by_cases h3 : k = 3
  · subst h3; exact stmt_k3 hd hE hS s es th el A2 A3 A4 c2 c3 c4 w hr2 hl2 hr3 hl3 hr4 hl4
  by_cases h4 : k = 4
  · subst h4; exact stmt_k4 hd hE hS s es th el A2 A3 A4 c2 c3 c4 w hr2 hl2 hr3 hl3 hr4 hl4
  by_cases h5 : k = 5
  · subst h5; exact stmt_k5 hd hE hS s es th el A2 A3 A4 c2 c3 c4 w hr2 hl2 hr3 hl3 hr4 hl4
  by_cases h6 : k = 6
  · subst h6; exact stmt_k6 hd hE hS s es th el A2 A3 A4 c2 c3 c4 w hr2 hl2 hr3 hl3 hr4 hl4
  by_cases h7 : k = 7
  · subst h7; exact stmt_k7 hd hE hS s es th el A2 A3 A4 c2 c3 c4 w hr2 hl2 hr3 hl3 hr4 hl4
  exact stmt_ko hd hE hS k (by omega) s es th el A2 A3 A4 c2 c3 c4 w hr2 hl2 hr3 hl3 hr4 hl4
theorem stmt_all : ∀ d, d ≤ 25 → StmtOk d
  | 0, _ => stmt_zero
  | d + 1, h => stmt_succ (by omega) (exprs_all (by omega)) (stmts_ok (by omega) (stmt_all d (by omega)))
theorem stmts_calls1 (A : Option Addr) (c : Nat) (l : List S33) (w : World) (hr : k33.C w A l.length l) (hc : l.length ≤ c) :
    Calls Try.prog 51 #[.slice A l.length c, .int .i64 1] w fun en w' => en = .returned (.bool (l.all (rightS 24))) ∧ Below w.heap.size w w' :=
  stmts_ok (by omega) (stmt_all 24 (by omega)) l A c w hr hc
/-- May an array be? -/
def arrayB (a : S68) : Bool := isNameB a.f0 && decide (1 ≤ a.f1) && decide (a.f1 ≤ 4096)
/-- May a function be? -/
def funcB (f : S40) : Bool := isNameB f.f0 && decide (f.f1.length ≤ 6) && f.f1.all isNameB && f.f2.all isNameB && f.f4.all (rightS 24)
/-- May a program be? -/
def rightP (vs : List ByteArray) (ar : List S68) (fs : List S40) : Bool :=
  vs.all isNameB && decide (1 ≤ fs.length) && decide (fs.length ≤ 64) && ar.all arrayB && fs.all funcB
theorem rd68_drop {ar : List S68} {k : Nat} (h : k < ar.length) : ar.drop k = rd_T68 ar (k : Int) :: ar.drop (k + 1) := by
  rw [List.drop_eq_getElem_cons h]
  unfold rd_T68
  rw [Int.toNat_natCast, List.getD_eq_getElem?_getD, List.getElem?_eq_getElem h]
  rfl
theorem rd40_drop {fs : List S40} {k : Nat} (h : k < fs.length) : fs.drop k = rd_T40 fs (k : Int) :: fs.drop (k + 1) := by
  rw [List.drop_eq_getElem_cons h]
  unfold rd_T40
  rw [Int.toNat_natCast, List.getD_eq_getElem?_getD, List.getElem?_eq_getElem h]
  rfl
end Go.Proofs.Ytdpncghnlkgkdaa.H
set_option linter.unusedVariables false
set_option linter.unusedSimpArgs false
namespace Go.Proofs.Ytdpncghnlkgkdaa.H
open Go.RowKit Go.Proofs.YtdpncghnlkgkdaaW.PrintWords Go.Proofs.YtdpncghnlkgkdaaW.PrintLast Go.Proofs.YtdpncghnlkgkdaaW.PrintMore Go.Proofs.Ytdpncghnlkgkdaa.G
set_option maxHeartbeats 8000000 in
set_option maxRecDepth 100000 in
theorem right_calls (A0 : Option Addr) (c0 : Nat) (vs : List ByteArray) (A1 : Option Addr) (c1 : Nat) (ar : List S68) (A2 : Option Addr) (c2 : Nat) (fs : List S40) (w : World) (P : Prg A0 c0 vs A1 c1 ar A2 c2 fs w) (hL : Lens vs ar fs) :
    Calls Try.prog 26 #[.agg #[.slice A0 vs.length c0, .slice A1 ar.length c1, .slice A2 fs.length c2]] w fun e w' => e = .returned (.bool (rightP vs ar fs)) ∧ Below w.heap.size w w' := by
  obtain ⟨W1, hW1⟩ : ∃ W1, W1 = w.alloc (.cells #[.slice A0 vs.length c0, .slice A1 ar.length c1, .slice A2 fs.length c2] 26) := ⟨_, rfl⟩
  have HW1 := Aside0.mk hW1
  have HBw := Aside0.mk (show Below w.heap.size w W1 by rw [hW1]; exact below_alloc (Below.refl _ _) _)
  have hb3 : W1.heap[w.heap.size]? = some (.cells #[.slice A0 vs.length c0, .slice A1 ar.length c1, .slice A2 fs.length c2] 26 (0, 0)) := by rw [hW1]; exact blk_new w _
  have HP := Aside0.mk (P.below HBw.out)
  have HL := Aside0.mk hL
  have HB3 := Aside0.mk hb3
  have hp0 : W1.cell? ⟨w.heap.size, 0, none⟩ = some (.slice A0 vs.length c0) := (blk_cell hb3 0).trans rfl
  obtain ⟨np, hnp⟩ : ∃ np, np = rightP vs ar fs := ⟨_, rfl⟩
  rw [← hnp]
  obtain ⟨nv, hnv⟩ : ∃ nv, nv = vs.all isNameB := ⟨_, rfl⟩
  have HNV : Aside0 (∀ w : World, Kd.C Kd.string w A0 vs.length vs → Calls Try.prog 49 #[.slice A0 vs.length c0] w fun e w' => e = .returned (.bool nv) ∧ Below w.heap.size w w') := ⟨fun w h => by rw [hnv]; exact names_calls A0 c0 vs w h P.h0 (by have := hL.1; omega)⟩
  have HNP : Aside0 (np = (nv && decide (1 ≤ fs.length) && decide (fs.length ≤ 64) && ar.all arrayB && fs.all funcB)) := ⟨by rw [hnp, hnv]; rfl⟩
  have hmx1 := Kd.C_max HP.out.r1
  have hmx2 := Kd.C_max HP.out.r2
  clear P hL hb3 hnp hW1 hnv
  go_enter Try.func26, Try.ntmps26
  go_wp2_with (fail)
  rw [← HW1.out]
  refine (HNV.out W1 HP.out.r0).mono ?_
  rintro e w2 ⟨rfl, hB2⟩
  have hb32 := blk_below HB3.out hB2
  have hp1 : w2.cell? ⟨w.heap.size, 1, none⟩ = some (.slice A1 ar.length c1) := (blk_cell hb32 1).trans rfl
  have hp2 : w2.cell? ⟨w.heap.size, 2, none⟩ = some (.slice A2 fs.length c2) := (blk_cell hb32 2).trans rfl
  have HB2 := Aside0.mk (below_then HBw.out HBw.out.size hB2)
  have HB32 := Aside0.mk hb32
  have HP2 := Aside0.mk (HP.out.below hB2)
  clear hB2 hp0 hb32
  cases nv with
  | false =>
    obtain rfl : np = false := by rw [HNP.out]; rfl
    go_wp2_with (fail)
    go_ret
    exact ⟨rfl, HB2.out⟩
  | true =>
    by_cases hf1 : fs.length < 1
    · obtain rfl : np = false := by rw [HNP.out]; simp; omega
      go_wp2_with (fail)
      go_ret
      exact ⟨rfl, HB2.out⟩
    by_cases hf2 : 64 < fs.length
    · obtain rfl : np = false := by rw [HNP.out]; simp; omega
      go_wp2_with (fail)
      go_ret
      exact ⟨rfl, HB2.out⟩
    have HNP2 : Aside0 (np = (ar.all arrayB && fs.all funcB)) := ⟨by rw [HNP.out, decide_eq_true (show 1 ≤ fs.length by omega), decide_eq_true (show fs.length ≤ 64 by omega)]; simp⟩
    clear HNP HNV
    go_wp2_with (fail)
    go_loopw [3] (fun v3 wr => ∃ k : Nat, k ≤ ar.length ∧ v3 = .int .i64 k ∧ Aside0 (np = ((ar.drop k).all arrayB && fs.all funcB)) ∧ Aside0 (Below w2.heap.size w2 wr)) (fun v3 _ => ar.length - (intOf v3).toNat)
    case atStart => exact ⟨0, Nat.zero_le _, rfl, ⟨by rw [List.drop_zero]; exact HNP2.out⟩, ⟨Below.refl _ _⟩⟩
    case round =>
      clear hp1 hp2 HNP2
      obtain ⟨k, hk, rfl, HD, HB⟩ := hrel
      obtain ⟨wo, rfl⟩ : ∃ wo : World, wo = wr := ⟨_, rfl⟩
      by_cases hlt : k < ar.length
      · obtain ⟨ad, rfl, x0, x1⟩ := at_T68 (HP2.out.below HB.out).r1 (k : Int) (by omega) (by omega)
        have HD2 : Aside0 (np = (arrayB (rd_T68 ar (k : Int)) && (ar.drop (k + 1)).all arrayB && fs.all funcB)) := ⟨by rw [HD.out, rd68_drop hlt, List.all_cons]⟩
        generalize rd_T68 ar (k : Int) = x at *
        rw [Int.toNat_natCast] at x0 x1
        have q1 : wo.cell? ⟨w.heap.size, 1, none⟩ = some (.slice (some ad) ar.length c1) := (blk_cell (blk_below HB32.out HB.out) 1).trans rfl
        obtain ⟨nb, hnb⟩ : ∃ nb, nb = isNameB x.f0 := ⟨_, rfl⟩
        have HNC : Aside0 (∀ w : World, Calls Try.prog 50 #[.string x.f0] w fun e w' => e = .returned (.bool nb) ∧ Below w.heap.size w w') := ⟨fun w => by rw [hnb]; exact isName_calls x.f0 w⟩
        have HX : Aside0 (arrayB x = (nb && decide (1 ≤ x.f1) && decide (x.f1 ≤ 4096))) := ⟨by rw [hnb]; rfl⟩
        clear hnb HD
        cases nb with
        | false =>
          obtain rfl : np = false := by rw [HD2.out, HX.out]; rfl
          go_wp2_with (go_at_call 50; refine (HNC.out _).mono ?_; rintro en w5 ⟨rfl, hB5⟩; have HB5 := Aside0.mk (below_then HB.out HB.out.size hB5); have q5 : w5.cell? ⟨w.heap.size, 1, none⟩ = some (.slice (some ad) ar.length c1) := (blk_cell (blk_below HB32.out HB5.out) 1).trans rfl; have y1 := pw_cell_below hB5 x1; clear hB5)
          go_ret
          exact ⟨rfl, below_then HB2.out HB2.out.size HB5.out⟩
        | true =>
          by_cases h1 : x.f1 < 1
          · obtain rfl : np = false := by rw [HD2.out, HX.out, decide_eq_false (show ¬ 1 ≤ x.f1 by omega)]; rfl
            go_wp2_with (go_at_call 50; refine (HNC.out _).mono ?_; rintro en w5 ⟨rfl, hB5⟩; have HB5 := Aside0.mk (below_then HB.out HB.out.size hB5); have q5 : w5.cell? ⟨w.heap.size, 1, none⟩ = some (.slice (some ad) ar.length c1) := (blk_cell (blk_below HB32.out HB5.out) 1).trans rfl; have y1 := pw_cell_below hB5 x1; clear hB5)
            go_ret
            exact ⟨rfl, below_then HB2.out HB2.out.size HB5.out⟩
          by_cases h2 : 4096 < x.f1
          · obtain rfl : np = false := by rw [HD2.out, HX.out, decide_eq_true (show 1 ≤ x.f1 by omega), decide_eq_false (show ¬ x.f1 ≤ 4096 by omega)]; rfl
            go_wp2_with (go_at_call 50; refine (HNC.out _).mono ?_; rintro en w5 ⟨rfl, hB5⟩; have HB5 := Aside0.mk (below_then HB.out HB.out.size hB5); have q5 : w5.cell? ⟨w.heap.size, 1, none⟩ = some (.slice (some ad) ar.length c1) := (blk_cell (blk_below HB32.out HB5.out) 1).trans rfl; have y1 := pw_cell_below hB5 x1; clear hB5)
            go_ret
            exact ⟨rfl, below_then HB2.out HB2.out.size HB5.out⟩
          have HD3 : Aside0 (np = ((ar.drop (k + 1)).all arrayB && fs.all funcB)) := ⟨by rw [HD2.out, HX.out, decide_eq_true (show 1 ≤ x.f1 by omega), decide_eq_true (show x.f1 ≤ 4096 by omega)]; simp⟩
          go_wp2_with (go_at_call 50; refine (HNC.out _).mono ?_; rintro en w5 ⟨rfl, hB5⟩; have HB5 := Aside0.mk (below_then HB.out HB.out.size hB5); have q5 : w5.cell? ⟨w.heap.size, 1, none⟩ = some (.slice (some ad) ar.length c1) := (blk_cell (blk_below HB32.out HB5.out) 1).trans rfl; have y1 := pw_cell_below hB5 x1; clear hB5)
          go_roundw
          case rel => exact ⟨k + 1, hlt, by go_num, HD3, HB5⟩
          case measure => simp [intOf]; omega
      · obtain rfl : k = ar.length := by omega
        have HD2 : Aside0 (np = fs.all funcB) := ⟨by rw [HD.out, List.drop_length]; simp⟩
        have q1 : wo.cell? ⟨w.heap.size, 1, none⟩ = some (.slice A1 ar.length c1) := (blk_cell (blk_below HB32.out HB.out) 1).trans rfl
        have q2 : wo.cell? ⟨w.heap.size, 2, none⟩ = some (.slice A2 fs.length c2) := (blk_cell (blk_below HB32.out HB.out) 2).trans rfl
        clear HD
        go_wp2_with (fail)
        go_loopw [4] (fun v4 wr => ∃ k : Nat, k ≤ fs.length ∧ v4 = .int .i64 k ∧ Aside0 (np = (fs.drop k).all funcB) ∧ Aside0 (Below w2.heap.size w2 wr)) (fun v4 _ => fs.length - (intOf v4).toNat)
        case atStart => exact ⟨0, Nat.zero_le _, rfl, ⟨by rw [List.drop_zero]; exact HD2.out⟩, HB⟩
        case round =>
          clear q1 q2 HD2 HB
          obtain ⟨k, hk, rfl, HD, HB⟩ := hrel
          obtain ⟨wi, rfl⟩ : ∃ wi : World, wi = wr := ⟨_, rfl⟩
          by_cases hlt : k < fs.length
          · obtain ⟨ad, B1, d1, B2, d2, B4, d4, rfl, y0, y1, y2, y3, y4, m1, hC1, m2, hC2, m4, hC4⟩ := at_T40 HP2.out.r2 (k : Int) (by omega) (by omega)
            have HD2 : Aside0 (np = (funcB (rd_T40 fs (k : Int)) && (fs.drop (k + 1)).all funcB)) := ⟨by rw [HD.out, rd40_drop hlt, List.all_cons]⟩
            obtain ⟨n1, n2⟩ := HL.out.own (k : Int) ⟨by omega, by omega⟩
            generalize rd_T40 fs (k : Int) = x at *
            rw [Int.toNat_natCast] at y0 y1 y2 y3 y4
            have x0 := pw_cell_below HB.out y0
            have x1 := pw_cell_below HB.out y1
            have x2 := pw_cell_below HB.out y2
            have x3 := pw_cell_below HB.out y3
            have x4 := pw_cell_below HB.out y4
            have q2 : wi.cell? ⟨w.heap.size, 2, none⟩ = some (.slice (some ad) fs.length c2) := (blk_cell (blk_below HB32.out HB.out) 2).trans rfl
            have HBa := Aside0.mk (below_alloc HB.out (.cells #[.string x.f0, .slice B1 x.f1.length d1, .slice B2 x.f2.length d2, .bool x.f3, .slice B4 x.f4.length d4] 40))
            have HBK1 := Aside0.mk (blk_new wi (.cells #[.string x.f0, .slice B1 x.f1.length d1, .slice B2 x.f2.length d2, .bool x.f3, .slice B4 x.f4.length d4] 40))
            obtain ⟨nb, hnb⟩ : ∃ nb, nb = isNameB x.f0 := ⟨_, rfl⟩
            obtain ⟨b1, hb1⟩ : ∃ b1, b1 = x.f1.all isNameB := ⟨_, rfl⟩
            obtain ⟨b2, hb2⟩ : ∃ b2, b2 = x.f2.all isNameB := ⟨_, rfl⟩
            obtain ⟨b4, hb4⟩ : ∃ b4, b4 = x.f4.all (rightS 24) := ⟨_, rfl⟩
            have HNC : Aside0 (∀ w : World, Calls Try.prog 50 #[.string x.f0] w fun e w' => e = .returned (.bool nb) ∧ Below w.heap.size w w') := ⟨fun w => by rw [hnb]; exact isName_calls x.f0 w⟩
            have H1 : Aside0 (∀ w : World, Kd.C Kd.string w B1 x.f1.length x.f1 → Calls Try.prog 49 #[.slice B1 x.f1.length d1] w fun e w' => e = .returned (.bool b1) ∧ Below w.heap.size w w') := ⟨fun w h => by rw [hb1]; exact names_calls B1 d1 x.f1 w h m1 (by omega)⟩
            have H2 : Aside0 (∀ w : World, Kd.C Kd.string w B2 x.f2.length x.f2 → Calls Try.prog 49 #[.slice B2 x.f2.length d2] w fun e w' => e = .returned (.bool b2) ∧ Below w.heap.size w w') := ⟨fun w h => by rw [hb2]; exact names_calls B2 d2 x.f2 w h m2 (by omega)⟩
            have H4 : Aside0 (∀ w : World, k33.C w B4 x.f4.length x.f4 → Calls Try.prog 51 #[.slice B4 x.f4.length d4, .int .i64 1] w fun e w' => e = .returned (.bool b4) ∧ Below w.heap.size w w') := ⟨fun w h => by rw [hb4]; exact stmts_calls1 B4 d4 x.f4 w h m4⟩
            have HX : Aside0 (funcB x = (nb && decide (x.f1.length ≤ 6) && b1 && b2 && b4)) := ⟨by rw [hnb, hb1, hb2, hb4]; rfl⟩
            have HC1 := Aside0.mk hC1
            have HC2 := Aside0.mk hC2
            have HC4 := Aside0.mk hC4
            have m3 := Kd.C_max hC1
            clear hnb hb1 hb2 hb4 HD y0 y1 y2 y3 y4 hC1 hC2 hC4 m1 m2 m4 n1 n2
            cases nb with
            | false =>
              obtain rfl : np = false := by rw [HD2.out, HX.out]; rfl
              go_wp2_with (first | (go_at_call 50; refine (HNC.out _).mono ?_; rintro en w5 ⟨rfl, hB5⟩; have HB5 := Aside0.mk (below_then HBa.out HBa.out.size hB5); have HBK5 := Aside0.mk (blk_below HBK1.out hB5); have e0 : w5.cell? ⟨wi.heap.size, 0, none⟩ = some (.string x.f0) := (blk_cell HBK5.out 0).trans rfl; have e1 : w5.cell? ⟨wi.heap.size, 1, none⟩ = some (.slice B1 x.f1.length d1) := (blk_cell HBK5.out 1).trans rfl; have e2 : w5.cell? ⟨wi.heap.size, 2, none⟩ = some (.slice B2 x.f2.length d2) := (blk_cell HBK5.out 2).trans rfl; have e3 : w5.cell? ⟨wi.heap.size, 3, none⟩ = some (.bool x.f3) := (blk_cell HBK5.out 3).trans rfl; have e4 : w5.cell? ⟨wi.heap.size, 4, none⟩ = some (.slice B4 x.f4.length d4) := (blk_cell HBK5.out 4).trans rfl; clear hB5) | (go_at_call 49; (with_reducible refine (H1.out _ ?cc).mono ?_); (case cc => exact Kd.C_below HC1.out HB5.out); rintro en w6 ⟨rfl, hB6⟩; have HB6 := Aside0.mk (below_then HB5.out HB5.out.size hB6); have HBK6 := Aside0.mk (blk_below HBK5.out hB6); have g0 : w6.cell? ⟨wi.heap.size, 0, none⟩ = some (.string x.f0) := (blk_cell HBK6.out 0).trans rfl; have g1 : w6.cell? ⟨wi.heap.size, 1, none⟩ = some (.slice B1 x.f1.length d1) := (blk_cell HBK6.out 1).trans rfl; have g2 : w6.cell? ⟨wi.heap.size, 2, none⟩ = some (.slice B2 x.f2.length d2) := (blk_cell HBK6.out 2).trans rfl; have g3 : w6.cell? ⟨wi.heap.size, 3, none⟩ = some (.bool x.f3) := (blk_cell HBK6.out 3).trans rfl; have g4 : w6.cell? ⟨wi.heap.size, 4, none⟩ = some (.slice B4 x.f4.length d4) := (blk_cell HBK6.out 4).trans rfl; clear hB6) | (go_at_call 49; (with_reducible refine (H2.out _ ?cc).mono ?_); (case cc => exact Kd.C_below HC2.out HB6.out); rintro en w7 ⟨rfl, hB7⟩; have HB7 := Aside0.mk (below_then HB6.out HB6.out.size hB7); have HBK7 := Aside0.mk (blk_below HBK6.out hB7); have i0 : w7.cell? ⟨wi.heap.size, 0, none⟩ = some (.string x.f0) := (blk_cell HBK7.out 0).trans rfl; have i1 : w7.cell? ⟨wi.heap.size, 1, none⟩ = some (.slice B1 x.f1.length d1) := (blk_cell HBK7.out 1).trans rfl; have i2 : w7.cell? ⟨wi.heap.size, 2, none⟩ = some (.slice B2 x.f2.length d2) := (blk_cell HBK7.out 2).trans rfl; have i3 : w7.cell? ⟨wi.heap.size, 3, none⟩ = some (.bool x.f3) := (blk_cell HBK7.out 3).trans rfl; have i4 : w7.cell? ⟨wi.heap.size, 4, none⟩ = some (.slice B4 x.f4.length d4) := (blk_cell HBK7.out 4).trans rfl; clear hB7) | (go_at_call 51; (with_reducible refine (H4.out _ ?cc).mono ?_); (case cc => exact Kd.C_below HC4.out HB7.out); rintro en w8 ⟨rfl, hB8⟩; have HB8 := Aside0.mk (below_then HB7.out HB7.out.size hB8); have HBK8 := Aside0.mk (blk_below HBK7.out hB8); have j0 : w8.cell? ⟨wi.heap.size, 0, none⟩ = some (.string x.f0) := (blk_cell HBK8.out 0).trans rfl; have j1 : w8.cell? ⟨wi.heap.size, 1, none⟩ = some (.slice B1 x.f1.length d1) := (blk_cell HBK8.out 1).trans rfl; have j2 : w8.cell? ⟨wi.heap.size, 2, none⟩ = some (.slice B2 x.f2.length d2) := (blk_cell HBK8.out 2).trans rfl; have j3 : w8.cell? ⟨wi.heap.size, 3, none⟩ = some (.bool x.f3) := (blk_cell HBK8.out 3).trans rfl; have j4 : w8.cell? ⟨wi.heap.size, 4, none⟩ = some (.slice B4 x.f4.length d4) := (blk_cell HBK8.out 4).trans rfl; clear hB8))
              go_ret
              exact ⟨rfl, below_then HB2.out HB2.out.size HB5.out⟩
            | true =>
              by_cases h6 : 6 < x.f1.length
              · obtain rfl : np = false := by rw [HD2.out, HX.out, decide_eq_false (show ¬ x.f1.length ≤ 6 by omega)]; rfl
                go_wp2_with (first | (go_at_call 50; refine (HNC.out _).mono ?_; rintro en w5 ⟨rfl, hB5⟩; have HB5 := Aside0.mk (below_then HBa.out HBa.out.size hB5); have HBK5 := Aside0.mk (blk_below HBK1.out hB5); have e0 : w5.cell? ⟨wi.heap.size, 0, none⟩ = some (.string x.f0) := (blk_cell HBK5.out 0).trans rfl; have e1 : w5.cell? ⟨wi.heap.size, 1, none⟩ = some (.slice B1 x.f1.length d1) := (blk_cell HBK5.out 1).trans rfl; have e2 : w5.cell? ⟨wi.heap.size, 2, none⟩ = some (.slice B2 x.f2.length d2) := (blk_cell HBK5.out 2).trans rfl; have e3 : w5.cell? ⟨wi.heap.size, 3, none⟩ = some (.bool x.f3) := (blk_cell HBK5.out 3).trans rfl; have e4 : w5.cell? ⟨wi.heap.size, 4, none⟩ = some (.slice B4 x.f4.length d4) := (blk_cell HBK5.out 4).trans rfl; clear hB5) | (go_at_call 49; (with_reducible refine (H1.out _ ?cc).mono ?_); (case cc => exact Kd.C_below HC1.out HB5.out); rintro en w6 ⟨rfl, hB6⟩; have HB6 := Aside0.mk (below_then HB5.out HB5.out.size hB6); have HBK6 := Aside0.mk (blk_below HBK5.out hB6); have g0 : w6.cell? ⟨wi.heap.size, 0, none⟩ = some (.string x.f0) := (blk_cell HBK6.out 0).trans rfl; have g1 : w6.cell? ⟨wi.heap.size, 1, none⟩ = some (.slice B1 x.f1.length d1) := (blk_cell HBK6.out 1).trans rfl; have g2 : w6.cell? ⟨wi.heap.size, 2, none⟩ = some (.slice B2 x.f2.length d2) := (blk_cell HBK6.out 2).trans rfl; have g3 : w6.cell? ⟨wi.heap.size, 3, none⟩ = some (.bool x.f3) := (blk_cell HBK6.out 3).trans rfl; have g4 : w6.cell? ⟨wi.heap.size, 4, none⟩ = some (.slice B4 x.f4.length d4) := (blk_cell HBK6.out 4).trans rfl; clear hB6) | (go_at_call 49; (with_reducible refine (H2.out _ ?cc).mono ?_); (case cc => exact Kd.C_below HC2.out HB6.out); rintro en w7 ⟨rfl, hB7⟩; have HB7 := Aside0.mk (below_then HB6.out HB6.out.size hB7); have HBK7 := Aside0.mk (blk_below HBK6.out hB7); have i0 : w7.cell? ⟨wi.heap.size, 0, none⟩ = some (.string x.f0) := (blk_cell HBK7.out 0).trans rfl; have i1 : w7.cell? ⟨wi.heap.size, 1, none⟩ = some (.slice B1 x.f1.length d1) := (blk_cell HBK7.out 1).trans rfl; have i2 : w7.cell? ⟨wi.heap.size, 2, none⟩ = some (.slice B2 x.f2.length d2) := (blk_cell HBK7.out 2).trans rfl; have i3 : w7.cell? ⟨wi.heap.size, 3, none⟩ = some (.bool x.f3) := (blk_cell HBK7.out 3).trans rfl; have i4 : w7.cell? ⟨wi.heap.size, 4, none⟩ = some (.slice B4 x.f4.length d4) := (blk_cell HBK7.out 4).trans rfl; clear hB7) | (go_at_call 51; (with_reducible refine (H4.out _ ?cc).mono ?_); (case cc => exact Kd.C_below HC4.out HB7.out); rintro en w8 ⟨rfl, hB8⟩; have HB8 := Aside0.mk (below_then HB7.out HB7.out.size hB8); have HBK8 := Aside0.mk (blk_below HBK7.out hB8); have j0 : w8.cell? ⟨wi.heap.size, 0, none⟩ = some (.string x.f0) := (blk_cell HBK8.out 0).trans rfl; have j1 : w8.cell? ⟨wi.heap.size, 1, none⟩ = some (.slice B1 x.f1.length d1) := (blk_cell HBK8.out 1).trans rfl; have j2 : w8.cell? ⟨wi.heap.size, 2, none⟩ = some (.slice B2 x.f2.length d2) := (blk_cell HBK8.out 2).trans rfl; have j3 : w8.cell? ⟨wi.heap.size, 3, none⟩ = some (.bool x.f3) := (blk_cell HBK8.out 3).trans rfl; have j4 : w8.cell? ⟨wi.heap.size, 4, none⟩ = some (.slice B4 x.f4.length d4) := (blk_cell HBK8.out 4).trans rfl; clear hB8))
                go_ret
                exact ⟨rfl, below_then HB2.out HB2.out.size HB5.out⟩
              have HX2 : Aside0 (funcB x = (b1 && b2 && b4)) := ⟨by rw [HX.out, decide_eq_true (show x.f1.length ≤ 6 by omega)]; simp⟩
              clear HX
              cases b1 with
              | false =>
                obtain rfl : np = false := by rw [HD2.out, HX2.out]; rfl
                go_wp2_with (first | (go_at_call 50; refine (HNC.out _).mono ?_; rintro en w5 ⟨rfl, hB5⟩; have HB5 := Aside0.mk (below_then HBa.out HBa.out.size hB5); have HBK5 := Aside0.mk (blk_below HBK1.out hB5); have e0 : w5.cell? ⟨wi.heap.size, 0, none⟩ = some (.string x.f0) := (blk_cell HBK5.out 0).trans rfl; have e1 : w5.cell? ⟨wi.heap.size, 1, none⟩ = some (.slice B1 x.f1.length d1) := (blk_cell HBK5.out 1).trans rfl; have e2 : w5.cell? ⟨wi.heap.size, 2, none⟩ = some (.slice B2 x.f2.length d2) := (blk_cell HBK5.out 2).trans rfl; have e3 : w5.cell? ⟨wi.heap.size, 3, none⟩ = some (.bool x.f3) := (blk_cell HBK5.out 3).trans rfl; have e4 : w5.cell? ⟨wi.heap.size, 4, none⟩ = some (.slice B4 x.f4.length d4) := (blk_cell HBK5.out 4).trans rfl; clear hB5) | (go_at_call 49; (with_reducible refine (H1.out _ ?cc).mono ?_); (case cc => exact Kd.C_below HC1.out HB5.out); rintro en w6 ⟨rfl, hB6⟩; have HB6 := Aside0.mk (below_then HB5.out HB5.out.size hB6); have HBK6 := Aside0.mk (blk_below HBK5.out hB6); have g0 : w6.cell? ⟨wi.heap.size, 0, none⟩ = some (.string x.f0) := (blk_cell HBK6.out 0).trans rfl; have g1 : w6.cell? ⟨wi.heap.size, 1, none⟩ = some (.slice B1 x.f1.length d1) := (blk_cell HBK6.out 1).trans rfl; have g2 : w6.cell? ⟨wi.heap.size, 2, none⟩ = some (.slice B2 x.f2.length d2) := (blk_cell HBK6.out 2).trans rfl; have g3 : w6.cell? ⟨wi.heap.size, 3, none⟩ = some (.bool x.f3) := (blk_cell HBK6.out 3).trans rfl; have g4 : w6.cell? ⟨wi.heap.size, 4, none⟩ = some (.slice B4 x.f4.length d4) := (blk_cell HBK6.out 4).trans rfl; clear hB6) | (go_at_call 49; (with_reducible refine (H2.out _ ?cc).mono ?_); (case cc => exact Kd.C_below HC2.out HB6.out); rintro en w7 ⟨rfl, hB7⟩; have HB7 := Aside0.mk (below_then HB6.out HB6.out.size hB7); have HBK7 := Aside0.mk (blk_below HBK6.out hB7); have i0 : w7.cell? ⟨wi.heap.size, 0, none⟩ = some (.string x.f0) := (blk_cell HBK7.out 0).trans rfl; have i1 : w7.cell? ⟨wi.heap.size, 1, none⟩ = some (.slice B1 x.f1.length d1) := (blk_cell HBK7.out 1).trans rfl; have i2 : w7.cell? ⟨wi.heap.size, 2, none⟩ = some (.slice B2 x.f2.length d2) := (blk_cell HBK7.out 2).trans rfl; have i3 : w7.cell? ⟨wi.heap.size, 3, none⟩ = some (.bool x.f3) := (blk_cell HBK7.out 3).trans rfl; have i4 : w7.cell? ⟨wi.heap.size, 4, none⟩ = some (.slice B4 x.f4.length d4) := (blk_cell HBK7.out 4).trans rfl; clear hB7) | (go_at_call 51; (with_reducible refine (H4.out _ ?cc).mono ?_); (case cc => exact Kd.C_below HC4.out HB7.out); rintro en w8 ⟨rfl, hB8⟩; have HB8 := Aside0.mk (below_then HB7.out HB7.out.size hB8); have HBK8 := Aside0.mk (blk_below HBK7.out hB8); have j0 : w8.cell? ⟨wi.heap.size, 0, none⟩ = some (.string x.f0) := (blk_cell HBK8.out 0).trans rfl; have j1 : w8.cell? ⟨wi.heap.size, 1, none⟩ = some (.slice B1 x.f1.length d1) := (blk_cell HBK8.out 1).trans rfl; have j2 : w8.cell? ⟨wi.heap.size, 2, none⟩ = some (.slice B2 x.f2.length d2) := (blk_cell HBK8.out 2).trans rfl; have j3 : w8.cell? ⟨wi.heap.size, 3, none⟩ = some (.bool x.f3) := (blk_cell HBK8.out 3).trans rfl; have j4 : w8.cell? ⟨wi.heap.size, 4, none⟩ = some (.slice B4 x.f4.length d4) := (blk_cell HBK8.out 4).trans rfl; clear hB8))
                go_ret
                exact ⟨rfl, below_then HB2.out HB2.out.size HB6.out⟩
              | true =>
                cases b2 with
                | false =>
                  obtain rfl : np = false := by rw [HD2.out, HX2.out]; rfl
                  go_wp2_with (first | (go_at_call 50; refine (HNC.out _).mono ?_; rintro en w5 ⟨rfl, hB5⟩; have HB5 := Aside0.mk (below_then HBa.out HBa.out.size hB5); have HBK5 := Aside0.mk (blk_below HBK1.out hB5); have e0 : w5.cell? ⟨wi.heap.size, 0, none⟩ = some (.string x.f0) := (blk_cell HBK5.out 0).trans rfl; have e1 : w5.cell? ⟨wi.heap.size, 1, none⟩ = some (.slice B1 x.f1.length d1) := (blk_cell HBK5.out 1).trans rfl; have e2 : w5.cell? ⟨wi.heap.size, 2, none⟩ = some (.slice B2 x.f2.length d2) := (blk_cell HBK5.out 2).trans rfl; have e3 : w5.cell? ⟨wi.heap.size, 3, none⟩ = some (.bool x.f3) := (blk_cell HBK5.out 3).trans rfl; have e4 : w5.cell? ⟨wi.heap.size, 4, none⟩ = some (.slice B4 x.f4.length d4) := (blk_cell HBK5.out 4).trans rfl; clear hB5) | (go_at_call 49; (with_reducible refine (H1.out _ ?cc).mono ?_); (case cc => exact Kd.C_below HC1.out HB5.out); rintro en w6 ⟨rfl, hB6⟩; have HB6 := Aside0.mk (below_then HB5.out HB5.out.size hB6); have HBK6 := Aside0.mk (blk_below HBK5.out hB6); have g0 : w6.cell? ⟨wi.heap.size, 0, none⟩ = some (.string x.f0) := (blk_cell HBK6.out 0).trans rfl; have g1 : w6.cell? ⟨wi.heap.size, 1, none⟩ = some (.slice B1 x.f1.length d1) := (blk_cell HBK6.out 1).trans rfl; have g2 : w6.cell? ⟨wi.heap.size, 2, none⟩ = some (.slice B2 x.f2.length d2) := (blk_cell HBK6.out 2).trans rfl; have g3 : w6.cell? ⟨wi.heap.size, 3, none⟩ = some (.bool x.f3) := (blk_cell HBK6.out 3).trans rfl; have g4 : w6.cell? ⟨wi.heap.size, 4, none⟩ = some (.slice B4 x.f4.length d4) := (blk_cell HBK6.out 4).trans rfl; clear hB6) | (go_at_call 49; (with_reducible refine (H2.out _ ?cc).mono ?_); (case cc => exact Kd.C_below HC2.out HB6.out); rintro en w7 ⟨rfl, hB7⟩; have HB7 := Aside0.mk (below_then HB6.out HB6.out.size hB7); have HBK7 := Aside0.mk (blk_below HBK6.out hB7); have i0 : w7.cell? ⟨wi.heap.size, 0, none⟩ = some (.string x.f0) := (blk_cell HBK7.out 0).trans rfl; have i1 : w7.cell? ⟨wi.heap.size, 1, none⟩ = some (.slice B1 x.f1.length d1) := (blk_cell HBK7.out 1).trans rfl; have i2 : w7.cell? ⟨wi.heap.size, 2, none⟩ = some (.slice B2 x.f2.length d2) := (blk_cell HBK7.out 2).trans rfl; have i3 : w7.cell? ⟨wi.heap.size, 3, none⟩ = some (.bool x.f3) := (blk_cell HBK7.out 3).trans rfl; have i4 : w7.cell? ⟨wi.heap.size, 4, none⟩ = some (.slice B4 x.f4.length d4) := (blk_cell HBK7.out 4).trans rfl; clear hB7) | (go_at_call 51; (with_reducible refine (H4.out _ ?cc).mono ?_); (case cc => exact Kd.C_below HC4.out HB7.out); rintro en w8 ⟨rfl, hB8⟩; have HB8 := Aside0.mk (below_then HB7.out HB7.out.size hB8); have HBK8 := Aside0.mk (blk_below HBK7.out hB8); have j0 : w8.cell? ⟨wi.heap.size, 0, none⟩ = some (.string x.f0) := (blk_cell HBK8.out 0).trans rfl; have j1 : w8.cell? ⟨wi.heap.size, 1, none⟩ = some (.slice B1 x.f1.length d1) := (blk_cell HBK8.out 1).trans rfl; have j2 : w8.cell? ⟨wi.heap.size, 2, none⟩ = some (.slice B2 x.f2.length d2) := (blk_cell HBK8.out 2).trans rfl; have j3 : w8.cell? ⟨wi.heap.size, 3, none⟩ = some (.bool x.f3) := (blk_cell HBK8.out 3).trans rfl; have j4 : w8.cell? ⟨wi.heap.size, 4, none⟩ = some (.slice B4 x.f4.length d4) := (blk_cell HBK8.out 4).trans rfl; clear hB8))
                  go_ret
                  exact ⟨rfl, below_then HB2.out HB2.out.size HB7.out⟩
                | true =>
                  cases b4 with
                  | false =>
                    obtain rfl : np = false := by rw [HD2.out, HX2.out]; rfl
                    go_wp2_with (first | (go_at_call 50; refine (HNC.out _).mono ?_; rintro en w5 ⟨rfl, hB5⟩; have HB5 := Aside0.mk (below_then HBa.out HBa.out.size hB5); have HBK5 := Aside0.mk (blk_below HBK1.out hB5); have e0 : w5.cell? ⟨wi.heap.size, 0, none⟩ = some (.string x.f0) := (blk_cell HBK5.out 0).trans rfl; have e1 : w5.cell? ⟨wi.heap.size, 1, none⟩ = some (.slice B1 x.f1.length d1) := (blk_cell HBK5.out 1).trans rfl; have e2 : w5.cell? ⟨wi.heap.size, 2, none⟩ = some (.slice B2 x.f2.length d2) := (blk_cell HBK5.out 2).trans rfl; have e3 : w5.cell? ⟨wi.heap.size, 3, none⟩ = some (.bool x.f3) := (blk_cell HBK5.out 3).trans rfl; have e4 : w5.cell? ⟨wi.heap.size, 4, none⟩ = some (.slice B4 x.f4.length d4) := (blk_cell HBK5.out 4).trans rfl; clear hB5) | (go_at_call 49; (with_reducible refine (H1.out _ ?cc).mono ?_); (case cc => exact Kd.C_below HC1.out HB5.out); rintro en w6 ⟨rfl, hB6⟩; have HB6 := Aside0.mk (below_then HB5.out HB5.out.size hB6); have HBK6 := Aside0.mk (blk_below HBK5.out hB6); have g0 : w6.cell? ⟨wi.heap.size, 0, none⟩ = some (.string x.f0) := (blk_cell HBK6.out 0).trans rfl; have g1 : w6.cell? ⟨wi.heap.size, 1, none⟩ = some (.slice B1 x.f1.length d1) := (blk_cell HBK6.out 1).trans rfl; have g2 : w6.cell? ⟨wi.heap.size, 2, none⟩ = some (.slice B2 x.f2.length d2) := (blk_cell HBK6.out 2).trans rfl; have g3 : w6.cell? ⟨wi.heap.size, 3, none⟩ = some (.bool x.f3) := (blk_cell HBK6.out 3).trans rfl; have g4 : w6.cell? ⟨wi.heap.size, 4, none⟩ = some (.slice B4 x.f4.length d4) := (blk_cell HBK6.out 4).trans rfl; clear hB6) | (go_at_call 49; (with_reducible refine (H2.out _ ?cc).mono ?_); (case cc => exact Kd.C_below HC2.out HB6.out); rintro en w7 ⟨rfl, hB7⟩; have HB7 := Aside0.mk (below_then HB6.out HB6.out.size hB7); have HBK7 := Aside0.mk (blk_below HBK6.out hB7); have i0 : w7.cell? ⟨wi.heap.size, 0, none⟩ = some (.string x.f0) := (blk_cell HBK7.out 0).trans rfl; have i1 : w7.cell? ⟨wi.heap.size, 1, none⟩ = some (.slice B1 x.f1.length d1) := (blk_cell HBK7.out 1).trans rfl; have i2 : w7.cell? ⟨wi.heap.size, 2, none⟩ = some (.slice B2 x.f2.length d2) := (blk_cell HBK7.out 2).trans rfl; have i3 : w7.cell? ⟨wi.heap.size, 3, none⟩ = some (.bool x.f3) := (blk_cell HBK7.out 3).trans rfl; have i4 : w7.cell? ⟨wi.heap.size, 4, none⟩ = some (.slice B4 x.f4.length d4) := (blk_cell HBK7.out 4).trans rfl; clear hB7) | (go_at_call 51; (with_reducible refine (H4.out _ ?cc).mono ?_); (case cc => exact Kd.C_below HC4.out HB7.out); rintro en w8 ⟨rfl, hB8⟩; have HB8 := Aside0.mk (below_then HB7.out HB7.out.size hB8); have HBK8 := Aside0.mk (blk_below HBK7.out hB8); have j0 : w8.cell? ⟨wi.heap.size, 0, none⟩ = some (.string x.f0) := (blk_cell HBK8.out 0).trans rfl; have j1 : w8.cell? ⟨wi.heap.size, 1, none⟩ = some (.slice B1 x.f1.length d1) := (blk_cell HBK8.out 1).trans rfl; have j2 : w8.cell? ⟨wi.heap.size, 2, none⟩ = some (.slice B2 x.f2.length d2) := (blk_cell HBK8.out 2).trans rfl; have j3 : w8.cell? ⟨wi.heap.size, 3, none⟩ = some (.bool x.f3) := (blk_cell HBK8.out 3).trans rfl; have j4 : w8.cell? ⟨wi.heap.size, 4, none⟩ = some (.slice B4 x.f4.length d4) := (blk_cell HBK8.out 4).trans rfl; clear hB8))
                    go_ret
                    exact ⟨rfl, below_then HB2.out HB2.out.size HB8.out⟩
                  | true =>
                    have HD3 : Aside0 (np = (fs.drop (k + 1)).all funcB) := ⟨by rw [HD2.out, HX2.out]; simp⟩
                    clear HD2 HX2
                    go_wp2_with (first | (go_at_call 50; refine (HNC.out _).mono ?_; rintro en w5 ⟨rfl, hB5⟩; have HB5 := Aside0.mk (below_then HBa.out HBa.out.size hB5); have HBK5 := Aside0.mk (blk_below HBK1.out hB5); have e0 : w5.cell? ⟨wi.heap.size, 0, none⟩ = some (.string x.f0) := (blk_cell HBK5.out 0).trans rfl; have e1 : w5.cell? ⟨wi.heap.size, 1, none⟩ = some (.slice B1 x.f1.length d1) := (blk_cell HBK5.out 1).trans rfl; have e2 : w5.cell? ⟨wi.heap.size, 2, none⟩ = some (.slice B2 x.f2.length d2) := (blk_cell HBK5.out 2).trans rfl; have e3 : w5.cell? ⟨wi.heap.size, 3, none⟩ = some (.bool x.f3) := (blk_cell HBK5.out 3).trans rfl; have e4 : w5.cell? ⟨wi.heap.size, 4, none⟩ = some (.slice B4 x.f4.length d4) := (blk_cell HBK5.out 4).trans rfl; clear hB5) | (go_at_call 49; (with_reducible refine (H1.out _ ?cc).mono ?_); (case cc => exact Kd.C_below HC1.out HB5.out); rintro en w6 ⟨rfl, hB6⟩; have HB6 := Aside0.mk (below_then HB5.out HB5.out.size hB6); have HBK6 := Aside0.mk (blk_below HBK5.out hB6); have g0 : w6.cell? ⟨wi.heap.size, 0, none⟩ = some (.string x.f0) := (blk_cell HBK6.out 0).trans rfl; have g1 : w6.cell? ⟨wi.heap.size, 1, none⟩ = some (.slice B1 x.f1.length d1) := (blk_cell HBK6.out 1).trans rfl; have g2 : w6.cell? ⟨wi.heap.size, 2, none⟩ = some (.slice B2 x.f2.length d2) := (blk_cell HBK6.out 2).trans rfl; have g3 : w6.cell? ⟨wi.heap.size, 3, none⟩ = some (.bool x.f3) := (blk_cell HBK6.out 3).trans rfl; have g4 : w6.cell? ⟨wi.heap.size, 4, none⟩ = some (.slice B4 x.f4.length d4) := (blk_cell HBK6.out 4).trans rfl; clear hB6) | (go_at_call 49; (with_reducible refine (H2.out _ ?cc).mono ?_); (case cc => exact Kd.C_below HC2.out HB6.out); rintro en w7 ⟨rfl, hB7⟩; have HB7 := Aside0.mk (below_then HB6.out HB6.out.size hB7); have HBK7 := Aside0.mk (blk_below HBK6.out hB7); have i0 : w7.cell? ⟨wi.heap.size, 0, none⟩ = some (.string x.f0) := (blk_cell HBK7.out 0).trans rfl; have i1 : w7.cell? ⟨wi.heap.size, 1, none⟩ = some (.slice B1 x.f1.length d1) := (blk_cell HBK7.out 1).trans rfl; have i2 : w7.cell? ⟨wi.heap.size, 2, none⟩ = some (.slice B2 x.f2.length d2) := (blk_cell HBK7.out 2).trans rfl; have i3 : w7.cell? ⟨wi.heap.size, 3, none⟩ = some (.bool x.f3) := (blk_cell HBK7.out 3).trans rfl; have i4 : w7.cell? ⟨wi.heap.size, 4, none⟩ = some (.slice B4 x.f4.length d4) := (blk_cell HBK7.out 4).trans rfl; clear hB7) | (go_at_call 51; (with_reducible refine (H4.out _ ?cc).mono ?_); (case cc => exact Kd.C_below HC4.out HB7.out); rintro en w8 ⟨rfl, hB8⟩; have HB8 := Aside0.mk (below_then HB7.out HB7.out.size hB8); have HBK8 := Aside0.mk (blk_below HBK7.out hB8); have j0 : w8.cell? ⟨wi.heap.size, 0, none⟩ = some (.string x.f0) := (blk_cell HBK8.out 0).trans rfl; have j1 : w8.cell? ⟨wi.heap.size, 1, none⟩ = some (.slice B1 x.f1.length d1) := (blk_cell HBK8.out 1).trans rfl; have j2 : w8.cell? ⟨wi.heap.size, 2, none⟩ = some (.slice B2 x.f2.length d2) := (blk_cell HBK8.out 2).trans rfl; have j3 : w8.cell? ⟨wi.heap.size, 3, none⟩ = some (.bool x.f3) := (blk_cell HBK8.out 3).trans rfl; have j4 : w8.cell? ⟨wi.heap.size, 4, none⟩ = some (.slice B4 x.f4.length d4) := (blk_cell HBK8.out 4).trans rfl; clear hB8))
                    go_roundw
                    case rel => exact ⟨k + 1, hlt, by go_num, HD3, HB8⟩
                    case measure => simp [intOf]; omega
          · obtain rfl : k = fs.length := by omega
            obtain rfl : np = true := by rw [HD.out, List.drop_length]; rfl
            have q2 : wi.cell? ⟨w.heap.size, 2, none⟩ = some (.slice A2 fs.length c2) := (blk_cell (blk_below HB32.out HB.out) 2).trans rfl
            go_wp2_with (fail)
            go_ret
            exact ⟨rfl, below_then HB2.out HB2.out.size HB.out⟩
end Go.Proofs.Ytdpncghnlkgkdaa.H
set_option linter.unusedVariables false
set_option linter.unusedSimpArgs false
namespace Go.Proofs.Ytdpncghnlkgkdaa.G
open Go.RowKit Go.Proofs.YtdpncghnlkgkdaaW.PrintWords Go.Proofs.YtdpncghnlkgkdaaW.PrintLast Go.Proofs.YtdpncghnlkgkdaaW.PrintMore
open H
def seedcornref14_Right.f (vs : List ByteArray) (ar : List S68) (fs : List S40) : Option Bool := if Lens vs ar fs then some (rightP vs ar fs) else none
theorem seedcornref14_Right.ok {vs : List ByteArray} {ar : List S68} {fs : List S40} (h : Lens vs ar fs) : seedcornref14_Right.f vs ar fs = some (rightP vs ar fs) := if_pos h
theorem seedcornref14_Right.calls (A0 : Option Addr) (c0 : Nat) (vs : List ByteArray) (A1 : Option Addr) (c1 : Nat) (ar : List S68) (A2 : Option Addr) (c2 : Nat) (fs : List S40) (r : Bool) (w : World) (hr0 : Kd.C Kd.string w A0 vs.length vs) (hc0 : vs.length ≤ c0) (hr1 : Kd.C k68 w A1 ar.length ar) (hc1 : ar.length ≤ c1) (hr2 : Kd.C k40 w A2 fs.length fs) (hc2 : fs.length ≤ c2) (h : seedcornref14_Right.f vs ar fs = some r) :
    Calls Try.prog 26 #[.agg #[.slice A0 vs.length c0, .slice A1 ar.length c1, .slice A2 fs.length c2]] w fun e w' => e = .returned (.bool r) ∧ Below w.heap.size w w' := by
  by_cases hk : Lens vs ar fs
  · rw [seedcornref14_Right.ok hk] at h
    injection h with h
    subst h
    exact right_calls _ _ _ _ _ _ _ _ _ w ⟨hr0, hr1, hr2, hc0, hc1, hc2⟩ hk
  · rw [show seedcornref14_Right.f vs ar fs = none from if_neg hk] at h
    cases h
end Go.Proofs.Ytdpncghnlkgkdaa.G

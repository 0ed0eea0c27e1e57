/- The law GraphCircles, walked: it tells true. Condition: the rows lie in memory. -/
import Derived.Test.YtdknnekkbhpjlaaPRf
import Derived.Test.YtdknnekkbhpjlaaHOrder
import Derived.Test.YtdknnekkbhpjlaaHAwake
set_option linter.unusedVariables false
set_option linter.unusedSimpArgs false
namespace Go.Proofs.Ytdknnekkbhpjlaa.H
open Go.RowKit Go.Proofs.YtdknnekkbhpjlaaW.PrintWords Go.Proofs.YtdknnekkbhpjlaaW.PrintLast Go.Proofs.YtdknnekkbhpjlaaW.PrintMore Go.Proofs.Ytdknnekkbhpjlaa.G

/-- What Circle and Order tell. -/
theorem circ_cases (needs : List (List Int)) : (circleP needs = [] ∧ (orderP needs).2 ≠ 11) ∨ (∃ x r, circleP needs = x :: r ∧ (orderP needs).2 = 11 ∧ Ring needs (circleP needs) ∧ rightB needs = true) := by
  unfold orderP levelsP
  cases h : rightB needs with
  | false =>
    left
    unfold circleP
    rw [h]
    simp
  | true =>
    have hc := circle_ring h
    by_cases hct : cnt (hts needs) needs.length < needs.length
    · right
      rw [if_pos hct] at hc
      have hne := hc.ne
      cases e : circleP needs with
      | nil => exact absurd e hne
      | cons x r => exact ⟨x, r, rfl, by simp [hct], by rw [← e]; exact hc, rfl⟩
    · left
      rw [if_neg hct] at hc
      exact ⟨hc, by simp [hct]⟩

set_option maxHeartbeats 4000000 in
set_option maxRecDepth 100000 in
theorem circles_calls (A : Option Addr) (c : Nat) (needs : List (List Int)) (w : World) (hr : Kd.C KI w A needs.length needs) (hc : needs.length ≤ c) (hm : Rows0 needs) :
    Calls Try.prog 7 #[.slice A needs.length c] w fun e w' => e = .returned (.bool true) ∧ Below w.heap.size w w' := by
  obtain ⟨K, hK⟩ : ∃ K : Nat, 2000000 ≤ K := ⟨_, Nat.le_refl _⟩
  obtain ⟨b, hb1, hb2⟩ := few_f hm (k := K) (by omega)
  cases b with
  | false =>
    go_enter Try.func7, Try.ntmps7
    go_wp2_with (fail)
    refine (seedcornref38_Few.calls K A c needs 300 false w hr hc hb1).mono ?_
    rintro e w1 ⟨rfl, hd⟩
    have hB := hd.below
    clear hd
    go_wp2_with (fail)
    refine (awake_calls w1).mono ?_
    rintro e w2 ⟨rfl, hB2⟩
    go_wp2_with (fail)
    go_ret
    exact ⟨rfl, below_then hB hB.size hB2⟩
  | true =>
    have HLn := Aside0.mk (hb2 rfl)
    clear hb2
    rcases circ_cases needs with ⟨h1, h2⟩ | ⟨x, r, h1, h2, h3, h4⟩
    · have H1 := Aside0.mk h1
      have hne : ((orderP needs).2 == 11) = false := by simpa using h2
      obtain ⟨oe, hoe⟩ : ∃ oe, oe = (orderP needs).2 := ⟨_, rfl⟩
      rw [← hoe] at hne
      have HOE := Aside0.mk hoe
      clear h1 h2 hoe
      go_enter Try.func7, Try.ntmps7
      go_wp2_with (fail)
      refine (seedcornref38_Few.calls K A c needs 300 true w hr hc hb1).mono ?_
      rintro e w1 ⟨rfl, hd⟩
      have hB := hd.below
      have hr1 := Kd.C_below hr hB
      clear hd
      go_wp2_with (fail)
      refine (circle_calls A c needs w1 hr1 hc HLn.out).mono ?_
      rintro e w2 ⟨v2, rfl, hQ2, hB2⟩
      rw [H1.out] at hQ2
      obtain ⟨A2, c2, rfl, _⟩ := Kd.Q_slice hQ2
      have hr2 := Kd.C_below hr1 hB2
      have HB2 := Aside0.mk (below_then hB hB.size hB2)
      clear hQ2 hB hB2 hr1
      go_wp2_with (fail)
      refine (order_calls A c needs w2 hr2 hc HLn.out).mono ?_
      rintro e w3 ⟨v3, rfl, hR3, hB3⟩
      rw [← HOE.out]
      have HB3 := Aside0.mk (below_then HB2.out HB2.out.size hB3)
      clear hR3 hB3 hr2 HB2
      go_wp2_with (fail)
      refine (awake_calls w3).mono ?_
      rintro e w4 ⟨rfl, hB4⟩
      have HB4 := Aside0.mk (below_then HB3.out HB3.out.size hB4)
      clear hB4 HB3
      go_wp2_with (fail)
      go_ret
      exact ⟨rfl, HB4.out⟩
    · have H1 := Aside0.mk h1
      have H2 := Aside0.mk h2
      have H3 := Aside0.mk h3
      have H4 := Aside0.mk h4
      clear h1 h2 h3 h4
      go_enter Try.func7, Try.ntmps7
      go_wp2_with (fail)
      refine (seedcornref38_Few.calls K A c needs 300 true w hr hc hb1).mono ?_
      rintro e w1 ⟨rfl, hd⟩
      have hB := hd.below
      have hr1 := Kd.C_below hr hB
      clear hd
      go_wp2_with (fail)
      refine (circle_calls A c needs w1 hr1 hc HLn.out).mono ?_
      rintro e w2 ⟨v2, rfl, hQ2, hB2⟩
      obtain ⟨A2, c2, rfl, hle2⟩ := Kd.Q_slice hQ2
      have hC2 := (Kd.Q_reads' hQ2).2.2
      have hcl : (circleP needs).length = r.length + 1 := by rw [H1.out]; rfl
      have HCL := Aside0.mk hcl
      rw [hcl]
      have hr2 := Kd.C_below hr1 hB2
      have HB2 := Aside0.mk (below_then hB hB.size hB2)
      clear hQ2 hB hB2 hr1 hcl
      go_wp2_with (fail)
      refine (order_calls A c needs w2 hr2 hc HLn.out).mono ?_
      rintro e w3 ⟨v3, rfl, hR3, hB3⟩
      rw [H2.out]
      have HB3 := Aside0.mk (below_then HB2.out HB2.out.size hB3)
      have hC3 := Kd.C_below hC2 hB3
      have hr3 := Kd.C_below hr2 hB3
      clear hR3 hB3 hr2 HB2 hC2
      go_wp2_with (fail)
      refine (awake_calls w3).mono ?_
      rintro e w4 ⟨rfl, hB4⟩
      have HB4 := Aside0.mk (below_then HB3.out HB3.out.size hB4)
      have hC4 := Kd.C_below hC3 hB4
      have hr4 := Kd.C_below hr3 hB4
      clear hB4 HB3 hC3 hr3
      have hpos : decide (0 < r.length + 1) = true := by simp
      have hne0 : (((r.length : Int) + 1) == 0) = false := by
        rw [beq_eq_false_iff_ne]
        omega
      go_wp2_with (fail)
      have hs := seedcornref38_Is.calls K A c needs A2 c2 (circleP needs) true w4 hr4 hc hC4 hle2 (is_f HLn.out H4.out H3.out hK)
      rw [HCL.out] at hs
      refine hs.mono ?_
      rintro e w5 ⟨rfl, hB5⟩
      have HB5 := Aside0.mk (below_then HB4.out HB4.out.size hB5)
      clear hB5
      go_wp2_with (fail)
      go_ret
      exact ⟨rfl, HB5.out⟩
end Go.Proofs.Ytdknnekkbhpjlaa.H

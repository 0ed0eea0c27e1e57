/-  -/
import Derived.Test.YtdpncghnlkgkdaaG0
-- laid by a program of the session (wip/gen/gprint.sh) over the kit's printer, with some functions given
namespace Go.Proofs.Ytdpncghnlkgkdaa.G
open Go.RowKit Go.Proofs.YtdpncghnlkgkdaaW.PrintWords Go.Proofs.YtdpncghnlkgkdaaW.PrintLast Go.Proofs.YtdpncghnlkgkdaaW.PrintMore
attribute [local go_sem] max2_int min2_int max_two min_two max_three min_three max_four min_four   -- for this text's walks alone
set_option linter.unusedVariables false
set_option linter.unusedSimpArgs false

/-! ### seedcornref14_short: function 47 -/
def seedcornref14_short.l0 : Nat → List ByteArray → Int → Option (Bool)
  | 0, _, _ => none
  | k + 1, x0, x3 => if x3 < (x0.length : Int) then (if 0 ≤ x3 then (if ((rdOf ByteArray.empty x0 x3).size : Int) > 60 then (some false) else (seedcornref14_short.l0 k x0 (wrap64 (x3 + 1)))) else (none)) else (some (decide ((x0.length : Int) ≤ 200)))
def seedcornref14_short.f (k : Nat) (l0 : List ByteArray) : Option (Bool) := seedcornref14_short.l0 k l0 0
theorem seedcornref14_short.mono_l : ∀ k, (∀ y0 y1, LeO (seedcornref14_short.l0 k y0 y1) (seedcornref14_short.l0 (k + 1) y0 y1))
  | 0 => fun _ _ r h => by simp [seedcornref14_short.l0] at h
  | k + 1 => by
    have ih0 := seedcornref14_short.mono_l k
    · intro y0 y1
      unfold seedcornref14_short.l0
      repeat' first
      | (with_reducible exact ih0 _ _)
      | (with_reducible exact LeO.refl _)
      | (with_reducible exact LeO.none _)
      | (with_reducible refine LeO.ite ?_ ?_)
      | (with_reducible refine LeO.bind ?_ (fun _ => ?_))
      | exact ih0 _ _
      | exact LeO.none _
      | refine LeO.ite ?_ ?_
      | refine LeO.bind ?_ (fun _ => ?_)
theorem seedcornref14_short.mono : ∀ a0 k, LeO (seedcornref14_short.f k a0) (seedcornref14_short.f (k + 1) a0) := by
  intro a0 k
  have ih0 := seedcornref14_short.mono_l k
  unfold seedcornref14_short.f
  repeat' first
      | (with_reducible exact ih0 _ _)
      | (with_reducible exact LeO.refl _)
      | (with_reducible exact LeO.none _)
      | (with_reducible refine LeO.ite ?_ ?_)
      | (with_reducible refine LeO.bind ?_ (fun _ => ?_))
      | exact ih0 _ _
      | exact LeO.none _
      | refine LeO.ite ?_ ?_
      | refine LeO.bind ?_ (fun _ => ?_)
set_option maxHeartbeats 8000000 in
set_option maxRecDepth 100000 in
theorem seedcornref14_short.calls (k : Nat) (A0 : Option Addr) (c0 : Nat) (l0 : List ByteArray) (r : Bool) (w : World) (hr0 : Kd.C Kd.string w A0 l0.length l0) (hc0 : l0.length ≤ c0) (h : seedcornref14_short.f k l0 = some r) :
    Calls Try.prog 47 #[.slice A0 l0.length c0] w fun e w' => e = .returned (.bool r) ∧ Drawn0 w w' := by
  have HR0 := Aside0.mk hr0
  have HC0 := Aside0.mk hc0
  clear hr0 hc0
  have H : (seedcornref14_short.l0 k l0 0) = some r := h
  clear h
  have H' := Aside0.mk H
  clear H
  go_enter Try.func47, Try.ntmps47
  go_wp2
  go_loopg [3] k (fun kq v3 w' => ∃ (x3_1 : Int), v3 = .int .i64 x3_1 ∧ Aside0 (seedcornref14_short.l0 kq l0 x3_1 = some r) ∧ Aside0 (kq ≤ k) ∧ Drawn0 w w')
  case atStart => exact ⟨(0), (by first | rfl | (simp; done) | (simp [*]; done)), H', ⟨Nat.le_refl _⟩, by repeat (first | exact Drawn0.refl _ | apply Drawn0.step)⟩
  case round =>
    clear H'
    obtain ⟨x3_1, rfl, HA, HK1, ⟨m1, rfl⟩⟩ := hrel
    cases gk with
    | zero => exact absurd HA.out (by simp [seedcornref14_short.l0])
    | succ k1 =>
      have H := HA.out
      clear HA
      simp only [seedcornref14_short.l0] at H
      by_cases c2 : x3_1 < (l0.length : Int)
      · rw [if_pos c2] at H
        have c2b0 : decide (x3_1 < (l0.length : Int)) = true := decide_eq_true c2
        clear c2
        by_cases c3 : 0 ≤ x3_1
        · rw [if_pos c3] at H
          have c3b0 : decide (0 ≤ x3_1) = true := decide_eq_true c3
          clear c3
          by_cases c4 : ((rdOf ByteArray.empty l0 x3_1).size : Int) > 60
          · rw [if_pos c4] at H
            have c4b0 : decide (60 < ((rdOf ByteArray.empty l0 x3_1).size : Int)) = true := decide_eq_true c4
            have c4b1 : decide (60 < (rdOf ByteArray.empty l0 x3_1).size) = true := decide_eq_true (by omega)
            clear c4
            obtain rfl := Option.some.inj H
            have p416 : 0 ≤ (x3_1 : Int) := of_decide_eq_true (by first | (with_reducible assumption) | assumption)
            have q416 : x3_1 < (l0.length : Int) := of_decide_eq_true (by first | (with_reducible assumption) | assumption)
            obtain ⟨ad416, e416, hx416_0⟩ := Kd.at_string HR0.out x3_1 p416 q416
            cases e416
            replace p416 := eq_true p416
            replace q416 := eq_true q416
            go_wp2
            go_ret
            exact ⟨by first | rfl | (simp; done) | (simp [*]; done), by repeat (first | exact Drawn0.refl _ | apply Drawn0.step)⟩
          · rw [if_neg c4] at H
            have c4b0 : decide (60 < ((rdOf ByteArray.empty l0 x3_1).size : Int)) = false := decide_eq_false c4
            have c4b1 : decide (60 < (rdOf ByteArray.empty l0 x3_1).size) = false := decide_eq_false (by omega)
            clear c4
            have H' := Aside0.mk H
            clear H
            have p416 : 0 ≤ (x3_1 : Int) := of_decide_eq_true (by first | (with_reducible assumption) | assumption)
            have q416 : x3_1 < (l0.length : Int) := of_decide_eq_true (by first | (with_reducible assumption) | assumption)
            obtain ⟨ad416, e416, hx416_0⟩ := Kd.at_string HR0.out x3_1 p416 q416
            cases e416
            replace p416 := eq_true p416
            replace q416 := eq_true q416
            go_wp2
            go_roundg k1
            case measure => have := HK1.out; omega
            case rel => exact ⟨(wrap64 (x3_1 + 1)), (by first | rfl | (simp; done) | (simp [*]; done)), H', ⟨by have := HK1.out; omega⟩, by repeat (first | exact Drawn0.refl _ | apply Drawn0.step)⟩
        · rw [if_neg c3] at H
          exact absurd H (by simp)
      · rw [if_neg c2] at H
        have c2b0 : decide (x3_1 < (l0.length : Int)) = false := decide_eq_false c2
        clear c2
        obtain rfl := Option.some.inj H
        go_wp2
        go_ret
        exact ⟨by first | rfl | (simp; done) | (simp [*]; done), by repeat (first | exact Drawn0.refl _ | apply Drawn0.step)⟩

end Go.Proofs.Ytdpncghnlkgkdaa.G
-- laid by a program of the session (wip/gen/gprint.sh) over the kit's printer, with some functions given
namespace Go.Proofs.Ytdpncghnlkgkdaa.G
open Go.RowKit Go.Proofs.YtdpncghnlkgkdaaW.PrintWords Go.Proofs.YtdpncghnlkgkdaaW.PrintLast Go.Proofs.YtdpncghnlkgkdaaW.PrintMore
attribute [local go_sem] max2_int min2_int max_two min_two max_three min_three max_four min_four   -- for this text's walks alone
set_option linter.unusedVariables false
set_option linter.unusedSimpArgs false

/-! ### seedcornref14_LeftExprs: function 61 -/
mutual
def seedcornref14_LeftExprs.l0 : Nat → List (S37) → Int → Int → Int → Option (Int)
  | 0, _, _, _, _ => none
  | k + 1, x0, x1, x2, x7 => if x7 < (x0.length : Int) then (seedcornref14_LeftExprs.j1 k x0 x1 x2 x7 (decide (x1 ≥ 0))) else (seedcornref14_LeftExprs.j1 k x0 x1 x2 x7 false)
def seedcornref14_LeftExprs.j1 : Nat → List (S37) → Int → Int → Int → Bool → Option (Int)
  | 0, _, _, _, _, _ => none
  | k + 1, x0, x1, x2, x7, x15 => if x15 = true then (if x2 ≤ 0 then (some (-1)) else (if 0 ≤ x7 then (if x7 < (x0.length : Int) then (if (((rd_T37 x0 x7).f3).size : Int) > 60 then (some (-1)) else ((seedcornref14_LeftExprs.f k ((rd_T37 x0 x7).f4) (wrap64 (x1 - 1)) (wrap64 (x2 - 1))).bind fun t419 => (seedcornref14_LeftExprs.l0 k x0 t419 x2 (wrap64 (x7 + 1))))) else (none)) else (none))) else (some x1)
def seedcornref14_LeftExprs.f : Nat → List (S37) → Int → Int → Option (Int)
  | 0, _, _, _ => none
  | k + 1, l0, a1, a2 => seedcornref14_LeftExprs.l0 k l0 a1 a2 0
end
theorem seedcornref14_LeftExprs.mono_l : ∀ k, (∀ y0 y1 y2, LeO (seedcornref14_LeftExprs.f k y0 y1 y2) (seedcornref14_LeftExprs.f (k + 1) y0 y1 y2)) ∧ (∀ y0 y1 y2 y3, LeO (seedcornref14_LeftExprs.l0 k y0 y1 y2 y3) (seedcornref14_LeftExprs.l0 (k + 1) y0 y1 y2 y3)) ∧ (∀ y0 y1 y2 y3 y4, LeO (seedcornref14_LeftExprs.j1 k y0 y1 y2 y3 y4) (seedcornref14_LeftExprs.j1 (k + 1) y0 y1 y2 y3 y4))
  | 0 => ⟨fun _ _ _ r h => by simp [seedcornref14_LeftExprs.f] at h, fun _ _ _ _ r h => by simp [seedcornref14_LeftExprs.l0] at h, fun _ _ _ _ _ r h => by simp [seedcornref14_LeftExprs.j1] at h⟩
  | k + 1 => by
    obtain ⟨ih0, ih1, ih2⟩ := seedcornref14_LeftExprs.mono_l k
    refine ⟨?_, ?_, ?_⟩
    · intro y0 y1 y2
      unfold seedcornref14_LeftExprs.f
      repeat' first
      | (with_reducible exact ih0 _ _ _)
      | (with_reducible exact ih1 _ _ _ _)
      | (with_reducible exact ih2 _ _ _ _ _)
      | (with_reducible exact LeO.refl _)
      | (with_reducible exact LeO.none _)
      | (with_reducible refine LeO.ite ?_ ?_)
      | (with_reducible refine LeO.bind ?_ (fun _ => ?_))
      | exact ih0 _ _ _
      | exact ih1 _ _ _ _
      | exact ih2 _ _ _ _ _
      | exact LeO.none _
      | refine LeO.ite ?_ ?_
      | refine LeO.bind ?_ (fun _ => ?_)
    · intro y0 y1 y2 y3
      unfold seedcornref14_LeftExprs.l0
      repeat' first
      | (with_reducible exact ih0 _ _ _)
      | (with_reducible exact ih1 _ _ _ _)
      | (with_reducible exact ih2 _ _ _ _ _)
      | (with_reducible exact LeO.refl _)
      | (with_reducible exact LeO.none _)
      | (with_reducible refine LeO.ite ?_ ?_)
      | (with_reducible refine LeO.bind ?_ (fun _ => ?_))
      | exact ih0 _ _ _
      | exact ih1 _ _ _ _
      | exact ih2 _ _ _ _ _
      | exact LeO.none _
      | refine LeO.ite ?_ ?_
      | refine LeO.bind ?_ (fun _ => ?_)
    · intro y0 y1 y2 y3 y4
      unfold seedcornref14_LeftExprs.j1
      repeat' first
      | (with_reducible exact ih0 _ _ _)
      | (with_reducible exact ih1 _ _ _ _)
      | (with_reducible exact ih2 _ _ _ _ _)
      | (with_reducible exact LeO.refl _)
      | (with_reducible exact LeO.none _)
      | (with_reducible refine LeO.ite ?_ ?_)
      | (with_reducible refine LeO.bind ?_ (fun _ => ?_))
      | exact ih0 _ _ _
      | exact ih1 _ _ _ _
      | exact ih2 _ _ _ _ _
      | exact LeO.none _
      | refine LeO.ite ?_ ?_
      | refine LeO.bind ?_ (fun _ => ?_)
theorem seedcornref14_LeftExprs.mono : ∀ a0 a1 a2 k, LeO (seedcornref14_LeftExprs.f k a0 a1 a2) (seedcornref14_LeftExprs.f (k + 1) a0 a1 a2) := by
  intro a0 a1 a2 k
  obtain ⟨ih0, ih1, ih2⟩ := seedcornref14_LeftExprs.mono_l k
  exact ih0 a0 a1 a2
set_option maxHeartbeats 8000000 in
set_option maxRecDepth 100000 in
theorem seedcornref14_LeftExprs.calls (k : Nat) : ∀ (A0 : Option Addr) (c0 : Nat) (l0 : List (S37)) (a1 : Int) (a2 : Int) (r : Int) (w : World) (hr0 : Kd.C k37 w A0 l0.length l0) (hc0 : l0.length ≤ c0) (h : seedcornref14_LeftExprs.f k l0 a1 a2 = some r),
    Calls Try.prog 61 #[.slice A0 l0.length c0, .int .i64 a1, .int .i64 a2] w fun e w' => e = .returned (.int .i64 r) ∧ Drawn0 w w' := by
  induction k using Nat.strongRecOn with
  | _ k ih =>
  intro A0 c0 l0 a1 a2 r w hr0 hc0 h
  cases k with
  | zero => exact absurd h (by simp [seedcornref14_LeftExprs.f])
  | succ k =>
  simp only [seedcornref14_LeftExprs.f] at h
  have HR0 := Aside0.mk hr0
  have HC0 := Aside0.mk hc0
  clear hr0 hc0
  have H : (seedcornref14_LeftExprs.l0 k l0 a1 a2 0) = some r := h
  clear h
  have H' := Aside0.mk H
  clear H
  go_enter Try.func61, Try.ntmps61
  go_wp2
  go_loopg [1, 7] k (fun kq v1 v7 w' => ∃ (x1_1 : Int) (x7_1 : Int), v1 = .int .i64 x1_1 ∧ v7 = .int .i64 x7_1 ∧ Aside0 (seedcornref14_LeftExprs.l0 kq l0 x1_1 a2 x7_1 = some r) ∧ Aside0 (kq ≤ k) ∧ Drawn0 w w')
  case atStart => exact ⟨(a1), (0), (by first | rfl | (simp; done) | (simp [*]; done)), (by first | rfl | (simp; done) | (simp [*]; done)), H', ⟨Nat.le_refl _⟩, by repeat (first | exact Drawn0.refl _ | apply Drawn0.step)⟩
  case round =>
    clear H'
    try clear p2
    obtain ⟨x1_1, x7_1, rfl, rfl, HA, HK1, ⟨m1, rfl⟩⟩ := hrel
    cases gk with
    | zero => exact absurd HA.out (by simp [seedcornref14_LeftExprs.l0])
    | succ k1 =>
      have H := HA.out
      clear HA
      simp only [seedcornref14_LeftExprs.l0] at H
      have HC4 := Aside0.mk H
      clear H
      go_upto_region 2 with (fail)
      go_cut [15] (fun v15 wc => ∃ (kq : Nat) (x15_3 : Bool), v15 = .bool x15_3 ∧ Aside0 (seedcornref14_LeftExprs.j1 kq l0 x1_1 a2 x7_1 x15_3 = some r) ∧ Aside0 (kq ≤ k1) ∧ Drawn0 w wc)
      case first =>
        have H := HC4.out
        clear HC4
        by_cases c5 : x7_1 < (l0.length : Int)
        · rw [if_pos c5] at H
          have c5b0 : decide (x7_1 < (l0.length : Int)) = true := decide_eq_true c5
          clear c5
          (first | rw [c5b0] | (simp only [i64_w, i32_w]; rw [c5b0]) | skip)
          have H' := Aside0.mk H
          clear H
          go_wp2
          go_meet
          case rel => exact ⟨_, (decide (x1_1 ≥ 0)), (by first | rfl | (simp; done) | (simp [*]; done)), H', ⟨by have := HK1.out; first | omega | exact Nat.le_refl _⟩, by repeat (first | exact Drawn0.refl _ | apply Drawn0.step)⟩
        · rw [if_neg c5] at H
          have c5b0 : decide (x7_1 < (l0.length : Int)) = false := decide_eq_false c5
          clear c5
          (first | rw [c5b0] | (simp only [i64_w, i32_w]; rw [c5b0]) | skip)
          have H' := Aside0.mk H
          clear H
          go_wp2
          go_meet
          case rel => exact ⟨_, (false), (by first | rfl | (simp; done) | (simp [*]; done)), H', ⟨by have := HK1.out; first | omega | exact Nat.le_refl _⟩, by repeat (first | exact Drawn0.refl _ | apply Drawn0.step)⟩
      case rest =>
        clear HC4
        try clear p2
        try clear c5
        try clear c5b0
        try clear p2
        obtain ⟨kq, x15_3, rfl, HA, HJ3, ⟨mc3, rfl⟩⟩ := hcut
        cases kq with
        | zero => exact absurd HA.out (by simp [seedcornref14_LeftExprs.j1])
        | succ kj3 =>
          have H := HA.out
          clear HA
          simp only [seedcornref14_LeftExprs.j1] at H
          by_cases c6 : x15_3 = true
          · subst c6
            have H1 : (if a2 ≤ 0 then (some (-1)) else (if 0 ≤ x7_1 then (if x7_1 < (l0.length : Int) then (if (((rd_T37 l0 x7_1).f3).size : Int) > 60 then (some (-1)) else ((seedcornref14_LeftExprs.f kj3 ((rd_T37 l0 x7_1).f4) (wrap64 (x1_1 - 1)) (wrap64 (a2 - 1))).bind fun t419 => (seedcornref14_LeftExprs.l0 kj3 l0 t419 a2 (wrap64 (x7_1 + 1))))) else (none)) else (none))) = some r := by rw [if_pos rfl] at H; exact H
            clear H
            have H := H1
            clear H1
            by_cases c7 : a2 ≤ 0
            · rw [if_pos c7] at H
              have c7b0 : decide (a2 ≤ 0) = true := decide_eq_true c7
              clear c7
              obtain rfl := Option.some.inj H
              go_wp2
              go_ret
              exact ⟨by first | rfl | (simp; done) | (simp [*]; done), by repeat (first | exact Drawn0.refl _ | apply Drawn0.step)⟩
            · rw [if_neg c7] at H
              have c7b0 : decide (a2 ≤ 0) = false := decide_eq_false c7
              clear c7
              by_cases c8 : 0 ≤ x7_1
              · rw [if_pos c8] at H
                have c8b0 : decide (0 ≤ x7_1) = true := decide_eq_true c8
                clear c8
                by_cases c9 : x7_1 < (l0.length : Int)
                · rw [if_pos c9] at H
                  have c9b0 : decide (x7_1 < (l0.length : Int)) = true := decide_eq_true c9
                  clear c9
                  by_cases c10 : (((rd_T37 l0 x7_1).f3).size : Int) > 60
                  · rw [if_pos c10] at H
                    have c10b0 : decide (60 < (((rd_T37 l0 x7_1).f3).size : Int)) = true := decide_eq_true c10
                    have c10b1 : decide (60 < ((rd_T37 l0 x7_1).f3).size) = true := decide_eq_true (by omega)
                    clear c10
                    obtain rfl := Option.some.inj H
                    have p417 : 0 ≤ (x7_1 : Int) := of_decide_eq_true (by first | (with_reducible assumption) | assumption)
                    have q417 : x7_1 < (l0.length : Int) := of_decide_eq_true (by first | (with_reducible assumption) | assumption)
                    obtain ⟨ad417, A417_4, c417_4, e417, hx417_0, hx417_1, hx417_2, hx417_3, hx417_4, hl417_4, hi417_4⟩ := at_T37 HR0.out x7_1 p417 q417
                    cases e417
                    have HR417_4 := Aside0.mk hi417_4
                    have HC417_4 := Aside0.mk hl417_4
                    clear hi417_4 hl417_4
                    replace p417 := eq_true p417
                    replace q417 := eq_true q417
                    go_wp2
                    go_ret
                    exact ⟨by first | rfl | (simp; done) | (simp [*]; done), by repeat (first | exact Drawn0.refl _ | apply Drawn0.step)⟩
                  · rw [if_neg c10] at H
                    have c10b0 : decide (60 < (((rd_T37 l0 x7_1).f3).size : Int)) = false := decide_eq_false c10
                    have c10b1 : decide (60 < ((rd_T37 l0 x7_1).f3).size) = false := decide_eq_false (by omega)
                    clear c10
                    replace H := Option.bind_eq_some_iff.mp H
                    obtain ⟨t419, A110, H⟩ := H
                    replace H : (seedcornref14_LeftExprs.l0 kj3 l0 t419 a2 (wrap64 (x7_1 + 1))) = some r := H
                    have A11 := Aside0.mk A110
                    clear A110
                    have H' := Aside0.mk H
                    clear H
                    have p417 : 0 ≤ (x7_1 : Int) := of_decide_eq_true (by first | (with_reducible assumption) | assumption)
                    have q417 : x7_1 < (l0.length : Int) := of_decide_eq_true (by first | (with_reducible assumption) | assumption)
                    obtain ⟨ad417, A417_4, c417_4, e417, hx417_0, hx417_1, hx417_2, hx417_3, hx417_4, hl417_4, hi417_4⟩ := at_T37 HR0.out x7_1 p417 q417
                    cases e417
                    have HR417_4 := Aside0.mk hi417_4
                    have HC417_4 := Aside0.mk hl417_4
                    clear hi417_4 hl417_4
                    replace p417 := eq_true p417
                    replace q417 := eq_true q417
                    have p418 : 0 ≤ (x7_1 : Int) := of_decide_eq_true (by first | (with_reducible assumption) | assumption)
                    have q418 : x7_1 < (l0.length : Int) := of_decide_eq_true (by first | (with_reducible assumption) | assumption)
                    obtain ⟨ad418, A418_4, c418_4, e418, hx418_0, hx418_1, hx418_2, hx418_3, hx418_4, hl418_4, hi418_4⟩ := at_T37 HR0.out x7_1 p418 q418
                    obtain rfl : ad417 = ad418 := (by injection e418)
                    have HR418_4 := Aside0.mk hi418_4
                    have HC418_4 := Aside0.mk hl418_4
                    clear hi418_4 hl418_4
                    replace p418 := eq_true p418
                    replace q418 := eq_true q418
                    have ea_ := Option.some.inj (hx417_4.symm.trans hx418_4)
                    injection ea_ with ea_ en_ ec_
                    subst ea_
                    subst ec_
                    clear en_
                    go_wp2_with (first | ((with_reducible refine gate_callee (f := 61) rfl ?_); refine goesL_ (some 39) rfl rfl Try.func61 (by kernel_rfl) rfl #[.slice A417_4 ((rd_T37 l0 x7_1).f4).length c417_4, .int .i64 (wrap64 (x1_1 - 1)), .int .i64 (wrap64 (a2 - 1))] rfl (by (try simp only [List.map_toArray, List.map_cons, List.map_nil]); first | done | rfl | (simp only [List.length_drop, List.length_take]; rfl)) ?_; (with_reducible refine (ih kj3 (by have := HK1.out; have := HJ3.out; omega) _ _ ((rd_T37 l0 x7_1).f4) (wrap64 (x1_1 - 1)) (wrap64 (a2 - 1)) t419 _ ?side1 ?side2 A11.out).mono ?_); (case side1 => repeat (first | exact HR418_4.out | (with_reducible refine Kd.C_alloc ?_ _) | (with_reducible refine Kd.C_drewN ?_ _) | (with_reducible refine Kd.C_drew ?_))); (case side2 => exact HC418_4.out); rintro e w' ⟨rfl, ⟨nd, rfl⟩⟩; refine ⟨_, rfl, ?_⟩))
                    go_roundg kj3
                    case measure => have := HK1.out; have := HJ3.out; omega
                    case rel => exact ⟨(t419), (wrap64 (x7_1 + 1)), (by first | rfl | (simp; done) | (simp [*]; done)), (by first | rfl | (simp; done) | (simp [*]; done)), H', ⟨by have := HK1.out; have := HJ3.out; omega⟩, by repeat (first | exact Drawn0.refl _ | apply Drawn0.step)⟩
                · rw [if_neg c9] at H
                  exact absurd H (by simp)
              · rw [if_neg c8] at H
                exact absurd H (by simp)
          · replace c6 := Bool.eq_false_iff.mpr c6
            subst c6
            have H1 : (some x1_1) = some r := by rw [if_neg (show ¬ (false = true) by decide)] at H; exact H
            clear H
            have H := H1
            clear H1
            obtain rfl := Option.some.inj H
            go_wp2
            go_ret
            exact ⟨by first | rfl | (simp; done) | (simp [*]; done), by repeat (first | exact Drawn0.refl _ | apply Drawn0.step)⟩

end Go.Proofs.Ytdpncghnlkgkdaa.G
-- laid by a program of the session (wip/gen/gprint.sh) over the kit's printer, with some functions given
namespace Go.Proofs.Ytdpncghnlkgkdaa.G
open Go.RowKit Go.Proofs.YtdpncghnlkgkdaaW.PrintWords Go.Proofs.YtdpncghnlkgkdaaW.PrintLast Go.Proofs.YtdpncghnlkgkdaaW.PrintMore
attribute [local go_sem] max2_int min2_int max_two min_two max_three min_three max_four min_four   -- for this text's walks alone
set_option linter.unusedVariables false
set_option linter.unusedSimpArgs false

/-! ### seedcornref14_LeftStmts: function 48 -/
mutual
def seedcornref14_LeftStmts.l0 : Nat → List (S33) → Int → Int → Int → Option (Int)
  | 0, _, _, _, _ => none
  | k + 1, x0, x1, x2, x7 => if x7 < (x0.length : Int) then (seedcornref14_LeftStmts.j1 k x0 x1 x2 x7 (decide (x1 ≥ 0))) else (seedcornref14_LeftStmts.j1 k x0 x1 x2 x7 false)
def seedcornref14_LeftStmts.j1 : Nat → List (S33) → Int → Int → Int → Bool → Option (Int)
  | 0, _, _, _, _, _ => none
  | k + 1, x0, x1, x2, x7, x15 => if x15 = true then (if x2 ≤ 0 then (seedcornref14_LeftStmts.j2 k x0 (wrap64 (x1 - 1)) x2 x7 true) else (if 0 ≤ x7 then (if x7 < (x0.length : Int) then (seedcornref14_LeftStmts.j2 k x0 (wrap64 (x1 - 1)) x2 x7 (decide ((((rd_T33 x0 x7).f1).size : Int) > 60))) else (none)) else (none))) else (some x1)
def seedcornref14_LeftStmts.j2 : Nat → List (S33) → Int → Int → Int → Bool → Option (Int)
  | 0, _, _, _, _, _ => none
  | k + 1, x0, x1, x2, x7, x30 => if x30 = true then (some (-1)) else (if 0 ≤ x7 then (if x7 < (x0.length : Int) then ((seedcornref14_LeftExprs.f k ((rd_T33 x0 x7).f2) x1 (wrap64 (x2 - 1))).bind fun t422 => ((seedcornref14_LeftStmts.f k ((rd_T33 x0 x7).f3) t422 (wrap64 (x2 - 1))).bind fun t424 => ((seedcornref14_LeftStmts.f k ((rd_T33 x0 x7).f4) t424 (wrap64 (x2 - 1))).bind fun t426 => (seedcornref14_LeftStmts.l0 k x0 t426 x2 (wrap64 (x7 + 1)))))) else (none)) else (none))
def seedcornref14_LeftStmts.f : Nat → List (S33) → Int → Int → Option (Int)
  | 0, _, _, _ => none
  | k + 1, l0, a1, a2 => seedcornref14_LeftStmts.l0 k l0 a1 a2 0
end
theorem seedcornref14_LeftStmts.mono_l : ∀ k, (∀ y0 y1 y2, LeO (seedcornref14_LeftStmts.f k y0 y1 y2) (seedcornref14_LeftStmts.f (k + 1) y0 y1 y2)) ∧ (∀ y0 y1 y2 y3, LeO (seedcornref14_LeftStmts.l0 k y0 y1 y2 y3) (seedcornref14_LeftStmts.l0 (k + 1) y0 y1 y2 y3)) ∧ (∀ y0 y1 y2 y3 y4, LeO (seedcornref14_LeftStmts.j1 k y0 y1 y2 y3 y4) (seedcornref14_LeftStmts.j1 (k + 1) y0 y1 y2 y3 y4)) ∧ (∀ y0 y1 y2 y3 y4, LeO (seedcornref14_LeftStmts.j2 k y0 y1 y2 y3 y4) (seedcornref14_LeftStmts.j2 (k + 1) y0 y1 y2 y3 y4))
  | 0 => ⟨fun _ _ _ r h => by simp [seedcornref14_LeftStmts.f] at h, fun _ _ _ _ r h => by simp [seedcornref14_LeftStmts.l0] at h, fun _ _ _ _ _ r h => by simp [seedcornref14_LeftStmts.j1] at h, fun _ _ _ _ _ r h => by simp [seedcornref14_LeftStmts.j2] at h⟩
  | k + 1 => by
    obtain ⟨ih0, ih1, ih2, ih3⟩ := seedcornref14_LeftStmts.mono_l k
    refine ⟨?_, ?_, ?_, ?_⟩
    · intro y0 y1 y2
      unfold seedcornref14_LeftStmts.f
      repeat' first
      | (with_reducible exact ih0 _ _ _)
      | (with_reducible exact ih1 _ _ _ _)
      | (with_reducible exact ih2 _ _ _ _ _)
      | (with_reducible exact ih3 _ _ _ _ _)
      | (with_reducible exact seedcornref14_LeftExprs.mono _ _ _ _)
      | (with_reducible exact LeO.refl _)
      | (with_reducible exact LeO.none _)
      | (with_reducible refine LeO.ite ?_ ?_)
      | (with_reducible refine LeO.bind ?_ (fun _ => ?_))
      | exact ih0 _ _ _
      | exact ih1 _ _ _ _
      | exact ih2 _ _ _ _ _
      | exact ih3 _ _ _ _ _
      | exact seedcornref14_LeftExprs.mono _ _ _ _
      | exact LeO.none _
      | refine LeO.ite ?_ ?_
      | refine LeO.bind ?_ (fun _ => ?_)
    · intro y0 y1 y2 y3
      unfold seedcornref14_LeftStmts.l0
      repeat' first
      | (with_reducible exact ih0 _ _ _)
      | (with_reducible exact ih1 _ _ _ _)
      | (with_reducible exact ih2 _ _ _ _ _)
      | (with_reducible exact ih3 _ _ _ _ _)
      | (with_reducible exact seedcornref14_LeftExprs.mono _ _ _ _)
      | (with_reducible exact LeO.refl _)
      | (with_reducible exact LeO.none _)
      | (with_reducible refine LeO.ite ?_ ?_)
      | (with_reducible refine LeO.bind ?_ (fun _ => ?_))
      | exact ih0 _ _ _
      | exact ih1 _ _ _ _
      | exact ih2 _ _ _ _ _
      | exact ih3 _ _ _ _ _
      | exact seedcornref14_LeftExprs.mono _ _ _ _
      | exact LeO.none _
      | refine LeO.ite ?_ ?_
      | refine LeO.bind ?_ (fun _ => ?_)
    · intro y0 y1 y2 y3 y4
      unfold seedcornref14_LeftStmts.j1
      repeat' first
      | (with_reducible exact ih0 _ _ _)
      | (with_reducible exact ih1 _ _ _ _)
      | (with_reducible exact ih2 _ _ _ _ _)
      | (with_reducible exact ih3 _ _ _ _ _)
      | (with_reducible exact seedcornref14_LeftExprs.mono _ _ _ _)
      | (with_reducible exact LeO.refl _)
      | (with_reducible exact LeO.none _)
      | (with_reducible refine LeO.ite ?_ ?_)
      | (with_reducible refine LeO.bind ?_ (fun _ => ?_))
      | exact ih0 _ _ _
      | exact ih1 _ _ _ _
      | exact ih2 _ _ _ _ _
      | exact ih3 _ _ _ _ _
      | exact seedcornref14_LeftExprs.mono _ _ _ _
      | exact LeO.none _
      | refine LeO.ite ?_ ?_
      | refine LeO.bind ?_ (fun _ => ?_)
    · intro y0 y1 y2 y3 y4
      unfold seedcornref14_LeftStmts.j2
      repeat' first
      | (with_reducible exact ih0 _ _ _)
      | (with_reducible exact ih1 _ _ _ _)
      | (with_reducible exact ih2 _ _ _ _ _)
      | (with_reducible exact ih3 _ _ _ _ _)
      | (with_reducible exact seedcornref14_LeftExprs.mono _ _ _ _)
      | (with_reducible exact LeO.refl _)
      | (with_reducible exact LeO.none _)
      | (with_reducible refine LeO.ite ?_ ?_)
      | (with_reducible refine LeO.bind ?_ (fun _ => ?_))
      | exact ih0 _ _ _
      | exact ih1 _ _ _ _
      | exact ih2 _ _ _ _ _
      | exact ih3 _ _ _ _ _
      | exact seedcornref14_LeftExprs.mono _ _ _ _
      | exact LeO.none _
      | refine LeO.ite ?_ ?_
      | refine LeO.bind ?_ (fun _ => ?_)
theorem seedcornref14_LeftStmts.mono : ∀ a0 a1 a2 k, LeO (seedcornref14_LeftStmts.f k a0 a1 a2) (seedcornref14_LeftStmts.f (k + 1) a0 a1 a2) := by
  intro a0 a1 a2 k
  obtain ⟨ih0, ih1, ih2, ih3⟩ := seedcornref14_LeftStmts.mono_l k
  exact ih0 a0 a1 a2
set_option maxHeartbeats 8000000 in
set_option maxRecDepth 100000 in
theorem seedcornref14_LeftStmts.calls (k : Nat) : ∀ (A0 : Option Addr) (c0 : Nat) (l0 : List (S33)) (a1 : Int) (a2 : Int) (r : Int) (w : World) (hr0 : Kd.C k33 w A0 l0.length l0) (hc0 : l0.length ≤ c0) (h : seedcornref14_LeftStmts.f k l0 a1 a2 = some r),
    Calls Try.prog 48 #[.slice A0 l0.length c0, .int .i64 a1, .int .i64 a2] w fun e w' => e = .returned (.int .i64 r) ∧ Drawn0 w w' := by
  induction k using Nat.strongRecOn with
  | _ k ih =>
  intro A0 c0 l0 a1 a2 r w hr0 hc0 h
  cases k with
  | zero => exact absurd h (by simp [seedcornref14_LeftStmts.f])
  | succ k =>
  simp only [seedcornref14_LeftStmts.f] at h
  have HR0 := Aside0.mk hr0
  have HC0 := Aside0.mk hc0
  clear hr0 hc0
  have H : (seedcornref14_LeftStmts.l0 k l0 a1 a2 0) = some r := h
  clear h
  have H' := Aside0.mk H
  clear H
  go_enter Try.func48, Try.ntmps48
  go_wp2
  go_loopg [1, 7] k (fun kq v1 v7 w' => ∃ (x1_1 : Int) (x7_1 : Int), v1 = .int .i64 x1_1 ∧ v7 = .int .i64 x7_1 ∧ Aside0 (seedcornref14_LeftStmts.l0 kq l0 x1_1 a2 x7_1 = some r) ∧ Aside0 (kq ≤ k) ∧ Drawn0 w w')
  case atStart => exact ⟨(a1), (0), (by first | rfl | (simp; done) | (simp [*]; done)), (by first | rfl | (simp; done) | (simp [*]; done)), H', ⟨Nat.le_refl _⟩, by repeat (first | exact Drawn0.refl _ | apply Drawn0.step)⟩
  case round =>
    clear H'
    try clear p2
    obtain ⟨x1_1, x7_1, rfl, rfl, HA, HK1, ⟨m1, rfl⟩⟩ := hrel
    cases gk with
    | zero => exact absurd HA.out (by simp [seedcornref14_LeftStmts.l0])
    | succ k1 =>
      have H := HA.out
      clear HA
      simp only [seedcornref14_LeftStmts.l0] at H
      have HC4 := Aside0.mk H
      clear H
      go_upto_region 2 with (fail)
      go_cut [15] (fun v15 wc => ∃ (kq : Nat) (x15_3 : Bool), v15 = .bool x15_3 ∧ Aside0 (seedcornref14_LeftStmts.j1 kq l0 x1_1 a2 x7_1 x15_3 = some r) ∧ Aside0 (kq ≤ k1) ∧ Drawn0 w wc)
      case first =>
        have H := HC4.out
        clear HC4
        by_cases c5 : x7_1 < (l0.length : Int)
        · rw [if_pos c5] at H
          have c5b0 : decide (x7_1 < (l0.length : Int)) = true := decide_eq_true c5
          clear c5
          (first | rw [c5b0] | (simp only [i64_w, i32_w]; rw [c5b0]) | skip)
          have H' := Aside0.mk H
          clear H
          go_wp2
          go_meet
          case rel => exact ⟨_, (decide (x1_1 ≥ 0)), (by first | rfl | (simp; done) | (simp [*]; done)), H', ⟨by have := HK1.out; first | omega | exact Nat.le_refl _⟩, by repeat (first | exact Drawn0.refl _ | apply Drawn0.step)⟩
        · rw [if_neg c5] at H
          have c5b0 : decide (x7_1 < (l0.length : Int)) = false := decide_eq_false c5
          clear c5
          (first | rw [c5b0] | (simp only [i64_w, i32_w]; rw [c5b0]) | skip)
          have H' := Aside0.mk H
          clear H
          go_wp2
          go_meet
          case rel => exact ⟨_, (false), (by first | rfl | (simp; done) | (simp [*]; done)), H', ⟨by have := HK1.out; first | omega | exact Nat.le_refl _⟩, by repeat (first | exact Drawn0.refl _ | apply Drawn0.step)⟩
      case rest =>
        clear HC4
        try clear p2
        try clear c4
        try clear c5
        try clear c5b0
        try clear p2
        obtain ⟨kq, x15_3, rfl, HA, HJ3, ⟨mc3, rfl⟩⟩ := hcut
        cases kq with
        | zero => exact absurd HA.out (by simp [seedcornref14_LeftStmts.j1])
        | succ kj3 =>
          have H := HA.out
          clear HA
          simp only [seedcornref14_LeftStmts.j1] at H
          by_cases c6 : x15_3 = true
          · subst c6
            have H1 : (if a2 ≤ 0 then (seedcornref14_LeftStmts.j2 kj3 l0 (wrap64 (x1_1 - 1)) a2 x7_1 true) else (if 0 ≤ x7_1 then (if x7_1 < (l0.length : Int) then (seedcornref14_LeftStmts.j2 kj3 l0 (wrap64 (x1_1 - 1)) a2 x7_1 (decide ((((rd_T33 l0 x7_1).f1).size : Int) > 60))) else (none)) else (none))) = some r := by rw [if_pos rfl] at H; exact H
            clear H
            have H := H1
            clear H1
            have HC7 := Aside0.mk H
            clear H
            go_upto_region 5 with (fail)
            go_cut [30] (fun v30 wc => ∃ (kq : Nat) (x30_6 : Bool), v30 = .bool x30_6 ∧ Aside0 (seedcornref14_LeftStmts.j2 kq l0 (wrap64 (x1_1 - 1)) a2 x7_1 x30_6 = some r) ∧ Aside0 (kq ≤ kj3) ∧ Drawn0 w wc)
            case first =>
              have H := HC7.out
              clear HC7
              by_cases c8 : a2 ≤ 0
              · rw [if_pos c8] at H
                have c8b0 : decide (a2 ≤ 0) = true := decide_eq_true c8
                clear c8
                (first | rw [c8b0] | (simp only [i64_w, i32_w]; rw [c8b0]) | skip)
                have H' := Aside0.mk H
                clear H
                go_wp2
                go_meet
                case rel => exact ⟨_, (true), (by first | rfl | (simp; done) | (simp [*]; done)), H', ⟨by have := HK1.out; have := HJ3.out; first | omega | exact Nat.le_refl _⟩, by repeat (first | exact Drawn0.refl _ | apply Drawn0.step)⟩
              · rw [if_neg c8] at H
                have c8b0 : decide (a2 ≤ 0) = false := decide_eq_false c8
                clear c8
                (first | rw [c8b0] | (simp only [i64_w, i32_w]; rw [c8b0]) | skip)
                by_cases c9 : 0 ≤ x7_1
                · rw [if_pos c9] at H
                  have c9b0 : decide (0 ≤ x7_1) = true := decide_eq_true c9
                  clear c9
                  by_cases c10 : x7_1 < (l0.length : Int)
                  · rw [if_pos c10] at H
                    have c10b0 : decide (x7_1 < (l0.length : Int)) = true := decide_eq_true c10
                    clear c10
                    have H' := Aside0.mk H
                    clear H
                    have p420 : 0 ≤ (x7_1 : Int) := of_decide_eq_true (by first | (with_reducible assumption) | assumption)
                    have q420 : x7_1 < (l0.length : Int) := of_decide_eq_true (by first | (with_reducible assumption) | assumption)
                    obtain ⟨ad420, A420_2, c420_2, A420_3, c420_3, A420_4, c420_4, e420, hx420_0, hx420_1, hx420_2, hx420_3, hx420_4, hl420_2, hi420_2, hl420_3, hi420_3, hl420_4, hi420_4⟩ := at_T33 HR0.out x7_1 p420 q420
                    cases e420
                    have HR420_2 := Aside0.mk hi420_2
                    have HC420_2 := Aside0.mk hl420_2
                    clear hi420_2 hl420_2
                    have HR420_3 := Aside0.mk hi420_3
                    have HC420_3 := Aside0.mk hl420_3
                    clear hi420_3 hl420_3
                    have HR420_4 := Aside0.mk hi420_4
                    have HC420_4 := Aside0.mk hl420_4
                    clear hi420_4 hl420_4
                    replace p420 := eq_true p420
                    replace q420 := eq_true q420
                    go_wp2
                    go_meet
                    case rel => exact ⟨_, (decide ((((rd_T33 l0 x7_1).f1).size : Int) > 60)), (by first | rfl | (simp; done) | (simp [*]; done)), H', ⟨by have := HK1.out; have := HJ3.out; first | omega | exact Nat.le_refl _⟩, by repeat (first | exact Drawn0.refl _ | apply Drawn0.step)⟩
                  · rw [if_neg c10] at H
                    exact absurd H (by simp)
                · rw [if_neg c9] at H
                  exact absurd H (by simp)
            case rest =>
              clear HC7
              try clear c1
              try clear p2
              try clear c3
              try clear c4
              try clear p4
              try clear q4
              try clear hx4
              try clear c5
              try clear c5b0
              try clear c6
              try clear p6
              try clear c8
              try clear c8b0
              try clear c9
              try clear c9b0
              try clear c10
              try clear c10b0
              try clear hx420_0
              try clear hx420_1
              try clear hx420_2
              try clear hx420_3
              try clear hx420_4
              try clear p2
              try clear p420
              try clear q420
              obtain ⟨kq, x30_6, rfl, HA, HJ6, ⟨mc6, rfl⟩⟩ := hcut
              cases kq with
              | zero => exact absurd HA.out (by simp [seedcornref14_LeftStmts.j2])
              | succ kj6 =>
                have H := HA.out
                clear HA
                simp only [seedcornref14_LeftStmts.j2] at H
                by_cases c11 : x30_6 = true
                · subst c11
                  have H1 : (some (-1)) = some r := by rw [if_pos rfl] at H; exact H
                  clear H
                  have H := H1
                  clear H1
                  obtain rfl := Option.some.inj H
                  go_wp2
                  go_ret
                  exact ⟨by first | rfl | (simp; done) | (simp [*]; done), by repeat (first | exact Drawn0.refl _ | apply Drawn0.step)⟩
                · replace c11 := Bool.eq_false_iff.mpr c11
                  subst c11
                  have H1 : (if 0 ≤ x7_1 then (if x7_1 < (l0.length : Int) then ((seedcornref14_LeftExprs.f kj6 ((rd_T33 l0 x7_1).f2) (wrap64 (x1_1 - 1)) (wrap64 (a2 - 1))).bind fun t422 => ((seedcornref14_LeftStmts.f kj6 ((rd_T33 l0 x7_1).f3) t422 (wrap64 (a2 - 1))).bind fun t424 => ((seedcornref14_LeftStmts.f kj6 ((rd_T33 l0 x7_1).f4) t424 (wrap64 (a2 - 1))).bind fun t426 => (seedcornref14_LeftStmts.l0 kj6 l0 t426 a2 (wrap64 (x7_1 + 1)))))) else (none)) else (none)) = some r := by rw [if_neg (show ¬ (false = true) by decide)] at H; exact H
                  clear H
                  have H := H1
                  clear H1
                  by_cases c12 : 0 ≤ x7_1
                  · rw [if_pos c12] at H
                    have c12b0 : decide (0 ≤ x7_1) = true := decide_eq_true c12
                    clear c12
                    by_cases c13 : x7_1 < (l0.length : Int)
                    · rw [if_pos c13] at H
                      have c13b0 : decide (x7_1 < (l0.length : Int)) = true := decide_eq_true c13
                      clear c13
                      replace H := Option.bind_eq_some_iff.mp H
                      obtain ⟨t422, A140, H⟩ := H
                      replace H : ((seedcornref14_LeftStmts.f kj6 ((rd_T33 l0 x7_1).f3) t422 (wrap64 (a2 - 1))).bind fun t424 => ((seedcornref14_LeftStmts.f kj6 ((rd_T33 l0 x7_1).f4) t424 (wrap64 (a2 - 1))).bind fun t426 => (seedcornref14_LeftStmts.l0 kj6 l0 t426 a2 (wrap64 (x7_1 + 1))))) = some r := H
                      have A14 := Aside0.mk A140
                      clear A140
                      replace H := Option.bind_eq_some_iff.mp H
                      obtain ⟨t424, A150, H⟩ := H
                      replace H : ((seedcornref14_LeftStmts.f kj6 ((rd_T33 l0 x7_1).f4) t424 (wrap64 (a2 - 1))).bind fun t426 => (seedcornref14_LeftStmts.l0 kj6 l0 t426 a2 (wrap64 (x7_1 + 1)))) = some r := H
                      have A15 := Aside0.mk A150
                      clear A150
                      replace H := Option.bind_eq_some_iff.mp H
                      obtain ⟨t426, A160, H⟩ := H
                      replace H : (seedcornref14_LeftStmts.l0 kj6 l0 t426 a2 (wrap64 (x7_1 + 1))) = some r := H
                      have A16 := Aside0.mk A160
                      clear A160
                      have H' := Aside0.mk H
                      clear H
                      have p421 : 0 ≤ (x7_1 : Int) := of_decide_eq_true (by first | (with_reducible assumption) | assumption)
                      have q421 : x7_1 < (l0.length : Int) := of_decide_eq_true (by first | (with_reducible assumption) | assumption)
                      obtain ⟨ad421, A421_2, c421_2, A421_3, c421_3, A421_4, c421_4, e421, hx421_0, hx421_1, hx421_2, hx421_3, hx421_4, hl421_2, hi421_2, hl421_3, hi421_3, hl421_4, hi421_4⟩ := at_T33 HR0.out x7_1 p421 q421
                      cases e421
                      have HR421_2 := Aside0.mk hi421_2
                      have HC421_2 := Aside0.mk hl421_2
                      clear hi421_2 hl421_2
                      have HR421_3 := Aside0.mk hi421_3
                      have HC421_3 := Aside0.mk hl421_3
                      clear hi421_3 hl421_3
                      have HR421_4 := Aside0.mk hi421_4
                      have HC421_4 := Aside0.mk hl421_4
                      clear hi421_4 hl421_4
                      replace p421 := eq_true p421
                      replace q421 := eq_true q421
                      go_wp2_with (first | ((with_reducible refine gate_callee (f := 61) rfl ?_); refine goesL_ (some 39) rfl rfl Try.func61 (by kernel_rfl) rfl #[.slice A421_2 ((rd_T33 l0 x7_1).f2).length c421_2, .int .i64 (wrap64 (x1_1 - 1)), .int .i64 (wrap64 (a2 - 1))] rfl (by (try simp only [List.map_toArray, List.map_cons, List.map_nil]); first | done | rfl | (simp only [List.length_drop, List.length_take]; rfl)) ?_; (with_reducible refine (seedcornref14_LeftExprs.calls kj6 _ _ ((rd_T33 l0 x7_1).f2) (wrap64 (x1_1 - 1)) (wrap64 (a2 - 1)) t422 _ ?side1 ?side2 A14.out).mono ?_); (case side1 => repeat (first | exact HR421_2.out | (with_reducible refine Kd.C_alloc ?_ _) | (with_reducible refine Kd.C_drewN ?_ _) | (with_reducible refine Kd.C_drew ?_))); (case side2 => exact HC421_2.out); rintro e w' ⟨rfl, ⟨nd, rfl⟩⟩; refine ⟨_, rfl, ?_⟩; have p423 : 0 ≤ (x7_1 : Int) := of_decide_eq_true (by first | (with_reducible assumption) | assumption); have q423 : x7_1 < (l0.length : Int) := of_decide_eq_true (by first | (with_reducible assumption) | assumption); obtain ⟨ad423, A423_2, c423_2, A423_3, c423_3, A423_4, c423_4, e423, hx423_0, hx423_1, hx423_2, hx423_3, hx423_4, hl423_2, hi423_2, hl423_3, hi423_3, hl423_4, hi423_4⟩ := at_T33 HR0.out x7_1 p423 q423; obtain rfl : ad421 = ad423 := (by injection e423); have HR423_2 := Aside0.mk hi423_2; have HC423_2 := Aside0.mk hl423_2; clear hi423_2 hl423_2; have HR423_3 := Aside0.mk hi423_3; have HC423_3 := Aside0.mk hl423_3; clear hi423_3 hl423_3; have HR423_4 := Aside0.mk hi423_4; have HC423_4 := Aside0.mk hl423_4; clear hi423_4 hl423_4; replace p423 := eq_true p423; replace q423 := eq_true q423; have ea_ := Option.some.inj (hx421_2.symm.trans hx423_2); injection ea_ with ea_ en_ ec_; subst ea_; subst ec_; clear en_; have ea_ := Option.some.inj (hx421_3.symm.trans hx423_3); injection ea_ with ea_ en_ ec_; subst ea_; subst ec_; clear en_; have ea_ := Option.some.inj (hx421_4.symm.trans hx423_4); injection ea_ with ea_ en_ ec_; subst ea_; subst ec_; clear en_) | ((with_reducible refine gate_callee (f := 48) rfl ?_); refine goesL_ (some 48) rfl rfl Try.func48 (by kernel_rfl) rfl #[.slice A421_3 ((rd_T33 l0 x7_1).f3).length c421_3, .int .i64 t422, .int .i64 (wrap64 (a2 - 1))] rfl (by (try simp only [List.map_toArray, List.map_cons, List.map_nil]); first | done | rfl | (simp only [List.length_drop, List.length_take]; rfl)) ?_; (with_reducible refine (ih kj6 (by have := HK1.out; have := HJ3.out; have := HJ6.out; omega) _ _ ((rd_T33 l0 x7_1).f3) t422 (wrap64 (a2 - 1)) t424 _ ?side1 ?side2 A15.out).mono ?_); (case side1 => repeat (first | exact HR423_3.out | (with_reducible refine Kd.C_alloc ?_ _) | (with_reducible refine Kd.C_drewN ?_ _) | (with_reducible refine Kd.C_drew ?_))); (case side2 => exact HC423_3.out); rintro e w' ⟨rfl, ⟨nd, rfl⟩⟩; refine ⟨_, rfl, ?_⟩; have p425 : 0 ≤ (x7_1 : Int) := of_decide_eq_true (by first | (with_reducible assumption) | assumption); have q425 : x7_1 < (l0.length : Int) := of_decide_eq_true (by first | (with_reducible assumption) | assumption); obtain ⟨ad425, A425_2, c425_2, A425_3, c425_3, A425_4, c425_4, e425, hx425_0, hx425_1, hx425_2, hx425_3, hx425_4, hl425_2, hi425_2, hl425_3, hi425_3, hl425_4, hi425_4⟩ := at_T33 HR0.out x7_1 p425 q425; obtain rfl : ad421 = ad425 := (by injection e425); have HR425_2 := Aside0.mk hi425_2; have HC425_2 := Aside0.mk hl425_2; clear hi425_2 hl425_2; have HR425_3 := Aside0.mk hi425_3; have HC425_3 := Aside0.mk hl425_3; clear hi425_3 hl425_3; have HR425_4 := Aside0.mk hi425_4; have HC425_4 := Aside0.mk hl425_4; clear hi425_4 hl425_4; replace p425 := eq_true p425; replace q425 := eq_true q425; have ea_ := Option.some.inj (hx421_2.symm.trans hx425_2); injection ea_ with ea_ en_ ec_; subst ea_; subst ec_; clear en_; have ea_ := Option.some.inj (hx421_3.symm.trans hx425_3); injection ea_ with ea_ en_ ec_; subst ea_; subst ec_; clear en_; have ea_ := Option.some.inj (hx421_4.symm.trans hx425_4); injection ea_ with ea_ en_ ec_; subst ea_; subst ec_; clear en_) | ((with_reducible refine gate_callee (f := 48) rfl ?_); refine goesL_ (some 57) rfl rfl Try.func48 (by kernel_rfl) rfl #[.slice A421_4 ((rd_T33 l0 x7_1).f4).length c421_4, .int .i64 t424, .int .i64 (wrap64 (a2 - 1))] rfl (by (try simp only [List.map_toArray, List.map_cons, List.map_nil]); first | done | rfl | (simp only [List.length_drop, List.length_take]; rfl)) ?_; (with_reducible refine (ih kj6 (by have := HK1.out; have := HJ3.out; have := HJ6.out; omega) _ _ ((rd_T33 l0 x7_1).f4) t424 (wrap64 (a2 - 1)) t426 _ ?side1 ?side2 A16.out).mono ?_); (case side1 => repeat (first | exact HR425_4.out | (with_reducible refine Kd.C_alloc ?_ _) | (with_reducible refine Kd.C_drewN ?_ _) | (with_reducible refine Kd.C_drew ?_))); (case side2 => exact HC425_4.out); rintro e w' ⟨rfl, ⟨nd, rfl⟩⟩; refine ⟨_, rfl, ?_⟩))
                      go_roundg kj6
                      case measure => have := HK1.out; have := HJ3.out; have := HJ6.out; omega
                      case rel => exact ⟨(t426), (wrap64 (x7_1 + 1)), (by first | rfl | (simp; done) | (simp [*]; done)), (by first | rfl | (simp; done) | (simp [*]; done)), H', ⟨by have := HK1.out; have := HJ3.out; have := HJ6.out; omega⟩, by repeat (first | exact Drawn0.refl _ | apply Drawn0.step)⟩
                    · rw [if_neg c13] at H
                      exact absurd H (by simp)
                  · rw [if_neg c12] at H
                    exact absurd H (by simp)
          · replace c6 := Bool.eq_false_iff.mpr c6
            subst c6
            have H1 : (some x1_1) = some r := by rw [if_neg (show ¬ (false = true) by decide)] at H; exact H
            clear H
            have H := H1
            clear H1
            obtain rfl := Option.some.inj H
            go_wp2
            go_ret
            exact ⟨by first | rfl | (simp; done) | (simp [*]; done), by repeat (first | exact Drawn0.refl _ | apply Drawn0.step)⟩

end Go.Proofs.Ytdpncghnlkgkdaa.G

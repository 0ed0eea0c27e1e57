-- laid by a program of the session (wip/gen/gprint.sh) over the kit's printer, with some functions given
import Derived.Test.YtdknnekkbhpjlaaG0
namespace Go.Proofs.Ytdknnekkbhpjlaa.G
open Go.RowKit Go.Proofs.YtdknnekkbhpjlaaW.PrintWords Go.Proofs.YtdknnekkbhpjlaaW.PrintLast Go.Proofs.YtdknnekkbhpjlaaW.PrintMore
attribute [local go_sem] max2_int min2_int max_two min_two max_three min_three max_four min_four   -- for this text's walks alone
set_option linter.unusedVariables false
set_option linter.unusedSimpArgs false

/-! ### seedcornref38_Right: function 21 -/
mutual
def seedcornref38_Right.l0 : Nat → List (List Int) → Int → Option (Bool)
  | 0, _, _ => none
  | k + 1, x0, x3 => if x3 < (x0.length : Int) then (seedcornref38_Right.l1 k x0 x3 0) else (some true)
def seedcornref38_Right.l1 : Nat → List (List Int) → Int → Int → Option (Bool)
  | 0, _, _, _ => none
  | k + 1, x0, x3, x4 => if 0 ≤ x3 then (if x3 < (x0.length : Int) then (if x4 < ((rd_L1 x0 x3).length : Int) then (if 0 ≤ x4 then (if (rd (rd_L1 x0 x3) x4) < 0 then (some false) else (if (rd (rd_L1 x0 x3) x4) ≥ (x0.length : Int) then (some false) else (seedcornref38_Right.l1 k x0 x3 (wrap64 (x4 + 1))))) else (none)) else (seedcornref38_Right.l0 k x0 (wrap64 (x3 + 1)))) else (none)) else (none)
end
def seedcornref38_Right.f (k : Nat) (l0 : List (List Int)) : Option (Bool) := seedcornref38_Right.l0 k l0 0
theorem seedcornref38_Right.mono_l : ∀ k, (∀ y0 y1, LeO (seedcornref38_Right.l0 k y0 y1) (seedcornref38_Right.l0 (k + 1) y0 y1)) ∧ (∀ y0 y1 y2, LeO (seedcornref38_Right.l1 k y0 y1 y2) (seedcornref38_Right.l1 (k + 1) y0 y1 y2))
  | 0 => ⟨fun _ _ r h => by simp [seedcornref38_Right.l0] at h, fun _ _ _ r h => by simp [seedcornref38_Right.l1] at h⟩
  | k + 1 => by
    obtain ⟨ih0, ih1⟩ := seedcornref38_Right.mono_l k
    refine ⟨?_, ?_⟩
    · intro y0 y1
      unfold seedcornref38_Right.l0
      repeat' first
      | (with_reducible exact ih0 _ _)
      | (with_reducible exact ih1 _ _ _)
      | (with_reducible exact LeO.refl _)
      | (with_reducible exact LeO.none _)
      | (with_reducible refine LeO.ite ?_ ?_)
      | (with_reducible refine LeO.bind ?_ (fun _ => ?_))
      | exact ih0 _ _
      | exact ih1 _ _ _
      | exact LeO.none _
      | refine LeO.ite ?_ ?_
      | refine LeO.bind ?_ (fun _ => ?_)
    · intro y0 y1 y2
      unfold seedcornref38_Right.l1
      repeat' first
      | (with_reducible exact ih0 _ _)
      | (with_reducible exact ih1 _ _ _)
      | (with_reducible exact LeO.refl _)
      | (with_reducible exact LeO.none _)
      | (with_reducible refine LeO.ite ?_ ?_)
      | (with_reducible refine LeO.bind ?_ (fun _ => ?_))
      | exact ih0 _ _
      | exact ih1 _ _ _
      | exact LeO.none _
      | refine LeO.ite ?_ ?_
      | refine LeO.bind ?_ (fun _ => ?_)
theorem seedcornref38_Right.mono : ∀ a0 k, LeO (seedcornref38_Right.f k a0) (seedcornref38_Right.f (k + 1) a0) := by
  intro a0 k
  obtain ⟨ih0, ih1⟩ := seedcornref38_Right.mono_l k
  unfold seedcornref38_Right.f
  repeat' first
      | (with_reducible exact ih0 _ _)
      | (with_reducible exact ih1 _ _ _)
      | (with_reducible exact LeO.refl _)
      | (with_reducible exact LeO.none _)
      | (with_reducible refine LeO.ite ?_ ?_)
      | (with_reducible refine LeO.bind ?_ (fun _ => ?_))
      | exact ih0 _ _
      | exact ih1 _ _ _
      | exact LeO.none _
      | refine LeO.ite ?_ ?_
      | refine LeO.bind ?_ (fun _ => ?_)
set_option maxHeartbeats 8000000 in
set_option maxRecDepth 100000 in
theorem seedcornref38_Right.calls (k : Nat) (A0 : Option Addr) (c0 : Nat) (l0 : List (List Int)) (r : Bool) (w : World) (hr0 : Kd.C (Kd.slice 3 (Kd.int .i64)) w A0 l0.length l0) (hc0 : l0.length ≤ c0) (h : seedcornref38_Right.f k l0 = some r) :
    Calls Try.prog 21 #[.slice A0 l0.length c0] w fun e w' => e = .returned (.bool r) ∧ Drawn0 w w' := by
  have HR0 := Aside0.mk hr0
  have HC0 := Aside0.mk hc0
  clear hr0 hc0
  have H : (seedcornref38_Right.l0 k l0 0) = some r := h
  clear h
  have H' := Aside0.mk H
  clear H
  go_enter Try.func21, Try.ntmps21
  go_wp2
  go_loopg [3] k (fun kq v3 w' => ∃ (x3_1 : Int), v3 = .int .i64 x3_1 ∧ Aside0 (seedcornref38_Right.l0 kq l0 x3_1 = some r) ∧ Aside0 (kq ≤ k) ∧ Drawn0 w w')
  case atStart => exact ⟨(0), (by first | rfl | (simp; done) | (simp [*]; done)), H', ⟨Nat.le_refl _⟩, by repeat (first | exact Drawn0.refl _ | apply Drawn0.step)⟩
  case round =>
    clear H'
    obtain ⟨x3_1, rfl, HA, HK1, ⟨m1, rfl⟩⟩ := hrel
    cases gk with
    | zero => exact absurd HA.out (by simp [seedcornref38_Right.l0])
    | succ k1 =>
      have H := HA.out
      clear HA
      simp only [seedcornref38_Right.l0] at H
      by_cases c2 : x3_1 < (l0.length : Int)
      · rw [if_pos c2] at H
        have c2b0 : decide (x3_1 < (l0.length : Int)) = true := decide_eq_true c2
        clear c2
        have H' := Aside0.mk H
        clear H
        go_wp2
        go_loopg [4] k1 (fun kq v4 w' => ∃ (x4_2 : Int), v4 = .int .i64 x4_2 ∧ Aside0 (seedcornref38_Right.l1 kq l0 x3_1 x4_2 = some r) ∧ Aside0 (kq ≤ k1) ∧ Drawn0 w w')
        case atStart => exact ⟨(0), (by first | rfl | (simp; done) | (simp [*]; done)), H', ⟨Nat.le_refl _⟩, by repeat (first | exact Drawn0.refl _ | apply Drawn0.step)⟩
        case round =>
          clear H'
          try clear c2
          try clear c2b0
          try clear p2
          obtain ⟨x4_2, rfl, HA, HK2, ⟨m2, rfl⟩⟩ := hrel
          cases gk with
          | zero => exact absurd HA.out (by simp [seedcornref38_Right.l1])
          | succ k2 =>
            have H := HA.out
            clear HA
            simp only [seedcornref38_Right.l1] at H
            by_cases c3 : 0 ≤ x3_1
            · rw [if_pos c3] at H
              have c3b0 : decide (0 ≤ x3_1) = true := decide_eq_true c3
              clear c3
              by_cases c4 : x3_1 < (l0.length : Int)
              · rw [if_pos c4] at H
                have c4b0 : decide (x3_1 < (l0.length : Int)) = true := decide_eq_true c4
                clear c4
                by_cases c5 : x4_2 < ((rd_L1 l0 x3_1).length : Int)
                · rw [if_pos c5] at H
                  have c5b0 : decide (x4_2 < ((rd_L1 l0 x3_1).length : Int)) = true := decide_eq_true c5
                  clear c5
                  by_cases c6 : 0 ≤ x4_2
                  · rw [if_pos c6] at H
                    have c6b0 : decide (0 ≤ x4_2) = true := decide_eq_true c6
                    clear c6
                    by_cases c7 : (rd (rd_L1 l0 x3_1) x4_2) < 0
                    · rw [if_pos c7] at H
                      have c7b0 : decide ((rd (rd_L1 l0 x3_1) x4_2) < 0) = true := decide_eq_true c7
                      clear c7
                      obtain rfl := Option.some.inj H
                      have p147 : 0 ≤ (x3_1 : Int) := of_decide_eq_true (by first | (with_reducible assumption) | assumption)
                      have q147 : x3_1 < (l0.length : Int) := of_decide_eq_true (by first | (with_reducible assumption) | assumption)
                      obtain ⟨ad147, A147_0, c147_0, e147, hx147_0, hl147_0, hi147_0⟩ := at_L1 HR0.out x3_1 p147 q147
                      cases e147
                      have HR147_0 := Aside0.mk hi147_0
                      have HC147_0 := Aside0.mk hl147_0
                      clear hi147_0 hl147_0
                      replace p147 := eq_true p147
                      replace q147 := eq_true q147
                      have p148 : 0 ≤ (x3_1 : Int) := of_decide_eq_true (by first | (with_reducible assumption) | assumption)
                      have q148 : x3_1 < (l0.length : Int) := of_decide_eq_true (by first | (with_reducible assumption) | assumption)
                      obtain ⟨ad148, A148_0, c148_0, e148, hx148_0, hl148_0, hi148_0⟩ := at_L1 HR0.out x3_1 p148 q148
                      obtain rfl : ad147 = ad148 := (by injection e148)
                      have HR148_0 := Aside0.mk hi148_0
                      have HC148_0 := Aside0.mk hl148_0
                      clear hi148_0 hl148_0
                      replace p148 := eq_true p148
                      replace q148 := eq_true q148
                      have ea_ := Option.some.inj (hx147_0.symm.trans hx148_0)
                      injection ea_ with ea_ en_ ec_
                      subst ea_
                      subst ec_
                      clear en_
                      have p149 : 0 ≤ (x4_2 : Int) := of_decide_eq_true (by first | (with_reducible assumption) | assumption)
                      have q149 : x4_2 < ((rd_L1 l0 x3_1).length : Int) := of_decide_eq_true (by first | (with_reducible assumption) | assumption)
                      obtain ⟨ad149, e149, hx149_0⟩ := Kd.at_int HR148_0.out x4_2 p149 q149
                      cases e149
                      replace p149 := eq_true p149
                      replace q149 := eq_true q149
                      go_wp2
                      go_ret
                      exact ⟨by first | rfl | (simp; done) | (simp [*]; done), by repeat (first | exact Drawn0.refl _ | apply Drawn0.step)⟩
                    · rw [if_neg c7] at H
                      have c7b0 : decide ((rd (rd_L1 l0 x3_1) x4_2) < 0) = false := decide_eq_false c7
                      clear c7
                      by_cases c8 : (rd (rd_L1 l0 x3_1) x4_2) ≥ (l0.length : Int)
                      · rw [if_pos c8] at H
                        have c8b0 : decide ((l0.length : Int) ≤ (rd (rd_L1 l0 x3_1) x4_2)) = true := decide_eq_true c8
                        clear c8
                        obtain rfl := Option.some.inj H
                        have p147 : 0 ≤ (x3_1 : Int) := of_decide_eq_true (by first | (with_reducible assumption) | assumption)
                        have q147 : x3_1 < (l0.length : Int) := of_decide_eq_true (by first | (with_reducible assumption) | assumption)
                        obtain ⟨ad147, A147_0, c147_0, e147, hx147_0, hl147_0, hi147_0⟩ := at_L1 HR0.out x3_1 p147 q147
                        cases e147
                        have HR147_0 := Aside0.mk hi147_0
                        have HC147_0 := Aside0.mk hl147_0
                        clear hi147_0 hl147_0
                        replace p147 := eq_true p147
                        replace q147 := eq_true q147
                        have p148 : 0 ≤ (x3_1 : Int) := of_decide_eq_true (by first | (with_reducible assumption) | assumption)
                        have q148 : x3_1 < (l0.length : Int) := of_decide_eq_true (by first | (with_reducible assumption) | assumption)
                        obtain ⟨ad148, A148_0, c148_0, e148, hx148_0, hl148_0, hi148_0⟩ := at_L1 HR0.out x3_1 p148 q148
                        obtain rfl : ad147 = ad148 := (by injection e148)
                        have HR148_0 := Aside0.mk hi148_0
                        have HC148_0 := Aside0.mk hl148_0
                        clear hi148_0 hl148_0
                        replace p148 := eq_true p148
                        replace q148 := eq_true q148
                        have ea_ := Option.some.inj (hx147_0.symm.trans hx148_0)
                        injection ea_ with ea_ en_ ec_
                        subst ea_
                        subst ec_
                        clear en_
                        have p149 : 0 ≤ (x4_2 : Int) := of_decide_eq_true (by first | (with_reducible assumption) | assumption)
                        have q149 : x4_2 < ((rd_L1 l0 x3_1).length : Int) := of_decide_eq_true (by first | (with_reducible assumption) | assumption)
                        obtain ⟨ad149, e149, hx149_0⟩ := Kd.at_int HR148_0.out x4_2 p149 q149
                        cases e149
                        replace p149 := eq_true p149
                        replace q149 := eq_true q149
                        have p150 : 0 ≤ (x3_1 : Int) := of_decide_eq_true (by first | (with_reducible assumption) | assumption)
                        have q150 : x3_1 < (l0.length : Int) := of_decide_eq_true (by first | (with_reducible assumption) | assumption)
                        obtain ⟨ad150, A150_0, c150_0, e150, hx150_0, hl150_0, hi150_0⟩ := at_L1 HR0.out x3_1 p150 q150
                        obtain rfl : ad147 = ad150 := (by injection e150)
                        have HR150_0 := Aside0.mk hi150_0
                        have HC150_0 := Aside0.mk hl150_0
                        clear hi150_0 hl150_0
                        replace p150 := eq_true p150
                        replace q150 := eq_true q150
                        have ea_ := Option.some.inj (hx147_0.symm.trans hx150_0)
                        injection ea_ with ea_ en_ ec_
                        subst ea_
                        subst ec_
                        clear en_
                        have p151 : 0 ≤ (x4_2 : Int) := of_decide_eq_true (by first | (with_reducible assumption) | assumption)
                        have q151 : x4_2 < ((rd_L1 l0 x3_1).length : Int) := of_decide_eq_true (by first | (with_reducible assumption) | assumption)
                        obtain ⟨ad151, e151, hx151_0⟩ := Kd.at_int HR150_0.out x4_2 p151 q151
                        cases e151
                        replace p151 := eq_true p151
                        replace q151 := eq_true q151
                        go_wp2
                        go_ret
                        exact ⟨by first | rfl | (simp; done) | (simp [*]; done), by repeat (first | exact Drawn0.refl _ | apply Drawn0.step)⟩
                      · rw [if_neg c8] at H
                        have c8b0 : decide ((l0.length : Int) ≤ (rd (rd_L1 l0 x3_1) x4_2)) = false := decide_eq_false c8
                        clear c8
                        have H' := Aside0.mk H
                        clear H
                        have p147 : 0 ≤ (x3_1 : Int) := of_decide_eq_true (by first | (with_reducible assumption) | assumption)
                        have q147 : x3_1 < (l0.length : Int) := of_decide_eq_true (by first | (with_reducible assumption) | assumption)
                        obtain ⟨ad147, A147_0, c147_0, e147, hx147_0, hl147_0, hi147_0⟩ := at_L1 HR0.out x3_1 p147 q147
                        cases e147
                        have HR147_0 := Aside0.mk hi147_0
                        have HC147_0 := Aside0.mk hl147_0
                        clear hi147_0 hl147_0
                        replace p147 := eq_true p147
                        replace q147 := eq_true q147
                        have p148 : 0 ≤ (x3_1 : Int) := of_decide_eq_true (by first | (with_reducible assumption) | assumption)
                        have q148 : x3_1 < (l0.length : Int) := of_decide_eq_true (by first | (with_reducible assumption) | assumption)
                        obtain ⟨ad148, A148_0, c148_0, e148, hx148_0, hl148_0, hi148_0⟩ := at_L1 HR0.out x3_1 p148 q148
                        obtain rfl : ad147 = ad148 := (by injection e148)
                        have HR148_0 := Aside0.mk hi148_0
                        have HC148_0 := Aside0.mk hl148_0
                        clear hi148_0 hl148_0
                        replace p148 := eq_true p148
                        replace q148 := eq_true q148
                        have ea_ := Option.some.inj (hx147_0.symm.trans hx148_0)
                        injection ea_ with ea_ en_ ec_
                        subst ea_
                        subst ec_
                        clear en_
                        have p149 : 0 ≤ (x4_2 : Int) := of_decide_eq_true (by first | (with_reducible assumption) | assumption)
                        have q149 : x4_2 < ((rd_L1 l0 x3_1).length : Int) := of_decide_eq_true (by first | (with_reducible assumption) | assumption)
                        obtain ⟨ad149, e149, hx149_0⟩ := Kd.at_int HR148_0.out x4_2 p149 q149
                        cases e149
                        replace p149 := eq_true p149
                        replace q149 := eq_true q149
                        have p150 : 0 ≤ (x3_1 : Int) := of_decide_eq_true (by first | (with_reducible assumption) | assumption)
                        have q150 : x3_1 < (l0.length : Int) := of_decide_eq_true (by first | (with_reducible assumption) | assumption)
                        obtain ⟨ad150, A150_0, c150_0, e150, hx150_0, hl150_0, hi150_0⟩ := at_L1 HR0.out x3_1 p150 q150
                        obtain rfl : ad147 = ad150 := (by injection e150)
                        have HR150_0 := Aside0.mk hi150_0
                        have HC150_0 := Aside0.mk hl150_0
                        clear hi150_0 hl150_0
                        replace p150 := eq_true p150
                        replace q150 := eq_true q150
                        have ea_ := Option.some.inj (hx147_0.symm.trans hx150_0)
                        injection ea_ with ea_ en_ ec_
                        subst ea_
                        subst ec_
                        clear en_
                        have p151 : 0 ≤ (x4_2 : Int) := of_decide_eq_true (by first | (with_reducible assumption) | assumption)
                        have q151 : x4_2 < ((rd_L1 l0 x3_1).length : Int) := of_decide_eq_true (by first | (with_reducible assumption) | assumption)
                        obtain ⟨ad151, e151, hx151_0⟩ := Kd.at_int HR150_0.out x4_2 p151 q151
                        cases e151
                        replace p151 := eq_true p151
                        replace q151 := eq_true q151
                        go_wp2
                        go_roundg k2
                        case measure => have := HK1.out; have := HK2.out; omega
                        case rel => exact ⟨(wrap64 (x4_2 + 1)), (by first | rfl | (simp; done) | (simp [*]; done)), H', ⟨by have := HK1.out; have := HK2.out; omega⟩, by repeat (first | exact Drawn0.refl _ | apply Drawn0.step)⟩
                  · rw [if_neg c6] at H
                    exact absurd H (by simp)
                · rw [if_neg c5] at H
                  have c5b0 : decide (x4_2 < ((rd_L1 l0 x3_1).length : Int)) = false := decide_eq_false c5
                  clear c5
                  have H' := Aside0.mk H
                  clear H
                  have p147 : 0 ≤ (x3_1 : Int) := of_decide_eq_true (by first | (with_reducible assumption) | assumption)
                  have q147 : x3_1 < (l0.length : Int) := of_decide_eq_true (by first | (with_reducible assumption) | assumption)
                  obtain ⟨ad147, A147_0, c147_0, e147, hx147_0, hl147_0, hi147_0⟩ := at_L1 HR0.out x3_1 p147 q147
                  cases e147
                  have HR147_0 := Aside0.mk hi147_0
                  have HC147_0 := Aside0.mk hl147_0
                  clear hi147_0 hl147_0
                  replace p147 := eq_true p147
                  replace q147 := eq_true q147
                  go_wp2
                  go_roundg k2
                  case measure => have := HK1.out; have := HK2.out; omega
                  case rel => exact ⟨(wrap64 (x3_1 + 1)), (by first | rfl | (simp; done) | (simp [*]; done)), H', ⟨by have := HK1.out; have := HK2.out; omega⟩, by repeat (first | exact Drawn0.refl _ | apply Drawn0.step)⟩
              · rw [if_neg c4] at H
                exact absurd H (by simp)
            · rw [if_neg c3] at H
              exact absurd H (by simp)
      · rw [if_neg c2] at H
        have c2b0 : decide (x3_1 < (l0.length : Int)) = false := decide_eq_false c2
        clear c2
        obtain rfl := Option.some.inj H
        go_wp2
        go_ret
        exact ⟨by first | rfl | (simp; done) | (simp [*]; done), by repeat (first | exact Drawn0.refl _ | apply Drawn0.step)⟩

end Go.Proofs.Ytdknnekkbhpjlaa.G

-- laid by a program of the session (wip/gen/gprint.sh) over the kit's printer, with some functions given
import Derived.Test.YtdknnekkbhpjlaaG0
import Derived.Test.YtdknnekkbhpjlaaHAwake
import Derived.Test.YtdknnekkbhpjlaaHCircle
import Derived.Test.YtdknnekkbhpjlaaHLevels
namespace Go.Proofs.Ytdknnekkbhpjlaa.G
open Go.RowKit Go.Proofs.YtdknnekkbhpjlaaW.PrintWords Go.Proofs.YtdknnekkbhpjlaaW.PrintLast Go.Proofs.YtdknnekkbhpjlaaW.PrintMore
attribute [local go_sem] max2_int min2_int max_two min_two max_three min_three max_four min_four   -- for this text's walks alone
set_option linter.unusedVariables false
set_option linter.unusedSimpArgs false

/-! ### seedcornlaw38_GraphTurned: function 3 -/
mutual
def seedcornlaw38_GraphTurned.j0 : Nat → List (List Int) → Int → Bool → Option (Bool)
  | 0, _, _, _ => none
  | k + 1, x0, x1, x21 => if x21 = true then ((seedcornlaw38_awake.f).bind fun t110 => (some t110)) else (seedcornlaw38_GraphTurned.l0 k x0 x1 ([] : List (List Int)) 0)
def seedcornlaw38_GraphTurned.l0 : Nat → List (List Int) → Int → List (List Int) → Int → Option (Bool)
  | 0, _, _, _, _ => none
  | k + 1, x0, x1, x5, x6 => if x6 < (x0.length : Int) then (seedcornlaw38_GraphTurned.l1 k x0 x1 x5 x6 ([] : List Int) 0) else ((graph_Levels.f x5).bind fun bt126 => (if bt126.2 = 0 then (if (bt126.1.length : Int) > (x5.length : Int) then (seedcornlaw38_GraphTurned.j3 k x1 x5 true) else (if (bt126.1.length : Int) = 0 then (seedcornlaw38_GraphTurned.j3 k x1 x5 true) else ((graph_Circle.f x5).bind fun t130 => (seedcornlaw38_GraphTurned.j3 k x1 x5 (decide ((t130.length : Int) > 0)))))) else (seedcornlaw38_GraphTurned.j3 k x1 x5 true)))
def seedcornlaw38_GraphTurned.l1 : Nat → List (List Int) → Int → List (List Int) → Int → List Int → Int → Option (Bool)
  | 0, _, _, _, _, _, _ => none
  | k + 1, x0, x1, x5, x6, x7, x8 => if 0 ≤ x6 then (if x6 < (x0.length : Int) then (if x8 < ((rd_L5 x0 x6).length : Int) then (if x8 < 8 then (if x6 > 0 then (if 0 ≤ x8 then (if x6 = 0 then (none) else (if x7.length < 17592186044416 then (seedcornlaw38_GraphTurned.l1 k x0 x1 x5 x6 (x7 ++ [Int.tmod (wrap64 (rd (rd_L5 x0 x6) x8)) x6]) (wrap64 (x8 + 1))) else (none))) else (none)) else (if x5.length < 5864062014805 then (seedcornlaw38_GraphTurned.l0 k x0 x1 (x5 ++ [x7]) (wrap64 (x6 + 1))) else (none))) else (if x5.length < 5864062014805 then (seedcornlaw38_GraphTurned.l0 k x0 x1 (x5 ++ [x7]) (wrap64 (x6 + 1))) else (none))) else (if x5.length < 5864062014805 then (seedcornlaw38_GraphTurned.l0 k x0 x1 (x5 ++ [x7]) (wrap64 (x6 + 1))) else (none))) else (none)) else (none)
def seedcornlaw38_GraphTurned.j3 : Nat → Int → List (List Int) → Bool → Option (Bool)
  | 0, _, _, _ => none
  | k + 1, x1, x5, x87 => if x87 = true then (some false) else (if (x5.length : Int) = 0 then (none) else (if 0 ≤ (Int.tmod (wrap64 (x1)) (x5.length : Int)) then (if (Int.tmod (wrap64 (x1)) (x5.length : Int)) < (x5.length : Int) then (if (rd_L1 x5 (Int.tmod (wrap64 (x1)) (x5.length : Int))).length < 17592186044416 then ((some (x5.set ((Int.tmod (wrap64 (x1)) (x5.length : Int)) : Int).toNat ((rd_L1 x5 (Int.tmod (wrap64 (x1)) (x5.length : Int))) ++ [Int.tmod (wrap64 (x1)) (x5.length : Int)]) : List (List Int))).bind fun y137 => ((graph_Levels.f y137).bind fun bt138 => ((seedcornlaw38_awake.f).bind fun t142 => (if t142 = true then (if bt138.2 = 11 then ((graph_Circle.f y137).bind fun t143 => (some (decide ((t143.length : Int) > 0)))) else (some false)) else (some false))))) else (none)) else (none)) else (none)))
end
def seedcornlaw38_GraphTurned.f (k : Nat) (l0 : List (List Int)) (a1 : Int) : Option (Bool) := if (l0.length : Int) = 0 then (seedcornlaw38_GraphTurned.j0 k l0 a1 true) else (seedcornlaw38_GraphTurned.j0 k l0 a1 (decide ((l0.length : Int) > 60)))
theorem seedcornlaw38_GraphTurned.mono_l : ∀ k, (∀ y0 y1 y2, LeO (seedcornlaw38_GraphTurned.j0 k y0 y1 y2) (seedcornlaw38_GraphTurned.j0 (k + 1) y0 y1 y2)) ∧ (∀ y0 y1 y2 y3, LeO (seedcornlaw38_GraphTurned.l0 k y0 y1 y2 y3) (seedcornlaw38_GraphTurned.l0 (k + 1) y0 y1 y2 y3)) ∧ (∀ y0 y1 y2 y3 y4 y5, LeO (seedcornlaw38_GraphTurned.l1 k y0 y1 y2 y3 y4 y5) (seedcornlaw38_GraphTurned.l1 (k + 1) y0 y1 y2 y3 y4 y5)) ∧ (∀ y0 y1 y2, LeO (seedcornlaw38_GraphTurned.j3 k y0 y1 y2) (seedcornlaw38_GraphTurned.j3 (k + 1) y0 y1 y2))
  | 0 => ⟨fun _ _ _ r h => by simp [seedcornlaw38_GraphTurned.j0] at h, fun _ _ _ _ r h => by simp [seedcornlaw38_GraphTurned.l0] at h, fun _ _ _ _ _ _ r h => by simp [seedcornlaw38_GraphTurned.l1] at h, fun _ _ _ r h => by simp [seedcornlaw38_GraphTurned.j3] at h⟩
  | k + 1 => by
    obtain ⟨ih0, ih1, ih2, ih3⟩ := seedcornlaw38_GraphTurned.mono_l k
    refine ⟨?_, ?_, ?_, ?_⟩
    · intro y0 y1 y2
      unfold seedcornlaw38_GraphTurned.j0
      repeat' first
      | (with_reducible exact ih0 _ _ _)
      | (with_reducible exact ih1 _ _ _ _)
      | (with_reducible exact ih2 _ _ _ _ _ _)
      | (with_reducible exact ih3 _ _ _)
      | (with_reducible exact LeO.refl _)
      | (with_reducible exact LeO.none _)
      | (with_reducible refine LeO.ite ?_ ?_)
      | (with_reducible refine LeO.bind ?_ (fun _ => ?_))
      | exact ih0 _ _ _
      | exact ih1 _ _ _ _
      | exact ih2 _ _ _ _ _ _
      | exact ih3 _ _ _
      | exact LeO.none _
      | refine LeO.ite ?_ ?_
      | refine LeO.bind ?_ (fun _ => ?_)
    · intro y0 y1 y2 y3
      unfold seedcornlaw38_GraphTurned.l0
      repeat' first
      | (with_reducible exact ih0 _ _ _)
      | (with_reducible exact ih1 _ _ _ _)
      | (with_reducible exact ih2 _ _ _ _ _ _)
      | (with_reducible exact ih3 _ _ _)
      | (with_reducible exact LeO.refl _)
      | (with_reducible exact LeO.none _)
      | (with_reducible refine LeO.ite ?_ ?_)
      | (with_reducible refine LeO.bind ?_ (fun _ => ?_))
      | exact ih0 _ _ _
      | exact ih1 _ _ _ _
      | exact ih2 _ _ _ _ _ _
      | exact ih3 _ _ _
      | exact LeO.none _
      | refine LeO.ite ?_ ?_
      | refine LeO.bind ?_ (fun _ => ?_)
    · intro y0 y1 y2 y3 y4 y5
      unfold seedcornlaw38_GraphTurned.l1
      repeat' first
      | (with_reducible exact ih0 _ _ _)
      | (with_reducible exact ih1 _ _ _ _)
      | (with_reducible exact ih2 _ _ _ _ _ _)
      | (with_reducible exact ih3 _ _ _)
      | (with_reducible exact LeO.refl _)
      | (with_reducible exact LeO.none _)
      | (with_reducible refine LeO.ite ?_ ?_)
      | (with_reducible refine LeO.bind ?_ (fun _ => ?_))
      | exact ih0 _ _ _
      | exact ih1 _ _ _ _
      | exact ih2 _ _ _ _ _ _
      | exact ih3 _ _ _
      | exact LeO.none _
      | refine LeO.ite ?_ ?_
      | refine LeO.bind ?_ (fun _ => ?_)
    · intro y0 y1 y2
      unfold seedcornlaw38_GraphTurned.j3
      repeat' first
      | (with_reducible exact ih0 _ _ _)
      | (with_reducible exact ih1 _ _ _ _)
      | (with_reducible exact ih2 _ _ _ _ _ _)
      | (with_reducible exact ih3 _ _ _)
      | (with_reducible exact LeO.refl _)
      | (with_reducible exact LeO.none _)
      | (with_reducible refine LeO.ite ?_ ?_)
      | (with_reducible refine LeO.bind ?_ (fun _ => ?_))
      | exact ih0 _ _ _
      | exact ih1 _ _ _ _
      | exact ih2 _ _ _ _ _ _
      | exact ih3 _ _ _
      | exact LeO.none _
      | refine LeO.ite ?_ ?_
      | refine LeO.bind ?_ (fun _ => ?_)
theorem seedcornlaw38_GraphTurned.mono : ∀ a0 a1 k, LeO (seedcornlaw38_GraphTurned.f k a0 a1) (seedcornlaw38_GraphTurned.f (k + 1) a0 a1) := by
  intro a0 a1 k
  obtain ⟨ih0, ih1, ih2, ih3⟩ := seedcornlaw38_GraphTurned.mono_l k
  unfold seedcornlaw38_GraphTurned.f
  repeat' first
      | (with_reducible exact ih0 _ _ _)
      | (with_reducible exact ih1 _ _ _ _)
      | (with_reducible exact ih2 _ _ _ _ _ _)
      | (with_reducible exact ih3 _ _ _)
      | (with_reducible exact LeO.refl _)
      | (with_reducible exact LeO.none _)
      | (with_reducible refine LeO.ite ?_ ?_)
      | (with_reducible refine LeO.bind ?_ (fun _ => ?_))
      | exact ih0 _ _ _
      | exact ih1 _ _ _ _
      | exact ih2 _ _ _ _ _ _
      | exact ih3 _ _ _
      | exact LeO.none _
      | refine LeO.ite ?_ ?_
      | refine LeO.bind ?_ (fun _ => ?_)
set_option maxHeartbeats 8000000 in
set_option maxRecDepth 100000 in
theorem seedcornlaw38_GraphTurned.calls (k : Nat) (A0 : Option Addr) (c0 : Nat) (l0 : List (List Int)) (a1 : Int) (r : Bool) (w : World) (hr0 : Kd.C (Kd.slice 5 (Kd.int .u8)) w A0 l0.length l0) (hc0 : l0.length ≤ c0) (h : seedcornlaw38_GraphTurned.f k l0 a1 = some r) :
    Calls Try.prog 3 #[.slice A0 l0.length c0, .int .u8 a1] w fun e w' => e = .returned (.bool r) ∧ Below w.heap.size w w' := by
  have HR0 := Aside0.mk hr0
  have HC0 := Aside0.mk hc0
  clear hr0 hc0
  have HB := Aside0.mk (Below.refl w.heap.size w)
  have H : (if (l0.length : Int) = 0 then (seedcornlaw38_GraphTurned.j0 k l0 a1 true) else (seedcornlaw38_GraphTurned.j0 k l0 a1 (decide ((l0.length : Int) > 60)))) = some r := h
  clear h
  have HC3 := Aside0.mk H
  clear H
  go_enter Try.func3, Try.ntmps3
  go_upto_region 1 with (fail)
  go_cut [21] (fun v21 wc => ∃ (kq : Nat) (x21_2 : Bool), v21 = .bool x21_2 ∧ Aside0 (seedcornlaw38_GraphTurned.j0 kq l0 a1 x21_2 = some r) ∧ Aside0 (kq ≤ k) ∧ Aside0 (Below w.heap.size w wc))
  case first =>
    have H := HC3.out
    clear HC3
    by_cases c4 : (l0.length : Int) = 0
    · rw [if_pos c4] at H
      have c4b0 : ((l0.length : Int) == 0) = true := beq_iff_eq.mpr c4
      have c4b1 : ((l0.length : Int) != 0) = false := bne_eq_false_iff_eq.mpr c4
      clear c4
      (first | rw [c4b0] | (simp only [i64_w, i32_w]; rw [c4b0]) | skip)
      have H' := Aside0.mk H
      clear H
      go_wp2
      go_meet
      case rel => exact ⟨_, (true), (by first | rfl | (simp; done) | (simp [*]; done)), H', ⟨by first | omega | exact Nat.le_refl _⟩, ⟨by repeat (first | (with_reducible first | exact HB.out | apply below_alloc | apply pw_below_drewN | apply below_drew1) | exact HB.out)⟩⟩
    · rw [if_neg c4] at H
      have c4b0 : ((l0.length : Int) == 0) = false := beq_eq_false_iff_ne.mpr c4
      have c4b1 : ((l0.length : Int) != 0) = true := bne_iff_ne.mpr c4
      have c4b2 : ¬ (l0 = []) := fun h_ => c4 (by rw [h_]; rfl)
      (first | rw [c4b0] | (simp only [i64_w, i32_w]; rw [c4b0]) | skip)
      have H' := Aside0.mk H
      clear H
      go_wp2
      go_meet
      case rel => exact ⟨_, (decide ((l0.length : Int) > 60)), (by first | rfl | (simp; done) | (simp [*]; done)), H', ⟨by first | omega | exact Nat.le_refl _⟩, ⟨by repeat (first | (with_reducible first | exact HB.out | apply below_alloc | apply pw_below_drewN | apply below_drew1) | exact HB.out)⟩⟩
  case rest =>
    clear HC3
    try clear p2
    try clear c3
    try clear c4
    try clear c4b0
    try clear c4b1
    try clear c4b2
    obtain ⟨kq, x21_2, rfl, HA, HJ2, HB⟩ := hcut
    cases kq with
    | zero => exact absurd HA.out (by simp [seedcornlaw38_GraphTurned.j0])
    | succ kj2 =>
      have H := HA.out
      clear HA
      simp only [seedcornlaw38_GraphTurned.j0] at H
      by_cases c5 : x21_2 = true
      · subst c5
        have H1 : ((seedcornlaw38_awake.f).bind fun t110 => (some t110)) = some r := by rw [if_pos rfl] at H; exact H
        clear H
        have H := H1
        clear H1
        replace H := Option.bind_eq_some_iff.mp H
        obtain ⟨t110, A60, H⟩ := H
        replace H : (some t110) = some r := H
        have A6 := Aside0.mk A60
        clear A60
        obtain rfl := Option.some.inj H
        go_wp2_with (first | ((with_reducible refine gate_callee (f := 10) rfl ?_); refine goesL_ (some 22) rfl rfl Try.func10 (by kernel_rfl) rfl #[] rfl (by (try simp only [List.map_toArray, List.map_cons, List.map_nil]); first | done | rfl | (simp only [List.length_drop, List.length_take]; rfl)) ?_; (with_reducible refine (seedcornlaw38_awake.calls  t110 _ A6.out).mono ?_); rintro e w7 ⟨rfl, hb⟩; refine ⟨_, rfl, ?_⟩; have n0_ := Aside0.mk (below_step (by repeat (first | (with_reducible first | exact HB.out | apply below_alloc | apply pw_below_drewN | apply below_drew1) | exact HB.out)) hb); clear HB; have HB := n0_; clear n0_; (try clear hb); (try clear hb2); (try clear hk); (try clear hi)))
        go_ret
        exact ⟨by first | rfl | (simp [errW_none, errW_some] <;> rfl) | (simp [*, errW_none, errW_some] <;> rfl), by repeat (first | (with_reducible first | exact HB.out | apply below_alloc | apply pw_below_drewN | apply below_drew1) | exact HB.out)⟩
      · replace c5 := Bool.eq_false_iff.mpr c5
        subst c5
        have H1 : (seedcornlaw38_GraphTurned.l0 kj2 l0 a1 ([] : List (List Int)) 0) = some r := by rw [if_neg (show ¬ (false = true) by decide)] at H; exact H
        clear H
        have H := H1
        clear H1
        have H' := Aside0.mk H
        clear H
        go_wp2
        go_loopg [5, 6] kj2 (fun kq v5 v6 w' => ∃ (x5_2 : List (List Int)) (x6_2 : Int), v6 = .int .i64 x6_2 ∧ Aside0 (seedcornlaw38_GraphTurned.l0 kq l0 a1 x5_2 x6_2 = some r) ∧ Aside0 (kq ≤ kj2) ∧ Aside0 (Kd.S (Kd.slice 3 (Kd.int .i64)) 25 w' w.heap.size (fun _ => True) v5 x5_2) ∧ Aside0 (Below w.heap.size w w'))
        case atStart => exact ⟨(([] : List (List Int))), (0), (by first | rfl | (simp; done) | (simp [*]; done)), H', ⟨Nat.le_refl _⟩, ⟨by first | exact Kd.S_nil _ _ _ _ _ | exact Kd.N_nil _ _ _ _ _ | exact Kd.V_nil _ _ _ _ _ | exact Kd.Q_nil _ _ _ _ _ | exact Kd.R_nil _ _ _ _ _⟩, ⟨by repeat (first | (with_reducible first | exact HB.out | apply below_alloc | apply pw_below_drewN | apply below_drew1) | exact HB.out)⟩⟩
        case round =>
          clear H'
          try clear c1
          try clear p2
          try clear c3
          try clear c4
          try clear c4b0
          try clear c4b1
          try clear c4b2
          try clear c5
          try clear p2
          obtain ⟨x5_2, x6_2, rfl, HA, HK2, HO_5, HB⟩ := hrel
          cases gk with
          | zero => exact absurd HA.out (by simp [seedcornlaw38_GraphTurned.l0])
          | succ k2 =>
            have H := HA.out
            clear HA
            simp only [seedcornlaw38_GraphTurned.l0] at H
            by_cases c8 : x6_2 < (l0.length : Int)
            · rw [if_pos c8] at H
              have c8b0 : decide (x6_2 < (l0.length : Int)) = true := decide_eq_true c8
              clear c8
              have H' := Aside0.mk H
              clear H
              go_wp2
              go_loopg [7, 8] k2 (fun kq v7 v8 w' => ∃ (x7_3 : List Int) (x8_3 : Int), v8 = .int .i64 x8_3 ∧ Aside0 (seedcornlaw38_GraphTurned.l1 kq l0 a1 x5_2 x6_2 x7_3 x8_3 = some r) ∧ Aside0 (kq ≤ k2) ∧ Aside0 (Kd.S (Kd.slice 3 (Kd.int .i64)) 25 w' w.heap.size (fun k_ => some k_ ≠ (v7 : Value).ownBlock) u5 x5_2) ∧ Aside0 (Kd.R (Kd.int .i64) 3 w' w.heap.size (fun _ => True) v7 x7_3) ∧ Aside0 (Below w.heap.size w w'))
              case atStart => exact ⟨(([] : List Int)), (0), (by first | rfl | (simp; done) | (simp [*]; done)), H', ⟨Nat.le_refl _⟩, ⟨by (with_reducible repeat (first | apply Kd.S_alloc | apply Kd.S_drewN | apply Kd.S_drew)); exact Kd.S_mono HO_5.out (fun _ hk => (by simp [Value.ownBlock]))⟩, ⟨by first | exact Kd.R_nil _ _ _ _ _ | exact Kd.N_nil _ _ _ _ _ | exact Kd.V_nil _ _ _ _ _ | exact Kd.Q_nil _ _ _ _ _ | exact Kd.S_nil _ _ _ _ _⟩, ⟨by repeat (first | (with_reducible first | exact HB.out | apply below_alloc | apply pw_below_drewN | apply below_drew1) | exact HB.out)⟩⟩
              case round =>
                clear H'
                try clear c1
                try clear p2
                try clear c3
                try clear c4
                try clear c4b0
                try clear c4b1
                try clear c4b2
                try clear c5
                try clear c8
                try clear c8b0
                try clear p2
                obtain ⟨x7_3, x8_3, rfl, HA, HK3, HO_5, HO_7, HB⟩ := hrel
                cases gk with
                | zero => exact absurd HA.out (by simp [seedcornlaw38_GraphTurned.l1])
                | succ k3 =>
                  have H := HA.out
                  clear HA
                  simp only [seedcornlaw38_GraphTurned.l1] at H
                  by_cases c9 : 0 ≤ x6_2
                  · rw [if_pos c9] at H
                    have c9b0 : decide (0 ≤ x6_2) = true := decide_eq_true c9
                    clear c9
                    by_cases c10 : x6_2 < (l0.length : Int)
                    · rw [if_pos c10] at H
                      have c10b0 : decide (x6_2 < (l0.length : Int)) = true := decide_eq_true c10
                      clear c10
                      by_cases c11 : x8_3 < ((rd_L5 l0 x6_2).length : Int)
                      · rw [if_pos c11] at H
                        have c11b0 : decide (x8_3 < ((rd_L5 l0 x6_2).length : Int)) = true := decide_eq_true c11
                        clear c11
                        by_cases c12 : x8_3 < 8
                        · rw [if_pos c12] at H
                          have c12b0 : decide (x8_3 < 8) = true := decide_eq_true c12
                          clear c12
                          by_cases c13 : x6_2 > 0
                          · rw [if_pos c13] at H
                            have c13b0 : decide (0 < x6_2) = true := decide_eq_true c13
                            clear c13
                            by_cases c14 : 0 ≤ x8_3
                            · rw [if_pos c14] at H
                              have c14b0 : decide (0 ≤ x8_3) = true := decide_eq_true c14
                              clear c14
                              by_cases c15 : x6_2 = 0
                              · rw [if_pos c15] at H
                                exact absurd H (by simp)
                              · rw [if_neg c15] at H
                                have c15b0 : (x6_2 == 0) = false := beq_eq_false_iff_ne.mpr c15
                                have c15b1 : (x6_2 != 0) = true := bne_iff_ne.mpr c15
                                by_cases c16 : x7_3.length < 17592186044416
                                · rw [if_pos c16] at H
                                  have LMc16 := Aside0.mk c16
                                  clear c16
                                  obtain ⟨y114, hy114⟩ : ∃ y_ : List Int, y_ = (x7_3 ++ [Int.tmod (wrap64 (rd (rd_L5 l0 x6_2) x8_3)) x6_2]) := ⟨_, rfl⟩
                                  replace H : (seedcornlaw38_GraphTurned.l1 k3 l0 a1 x5_2 x6_2 y114 (wrap64 (x8_3 + 1))) = some r := by first | (rw [hy114]; with_reducible exact H) | (have H2_ := (Option.bind_some _ _).symm.trans H; rw [hy114]; with_reducible exact H2_) | (have H2_ := (Option.bind_some _ _).symm.trans H; with_reducible exact H2_) | with_reducible exact H | (rw [hy114]; exact H) | exact H
                                  have Ny114 := Aside0.mk hy114
                                  clear hy114
                                  have H' := Aside0.mk H
                                  clear H
                                  have p111 : 0 ≤ (x6_2 : Int) := of_decide_eq_true (by first | (with_reducible assumption) | assumption)
                                  have q111 : x6_2 < (l0.length : Int) := of_decide_eq_true (by first | (with_reducible assumption) | assumption)
                                  obtain ⟨ad111, A111_0, c111_0, e111, hx111_0, hl111_0, hi111_0⟩ := at_L5 HR0.out x6_2 p111 q111
                                  cases e111
                                  replace hx111_0 := (HB.out.cell (World.block_lt_of_cell? w _ hx111_0)).trans hx111_0
                                  have HR111_0 := Aside0.mk hi111_0
                                  have HC111_0 := Aside0.mk hl111_0
                                  clear hi111_0 hl111_0
                                  replace p111 := eq_true p111
                                  replace q111 := eq_true q111
                                  have p112 : 0 ≤ (x6_2 : Int) := of_decide_eq_true (by first | (with_reducible assumption) | assumption)
                                  have q112 : x6_2 < (l0.length : Int) := of_decide_eq_true (by first | (with_reducible assumption) | assumption)
                                  obtain ⟨ad112, A112_0, c112_0, e112, hx112_0, hl112_0, hi112_0⟩ := at_L5 HR0.out x6_2 p112 q112
                                  obtain rfl : ad111 = ad112 := (by injection e112)
                                  replace hx112_0 := (HB.out.cell (World.block_lt_of_cell? w _ hx112_0)).trans hx112_0
                                  have HR112_0 := Aside0.mk hi112_0
                                  have HC112_0 := Aside0.mk hl112_0
                                  clear hi112_0 hl112_0
                                  replace p112 := eq_true p112
                                  replace q112 := eq_true q112
                                  have ea_ := Option.some.inj (hx111_0.symm.trans hx112_0)
                                  injection ea_ with ea_ en_ ec_
                                  subst ea_
                                  subst ec_
                                  clear en_
                                  have p113 : 0 ≤ (x8_3 : Int) := of_decide_eq_true (by first | (with_reducible assumption) | assumption)
                                  have q113 : x8_3 < ((rd_L5 l0 x6_2).length : Int) := of_decide_eq_true (by first | (with_reducible assumption) | assumption)
                                  obtain ⟨ad113, e113, hx113_0⟩ := Kd.at_int HR112_0.out x8_3 p113 q113
                                  cases e113
                                  replace hx113_0 := (HB.out.cell (World.block_lt_of_cell? w _ hx113_0)).trans hx113_0
                                  replace p113 := eq_true p113
                                  replace q113 := eq_true q113
                                  go_wp2_with (first | ((with_reducible refine gate_builtin (b := .append) (xs := #[.tmp 46, .tmp 57]) rfl ?_); (try (refine gate_guard (by rfl) ?_; dsimp only)); at_builtin; refine Kd.R_append (Kd.int .i64) (w0 := w) w.heap.size rfl (.tmp 46) (.tmp 57) 25 3 (.int .i64 0) 8 rfl Try.underlying25 info3 rfl (by decide) (by omega) u7 x7_3 (Int.tmod (wrap64 (rd (rd_L5 l0 x6_2) x8_3)) x6_2) [.int .i64 (Int.tmod (wrap64 (rd (rd_L5 l0 x6_2) x8_3)) x6_2)] (fun _ => True) (fun _ => False) rfl rfl ?aP (fun _ hk => hk.elim) ?aF ?aO ?aB ?aS ?aL ?_; (case aP => exact rfl); (case aB => exact (by repeat (first | (with_reducible first | exact HB.out | apply below_alloc | apply pw_below_drewN | apply below_drew1) | exact HB.out))); (case aF => exact (fun _ _ => trivial)); (case aO => exact (by (with_reducible repeat (first | apply Kd.R_alloc | apply Kd.R_drewN | apply Kd.R_drew)); exact HO_7.out)); (case aS => exact (below_size (by repeat (first | (with_reducible first | exact HB.out | apply below_alloc | apply pw_below_drewN | apply below_drew1) | exact HB.out)))); (case aL => have := LMc16.out; omega); intro v115 w17 ho hb hg hat; rw [← Ny114.out] at ho; have n0_ := Aside0.mk (Kd.S_after (ok := (fun _ => True)) (by (with_reducible repeat (first | apply Kd.S_alloc | apply Kd.S_drewN | apply Kd.S_drew)); exact Kd.S_mono HO_5.out (fun _ hk => ⟨trivial, hk⟩)) hg hat); have n1_ := Aside0.mk (hb); have n2_ := Aside0.mk (ho); clear HO_5; clear HB; clear HO_7; have HO_5 := n0_; have HB := n1_; have HO116 := n2_; clear n0_ n1_ n2_; clear ho hb hg hat))
                                  go_roundg k3
                                  case measure => have := HJ2.out; have := HK2.out; have := HK3.out; omega
                                  case rel => exact ⟨(y114), (wrap64 (x8_3 + 1)), (by first | rfl | (simp; done) | (simp [*]; done)), H', ⟨by have := HJ2.out; have := HK2.out; have := HK3.out; omega⟩, ⟨by (with_reducible repeat (first | apply Kd.S_alloc | apply Kd.S_drewN | apply Kd.S_drew)); exact Kd.S_mono HO_5.out (fun _ hk => hk.2)⟩, ⟨by (with_reducible repeat (first | apply Kd.R_alloc | apply Kd.R_drewN | apply Kd.R_drew)); exact HO116.out⟩, ⟨by repeat (first | (with_reducible first | exact HB.out | apply below_alloc | apply pw_below_drewN | apply below_drew1) | exact HB.out)⟩⟩
                                · rw [if_neg c16] at H
                                  exact absurd H (by simp)
                            · rw [if_neg c14] at H
                              exact absurd H (by simp)
                          · rw [if_neg c13] at H
                            have c13b0 : decide (0 < x6_2) = false := decide_eq_false c13
                            clear c13
                            by_cases c18 : x5_2.length < 5864062014805
                            · rw [if_pos c18] at H
                              have LMc18 := Aside0.mk c18
                              clear c18
                              obtain ⟨y117, hy117⟩ : ∃ y_ : List (List Int), y_ = (x5_2 ++ [x7_3]) := ⟨_, rfl⟩
                              replace H : (seedcornlaw38_GraphTurned.l0 k3 l0 a1 y117 (wrap64 (x6_2 + 1))) = some r := by first | (rw [hy117]; with_reducible exact H) | (have H2_ := (Option.bind_some _ _).symm.trans H; rw [hy117]; with_reducible exact H2_) | (have H2_ := (Option.bind_some _ _).symm.trans H; with_reducible exact H2_) | with_reducible exact H | (rw [hy117]; exact H) | exact H
                              have Ny117 := Aside0.mk hy117
                              clear hy117
                              have H' := Aside0.mk H
                              clear H
                              have p111 : 0 ≤ (x6_2 : Int) := of_decide_eq_true (by first | (with_reducible assumption) | assumption)
                              have q111 : x6_2 < (l0.length : Int) := of_decide_eq_true (by first | (with_reducible assumption) | assumption)
                              obtain ⟨ad111, A111_0, c111_0, e111, hx111_0, hl111_0, hi111_0⟩ := at_L5 HR0.out x6_2 p111 q111
                              cases e111
                              replace hx111_0 := (HB.out.cell (World.block_lt_of_cell? w _ hx111_0)).trans hx111_0
                              have HR111_0 := Aside0.mk hi111_0
                              have HC111_0 := Aside0.mk hl111_0
                              clear hi111_0 hl111_0
                              replace p111 := eq_true p111
                              replace q111 := eq_true q111
                              obtain ⟨Ao20, co20, eo20⟩ := Kd.R_slice HO_7.out
                              subst eo20
                              go_wp2_with (first | ((with_reducible refine gate_builtin (b := .append) (xs := #[.tmp 59, .tmp 61]) rfl ?_); (try (refine gate_guard (by rfl) ?_; dsimp only)); at_builtin; refine Kd.S_append (Kd.slice 3 (Kd.int .i64)) (w0 := w) w.heap.size rfl (.tmp 59) (.tmp 61) 24 25 (.slice none 0 0) 24 rfl Try.underlying24 info25 rfl (by decide) (by omega) u5 x5_2 x7_3 [.slice Ao20 x7_3.length co20] (fun _ => True) (fun k_ => some k_ = (.slice Ao20 x7_3.length co20 : Value).ownBlock) rfl rfl ?aP (fun k_ hk_ => ((Kd.R_mono (ok' := fun k_ => ((fun _ => True)) k_ ∧ some k_ ≠ (u5 : Value).ownBlock) (Kd.R_apart' (HO_7.out) (Kd.S_typed HO_5.out) (by decide)) (fun k_ hk => ⟨trivial, hk.2⟩))).1 k_ hk_.symm) ?aF ?aO ?aB ?aS ?aL ?_; (case aP => exact Kd.M_row (Kd.R_mono (Kd.R_tight rfl (Kd.R_mono (ok' := fun k_ => ((fun _ => True)) k_ ∧ some k_ ≠ (u5 : Value).ownBlock) (Kd.R_apart' (HO_7.out) (Kd.S_typed HO_5.out) (by decide)) (fun k_ hk => ⟨trivial, hk.2⟩))) (fun _ h_ => h_))); (case aB => exact (by repeat (first | (with_reducible first | exact HB.out | apply below_alloc | apply pw_below_drewN | apply below_drew1) | exact HB.out))); (case aF => exact (fun _ _ => trivial)); (case aO => exact (by (with_reducible repeat (first | apply Kd.S_alloc | apply Kd.S_drewN | apply Kd.S_drew)); exact Kd.S_mono HO_5.out (fun k_ hk => ⟨trivial, fun e_ => hk e_⟩))); (case aS => exact (below_size (by repeat (first | (with_reducible first | exact HB.out | apply below_alloc | apply pw_below_drewN | apply below_drew1) | exact HB.out)))); (case aL => have := LMc18.out; omega); intro v118 w19 ho hb hg hat; rw [← Ny117.out] at ho; have n0_ := Aside0.mk (hb); have n1_ := Aside0.mk (ho); clear HB; clear HO_5; clear HO_7; have HB := n0_; have HO119 := n1_; clear n0_ n1_; clear ho hb hg hat))
                              go_roundg k3
                              case measure => have := HJ2.out; have := HK2.out; have := HK3.out; omega
                              case rel => exact ⟨(y117), (wrap64 (x6_2 + 1)), (by first | rfl | (simp; done) | (simp [*]; done)), H', ⟨by have := HJ2.out; have := HK2.out; have := HK3.out; omega⟩, ⟨by (with_reducible repeat (first | apply Kd.S_alloc | apply Kd.S_drewN | apply Kd.S_drew)); exact HO119.out⟩, ⟨by repeat (first | (with_reducible first | exact HB.out | apply below_alloc | apply pw_below_drewN | apply below_drew1) | exact HB.out)⟩⟩
                            · rw [if_neg c18] at H
                              exact absurd H (by simp)
                        · rw [if_neg c12] at H
                          have c12b0 : decide (x8_3 < 8) = false := decide_eq_false c12
                          clear c12
                          by_cases c21 : x5_2.length < 5864062014805
                          · rw [if_pos c21] at H
                            have LMc21 := Aside0.mk c21
                            clear c21
                            obtain ⟨y120, hy120⟩ : ∃ y_ : List (List Int), y_ = (x5_2 ++ [x7_3]) := ⟨_, rfl⟩
                            replace H : (seedcornlaw38_GraphTurned.l0 k3 l0 a1 y120 (wrap64 (x6_2 + 1))) = some r := by first | (rw [hy120]; with_reducible exact H) | (have H2_ := (Option.bind_some _ _).symm.trans H; rw [hy120]; with_reducible exact H2_) | (have H2_ := (Option.bind_some _ _).symm.trans H; with_reducible exact H2_) | with_reducible exact H | (rw [hy120]; exact H) | exact H
                            have Ny120 := Aside0.mk hy120
                            clear hy120
                            have H' := Aside0.mk H
                            clear H
                            have p111 : 0 ≤ (x6_2 : Int) := of_decide_eq_true (by first | (with_reducible assumption) | assumption)
                            have q111 : x6_2 < (l0.length : Int) := of_decide_eq_true (by first | (with_reducible assumption) | assumption)
                            obtain ⟨ad111, A111_0, c111_0, e111, hx111_0, hl111_0, hi111_0⟩ := at_L5 HR0.out x6_2 p111 q111
                            cases e111
                            replace hx111_0 := (HB.out.cell (World.block_lt_of_cell? w _ hx111_0)).trans hx111_0
                            have HR111_0 := Aside0.mk hi111_0
                            have HC111_0 := Aside0.mk hl111_0
                            clear hi111_0 hl111_0
                            replace p111 := eq_true p111
                            replace q111 := eq_true q111
                            obtain ⟨Ao23, co23, eo23⟩ := Kd.R_slice HO_7.out
                            subst eo23
                            go_wp2_with (first | ((with_reducible refine gate_builtin (b := .append) (xs := #[.tmp 59, .tmp 61]) rfl ?_); (try (refine gate_guard (by rfl) ?_; dsimp only)); at_builtin; refine Kd.S_append (Kd.slice 3 (Kd.int .i64)) (w0 := w) w.heap.size rfl (.tmp 59) (.tmp 61) 24 25 (.slice none 0 0) 24 rfl Try.underlying24 info25 rfl (by decide) (by omega) u5 x5_2 x7_3 [.slice Ao23 x7_3.length co23] (fun _ => True) (fun k_ => some k_ = (.slice Ao23 x7_3.length co23 : Value).ownBlock) rfl rfl ?aP (fun k_ hk_ => ((Kd.R_mono (ok' := fun k_ => ((fun _ => True)) k_ ∧ some k_ ≠ (u5 : Value).ownBlock) (Kd.R_apart' (HO_7.out) (Kd.S_typed HO_5.out) (by decide)) (fun k_ hk => ⟨trivial, hk.2⟩))).1 k_ hk_.symm) ?aF ?aO ?aB ?aS ?aL ?_; (case aP => exact Kd.M_row (Kd.R_mono (Kd.R_tight rfl (Kd.R_mono (ok' := fun k_ => ((fun _ => True)) k_ ∧ some k_ ≠ (u5 : Value).ownBlock) (Kd.R_apart' (HO_7.out) (Kd.S_typed HO_5.out) (by decide)) (fun k_ hk => ⟨trivial, hk.2⟩))) (fun _ h_ => h_))); (case aB => exact (by repeat (first | (with_reducible first | exact HB.out | apply below_alloc | apply pw_below_drewN | apply below_drew1) | exact HB.out))); (case aF => exact (fun _ _ => trivial)); (case aO => exact (by (with_reducible repeat (first | apply Kd.S_alloc | apply Kd.S_drewN | apply Kd.S_drew)); exact Kd.S_mono HO_5.out (fun k_ hk => ⟨trivial, fun e_ => hk e_⟩))); (case aS => exact (below_size (by repeat (first | (with_reducible first | exact HB.out | apply below_alloc | apply pw_below_drewN | apply below_drew1) | exact HB.out)))); (case aL => have := LMc21.out; omega); intro v121 w22 ho hb hg hat; rw [← Ny120.out] at ho; have n0_ := Aside0.mk (hb); have n1_ := Aside0.mk (ho); clear HB; clear HO_5; clear HO_7; have HB := n0_; have HO122 := n1_; clear n0_ n1_; clear ho hb hg hat))
                            go_roundg k3
                            case measure => have := HJ2.out; have := HK2.out; have := HK3.out; omega
                            case rel => exact ⟨(y120), (wrap64 (x6_2 + 1)), (by first | rfl | (simp; done) | (simp [*]; done)), H', ⟨by have := HJ2.out; have := HK2.out; have := HK3.out; omega⟩, ⟨by (with_reducible repeat (first | apply Kd.S_alloc | apply Kd.S_drewN | apply Kd.S_drew)); exact HO122.out⟩, ⟨by repeat (first | (with_reducible first | exact HB.out | apply below_alloc | apply pw_below_drewN | apply below_drew1) | exact HB.out)⟩⟩
                          · rw [if_neg c21] at H
                            exact absurd H (by simp)
                      · rw [if_neg c11] at H
                        have c11b0 : decide (x8_3 < ((rd_L5 l0 x6_2).length : Int)) = false := decide_eq_false c11
                        clear c11
                        by_cases c24 : x5_2.length < 5864062014805
                        · rw [if_pos c24] at H
                          have LMc24 := Aside0.mk c24
                          clear c24
                          obtain ⟨y123, hy123⟩ : ∃ y_ : List (List Int), y_ = (x5_2 ++ [x7_3]) := ⟨_, rfl⟩
                          replace H : (seedcornlaw38_GraphTurned.l0 k3 l0 a1 y123 (wrap64 (x6_2 + 1))) = some r := by first | (rw [hy123]; with_reducible exact H) | (have H2_ := (Option.bind_some _ _).symm.trans H; rw [hy123]; with_reducible exact H2_) | (have H2_ := (Option.bind_some _ _).symm.trans H; with_reducible exact H2_) | with_reducible exact H | (rw [hy123]; exact H) | exact H
                          have Ny123 := Aside0.mk hy123
                          clear hy123
                          have H' := Aside0.mk H
                          clear H
                          have p111 : 0 ≤ (x6_2 : Int) := of_decide_eq_true (by first | (with_reducible assumption) | assumption)
                          have q111 : x6_2 < (l0.length : Int) := of_decide_eq_true (by first | (with_reducible assumption) | assumption)
                          obtain ⟨ad111, A111_0, c111_0, e111, hx111_0, hl111_0, hi111_0⟩ := at_L5 HR0.out x6_2 p111 q111
                          cases e111
                          replace hx111_0 := (HB.out.cell (World.block_lt_of_cell? w _ hx111_0)).trans hx111_0
                          have HR111_0 := Aside0.mk hi111_0
                          have HC111_0 := Aside0.mk hl111_0
                          clear hi111_0 hl111_0
                          replace p111 := eq_true p111
                          replace q111 := eq_true q111
                          obtain ⟨Ao26, co26, eo26⟩ := Kd.R_slice HO_7.out
                          subst eo26
                          go_wp2_with (first | ((with_reducible refine gate_builtin (b := .append) (xs := #[.tmp 59, .tmp 61]) rfl ?_); (try (refine gate_guard (by rfl) ?_; dsimp only)); at_builtin; refine Kd.S_append (Kd.slice 3 (Kd.int .i64)) (w0 := w) w.heap.size rfl (.tmp 59) (.tmp 61) 24 25 (.slice none 0 0) 24 rfl Try.underlying24 info25 rfl (by decide) (by omega) u5 x5_2 x7_3 [.slice Ao26 x7_3.length co26] (fun _ => True) (fun k_ => some k_ = (.slice Ao26 x7_3.length co26 : Value).ownBlock) rfl rfl ?aP (fun k_ hk_ => ((Kd.R_mono (ok' := fun k_ => ((fun _ => True)) k_ ∧ some k_ ≠ (u5 : Value).ownBlock) (Kd.R_apart' (HO_7.out) (Kd.S_typed HO_5.out) (by decide)) (fun k_ hk => ⟨trivial, hk.2⟩))).1 k_ hk_.symm) ?aF ?aO ?aB ?aS ?aL ?_; (case aP => exact Kd.M_row (Kd.R_mono (Kd.R_tight rfl (Kd.R_mono (ok' := fun k_ => ((fun _ => True)) k_ ∧ some k_ ≠ (u5 : Value).ownBlock) (Kd.R_apart' (HO_7.out) (Kd.S_typed HO_5.out) (by decide)) (fun k_ hk => ⟨trivial, hk.2⟩))) (fun _ h_ => h_))); (case aB => exact (by repeat (first | (with_reducible first | exact HB.out | apply below_alloc | apply pw_below_drewN | apply below_drew1) | exact HB.out))); (case aF => exact (fun _ _ => trivial)); (case aO => exact (by (with_reducible repeat (first | apply Kd.S_alloc | apply Kd.S_drewN | apply Kd.S_drew)); exact Kd.S_mono HO_5.out (fun k_ hk => ⟨trivial, fun e_ => hk e_⟩))); (case aS => exact (below_size (by repeat (first | (with_reducible first | exact HB.out | apply below_alloc | apply pw_below_drewN | apply below_drew1) | exact HB.out)))); (case aL => have := LMc24.out; omega); intro v124 w25 ho hb hg hat; rw [← Ny123.out] at ho; have n0_ := Aside0.mk (hb); have n1_ := Aside0.mk (ho); clear HB; clear HO_5; clear HO_7; have HB := n0_; have HO125 := n1_; clear n0_ n1_; clear ho hb hg hat))
                          go_roundg k3
                          case measure => have := HJ2.out; have := HK2.out; have := HK3.out; omega
                          case rel => exact ⟨(y123), (wrap64 (x6_2 + 1)), (by first | rfl | (simp; done) | (simp [*]; done)), H', ⟨by have := HJ2.out; have := HK2.out; have := HK3.out; omega⟩, ⟨by (with_reducible repeat (first | apply Kd.S_alloc | apply Kd.S_drewN | apply Kd.S_drew)); exact HO125.out⟩, ⟨by repeat (first | (with_reducible first | exact HB.out | apply below_alloc | apply pw_below_drewN | apply below_drew1) | exact HB.out)⟩⟩
                        · rw [if_neg c24] at H
                          exact absurd H (by simp)
                    · rw [if_neg c10] at H
                      exact absurd H (by simp)
                  · rw [if_neg c9] at H
                    exact absurd H (by simp)
            · rw [if_neg c8] at H
              have c8b0 : decide (x6_2 < (l0.length : Int)) = false := decide_eq_false c8
              clear c8
              replace H := Option.bind_eq_some_iff.mp H
              obtain ⟨⟨t126, t127⟩, A270, H⟩ := H
              replace H : (if t127 = 0 then (if (t126.length : Int) > (x5_2.length : Int) then (seedcornlaw38_GraphTurned.j3 k2 a1 x5_2 true) else (if (t126.length : Int) = 0 then (seedcornlaw38_GraphTurned.j3 k2 a1 x5_2 true) else ((graph_Circle.f x5_2).bind fun t130 => (seedcornlaw38_GraphTurned.j3 k2 a1 x5_2 (decide ((t130.length : Int) > 0)))))) else (seedcornlaw38_GraphTurned.j3 k2 a1 x5_2 true)) = some r := H
              have A27 := Aside0.mk A270
              clear A270
              have HC28 := Aside0.mk H
              clear H
              obtain ⟨Ao29, co29, eo29⟩ := Kd.S_slice HO_5.out
              subst eo29
              go_upto_region 14 with (first | ((with_reducible refine gate_callee (f := 11) rfl ?_); refine goesL_ (some 65) rfl rfl Try.func11 (by kernel_rfl) rfl #[.slice Ao29 x5_2.length co29] rfl (by (try simp only [List.map_toArray, List.map_cons, List.map_nil]); first | done | rfl | (simp only [List.length_drop, List.length_take]; rfl)) ?_; (with_reducible refine (graph_Levels.calls _ _ x5_2 t126 t127 _ ?side1 ?side2 A27.out).mono ?_); (case side1 => repeat (first | exact (Kd.S_reads' HO_5.out).2.2 | (with_reducible refine Kd.C_alloc ?_ _) | (with_reducible refine Kd.C_drewN ?_ _) | (with_reducible refine Kd.C_drew ?_))); (case side2 => exact (Kd.S_reads' HO_5.out).2.1); rintro e w30 ⟨v128, rfl, ho0, hb⟩; refine ⟨_, rfl, ?_⟩; have n0_ := Aside0.mk (Kd.S_elder' (by (with_reducible repeat (first | apply Kd.S_alloc | apply Kd.S_drewN | apply Kd.S_drew)); exact HO_5.out) (Kd.S_base ho0) hb); have n1_ := Aside0.mk (Kd.S_lower (Kd.S_new' ho0 (Kd.S_lt (by (with_reducible repeat (first | apply Kd.S_alloc | apply Kd.S_drewN | apply Kd.S_drew)); exact HO_5.out))) (below_size (by repeat (first | (with_reducible first | exact HB.out | apply below_alloc | apply pw_below_drewN | apply below_drew1) | exact HB.out)))); have n2_ := Aside0.mk (below_step (by repeat (first | (with_reducible first | exact HB.out | apply below_alloc | apply pw_below_drewN | apply below_drew1) | exact HB.out)) hb); clear HO_5; clear HB; have HO_5 := n0_; have HO129 := n1_; have HB := n2_; clear n0_ n1_ n2_; (try clear hb); (try clear hb2); (try clear hk); (try clear hi); (try clear ho0)))
              (try simp only [Act.put, List.setIfInBounds_toArray, List.set_cons_zero, List.set_cons_succ])
              go_cut [87] (fun v87 wc => ∃ (kq : Nat) (x87_27 : Bool), v87 = .bool x87_27 ∧ Aside0 (seedcornlaw38_GraphTurned.j3 kq a1 x5_2 x87_27 = some r) ∧ Aside0 (kq ≤ k2) ∧ Aside0 (Kd.S (Kd.slice 3 (Kd.int .i64)) 25 wc w.heap.size (fun _ => True) (.slice Ao29 x5_2.length co29) x5_2) ∧ Aside0 (Below w.heap.size w wc))
              case first =>
                have H := HC28.out
                clear HC28
                by_cases c31 : t127 = 0
                · rw [if_pos c31] at H
                  have c31b0 : (t127 == 0) = true := beq_iff_eq.mpr c31
                  have c31b1 : (t127 != 0) = false := bne_eq_false_iff_eq.mpr c31
                  clear c31
                  (first | rw [c31b0] | (simp only [i64_w, i32_w]; rw [c31b0]) | skip)
                  by_cases c32 : (t126.length : Int) > (x5_2.length : Int)
                  · rw [if_pos c32] at H
                    have c32b0 : decide ((x5_2.length : Int) < (t126.length : Int)) = true := decide_eq_true c32
                    have c32b1 : decide (x5_2.length < t126.length) = true := decide_eq_true (Int.ofNat_lt.mp c32)
                    clear c32
                    have H' := Aside0.mk H
                    clear H
                    obtain ⟨Ao33, co33, eo33⟩ := Kd.S_slice HO129.out
                    subst eo33
                    go_wp2
                    go_meet
                    case rel => exact ⟨_, (true), (by first | rfl | (simp; done) | (simp [*]; done)), H', ⟨by have := HJ2.out; have := HK2.out; first | omega | exact Nat.le_refl _⟩, ⟨by (with_reducible repeat (first | apply Kd.S_alloc | apply Kd.S_drewN | apply Kd.S_drew)); exact Kd.S_mono HO_5.out (fun _ hk => trivial)⟩, ⟨by repeat (first | (with_reducible first | exact HB.out | apply below_alloc | apply pw_below_drewN | apply below_drew1) | exact HB.out)⟩⟩
                  · rw [if_neg c32] at H
                    have c32b0 : decide ((x5_2.length : Int) < (t126.length : Int)) = false := decide_eq_false c32
                    have c32b1 : decide (x5_2.length < t126.length) = false := decide_eq_false (fun h => c32 (Int.ofNat_lt.mpr h))
                    clear c32
                    by_cases c34 : (t126.length : Int) = 0
                    · rw [if_pos c34] at H
                      have c34b0 : ((t126.length : Int) == 0) = true := beq_iff_eq.mpr c34
                      have c34b1 : ((t126.length : Int) != 0) = false := bne_eq_false_iff_eq.mpr c34
                      clear c34
                      have H' := Aside0.mk H
                      clear H
                      obtain ⟨Ao35, co35, eo35⟩ := Kd.S_slice HO129.out
                      subst eo35
                      go_wp2
                      go_meet
                      case rel => exact ⟨_, (true), (by first | rfl | (simp; done) | (simp [*]; done)), H', ⟨by have := HJ2.out; have := HK2.out; first | omega | exact Nat.le_refl _⟩, ⟨by (with_reducible repeat (first | apply Kd.S_alloc | apply Kd.S_drewN | apply Kd.S_drew)); exact Kd.S_mono HO_5.out (fun _ hk => trivial)⟩, ⟨by repeat (first | (with_reducible first | exact HB.out | apply below_alloc | apply pw_below_drewN | apply below_drew1) | exact HB.out)⟩⟩
                    · rw [if_neg c34] at H
                      have c34b0 : ((t126.length : Int) == 0) = false := beq_eq_false_iff_ne.mpr c34
                      have c34b1 : ((t126.length : Int) != 0) = true := bne_iff_ne.mpr c34
                      have c34b2 : ¬ (t126 = []) := fun h_ => c34 (by rw [h_]; rfl)
                      replace H := Option.bind_eq_some_iff.mp H
                      obtain ⟨t130, A360, H⟩ := H
                      replace H : (seedcornlaw38_GraphTurned.j3 k2 a1 x5_2 (decide ((t130.length : Int) > 0))) = some r := H
                      have A36 := Aside0.mk A360
                      clear A360
                      have H' := Aside0.mk H
                      clear H
                      obtain ⟨Ao37, co37, eo37⟩ := Kd.S_slice HO129.out
                      subst eo37
                      go_wp2_with (first | (go_at_call 12; (with_reducible refine (graph_Circle.calls _ _ x5_2 t130 _ ?side1 ?side2 A36.out).mono ?_); (case side1 => repeat (first | exact (Kd.S_reads' HO_5.out).2.2 | (with_reducible refine Kd.C_alloc ?_ _) | (with_reducible refine Kd.C_drewN ?_ _) | (with_reducible refine Kd.C_drew ?_))); (case side2 => exact (Kd.S_reads' HO_5.out).2.1); rintro e w38 ⟨v131, rfl, ho0, hb⟩; have n0_ := Aside0.mk (Kd.S_elder' (by (with_reducible repeat (first | apply Kd.S_alloc | apply Kd.S_drewN | apply Kd.S_drew)); exact HO_5.out) (Kd.Q_base ho0) hb); have n1_ := Aside0.mk (Kd.S_elder' (by (with_reducible repeat (first | apply Kd.S_alloc | apply Kd.S_drewN | apply Kd.S_drew)); exact HO129.out) (Kd.Q_base ho0) hb); have n2_ := Aside0.mk (Kd.Q_lower ho0 (below_size (by repeat (first | (with_reducible first | exact HB.out | apply below_alloc | apply pw_below_drewN | apply below_drew1) | exact HB.out)))); have n3_ := Aside0.mk (below_step (by repeat (first | (with_reducible first | exact HB.out | apply below_alloc | apply pw_below_drewN | apply below_drew1) | exact HB.out)) hb); clear HO_5; clear HO129; clear HB; have HO_5 := n0_; have HO129 := n1_; have HO132 := n2_; have HB := n3_; clear n0_ n1_ n2_ n3_; (try clear hb); (try clear hb2); (try clear hk); (try clear hi); (try clear ho0); obtain ⟨Ao39, co39, eo39, _⟩ := Kd.Q_slice HO132.out; subst eo39))
                      go_meet
                      case rel => exact ⟨_, (decide ((t130.length : Int) > 0)), (by first | rfl | (simp; done) | (simp [*]; done)), H', ⟨by have := HJ2.out; have := HK2.out; first | omega | exact Nat.le_refl _⟩, ⟨by (with_reducible repeat (first | apply Kd.S_alloc | apply Kd.S_drewN | apply Kd.S_drew)); exact Kd.S_mono HO_5.out (fun _ hk => trivial)⟩, ⟨by repeat (first | (with_reducible first | exact HB.out | apply below_alloc | apply pw_below_drewN | apply below_drew1) | exact HB.out)⟩⟩
                · rw [if_neg c31] at H
                  have c31b0 : (t127 == 0) = false := beq_eq_false_iff_ne.mpr c31
                  have c31b1 : (t127 != 0) = true := bne_iff_ne.mpr c31
                  (first | rw [c31b0] | (simp only [i64_w, i32_w]; rw [c31b0]) | skip)
                  have H' := Aside0.mk H
                  clear H
                  go_wp2
                  go_meet
                  case rel => exact ⟨_, (true), (by first | rfl | (simp; done) | (simp [*]; done)), H', ⟨by have := HJ2.out; have := HK2.out; first | omega | exact Nat.le_refl _⟩, ⟨by (with_reducible repeat (first | apply Kd.S_alloc | apply Kd.S_drewN | apply Kd.S_drew)); exact Kd.S_mono HO_5.out (fun _ hk => trivial)⟩, ⟨by repeat (first | (with_reducible first | exact HB.out | apply below_alloc | apply pw_below_drewN | apply below_drew1) | exact HB.out)⟩⟩
              case rest =>
                clear HC28
                try clear c1
                try clear p1
                try clear q1
                try clear hx1
                try clear c2
                try clear p2
                try clear c3
                try clear c4
                try clear c4b0
                try clear c4b1
                try clear c4b2
                try clear c5
                try clear p6
                try clear c8
                try clear c8b0
                try clear c9
                try clear c9b0
                try clear c10
                try clear c10b0
                try clear c11
                try clear c11b0
                try clear p11
                try clear q11
                try clear hx11
                try clear c12
                try clear c12b0
                try clear c13
                try clear c13b0
                try clear c14
                try clear c14b0
                try clear c15
                try clear c15b0
                try clear c15b1
                try clear c16
                try clear c18
                try clear c21
                try clear c24
                try clear c31
                try clear c31b0
                try clear c31b1
                try clear c32
                try clear c32b0
                try clear c32b1
                try clear c34
                try clear c34b0
                try clear c34b1
                try clear c34b2
                try clear hx111_0
                try clear hx112_0
                try clear hx113_0
                try clear p111
                try clear p112
                try clear p113
                try clear p2
                try clear q111
                try clear q112
                try clear q113
                obtain ⟨kq, x87_27, rfl, HA, HJ27, HO_5, HB⟩ := hcut
                cases kq with
                | zero => exact absurd HA.out (by simp [seedcornlaw38_GraphTurned.j3])
                | succ kj27 =>
                  have H := HA.out
                  clear HA
                  simp only [seedcornlaw38_GraphTurned.j3] at H
                  by_cases c40 : x87_27 = true
                  · subst c40
                    have H1 : (some false) = some r := by rw [if_pos rfl] at H; exact H
                    clear H
                    have H := H1
                    clear H1
                    obtain rfl := Option.some.inj H
                    go_wp2
                    go_ret
                    exact ⟨by first | rfl | (simp [errW_none, errW_some] <;> rfl) | (simp [*, errW_none, errW_some] <;> rfl), by repeat (first | (with_reducible first | exact HB.out | apply below_alloc | apply pw_below_drewN | apply below_drew1) | exact HB.out)⟩
                  · replace c40 := Bool.eq_false_iff.mpr c40
                    subst c40
                    have H1 : (if (x5_2.length : Int) = 0 then (none) else (if 0 ≤ (Int.tmod (wrap64 (a1)) (x5_2.length : Int)) then (if (Int.tmod (wrap64 (a1)) (x5_2.length : Int)) < (x5_2.length : Int) then (if (rd_L1 x5_2 (Int.tmod (wrap64 (a1)) (x5_2.length : Int))).length < 17592186044416 then ((some (x5_2.set ((Int.tmod (wrap64 (a1)) (x5_2.length : Int)) : Int).toNat ((rd_L1 x5_2 (Int.tmod (wrap64 (a1)) (x5_2.length : Int))) ++ [Int.tmod (wrap64 (a1)) (x5_2.length : Int)]) : List (List Int))).bind fun y137 => ((graph_Levels.f y137).bind fun bt138 => ((seedcornlaw38_awake.f).bind fun t142 => (if t142 = true then (if bt138.2 = 11 then ((graph_Circle.f y137).bind fun t143 => (some (decide ((t143.length : Int) > 0)))) else (some false)) else (some false))))) else (none)) else (none)) else (none))) = some r := by rw [if_neg (show ¬ (false = true) by decide)] at H; exact H
                    clear H
                    have H := H1
                    clear H1
                    by_cases c41 : (x5_2.length : Int) = 0
                    · rw [if_pos c41] at H
                      exact absurd H (by simp)
                    · rw [if_neg c41] at H
                      have c41b0 : ((x5_2.length : Int) == 0) = false := beq_eq_false_iff_ne.mpr c41
                      have c41b1 : ((x5_2.length : Int) != 0) = true := bne_iff_ne.mpr c41
                      have c41b2 : ¬ (x5_2 = []) := fun h_ => c41 (by rw [h_]; rfl)
                      obtain ⟨ji42, hji42⟩ : ∃ j_ : Int, (Int.tmod (wrap64 (a1)) (x5_2.length : Int)) = j_ := ⟨_, rfl⟩
                      replace H : (if 0 ≤ (ji42) then (if (ji42) < (x5_2.length : Int) then (if (rd_L1 x5_2 (ji42)).length < 17592186044416 then ((some (x5_2.set ((ji42) : Int).toNat ((rd_L1 x5_2 (ji42)) ++ [ji42]) : List (List Int))).bind fun y137 => ((graph_Levels.f y137).bind fun bt138 => ((seedcornlaw38_awake.f).bind fun t142 => (if t142 = true then (if bt138.2 = 11 then ((graph_Circle.f y137).bind fun t143 => (some (decide ((t143.length : Int) > 0)))) else (some false)) else (some false))))) else (none)) else (none)) else (none)) = some r := by first | (rw [hji42] at H; exact H) | (simp only [hji42] at H ⊢; exact H)
                      by_cases c43 : 0 ≤ (ji42)
                      · rw [if_pos c43] at H
                        have c43b0 : decide (0 ≤ (ji42)) = true := decide_eq_true c43
                        clear c43
                        by_cases c44 : (ji42) < (x5_2.length : Int)
                        · rw [if_pos c44] at H
                          have c44b0 : decide ((ji42) < (x5_2.length : Int)) = true := decide_eq_true c44
                          clear c44
                          by_cases c45 : (rd_L1 x5_2 (ji42)).length < 17592186044416
                          · rw [if_pos c45] at H
                            have LMc45 := Aside0.mk c45
                            clear c45
                            obtain ⟨y134, hy134⟩ : ∃ y_ : List Int, y_ = ((rd_L1 x5_2 (ji42)) ++ [ji42]) := ⟨_, rfl⟩
                            replace H : ((some (x5_2.set ((ji42) : Int).toNat y134 : List (List Int))).bind fun y137 => ((graph_Levels.f y137).bind fun bt138 => ((seedcornlaw38_awake.f).bind fun t142 => (if t142 = true then (if bt138.2 = 11 then ((graph_Circle.f y137).bind fun t143 => (some (decide ((t143.length : Int) > 0)))) else (some false)) else (some false))))) = some r := by first | (rw [hy134]; with_reducible exact H) | (have H2_ := (Option.bind_some _ _).symm.trans H; rw [hy134]; with_reducible exact H2_) | (have H2_ := (Option.bind_some _ _).symm.trans H; with_reducible exact H2_) | with_reducible exact H | (rw [hy134]; exact H) | exact H
                            have Ny134 := Aside0.mk hy134
                            clear hy134
                            obtain ⟨y137, hy137⟩ : ∃ y_ : List (List Int), y_ = (x5_2.set ((ji42) : Int).toNat y134) := ⟨_, rfl⟩
                            replace H : ((graph_Levels.f y137).bind fun bt138 => ((seedcornlaw38_awake.f).bind fun t142 => (if t142 = true then (if bt138.2 = 11 then ((graph_Circle.f y137).bind fun t143 => (some (decide ((t143.length : Int) > 0)))) else (some false)) else (some false)))) = some r := by first | (rw [hy137]; with_reducible exact H) | (have H2_ := (Option.bind_some _ _).symm.trans H; rw [hy137]; with_reducible exact H2_) | (have H2_ := (Option.bind_some _ _).symm.trans H; with_reducible exact H2_) | with_reducible exact H | (rw [hy137]; exact H) | exact H
                            have Ny137 := Aside0.mk hy137
                            clear hy137
                            replace H := Option.bind_eq_some_iff.mp H
                            obtain ⟨⟨t138, t139⟩, A470, H⟩ := H
                            replace H : ((seedcornlaw38_awake.f).bind fun t142 => (if t142 = true then (if t139 = 11 then ((graph_Circle.f y137).bind fun t143 => (some (decide ((t143.length : Int) > 0)))) else (some false)) else (some false))) = some r := H
                            have A47 := Aside0.mk A470
                            clear A470
                            replace H := Option.bind_eq_some_iff.mp H
                            obtain ⟨t142, A480, H⟩ := H
                            replace H : (if t142 = true then (if t139 = 11 then ((graph_Circle.f y137).bind fun t143 => (some (decide ((t143.length : Int) > 0)))) else (some false)) else (some false)) = some r := H
                            have A48 := Aside0.mk A480
                            clear A480
                            by_cases c49 : t142 = true
                            · subst c49
                              have H1 : (if t139 = 11 then ((graph_Circle.f y137).bind fun t143 => (some (decide ((t143.length : Int) > 0)))) else (some false)) = some r := by rw [if_pos rfl] at H; exact H
                              clear H
                              have H := H1
                              clear H1
                              by_cases c50 : t139 = 11
                              · rw [if_pos c50] at H
                                have c50b0 : (t139 == 11) = true := beq_iff_eq.mpr c50
                                have c50b1 : (t139 != 11) = false := bne_eq_false_iff_eq.mpr c50
                                clear c50
                                replace H := Option.bind_eq_some_iff.mp H
                                obtain ⟨t143, A510, H⟩ := H
                                replace H : (some (decide ((t143.length : Int) > 0))) = some r := H
                                have A51 := Aside0.mk A510
                                clear A510
                                obtain rfl := Option.some.inj H
                                have p133 : 0 ≤ ((ji42) : Int) := of_decide_eq_true (by first | (with_reducible assumption) | assumption)
                                have q133 : (ji42) < (x5_2.length : Int) := of_decide_eq_true (by first | (with_reducible assumption) | assumption)
                                obtain ⟨ad133, A133_0, c133_0, e133, hx133_0, hl133_0, hi133_0⟩ := at_L1 (Kd.S_reads' HO_5.out).2.2 (ji42) p133 q133
                                cases e133
                                obtain ⟨ce133, hce133, hMe133, hcc133⟩ := Kd.S_get HO_5.out [] (ji42) p133 (by first | exact q133 | exact of_decide_eq_true (by first | (with_reducible assumption) | assumption) | (have e_ := (Kd.S_reads' HO_5.out).1; omega))
                                obtain ⟨ve133_0, rfl, ge133_0⟩ := hMe133
                                have hv133_0 := hcc133 0 _ rfl
                                rw [Nat.add_zero, show ((Kd.slice 3 (Kd.int .i64))).sz = 1 from rfl, Nat.mul_one] at hv133_0
                                replace hv133_0 := Option.some.inj (hv133_0.symm.trans hx133_0)
                                rw [hv133_0] at ge133_0
                                have HL133_0 := Aside0.mk (show Kd.R (Kd.int .i64) 3 _ _ _ _ (rd_L1 x5_2 (ji42)) from ge133_0)
                                clear hv133_0 ge133_0
                                have HX133_0 := Aside0.mk hx133_0
                                clear hcc133 hce133
                                have HR133_0 := Aside0.mk hi133_0
                                have HC133_0 := Aside0.mk hl133_0
                                clear hi133_0 hl133_0
                                replace p133 := eq_true p133
                                replace q133 := eq_true q133
                                obtain ⟨go52, co52, eo52, gb52, gl52, cl52, HG52⟩ := Kd.S_form HO_5.out (by have h_ : ((ji42) : Int) < ((x5_2.length : Int) : Int) := of_decide_eq_true (by first | (with_reducible assumption) | assumption); have h2_ : 0 ≤ ((ji42) : Int) := (of_decide_eq_true (by first | (with_reducible assumption) | assumption)); omega)
                                (first | cases eo52 | (injection eo52 with ea_ en_ ec_; (first | subst ea_ | (injection ea_ with ea_; subst ea_)); subst ec_; clear en_))
                                have GB52 := Aside0.mk gb52
                                have GG52 := Aside0.mk HG52
                                clear gb52 gl52 HG52
                                (first | simp only [add_plain] at hx133_0 | skip)
                                obtain ⟨oki52, ce52, hcl52, hM52, hcc52, _, _, hH52⟩ := Kd.S_elem HO_5.out [] ((ji42) : Int) (of_decide_eq_true (by first | (with_reducible assumption) | assumption)) (by have h_ : ((ji42) : Int) < ((x5_2.length : Int) : Int) := of_decide_eq_true (by first | (with_reducible assumption) | assumption); first | exact h_ | (have e_ := (Kd.S_reads' HO_5.out).1; omega) | simpa using h_)
                                obtain ⟨ve52_0, rfl, ge52_0⟩ := hM52
                                have hv52 := hcc52 0 _ rfl
                                have hX52 := HX133_0.out
                                (try simp only [add_plain] at hX52)
                                (try simp only [Nat.add_zero] at hv52)
                                (try rw [show ((Kd.slice 3 (Kd.int .i64))).sz = 1 from rfl, Nat.mul_one] at hv52)
                                replace hv52 := Option.some.inj (hv52.symm.trans hX52)
                                subst hv52
                                clear hX52 hcc52 hcl52
                                have UU52 := Aside0.mk (show Kd.R (Kd.int .i64) 3 _ w.heap.size oki52 (.slice A133_0 (rd_L1 x5_2 (ji42)).length c133_0) (rd_L1 x5_2 (ji42)) from ge52_0)
                                have HH52 := Aside0.mk hH52
                                have HN52 := Aside0.mk (Kd.S_reads' HO_5.out).1
                                clear hH52 ge52_0
                                go_wp2_with (first | ((with_reducible refine gate_builtin (b := .append) (xs := #[.tmp 98, .tmp 100]) rfl ?_); (try (refine gate_guard (by rfl) ?_; dsimp only)); at_builtin; refine Kd.R_append (Kd.int .i64) (w0 := w) w.heap.size rfl (.tmp 98) (.tmp 100) 25 3 (.int .i64 0) 8 rfl Try.underlying25 info3 rfl (by decide) (by omega) (.slice A133_0 (rd_L1 x5_2 (ji42)).length c133_0) (rd_L1 x5_2 (ji42)) ji42 [.int .i64 ji42] (fun k_ => oki52 k_ ∨ ((fun _ => True)) k_ ∧ wc.heap.size ≤ k_) (fun _ => False) rfl rfl ?aP (fun _ hk => hk.elim) ?aF ?aO ?aB ?aS ?aL ?_; (case aP => exact rfl); (case aB => exact (by repeat (first | (with_reducible first | exact HB.out | apply below_alloc | apply pw_below_drewN | apply below_drew1) | exact HB.out))); (case aF => exact (fun k_ hk => .inr ⟨trivial, hk⟩)); (case aO => exact (by (with_reducible repeat (first | apply Kd.R_alloc | apply Kd.R_drewN | apply Kd.R_drew)); exact Kd.R_mono UU52.out (fun _ hk => .inl hk))); (case aS => exact (below_size (by repeat (first | (with_reducible first | exact HB.out | apply below_alloc | apply pw_below_drewN | apply below_drew1) | exact HB.out)))); (case aL => have := LMc45.out; omega); intro v135 w53 ho hb hg hat; rw [← Ny134.out] at ho; have n0_ := Aside0.mk (hb); have n1_ := Aside0.mk (Kd.H_grown (Kd.H_widen (by repeat (first | exact HH52.out | refine Kd.H_alloc ?_ _ | refine Kd.H_drewN ?_ _ | refine Kd.H_drew ?_))) hg (fun k_ e_ => .inl (UU52.out.1 k_ e_))); have n2_ := Aside0.mk (ho); clear HB; clear HH52; clear HO_5; clear UU52; clear HL133_0; have HB := n0_; have HH52 := n1_; have HO136 := n2_; clear n0_ n1_ n2_; clear ho hb hg hat; have p46 : 0 ≤ ((ji42) : Int) := of_decide_eq_true (by first | (with_reducible assumption) | assumption); have q46 : ((ji42) : Int) < ((x5_2.length : Int) : Int) := of_decide_eq_true (by first | (with_reducible assumption) | assumption); replace p46 := eq_true p46; replace q46 := eq_true q46; obtain ⟨Ao56, co56, eo56⟩ := Kd.R_slice HO136.out; subst eo56; obtain ⟨_, _, hraw54, _, _, hcc54, _⟩ := Kd.H_raw HH52.out (of_decide_eq_true (by first | (with_reducible assumption) | assumption)) (by have h_ : ((ji42) : Int) < ((x5_2.length : Int) : Int) := of_decide_eq_true (by first | (with_reducible assumption) | assumption); first | exact h_ | (have e_ := (HN52.out); omega) | simpa using h_); obtain ⟨_, hfr54⟩ := Kd.H_at HH52.out (of_decide_eq_true (by first | (with_reducible assumption) | assumption)) (by have h_ : ((ji42) : Int) < ((x5_2.length : Int) : Int) := of_decide_eq_true (by first | (with_reducible assumption) | assumption); first | exact h_ | (have e_ := (HN52.out); omega) | simpa using h_); have hx54_0 := hcc54 0 _ rfl; have hf54_0 := hfr54 0; (try simp only [Nat.add_zero] at hx54_0 hf54_0); (try rw [show ((Kd.slice 3 (Kd.int .i64))).sz = 1 from rfl, Nat.mul_one] at hx54_0); (try rw [show ((Kd.slice 3 (Kd.int .i64))).sz = 1 from rfl, Nat.mul_one] at hf54_0); have HP54 := Kd.S_seg0 HH52.out (of_decide_eq_true (by first | (with_reducible assumption) | assumption)) (by have h_ : ((ji42) : Int) < ((x5_2.length : Int) : Int) := of_decide_eq_true (by first | (with_reducible assumption) | assumption); first | exact h_ | (have e_ := (HN52.out); omega) | simpa using h_) (seg := [.slice Ao56 y134.length co56]) (j := 0) (show 1 ≤ 1 from by decide) (x' := y134) (Kd.M_row HO136.out) (fun _ hk => hk); (try simp only [show ((Kd.slice 3 (Kd.int .i64))).sz = 1 from rfl, Nat.mul_one, Nat.add_zero] at HP54); clear hcc54 hfr54) | ((with_reducible refine gate_store (t := 25) (p := 102) rfl ?_); refine store_event (t := 25) (p := 102) (v := ?vo_w55) (w1 := (w53.setCell ⟨go52, ((ji42) : Int).toNat, none⟩ (.slice Ao56 y134.length co56))) ?hg ?ho ?hn ?hr ?_; (case ho => rfl); (case hg => rfl); (case hn => rfl); (case hr => first | (go_simp; done) | (go_simp; rfl)); intro w55 hw; have hg : w53.grownBy w55 (some go52) := (by rw [hw]; exact HP54.2); have hp_ : Kd.S (Kd.slice 3 (Kd.int .i64)) 25 w55 w.heap.size (fun _ => True) (.slice (some ⟨go52, 0, none⟩) x5_2.length co29) y137 := (by rw [hw, Ny137.out]; exact HP54.1); clear HP54; have n0_ := Aside0.mk ((by rw [hw]; exact below_set HB.out GB52.out : Below w.heap.size w w55)); have n1_ := Aside0.mk (hp_); clear HB; clear HO136; clear HH52; have HB := n0_; have HO_5 := n1_; clear n0_ n1_; clear hg hw hp_ hraw54) | ((with_reducible refine gate_callee (f := 11) rfl ?_); refine goesL_ (some 105) rfl rfl Try.func11 (by kernel_rfl) rfl #[.slice (some ⟨go52, 0, none⟩) y137.length co29] rfl (by (try simp only [List.map_toArray, List.map_cons, List.map_nil]); first | done | (rw [show y137.length = x5_2.length from (Kd.S_reads' HO_5.out).1.symm] <;> rfl) | rfl | (simp only [List.length_drop, List.length_take]; rfl)) ?_; (with_reducible refine (graph_Levels.calls _ _ y137 t138 t139 _ ?side1 ?side2 A47.out).mono ?_); (case side1 => repeat (first | exact (Kd.S_reads' HO_5.out).2.2 | (with_reducible refine Kd.C_alloc ?_ _) | (with_reducible refine Kd.C_drewN ?_ _) | (with_reducible refine Kd.C_drew ?_))); (case side2 => rw [show y137.length = x5_2.length from (Kd.S_reads' HO_5.out).1.symm]; exact (Kd.S_reads' HO_5.out).2.1); rintro e w57 ⟨v140, rfl, ho0, hb⟩; refine ⟨_, rfl, ?_⟩; have n0_ := Aside0.mk (Kd.S_elder' (by (with_reducible repeat (first | apply Kd.S_alloc | apply Kd.S_drewN | apply Kd.S_drew)); exact HO_5.out) (Kd.S_base ho0) hb); have n1_ := Aside0.mk (Kd.S_lower (Kd.S_new' ho0 (Kd.S_lt (by (with_reducible repeat (first | apply Kd.S_alloc | apply Kd.S_drewN | apply Kd.S_drew)); exact HO_5.out))) (below_size (by repeat (first | (with_reducible first | exact HB.out | apply below_alloc | apply pw_below_drewN | apply below_drew1) | exact HB.out)))); have n2_ := Aside0.mk (below_step (by repeat (first | (with_reducible first | exact HB.out | apply below_alloc | apply pw_below_drewN | apply below_drew1) | exact HB.out)) hb); clear HO_5; clear HB; have HO_5 := n0_; have HO141 := n1_; have HB := n2_; clear n0_ n1_ n2_; (try clear hb); (try clear hb2); (try clear hk); (try clear hi); (try clear ho0)) | ((with_reducible refine gate_callee (f := 10) rfl ?_); refine goesL_ (some 108) rfl rfl Try.func10 (by kernel_rfl) rfl #[] rfl (by (try simp only [List.map_toArray, List.map_cons, List.map_nil]); first | done | rfl | (simp only [List.length_drop, List.length_take]; rfl)) ?_; (with_reducible refine (seedcornlaw38_awake.calls  true _ A48.out).mono ?_); rintro e w58 ⟨rfl, hb⟩; refine ⟨_, rfl, ?_⟩; have n0_ := Aside0.mk (Kd.S_below (by (with_reducible repeat (first | apply Kd.S_alloc | apply Kd.S_drewN | apply Kd.S_drew)); exact HO_5.out) hb); have n1_ := Aside0.mk (Kd.S_below (by (with_reducible repeat (first | apply Kd.S_alloc | apply Kd.S_drewN | apply Kd.S_drew)); exact HO141.out) hb); have n2_ := Aside0.mk (below_step (by repeat (first | (with_reducible first | exact HB.out | apply below_alloc | apply pw_below_drewN | apply below_drew1) | exact HB.out)) hb); clear HO_5; clear HO141; clear HB; have HO_5 := n0_; have HO141 := n1_; have HB := n2_; clear n0_ n1_ n2_; (try clear hb); (try clear hb2); (try clear hk); (try clear hi)) | (go_at_call 12; refine calls_of_args (args' := #[.slice (some ⟨go52, 0, none⟩) y137.length co29]) (by first | (rw [show y137.length = x5_2.length from (Kd.S_reads' HO_5.out).1.symm] <;> rfl) | rfl) ?_; (with_reducible refine (graph_Circle.calls _ _ y137 t143 _ ?side1 ?side2 A51.out).mono ?_); (case side1 => repeat (first | exact (Kd.S_reads' HO_5.out).2.2 | (with_reducible refine Kd.C_alloc ?_ _) | (with_reducible refine Kd.C_drewN ?_ _) | (with_reducible refine Kd.C_drew ?_))); (case side2 => rw [show y137.length = x5_2.length from (Kd.S_reads' HO_5.out).1.symm]; exact (Kd.S_reads' HO_5.out).2.1); rintro e w59 ⟨v144, rfl, ho0, hb⟩; have n0_ := Aside0.mk (Kd.S_elder' (by (with_reducible repeat (first | apply Kd.S_alloc | apply Kd.S_drewN | apply Kd.S_drew)); exact HO_5.out) (Kd.Q_base ho0) hb); have n1_ := Aside0.mk (Kd.S_elder' (by (with_reducible repeat (first | apply Kd.S_alloc | apply Kd.S_drewN | apply Kd.S_drew)); exact HO141.out) (Kd.Q_base ho0) hb); have n2_ := Aside0.mk (Kd.Q_lower ho0 (below_size (by repeat (first | (with_reducible first | exact HB.out | apply below_alloc | apply pw_below_drewN | apply below_drew1) | exact HB.out)))); have n3_ := Aside0.mk (below_step (by repeat (first | (with_reducible first | exact HB.out | apply below_alloc | apply pw_below_drewN | apply below_drew1) | exact HB.out)) hb); clear HO_5; clear HO141; clear HB; have HO_5 := n0_; have HO141 := n1_; have HO145 := n2_; have HB := n3_; clear n0_ n1_ n2_ n3_; (try clear hb); (try clear hb2); (try clear hk); (try clear hi); (try clear ho0); obtain ⟨Ao60, co60, eo60, _⟩ := Kd.Q_slice HO145.out; subst eo60))
                                go_ret
                                exact ⟨by first | rfl | (simp [errW_none, errW_some] <;> rfl) | (simp only [← hji42]; first | rfl | (simp [errW_none, errW_some] <;> rfl)) | (simp [*, errW_none, errW_some] <;> rfl), by repeat (first | (with_reducible first | exact HB.out | apply below_alloc | apply pw_below_drewN | apply below_drew1) | exact HB.out)⟩
                              · rw [if_neg c50] at H
                                have c50b0 : (t139 == 11) = false := beq_eq_false_iff_ne.mpr c50
                                have c50b1 : (t139 != 11) = true := bne_iff_ne.mpr c50
                                obtain rfl := Option.some.inj H
                                have p133 : 0 ≤ ((ji42) : Int) := of_decide_eq_true (by first | (with_reducible assumption) | assumption)
                                have q133 : (ji42) < (x5_2.length : Int) := of_decide_eq_true (by first | (with_reducible assumption) | assumption)
                                obtain ⟨ad133, A133_0, c133_0, e133, hx133_0, hl133_0, hi133_0⟩ := at_L1 (Kd.S_reads' HO_5.out).2.2 (ji42) p133 q133
                                cases e133
                                obtain ⟨ce133, hce133, hMe133, hcc133⟩ := Kd.S_get HO_5.out [] (ji42) p133 (by first | exact q133 | exact of_decide_eq_true (by first | (with_reducible assumption) | assumption) | (have e_ := (Kd.S_reads' HO_5.out).1; omega))
                                obtain ⟨ve133_0, rfl, ge133_0⟩ := hMe133
                                have hv133_0 := hcc133 0 _ rfl
                                rw [Nat.add_zero, show ((Kd.slice 3 (Kd.int .i64))).sz = 1 from rfl, Nat.mul_one] at hv133_0
                                replace hv133_0 := Option.some.inj (hv133_0.symm.trans hx133_0)
                                rw [hv133_0] at ge133_0
                                have HL133_0 := Aside0.mk (show Kd.R (Kd.int .i64) 3 _ _ _ _ (rd_L1 x5_2 (ji42)) from ge133_0)
                                clear hv133_0 ge133_0
                                have HX133_0 := Aside0.mk hx133_0
                                clear hcc133 hce133
                                have HR133_0 := Aside0.mk hi133_0
                                have HC133_0 := Aside0.mk hl133_0
                                clear hi133_0 hl133_0
                                replace p133 := eq_true p133
                                replace q133 := eq_true q133
                                obtain ⟨go61, co61, eo61, gb61, gl61, cl61, HG61⟩ := Kd.S_form HO_5.out (by have h_ : ((ji42) : Int) < ((x5_2.length : Int) : Int) := of_decide_eq_true (by first | (with_reducible assumption) | assumption); have h2_ : 0 ≤ ((ji42) : Int) := (of_decide_eq_true (by first | (with_reducible assumption) | assumption)); omega)
                                (first | cases eo61 | (injection eo61 with ea_ en_ ec_; (first | subst ea_ | (injection ea_ with ea_; subst ea_)); subst ec_; clear en_))
                                have GB61 := Aside0.mk gb61
                                have GG61 := Aside0.mk HG61
                                clear gb61 gl61 HG61
                                (first | simp only [add_plain] at hx133_0 | skip)
                                obtain ⟨oki61, ce61, hcl61, hM61, hcc61, _, _, hH61⟩ := Kd.S_elem HO_5.out [] ((ji42) : Int) (of_decide_eq_true (by first | (with_reducible assumption) | assumption)) (by have h_ : ((ji42) : Int) < ((x5_2.length : Int) : Int) := of_decide_eq_true (by first | (with_reducible assumption) | assumption); first | exact h_ | (have e_ := (Kd.S_reads' HO_5.out).1; omega) | simpa using h_)
                                obtain ⟨ve61_0, rfl, ge61_0⟩ := hM61
                                have hv61 := hcc61 0 _ rfl
                                have hX61 := HX133_0.out
                                (try simp only [add_plain] at hX61)
                                (try simp only [Nat.add_zero] at hv61)
                                (try rw [show ((Kd.slice 3 (Kd.int .i64))).sz = 1 from rfl, Nat.mul_one] at hv61)
                                replace hv61 := Option.some.inj (hv61.symm.trans hX61)
                                subst hv61
                                clear hX61 hcc61 hcl61
                                have UU61 := Aside0.mk (show Kd.R (Kd.int .i64) 3 _ w.heap.size oki61 (.slice A133_0 (rd_L1 x5_2 (ji42)).length c133_0) (rd_L1 x5_2 (ji42)) from ge61_0)
                                have HH61 := Aside0.mk hH61
                                have HN61 := Aside0.mk (Kd.S_reads' HO_5.out).1
                                clear hH61 ge61_0
                                go_wp2_with (first | ((with_reducible refine gate_builtin (b := .append) (xs := #[.tmp 98, .tmp 100]) rfl ?_); (try (refine gate_guard (by rfl) ?_; dsimp only)); at_builtin; refine Kd.R_append (Kd.int .i64) (w0 := w) w.heap.size rfl (.tmp 98) (.tmp 100) 25 3 (.int .i64 0) 8 rfl Try.underlying25 info3 rfl (by decide) (by omega) (.slice A133_0 (rd_L1 x5_2 (ji42)).length c133_0) (rd_L1 x5_2 (ji42)) ji42 [.int .i64 ji42] (fun k_ => oki61 k_ ∨ ((fun _ => True)) k_ ∧ wc.heap.size ≤ k_) (fun _ => False) rfl rfl ?aP (fun _ hk => hk.elim) ?aF ?aO ?aB ?aS ?aL ?_; (case aP => exact rfl); (case aB => exact (by repeat (first | (with_reducible first | exact HB.out | apply below_alloc | apply pw_below_drewN | apply below_drew1) | exact HB.out))); (case aF => exact (fun k_ hk => .inr ⟨trivial, hk⟩)); (case aO => exact (by (with_reducible repeat (first | apply Kd.R_alloc | apply Kd.R_drewN | apply Kd.R_drew)); exact Kd.R_mono UU61.out (fun _ hk => .inl hk))); (case aS => exact (below_size (by repeat (first | (with_reducible first | exact HB.out | apply below_alloc | apply pw_below_drewN | apply below_drew1) | exact HB.out)))); (case aL => have := LMc45.out; omega); intro v135 w62 ho hb hg hat; rw [← Ny134.out] at ho; have n0_ := Aside0.mk (hb); have n1_ := Aside0.mk (Kd.H_grown (Kd.H_widen (by repeat (first | exact HH61.out | refine Kd.H_alloc ?_ _ | refine Kd.H_drewN ?_ _ | refine Kd.H_drew ?_))) hg (fun k_ e_ => .inl (UU61.out.1 k_ e_))); have n2_ := Aside0.mk (ho); clear HB; clear HH61; clear HO_5; clear UU61; clear HL133_0; have HB := n0_; have HH61 := n1_; have HO136 := n2_; clear n0_ n1_ n2_; clear ho hb hg hat; have p46 : 0 ≤ ((ji42) : Int) := of_decide_eq_true (by first | (with_reducible assumption) | assumption); have q46 : ((ji42) : Int) < ((x5_2.length : Int) : Int) := of_decide_eq_true (by first | (with_reducible assumption) | assumption); replace p46 := eq_true p46; replace q46 := eq_true q46; obtain ⟨Ao65, co65, eo65⟩ := Kd.R_slice HO136.out; subst eo65; obtain ⟨_, _, hraw63, _, _, hcc63, _⟩ := Kd.H_raw HH61.out (of_decide_eq_true (by first | (with_reducible assumption) | assumption)) (by have h_ : ((ji42) : Int) < ((x5_2.length : Int) : Int) := of_decide_eq_true (by first | (with_reducible assumption) | assumption); first | exact h_ | (have e_ := (HN61.out); omega) | simpa using h_); obtain ⟨_, hfr63⟩ := Kd.H_at HH61.out (of_decide_eq_true (by first | (with_reducible assumption) | assumption)) (by have h_ : ((ji42) : Int) < ((x5_2.length : Int) : Int) := of_decide_eq_true (by first | (with_reducible assumption) | assumption); first | exact h_ | (have e_ := (HN61.out); omega) | simpa using h_); have hx63_0 := hcc63 0 _ rfl; have hf63_0 := hfr63 0; (try simp only [Nat.add_zero] at hx63_0 hf63_0); (try rw [show ((Kd.slice 3 (Kd.int .i64))).sz = 1 from rfl, Nat.mul_one] at hx63_0); (try rw [show ((Kd.slice 3 (Kd.int .i64))).sz = 1 from rfl, Nat.mul_one] at hf63_0); have HP63 := Kd.S_seg0 HH61.out (of_decide_eq_true (by first | (with_reducible assumption) | assumption)) (by have h_ : ((ji42) : Int) < ((x5_2.length : Int) : Int) := of_decide_eq_true (by first | (with_reducible assumption) | assumption); first | exact h_ | (have e_ := (HN61.out); omega) | simpa using h_) (seg := [.slice Ao65 y134.length co65]) (j := 0) (show 1 ≤ 1 from by decide) (x' := y134) (Kd.M_row HO136.out) (fun _ hk => hk); (try simp only [show ((Kd.slice 3 (Kd.int .i64))).sz = 1 from rfl, Nat.mul_one, Nat.add_zero] at HP63); clear hcc63 hfr63) | ((with_reducible refine gate_store (t := 25) (p := 102) rfl ?_); refine store_event (t := 25) (p := 102) (v := ?vo_w64) (w1 := (w62.setCell ⟨go61, ((ji42) : Int).toNat, none⟩ (.slice Ao65 y134.length co65))) ?hg ?ho ?hn ?hr ?_; (case ho => rfl); (case hg => rfl); (case hn => rfl); (case hr => first | (go_simp; done) | (go_simp; rfl)); intro w64 hw; have hg : w62.grownBy w64 (some go61) := (by rw [hw]; exact HP63.2); have hp_ : Kd.S (Kd.slice 3 (Kd.int .i64)) 25 w64 w.heap.size (fun _ => True) (.slice (some ⟨go61, 0, none⟩) x5_2.length co29) y137 := (by rw [hw, Ny137.out]; exact HP63.1); clear HP63; have n0_ := Aside0.mk ((by rw [hw]; exact below_set HB.out GB61.out : Below w.heap.size w w64)); have n1_ := Aside0.mk (hp_); clear HB; clear HO136; clear HH61; have HB := n0_; have HO_5 := n1_; clear n0_ n1_; clear hg hw hp_ hraw63) | ((with_reducible refine gate_callee (f := 11) rfl ?_); refine goesL_ (some 105) rfl rfl Try.func11 (by kernel_rfl) rfl #[.slice (some ⟨go61, 0, none⟩) y137.length co29] rfl (by (try simp only [List.map_toArray, List.map_cons, List.map_nil]); first | done | (rw [show y137.length = x5_2.length from (Kd.S_reads' HO_5.out).1.symm] <;> rfl) | rfl | (simp only [List.length_drop, List.length_take]; rfl)) ?_; (with_reducible refine (graph_Levels.calls _ _ y137 t138 t139 _ ?side1 ?side2 A47.out).mono ?_); (case side1 => repeat (first | exact (Kd.S_reads' HO_5.out).2.2 | (with_reducible refine Kd.C_alloc ?_ _) | (with_reducible refine Kd.C_drewN ?_ _) | (with_reducible refine Kd.C_drew ?_))); (case side2 => rw [show y137.length = x5_2.length from (Kd.S_reads' HO_5.out).1.symm]; exact (Kd.S_reads' HO_5.out).2.1); rintro e w66 ⟨v140, rfl, ho0, hb⟩; refine ⟨_, rfl, ?_⟩; have n0_ := Aside0.mk (Kd.S_elder' (by (with_reducible repeat (first | apply Kd.S_alloc | apply Kd.S_drewN | apply Kd.S_drew)); exact HO_5.out) (Kd.S_base ho0) hb); have n1_ := Aside0.mk (Kd.S_lower (Kd.S_new' ho0 (Kd.S_lt (by (with_reducible repeat (first | apply Kd.S_alloc | apply Kd.S_drewN | apply Kd.S_drew)); exact HO_5.out))) (below_size (by repeat (first | (with_reducible first | exact HB.out | apply below_alloc | apply pw_below_drewN | apply below_drew1) | exact HB.out)))); have n2_ := Aside0.mk (below_step (by repeat (first | (with_reducible first | exact HB.out | apply below_alloc | apply pw_below_drewN | apply below_drew1) | exact HB.out)) hb); clear HO_5; clear HB; have HO_5 := n0_; have HO141 := n1_; have HB := n2_; clear n0_ n1_ n2_; (try clear hb); (try clear hb2); (try clear hk); (try clear hi); (try clear ho0)) | ((with_reducible refine gate_callee (f := 10) rfl ?_); refine goesL_ (some 108) rfl rfl Try.func10 (by kernel_rfl) rfl #[] rfl (by (try simp only [List.map_toArray, List.map_cons, List.map_nil]); first | done | rfl | (simp only [List.length_drop, List.length_take]; rfl)) ?_; (with_reducible refine (seedcornlaw38_awake.calls  true _ A48.out).mono ?_); rintro e w67 ⟨rfl, hb⟩; refine ⟨_, rfl, ?_⟩; have n0_ := Aside0.mk (Kd.S_below (by (with_reducible repeat (first | apply Kd.S_alloc | apply Kd.S_drewN | apply Kd.S_drew)); exact HO_5.out) hb); have n1_ := Aside0.mk (Kd.S_below (by (with_reducible repeat (first | apply Kd.S_alloc | apply Kd.S_drewN | apply Kd.S_drew)); exact HO141.out) hb); have n2_ := Aside0.mk (below_step (by repeat (first | (with_reducible first | exact HB.out | apply below_alloc | apply pw_below_drewN | apply below_drew1) | exact HB.out)) hb); clear HO_5; clear HO141; clear HB; have HO_5 := n0_; have HO141 := n1_; have HB := n2_; clear n0_ n1_ n2_; (try clear hb); (try clear hb2); (try clear hk); (try clear hi)))
                                go_ret
                                exact ⟨by first | rfl | (simp [errW_none, errW_some] <;> rfl) | (simp only [← hji42]; first | rfl | (simp [errW_none, errW_some] <;> rfl)) | (simp [*, errW_none, errW_some] <;> rfl), by repeat (first | (with_reducible first | exact HB.out | apply below_alloc | apply pw_below_drewN | apply below_drew1) | exact HB.out)⟩
                            · replace c49 := Bool.eq_false_iff.mpr c49
                              subst c49
                              have H1 : (some false) = some r := by rw [if_neg (show ¬ (false = true) by decide)] at H; exact H
                              clear H
                              have H := H1
                              clear H1
                              obtain rfl := Option.some.inj H
                              have p133 : 0 ≤ ((ji42) : Int) := of_decide_eq_true (by first | (with_reducible assumption) | assumption)
                              have q133 : (ji42) < (x5_2.length : Int) := of_decide_eq_true (by first | (with_reducible assumption) | assumption)
                              obtain ⟨ad133, A133_0, c133_0, e133, hx133_0, hl133_0, hi133_0⟩ := at_L1 (Kd.S_reads' HO_5.out).2.2 (ji42) p133 q133
                              cases e133
                              obtain ⟨ce133, hce133, hMe133, hcc133⟩ := Kd.S_get HO_5.out [] (ji42) p133 (by first | exact q133 | exact of_decide_eq_true (by first | (with_reducible assumption) | assumption) | (have e_ := (Kd.S_reads' HO_5.out).1; omega))
                              obtain ⟨ve133_0, rfl, ge133_0⟩ := hMe133
                              have hv133_0 := hcc133 0 _ rfl
                              rw [Nat.add_zero, show ((Kd.slice 3 (Kd.int .i64))).sz = 1 from rfl, Nat.mul_one] at hv133_0
                              replace hv133_0 := Option.some.inj (hv133_0.symm.trans hx133_0)
                              rw [hv133_0] at ge133_0
                              have HL133_0 := Aside0.mk (show Kd.R (Kd.int .i64) 3 _ _ _ _ (rd_L1 x5_2 (ji42)) from ge133_0)
                              clear hv133_0 ge133_0
                              have HX133_0 := Aside0.mk hx133_0
                              clear hcc133 hce133
                              have HR133_0 := Aside0.mk hi133_0
                              have HC133_0 := Aside0.mk hl133_0
                              clear hi133_0 hl133_0
                              replace p133 := eq_true p133
                              replace q133 := eq_true q133
                              obtain ⟨go68, co68, eo68, gb68, gl68, cl68, HG68⟩ := Kd.S_form HO_5.out (by have h_ : ((ji42) : Int) < ((x5_2.length : Int) : Int) := of_decide_eq_true (by first | (with_reducible assumption) | assumption); have h2_ : 0 ≤ ((ji42) : Int) := (of_decide_eq_true (by first | (with_reducible assumption) | assumption)); omega)
                              (first | cases eo68 | (injection eo68 with ea_ en_ ec_; (first | subst ea_ | (injection ea_ with ea_; subst ea_)); subst ec_; clear en_))
                              have GB68 := Aside0.mk gb68
                              have GG68 := Aside0.mk HG68
                              clear gb68 gl68 HG68
                              (first | simp only [add_plain] at hx133_0 | skip)
                              obtain ⟨oki68, ce68, hcl68, hM68, hcc68, _, _, hH68⟩ := Kd.S_elem HO_5.out [] ((ji42) : Int) (of_decide_eq_true (by first | (with_reducible assumption) | assumption)) (by have h_ : ((ji42) : Int) < ((x5_2.length : Int) : Int) := of_decide_eq_true (by first | (with_reducible assumption) | assumption); first | exact h_ | (have e_ := (Kd.S_reads' HO_5.out).1; omega) | simpa using h_)
                              obtain ⟨ve68_0, rfl, ge68_0⟩ := hM68
                              have hv68 := hcc68 0 _ rfl
                              have hX68 := HX133_0.out
                              (try simp only [add_plain] at hX68)
                              (try simp only [Nat.add_zero] at hv68)
                              (try rw [show ((Kd.slice 3 (Kd.int .i64))).sz = 1 from rfl, Nat.mul_one] at hv68)
                              replace hv68 := Option.some.inj (hv68.symm.trans hX68)
                              subst hv68
                              clear hX68 hcc68 hcl68
                              have UU68 := Aside0.mk (show Kd.R (Kd.int .i64) 3 _ w.heap.size oki68 (.slice A133_0 (rd_L1 x5_2 (ji42)).length c133_0) (rd_L1 x5_2 (ji42)) from ge68_0)
                              have HH68 := Aside0.mk hH68
                              have HN68 := Aside0.mk (Kd.S_reads' HO_5.out).1
                              clear hH68 ge68_0
                              go_wp2_with (first | ((with_reducible refine gate_builtin (b := .append) (xs := #[.tmp 98, .tmp 100]) rfl ?_); (try (refine gate_guard (by rfl) ?_; dsimp only)); at_builtin; refine Kd.R_append (Kd.int .i64) (w0 := w) w.heap.size rfl (.tmp 98) (.tmp 100) 25 3 (.int .i64 0) 8 rfl Try.underlying25 info3 rfl (by decide) (by omega) (.slice A133_0 (rd_L1 x5_2 (ji42)).length c133_0) (rd_L1 x5_2 (ji42)) ji42 [.int .i64 ji42] (fun k_ => oki68 k_ ∨ ((fun _ => True)) k_ ∧ wc.heap.size ≤ k_) (fun _ => False) rfl rfl ?aP (fun _ hk => hk.elim) ?aF ?aO ?aB ?aS ?aL ?_; (case aP => exact rfl); (case aB => exact (by repeat (first | (with_reducible first | exact HB.out | apply below_alloc | apply pw_below_drewN | apply below_drew1) | exact HB.out))); (case aF => exact (fun k_ hk => .inr ⟨trivial, hk⟩)); (case aO => exact (by (with_reducible repeat (first | apply Kd.R_alloc | apply Kd.R_drewN | apply Kd.R_drew)); exact Kd.R_mono UU68.out (fun _ hk => .inl hk))); (case aS => exact (below_size (by repeat (first | (with_reducible first | exact HB.out | apply below_alloc | apply pw_below_drewN | apply below_drew1) | exact HB.out)))); (case aL => have := LMc45.out; omega); intro v135 w69 ho hb hg hat; rw [← Ny134.out] at ho; have n0_ := Aside0.mk (hb); have n1_ := Aside0.mk (Kd.H_grown (Kd.H_widen (by repeat (first | exact HH68.out | refine Kd.H_alloc ?_ _ | refine Kd.H_drewN ?_ _ | refine Kd.H_drew ?_))) hg (fun k_ e_ => .inl (UU68.out.1 k_ e_))); have n2_ := Aside0.mk (ho); clear HB; clear HH68; clear HO_5; clear UU68; clear HL133_0; have HB := n0_; have HH68 := n1_; have HO136 := n2_; clear n0_ n1_ n2_; clear ho hb hg hat; have p46 : 0 ≤ ((ji42) : Int) := of_decide_eq_true (by first | (with_reducible assumption) | assumption); have q46 : ((ji42) : Int) < ((x5_2.length : Int) : Int) := of_decide_eq_true (by first | (with_reducible assumption) | assumption); replace p46 := eq_true p46; replace q46 := eq_true q46; obtain ⟨Ao72, co72, eo72⟩ := Kd.R_slice HO136.out; subst eo72; obtain ⟨_, _, hraw70, _, _, hcc70, _⟩ := Kd.H_raw HH68.out (of_decide_eq_true (by first | (with_reducible assumption) | assumption)) (by have h_ : ((ji42) : Int) < ((x5_2.length : Int) : Int) := of_decide_eq_true (by first | (with_reducible assumption) | assumption); first | exact h_ | (have e_ := (HN68.out); omega) | simpa using h_); obtain ⟨_, hfr70⟩ := Kd.H_at HH68.out (of_decide_eq_true (by first | (with_reducible assumption) | assumption)) (by have h_ : ((ji42) : Int) < ((x5_2.length : Int) : Int) := of_decide_eq_true (by first | (with_reducible assumption) | assumption); first | exact h_ | (have e_ := (HN68.out); omega) | simpa using h_); have hx70_0 := hcc70 0 _ rfl; have hf70_0 := hfr70 0; (try simp only [Nat.add_zero] at hx70_0 hf70_0); (try rw [show ((Kd.slice 3 (Kd.int .i64))).sz = 1 from rfl, Nat.mul_one] at hx70_0); (try rw [show ((Kd.slice 3 (Kd.int .i64))).sz = 1 from rfl, Nat.mul_one] at hf70_0); have HP70 := Kd.S_seg0 HH68.out (of_decide_eq_true (by first | (with_reducible assumption) | assumption)) (by have h_ : ((ji42) : Int) < ((x5_2.length : Int) : Int) := of_decide_eq_true (by first | (with_reducible assumption) | assumption); first | exact h_ | (have e_ := (HN68.out); omega) | simpa using h_) (seg := [.slice Ao72 y134.length co72]) (j := 0) (show 1 ≤ 1 from by decide) (x' := y134) (Kd.M_row HO136.out) (fun _ hk => hk); (try simp only [show ((Kd.slice 3 (Kd.int .i64))).sz = 1 from rfl, Nat.mul_one, Nat.add_zero] at HP70); clear hcc70 hfr70) | ((with_reducible refine gate_store (t := 25) (p := 102) rfl ?_); refine store_event (t := 25) (p := 102) (v := ?vo_w71) (w1 := (w69.setCell ⟨go68, ((ji42) : Int).toNat, none⟩ (.slice Ao72 y134.length co72))) ?hg ?ho ?hn ?hr ?_; (case ho => rfl); (case hg => rfl); (case hn => rfl); (case hr => first | (go_simp; done) | (go_simp; rfl)); intro w71 hw; have hg : w69.grownBy w71 (some go68) := (by rw [hw]; exact HP70.2); have hp_ : Kd.S (Kd.slice 3 (Kd.int .i64)) 25 w71 w.heap.size (fun _ => True) (.slice (some ⟨go68, 0, none⟩) x5_2.length co29) y137 := (by rw [hw, Ny137.out]; exact HP70.1); clear HP70; have n0_ := Aside0.mk ((by rw [hw]; exact below_set HB.out GB68.out : Below w.heap.size w w71)); have n1_ := Aside0.mk (hp_); clear HB; clear HO136; clear HH68; have HB := n0_; have HO_5 := n1_; clear n0_ n1_; clear hg hw hp_ hraw70) | ((with_reducible refine gate_callee (f := 11) rfl ?_); refine goesL_ (some 105) rfl rfl Try.func11 (by kernel_rfl) rfl #[.slice (some ⟨go68, 0, none⟩) y137.length co29] rfl (by (try simp only [List.map_toArray, List.map_cons, List.map_nil]); first | done | (rw [show y137.length = x5_2.length from (Kd.S_reads' HO_5.out).1.symm] <;> rfl) | rfl | (simp only [List.length_drop, List.length_take]; rfl)) ?_; (with_reducible refine (graph_Levels.calls _ _ y137 t138 t139 _ ?side1 ?side2 A47.out).mono ?_); (case side1 => repeat (first | exact (Kd.S_reads' HO_5.out).2.2 | (with_reducible refine Kd.C_alloc ?_ _) | (with_reducible refine Kd.C_drewN ?_ _) | (with_reducible refine Kd.C_drew ?_))); (case side2 => rw [show y137.length = x5_2.length from (Kd.S_reads' HO_5.out).1.symm]; exact (Kd.S_reads' HO_5.out).2.1); rintro e w73 ⟨v140, rfl, ho0, hb⟩; refine ⟨_, rfl, ?_⟩; have n0_ := Aside0.mk (Kd.S_elder' (by (with_reducible repeat (first | apply Kd.S_alloc | apply Kd.S_drewN | apply Kd.S_drew)); exact HO_5.out) (Kd.S_base ho0) hb); have n1_ := Aside0.mk (Kd.S_lower (Kd.S_new' ho0 (Kd.S_lt (by (with_reducible repeat (first | apply Kd.S_alloc | apply Kd.S_drewN | apply Kd.S_drew)); exact HO_5.out))) (below_size (by repeat (first | (with_reducible first | exact HB.out | apply below_alloc | apply pw_below_drewN | apply below_drew1) | exact HB.out)))); have n2_ := Aside0.mk (below_step (by repeat (first | (with_reducible first | exact HB.out | apply below_alloc | apply pw_below_drewN | apply below_drew1) | exact HB.out)) hb); clear HO_5; clear HB; have HO_5 := n0_; have HO141 := n1_; have HB := n2_; clear n0_ n1_ n2_; (try clear hb); (try clear hb2); (try clear hk); (try clear hi); (try clear ho0)) | ((with_reducible refine gate_callee (f := 10) rfl ?_); refine goesL_ (some 108) rfl rfl Try.func10 (by kernel_rfl) rfl #[] rfl (by (try simp only [List.map_toArray, List.map_cons, List.map_nil]); first | done | rfl | (simp only [List.length_drop, List.length_take]; rfl)) ?_; (with_reducible refine (seedcornlaw38_awake.calls  false _ A48.out).mono ?_); rintro e w74 ⟨rfl, hb⟩; refine ⟨_, rfl, ?_⟩; have n0_ := Aside0.mk (Kd.S_below (by (with_reducible repeat (first | apply Kd.S_alloc | apply Kd.S_drewN | apply Kd.S_drew)); exact HO_5.out) hb); have n1_ := Aside0.mk (Kd.S_below (by (with_reducible repeat (first | apply Kd.S_alloc | apply Kd.S_drewN | apply Kd.S_drew)); exact HO141.out) hb); have n2_ := Aside0.mk (below_step (by repeat (first | (with_reducible first | exact HB.out | apply below_alloc | apply pw_below_drewN | apply below_drew1) | exact HB.out)) hb); clear HO_5; clear HO141; clear HB; have HO_5 := n0_; have HO141 := n1_; have HB := n2_; clear n0_ n1_ n2_; (try clear hb); (try clear hb2); (try clear hk); (try clear hi)))
                              go_ret
                              exact ⟨by first | rfl | (simp [errW_none, errW_some] <;> rfl) | (simp only [← hji42]; first | rfl | (simp [errW_none, errW_some] <;> rfl)) | (simp [*, errW_none, errW_some] <;> rfl), by repeat (first | (with_reducible first | exact HB.out | apply below_alloc | apply pw_below_drewN | apply below_drew1) | exact HB.out)⟩
                          · rw [if_neg c45] at H
                            exact absurd H (by simp)
                        · rw [if_neg c44] at H
                          exact absurd H (by simp)
                      · rw [if_neg c43] at H
                        exact absurd H (by simp)

end Go.Proofs.Ytdknnekkbhpjlaa.G

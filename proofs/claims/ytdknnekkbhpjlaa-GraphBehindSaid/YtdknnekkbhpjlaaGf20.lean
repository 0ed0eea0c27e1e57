-- laid by a program of the session (wip/gen/gprint.sh) over the kit's printer, with some functions given
import Derived.Test.YtdknnekkbhpjlaaG0
import Derived.Test.YtdknnekkbhpjlaaGf21
namespace Go.Proofs.Ytdknnekkbhpjlaa.G
open Go.RowKit Go.Proofs.YtdknnekkbhpjlaaW.PrintWords Go.Proofs.YtdknnekkbhpjlaaW.PrintLast Go.Proofs.YtdknnekkbhpjlaaW.PrintMore
attribute [local go_sem] max2_int min2_int max_two min_two max_three min_three max_four min_four   -- for this text's walks alone
set_option linter.unusedVariables false
set_option linter.unusedSimpArgs false

/-! ### seedcornref38_Behind: function 20 -/
mutual
def seedcornref38_Behind.j0 : Nat → List (List Int) → Int → Bool → Option (List Int × Int)
  | 0, _, _, _ => none
  | k + 1, x0, x1, x23 => if x23 = true then (some (([] : List Int), 1)) else (if 0 ≤ (x0.length : Int) then (if ((x0.length : Int) : Int).toNat ≤ 281474976710656 then ((some (([] : List Int) : List Int)).bind fun y385 => (if 0 ≤ x1 then (if x1 < (x0.length : Int) then (if y385.length + (rd_L1 x0 x1).length < 17592186044416 then (seedcornref38_Behind.l0 k x0 x1 (List.replicate ((x0.length : Int) : Int).toNat false) (y385 ++ (rd_L1 x0 x1)) 0) else (none)) else (none)) else (none))) else (none)) else (none))
def seedcornref38_Behind.l0 : Nat → List (List Int) → Int → List Bool → List Int → Int → Option (List Int × Int)
  | 0, _, _, _, _, _ => none
  | k + 1, x0, x1, x6, x7, x8 => if x8 < (x7.length : Int) then (if 0 ≤ x8 then (if 0 ≤ (rd x7 x8) then (if (rd x7 x8) < (x6.length : Int) then (if (rdOf false x6 (rd x7 x8) = true) then (seedcornref38_Behind.l0 k x0 x1 x6 x7 (wrap64 (x8 + 1))) else (if (rd x7 x8) < (x0.length : Int) then (if x7.length + (rd_L1 x0 (rd x7 x8)).length < 17592186044416 then (seedcornref38_Behind.l0 k x0 x1 (x6.set ((rd x7 x8) : Int).toNat true) (x7 ++ (rd_L1 x0 (rd x7 x8))) (wrap64 (x8 + 1))) else (none)) else (none))) else (none)) else (none)) else (none)) else (seedcornref38_Behind.l1 k x0 x1 x6 ([] : List Int) 0)
def seedcornref38_Behind.l1 : Nat → List (List Int) → Int → List Bool → List Int → Int → Option (List Int × Int)
  | 0, _, _, _, _, _ => none
  | k + 1, x0, x1, x6, x9, x10 => if x10 < (x0.length : Int) then (if 0 ≤ x10 then (if x10 < (x6.length : Int) then (if rdOf false x6 x10 = true then (if x10 = x1 then (seedcornref38_Behind.l1 k x0 x1 x6 x9 (wrap64 (x10 + 1))) else (if x9.length < 17592186044416 then (seedcornref38_Behind.l1 k x0 x1 x6 (x9 ++ [x10]) (wrap64 (x10 + 1))) else (none))) else (seedcornref38_Behind.l1 k x0 x1 x6 x9 (wrap64 (x10 + 1)))) else (none)) else (none)) else (some (x9, 0))
end
def seedcornref38_Behind.f (k : Nat) (l0 : List (List Int)) (a1 : Int) : Option (List Int × Int) := (seedcornref38_Right.f k l0).bind fun t381 => (if t381 = true then (if a1 < 0 then (seedcornref38_Behind.j0 k l0 a1 true) else (seedcornref38_Behind.j0 k l0 a1 (decide (a1 ≥ (l0.length : Int))))) else (seedcornref38_Behind.j0 k l0 a1 true))
theorem seedcornref38_Behind.mono_l : ∀ k, (∀ y0 y1 y2, LeO (seedcornref38_Behind.j0 k y0 y1 y2) (seedcornref38_Behind.j0 (k + 1) y0 y1 y2)) ∧ (∀ y0 y1 y2 y3 y4, LeO (seedcornref38_Behind.l0 k y0 y1 y2 y3 y4) (seedcornref38_Behind.l0 (k + 1) y0 y1 y2 y3 y4)) ∧ (∀ y0 y1 y2 y3 y4, LeO (seedcornref38_Behind.l1 k y0 y1 y2 y3 y4) (seedcornref38_Behind.l1 (k + 1) y0 y1 y2 y3 y4))
  | 0 => ⟨fun _ _ _ r h => by simp [seedcornref38_Behind.j0] at h, fun _ _ _ _ _ r h => by simp [seedcornref38_Behind.l0] at h, fun _ _ _ _ _ r h => by simp [seedcornref38_Behind.l1] at h⟩
  | k + 1 => by
    obtain ⟨ih0, ih1, ih2⟩ := seedcornref38_Behind.mono_l k
    refine ⟨?_, ?_, ?_⟩
    · intro y0 y1 y2
      unfold seedcornref38_Behind.j0
      repeat' first
      | (with_reducible exact ih0 _ _ _)
      | (with_reducible exact ih1 _ _ _ _ _)
      | (with_reducible exact ih2 _ _ _ _ _)
      | (with_reducible exact seedcornref38_Right.mono _ _)
      | (with_reducible exact LeO.refl _)
      | (with_reducible exact LeO.none _)
      | (with_reducible refine LeO.ite ?_ ?_)
      | (with_reducible refine LeO.bind ?_ (fun _ => ?_))
      | exact ih0 _ _ _
      | exact ih1 _ _ _ _ _
      | exact ih2 _ _ _ _ _
      | exact seedcornref38_Right.mono _ _
      | exact LeO.none _
      | refine LeO.ite ?_ ?_
      | refine LeO.bind ?_ (fun _ => ?_)
    · intro y0 y1 y2 y3 y4
      unfold seedcornref38_Behind.l0
      repeat' first
      | (with_reducible exact ih0 _ _ _)
      | (with_reducible exact ih1 _ _ _ _ _)
      | (with_reducible exact ih2 _ _ _ _ _)
      | (with_reducible exact seedcornref38_Right.mono _ _)
      | (with_reducible exact LeO.refl _)
      | (with_reducible exact LeO.none _)
      | (with_reducible refine LeO.ite ?_ ?_)
      | (with_reducible refine LeO.bind ?_ (fun _ => ?_))
      | exact ih0 _ _ _
      | exact ih1 _ _ _ _ _
      | exact ih2 _ _ _ _ _
      | exact seedcornref38_Right.mono _ _
      | exact LeO.none _
      | refine LeO.ite ?_ ?_
      | refine LeO.bind ?_ (fun _ => ?_)
    · intro y0 y1 y2 y3 y4
      unfold seedcornref38_Behind.l1
      repeat' first
      | (with_reducible exact ih0 _ _ _)
      | (with_reducible exact ih1 _ _ _ _ _)
      | (with_reducible exact ih2 _ _ _ _ _)
      | (with_reducible exact seedcornref38_Right.mono _ _)
      | (with_reducible exact LeO.refl _)
      | (with_reducible exact LeO.none _)
      | (with_reducible refine LeO.ite ?_ ?_)
      | (with_reducible refine LeO.bind ?_ (fun _ => ?_))
      | exact ih0 _ _ _
      | exact ih1 _ _ _ _ _
      | exact ih2 _ _ _ _ _
      | exact seedcornref38_Right.mono _ _
      | exact LeO.none _
      | refine LeO.ite ?_ ?_
      | refine LeO.bind ?_ (fun _ => ?_)
theorem seedcornref38_Behind.mono : ∀ a0 a1 k, LeO (seedcornref38_Behind.f k a0 a1) (seedcornref38_Behind.f (k + 1) a0 a1) := by
  intro a0 a1 k
  obtain ⟨ih0, ih1, ih2⟩ := seedcornref38_Behind.mono_l k
  unfold seedcornref38_Behind.f
  repeat' first
      | (with_reducible exact ih0 _ _ _)
      | (with_reducible exact ih1 _ _ _ _ _)
      | (with_reducible exact ih2 _ _ _ _ _)
      | (with_reducible exact seedcornref38_Right.mono _ _)
      | (with_reducible exact LeO.refl _)
      | (with_reducible exact LeO.none _)
      | (with_reducible refine LeO.ite ?_ ?_)
      | (with_reducible refine LeO.bind ?_ (fun _ => ?_))
      | exact ih0 _ _ _
      | exact ih1 _ _ _ _ _
      | exact ih2 _ _ _ _ _
      | exact seedcornref38_Right.mono _ _
      | exact LeO.none _
      | refine LeO.ite ?_ ?_
      | refine LeO.bind ?_ (fun _ => ?_)
set_option maxHeartbeats 8000000 in
set_option maxRecDepth 100000 in
theorem seedcornref38_Behind.calls (k : Nat) (A0 : Option Addr) (c0 : Nat) (l0 : List (List Int)) (a1 : Int) (r1 : List Int) (r2 : Int) (w : World) (hr0 : Kd.C (Kd.slice 3 (Kd.int .i64)) w A0 l0.length l0) (hc0 : l0.length ≤ c0) (h : seedcornref38_Behind.f k l0 a1 = some (r1, r2)) :
    Calls Try.prog 20 #[.slice A0 l0.length c0, .int .i64 a1] w fun e w' => ∃ v0_ : Value, e = .returned (.tuple #[v0_, .int .i64 r2]) ∧ Kd.R (Kd.int .i64) 3 w' w.heap.size (fun _ => True) v0_ r1 ∧ Below w.heap.size w w' := by
  have HR0 := Aside0.mk hr0
  have HC0 := Aside0.mk hc0
  clear hr0 hc0
  have HB := Aside0.mk (Below.refl w.heap.size w)
  have H : ((seedcornref38_Right.f k l0).bind fun t381 => (if t381 = true then (if a1 < 0 then (seedcornref38_Behind.j0 k l0 a1 true) else (seedcornref38_Behind.j0 k l0 a1 (decide (a1 ≥ (l0.length : Int))))) else (seedcornref38_Behind.j0 k l0 a1 true))) = some (r1, r2) := h
  clear h
  have HC3 := Aside0.mk H
  clear H
  go_enter Try.func20, Try.ntmps20
  go_upto_region 1 with (fail)
  go_cut [23] (fun v23 wc => ∃ (kq : Nat) (x23_2 : Bool), v23 = .bool x23_2 ∧ Aside0 (seedcornref38_Behind.j0 kq l0 a1 x23_2 = some (r1, r2)) ∧ Aside0 (kq ≤ k) ∧ Aside0 (Below w.heap.size w wc))
  case first =>
    have H := HC3.out
    clear HC3
    replace H := Option.bind_eq_some_iff.mp H
    obtain ⟨t381, A40, H⟩ := H
    replace H : (if t381 = true then (if a1 < 0 then (seedcornref38_Behind.j0 k l0 a1 true) else (seedcornref38_Behind.j0 k l0 a1 (decide (a1 ≥ (l0.length : Int))))) else (seedcornref38_Behind.j0 k l0 a1 true)) = some (r1, r2) := H
    have A4 := Aside0.mk A40
    clear A40
    by_cases c5 : t381 = true
    · subst c5
      have H1 : (if a1 < 0 then (seedcornref38_Behind.j0 k l0 a1 true) else (seedcornref38_Behind.j0 k l0 a1 (decide (a1 ≥ (l0.length : Int))))) = some (r1, r2) := by rw [if_pos rfl] at H; exact H
      clear H
      have H := H1
      clear H1
      by_cases c6 : a1 < 0
      · rw [if_pos c6] at H
        have c6b0 : decide (a1 < 0) = true := decide_eq_true c6
        clear c6
        (first | rw [c6b0] | (simp only [i64_w, i32_w]; rw [c6b0]) | skip)
        have H' := Aside0.mk H
        clear H
        go_wp2_with (first | ((with_reducible refine gate_callee (f := 21) rfl ?_); refine goesL_ (some 12) rfl rfl Try.func21 (by kernel_rfl) rfl #[.slice A0 l0.length c0] rfl (by (try simp only [List.map_toArray, List.map_cons, List.map_nil]); first | done | rfl | (simp only [List.length_drop, List.length_take]; rfl)) ?_; (with_reducible refine (seedcornref38_Right.calls k _ _ l0 true _ ?side1 ?side2 A4.out).mono ?_); (case side1 => repeat (first | exact (Kd.C_below HR0.out HB.out) | (with_reducible refine Kd.C_alloc ?_ _) | (with_reducible refine Kd.C_drewN ?_ _) | (with_reducible refine Kd.C_drew ?_))); (case side2 => exact HC0.out); rintro e w' ⟨rfl, ⟨nd, rfl⟩⟩; refine ⟨_, rfl, ?_⟩))
        go_meet
        case rel => exact ⟨_, (true), (by first | rfl | (simp; done) | (simp [*]; done)), H', ⟨by first | omega | exact Nat.le_refl _⟩, ⟨by repeat (first | (with_reducible first | exact HB.out | apply below_alloc | apply pw_below_drewN | apply below_drew1) | exact HB.out)⟩⟩
      · rw [if_neg c6] at H
        have c6b0 : decide (a1 < 0) = false := decide_eq_false c6
        clear c6
        (first | rw [c6b0] | (simp only [i64_w, i32_w]; rw [c6b0]) | skip)
        have H' := Aside0.mk H
        clear H
        go_wp2_with (first | ((with_reducible refine gate_callee (f := 21) rfl ?_); refine goesL_ (some 12) rfl rfl Try.func21 (by kernel_rfl) rfl #[.slice A0 l0.length c0] rfl (by (try simp only [List.map_toArray, List.map_cons, List.map_nil]); first | done | rfl | (simp only [List.length_drop, List.length_take]; rfl)) ?_; (with_reducible refine (seedcornref38_Right.calls k _ _ l0 true _ ?side1 ?side2 A4.out).mono ?_); (case side1 => repeat (first | exact (Kd.C_below HR0.out HB.out) | (with_reducible refine Kd.C_alloc ?_ _) | (with_reducible refine Kd.C_drewN ?_ _) | (with_reducible refine Kd.C_drew ?_))); (case side2 => exact HC0.out); rintro e w' ⟨rfl, ⟨nd, rfl⟩⟩; refine ⟨_, rfl, ?_⟩))
        go_meet
        case rel => exact ⟨_, (decide (a1 ≥ (l0.length : Int))), (by first | rfl | (simp; done) | (simp [*]; done)), H', ⟨by first | omega | exact Nat.le_refl _⟩, ⟨by repeat (first | (with_reducible first | exact HB.out | apply below_alloc | apply pw_below_drewN | apply below_drew1) | exact HB.out)⟩⟩
    · replace c5 := Bool.eq_false_iff.mpr c5
      subst c5
      have H1 : (seedcornref38_Behind.j0 k l0 a1 true) = some (r1, r2) := by rw [if_neg (show ¬ (false = true) by decide)] at H; exact H
      clear H
      have H := H1
      clear H1
      have H' := Aside0.mk H
      clear H
      go_wp2_with (first | ((with_reducible refine gate_callee (f := 21) rfl ?_); refine goesL_ (some 12) rfl rfl Try.func21 (by kernel_rfl) rfl #[.slice A0 l0.length c0] rfl (by (try simp only [List.map_toArray, List.map_cons, List.map_nil]); first | done | rfl | (simp only [List.length_drop, List.length_take]; rfl)) ?_; (with_reducible refine (seedcornref38_Right.calls k _ _ l0 false _ ?side1 ?side2 A4.out).mono ?_); (case side1 => repeat (first | exact (Kd.C_below HR0.out HB.out) | (with_reducible refine Kd.C_alloc ?_ _) | (with_reducible refine Kd.C_drewN ?_ _) | (with_reducible refine Kd.C_drew ?_))); (case side2 => exact HC0.out); rintro e w' ⟨rfl, ⟨nd, rfl⟩⟩; refine ⟨_, rfl, ?_⟩))
      go_meet
      case rel => exact ⟨_, (true), (by first | rfl | (simp; done) | (simp [*]; done)), H', ⟨by first | omega | exact Nat.le_refl _⟩, ⟨by repeat (first | (with_reducible first | exact HB.out | apply below_alloc | apply pw_below_drewN | apply below_drew1) | exact HB.out)⟩⟩
  case rest =>
    clear HC3
    try clear c2
    try clear p2
    try clear c5
    try clear c6
    try clear c6b0
    obtain ⟨kq, x23_2, rfl, HA, HJ2, HB⟩ := hcut
    cases kq with
    | zero => exact absurd HA.out (by simp [seedcornref38_Behind.j0])
    | succ kj2 =>
      have H := HA.out
      clear HA
      simp only [seedcornref38_Behind.j0] at H
      by_cases c7 : x23_2 = true
      · subst c7
        have H1 : (some (([] : List Int), 1)) = some (r1, r2) := by rw [if_pos rfl] at H; exact H
        clear H
        have H := H1
        clear H1
        simp only [Option.some.injEq, Prod.mk.injEq] at H
        obtain ⟨rfl, rfl⟩ := H
        go_wp2
        go_ret2
        exact ⟨_, by first | rfl | (simp [errW_none, errW_some] <;> rfl) | (simp [*, errW_none, errW_some] <;> rfl), by first | exact Kd.R_nil _ _ _ _ _ | exact Kd.N_nil _ _ _ _ _ | exact Kd.V_nil _ _ _ _ _ | exact Kd.Q_nil _ _ _ _ _ | exact Kd.S_nil _ _ _ _ _, by repeat (first | (with_reducible first | exact HB.out | apply below_alloc | apply pw_below_drewN | apply below_drew1) | exact HB.out)⟩
      · replace c7 := Bool.eq_false_iff.mpr c7
        subst c7
        have H1 : (if 0 ≤ (l0.length : Int) then (if ((l0.length : Int) : Int).toNat ≤ 281474976710656 then ((some (([] : List Int) : List Int)).bind fun y385 => (if 0 ≤ a1 then (if a1 < (l0.length : Int) then (if y385.length + (rd_L1 l0 a1).length < 17592186044416 then (seedcornref38_Behind.l0 kj2 l0 a1 (List.replicate ((l0.length : Int) : Int).toNat false) (y385 ++ (rd_L1 l0 a1)) 0) else (none)) else (none)) else (none))) else (none)) else (none)) = some (r1, r2) := by rw [if_neg (show ¬ (false = true) by decide)] at H; exact H
        clear H
        have H := H1
        clear H1
        by_cases c8 : 0 ≤ (l0.length : Int)
        · rw [if_pos c8] at H
          have c8b0 := eq_true c8
          have c8b1 : decide (0 ≤ (l0.length : Int)) = true := decide_eq_true c8
          clear c8
          by_cases c9 : ((l0.length : Int) : Int).toNat ≤ 281474976710656
          · rw [if_pos c9] at H
            have c9b0 := eq_true c9
            have c9b1 : decide (((l0.length : Int) : Int).toNat ≤ 281474976710656) = true := decide_eq_true c9
            clear c9
            obtain ⟨y382, hy382⟩ : ∃ y_ : List Bool, y_ = (List.replicate ((l0.length : Int) : Int).toNat false) := ⟨_, rfl⟩
            replace H : ((some (([] : List Int) : List Int)).bind fun y385 => (if 0 ≤ a1 then (if a1 < (l0.length : Int) then (if y385.length + (rd_L1 l0 a1).length < 17592186044416 then (seedcornref38_Behind.l0 kj2 l0 a1 y382 (y385 ++ (rd_L1 l0 a1)) 0) else (none)) else (none)) else (none))) = some (r1, r2) := by first | (rw [hy382]; with_reducible exact H) | (have H2_ := (Option.bind_some _ _).symm.trans H; rw [hy382]; with_reducible exact H2_) | (have H2_ := (Option.bind_some _ _).symm.trans H; with_reducible exact H2_) | with_reducible exact H | (rw [hy382]; exact H) | exact H
            have Ny382 := Aside0.mk hy382
            clear hy382
            obtain ⟨y385, hy385⟩ : ∃ y_ : List Int, y_ = (([] : List Int)) := ⟨_, rfl⟩
            replace H : (if 0 ≤ a1 then (if a1 < (l0.length : Int) then (if y385.length + (rd_L1 l0 a1).length < 17592186044416 then (seedcornref38_Behind.l0 kj2 l0 a1 y382 (y385 ++ (rd_L1 l0 a1)) 0) else (none)) else (none)) else (none)) = some (r1, r2) := by first | (rw [hy385]; with_reducible exact H) | (have H2_ := (Option.bind_some _ _).symm.trans H; rw [hy385]; with_reducible exact H2_) | (have H2_ := (Option.bind_some _ _).symm.trans H; with_reducible exact H2_) | with_reducible exact H | (rw [hy385]; exact H) | exact H
            have Ny385 := Aside0.mk hy385
            clear hy385
            by_cases c10 : 0 ≤ a1
            · rw [if_pos c10] at H
              have c10b0 : decide (0 ≤ a1) = true := decide_eq_true c10
              clear c10
              by_cases c11 : a1 < (l0.length : Int)
              · rw [if_pos c11] at H
                have c11b0 : decide (a1 < (l0.length : Int)) = true := decide_eq_true c11
                clear c11
                by_cases c12 : y385.length + (rd_L1 l0 a1).length < 17592186044416
                · rw [if_pos c12] at H
                  have LMc12 := Aside0.mk c12
                  clear c12
                  obtain ⟨y389, hy389⟩ : ∃ y_ : List Int, y_ = (y385 ++ (rd_L1 l0 a1)) := ⟨_, rfl⟩
                  replace H : (seedcornref38_Behind.l0 kj2 l0 a1 y382 y389 0) = some (r1, r2) := by first | (rw [hy389]; with_reducible exact H) | (have H2_ := (Option.bind_some _ _).symm.trans H; rw [hy389]; with_reducible exact H2_) | (have H2_ := (Option.bind_some _ _).symm.trans H; with_reducible exact H2_) | with_reducible exact H | (rw [hy389]; exact H) | exact H
                  have Ny389 := Aside0.mk hy389
                  clear hy389
                  have H' := Aside0.mk H
                  clear H
                  go_wp2_with (first | ((with_reducible refine gate_dst (N := 26) rfl ?_); (try (refine gate_guard (by rfl) ?_; dsimp only)); refine Kd.R_make Kd.bool _ 4 rfl (N := 26) rfl 38 _ _ rfl (l0.length : Int) rfl rfl Try.underlying38 (.bool false) 1 info4 rfl (by decide) (by omega) false (ok := fun _ => True) (okp := fun _ => True) rfl (fun _ hk => hk) trivial (of_decide_eq_true (by first | (with_reducible assumption) | assumption)) (Nat.le_trans (Nat.mul_le_mul_right _ (of_decide_eq_true (by first | (with_reducible assumption) | assumption) : (l0.length : Int).toNat ≤ 281474976710656)) (by omega)) (Below.refl _ _) (Nat.le_refl _) ?_; intro v383 w13 ho14 hb hg_ hnew_; clear hg_ hnew_; (first | rw [← Ny382.out] at ho14 | (simp only [Int.reduceToNat] at ho14; rw [← Ny382.out] at ho14)); have n0_ := Aside0.mk (Kd.R_lower ho14 (below_size (by repeat (first | (with_reducible first | exact HB.out | apply below_alloc | apply pw_below_drewN | apply below_drew1) | exact HB.out)))); have n1_ := Aside0.mk (below_step (by repeat (first | (with_reducible first | exact HB.out | apply below_alloc | apply pw_below_drewN | apply below_drew1) | exact HB.out)) hb); clear HB; have HO384 := n0_; have HB := n1_; clear n0_ n1_; clear hb ho14) | ((with_reducible refine gate_dst (N := 27) rfl ?_); (try (refine gate_guard (by rfl) ?_; dsimp only)); refine Kd.R_lit (Kd.int .i64) _ 3 ?hg (N := 27) ?hd (xs := ([] : List Int)) (inner := []) (ok := fun _ => True) (okp := fun _ => True) ?hr ?hp (fun _ hk => hk) trivial (Below.refl _ _) (Nat.le_refl _) (by simp) ?_; (case hd => rfl); (case hg => rfl); (case hr => first | (go_simp; done) | (go_simp; rfl)); (case hp => exact (Reps.none _ _)); intro v386 w15 ho16 hb hg_ hnew_; clear hg_ hnew_; (first | rw [← Ny385.out] at ho16 | (simp only [Int.reduceToNat] at ho16; rw [← Ny385.out] at ho16)); have n0_ := Aside0.mk (Kd.R_below (by (with_reducible repeat (first | apply Kd.R_alloc | apply Kd.R_drewN | apply Kd.R_drew)); exact HO384.out) hb); have n1_ := Aside0.mk (Kd.R_lower ho16 (below_size (by repeat (first | (with_reducible first | exact HB.out | apply below_alloc | apply pw_below_drewN | apply below_drew1) | exact HB.out)))); have n2_ := Aside0.mk (below_step (by repeat (first | (with_reducible first | exact HB.out | apply below_alloc | apply pw_below_drewN | apply below_drew1) | exact HB.out)) hb); clear HO384; clear HB; have HO384 := n0_; have HO387 := n1_; have HB := n2_; clear n0_ n1_ n2_; clear hb ho16; have p388 : 0 ≤ (a1 : Int) := of_decide_eq_true (by first | (with_reducible assumption) | assumption); have q388 : a1 < (l0.length : Int) := of_decide_eq_true (by first | (with_reducible assumption) | assumption); obtain ⟨ad388, A388_0, c388_0, e388, hx388_0, hl388_0, hi388_0⟩ := at_L1 HR0.out a1 p388 q388; cases e388; replace hx388_0 := (HB.out.cell (World.block_lt_of_cell? w _ hx388_0)).trans hx388_0; have HR388_0 := Aside0.mk hi388_0; have HC388_0 := Aside0.mk hl388_0; clear hi388_0 hl388_0; replace p388 := eq_true p388; replace q388 := eq_true q388) | ((with_reducible refine gate_builtin (b := .append) (xs := #[.tmp 27, .tmp 31]) rfl ?_); (try (refine gate_guard (by rfl) ?_; dsimp only)); at_builtin; refine Kd.R_append_rows (Kd.int .i64) (w0 := w) w.heap.size rfl (.tmp 27) (.tmp 31) 25 3 (.int .i64 0) 8 rfl Try.underlying25 info3 rfl (by decide) (by omega) v386 y385 (rd_L1 l0 a1) _ _ _ (fun _ => True) (fun _ => False) rfl rfl ?aO ?aR (fun _ _ h => h) (fun _ h => h.elim) ?aF ?aB ?aS ?aL ?_; (case aR => repeat (first | exact (Kd.C_below HR388_0.out HB.out) | (with_reducible refine Kd.C_alloc ?_ _) | (with_reducible refine Kd.C_drewN ?_ _) | (with_reducible refine Kd.C_drew ?_))); (case aB => exact (by repeat (first | (with_reducible first | exact HB.out | apply below_alloc | apply pw_below_drewN | apply below_drew1) | exact HB.out))); (case aF => exact (fun _ _ => trivial)); (case aO => exact (by (with_reducible repeat (first | apply Kd.R_alloc | apply Kd.R_drewN | apply Kd.R_drew)); exact HO387.out)); (case aS => exact (below_size (by repeat (first | (with_reducible first | exact HB.out | apply below_alloc | apply pw_below_drewN | apply below_drew1) | exact HB.out)))); (case aL => have := LMc12.out; omega); intro v390 w17 ho hb hg hat; rw [← Ny389.out] at ho; have n0_ := Aside0.mk (Kd.R_over' (by (with_reducible repeat (first | apply Kd.R_alloc | apply Kd.R_drewN | apply Kd.R_drew)); exact HO384.out) (Kd.R_typed (by (with_reducible repeat (first | apply Kd.R_alloc | apply Kd.R_drewN | apply Kd.R_drew)); exact HO387.out)) (by decide) hg); have n1_ := Aside0.mk (hb); have n2_ := Aside0.mk (ho); clear HO384; clear HB; clear HO387; have HO384 := n0_; have HB := n1_; have HO391 := n2_; clear n0_ n1_ n2_; clear ho hb hg hat))
                  go_loopg [7, 8] kj2 (fun kq v7 v8 w' => ∃ (x6_2 : List Bool) (x7_2 : List Int) (x8_2 : Int), v8 = .int .i64 x8_2 ∧ Aside0 (seedcornref38_Behind.l0 kq l0 a1 x6_2 x7_2 x8_2 = some (r1, r2)) ∧ Aside0 (kq ≤ kj2) ∧ Aside0 (Kd.R Kd.bool 4 w' w.heap.size (fun _ => True) v383 x6_2) ∧ Aside0 (Kd.R (Kd.int .i64) 3 w' w.heap.size (fun _ => True) v7 x7_2) ∧ Aside0 (Below w.heap.size w w'))
                  case atStart => exact ⟨(y382), (y389), (0), (by first | rfl | (simp; done) | (simp [*]; done)), H', ⟨Nat.le_refl _⟩, ⟨by (with_reducible repeat (first | apply Kd.R_alloc | apply Kd.R_drewN | apply Kd.R_drew)); exact HO384.out⟩, ⟨by (with_reducible repeat (first | apply Kd.R_alloc | apply Kd.R_drewN | apply Kd.R_drew)); exact HO391.out⟩, ⟨by repeat (first | (with_reducible first | exact HB.out | apply below_alloc | apply pw_below_drewN | apply below_drew1) | exact HB.out)⟩⟩
                  case round =>
                    clear H'
                    try clear c1
                    try clear c2
                    try clear p2
                    try clear c3
                    try clear p3
                    try clear q3
                    try clear hx3
                    try clear c5
                    try clear c6
                    try clear c6b0
                    try clear c7
                    try clear c8
                    try clear c8b0
                    try clear c8b1
                    try clear c9
                    try clear c9b0
                    try clear c9b1
                    try clear c10
                    try clear c10b0
                    try clear c11
                    try clear c11b0
                    try clear c12
                    try clear hx388_0
                    try clear p2
                    try clear p388
                    try clear q388
                    obtain ⟨x6_2, x7_2, x8_2, rfl, HA, HK2, HO_6, HO_7, HB⟩ := hrel
                    cases gk with
                    | zero => exact absurd HA.out (by simp [seedcornref38_Behind.l0])
                    | succ k2 =>
                      have H := HA.out
                      clear HA
                      simp only [seedcornref38_Behind.l0] at H
                      by_cases c18 : x8_2 < (x7_2.length : Int)
                      · rw [if_pos c18] at H
                        have c18b0 : decide (x8_2 < (x7_2.length : Int)) = true := decide_eq_true c18
                        clear c18
                        by_cases c19 : 0 ≤ x8_2
                        · rw [if_pos c19] at H
                          have c19b0 : decide (0 ≤ x8_2) = true := decide_eq_true c19
                          clear c19
                          by_cases c20 : 0 ≤ (rd x7_2 x8_2)
                          · rw [if_pos c20] at H
                            have c20b0 : decide (0 ≤ (rd x7_2 x8_2)) = true := decide_eq_true c20
                            clear c20
                            by_cases c21 : (rd x7_2 x8_2) < (x6_2.length : Int)
                            · rw [if_pos c21] at H
                              have c21b0 : decide ((rd x7_2 x8_2) < (x6_2.length : Int)) = true := decide_eq_true c21
                              clear c21
                              obtain ⟨bq22, hbq22⟩ : ∃ b_ : Bool, b_ = (rdOf false x6_2 (rd x7_2 x8_2)) := ⟨_, rfl⟩
                              replace H : (if (bq22 = true) then (seedcornref38_Behind.l0 k2 l0 a1 x6_2 x7_2 (wrap64 (x8_2 + 1))) else (if (rd x7_2 x8_2) < (l0.length : Int) then (if x7_2.length + (rd_L1 l0 (rd x7_2 x8_2)).length < 17592186044416 then (seedcornref38_Behind.l0 k2 l0 a1 (x6_2.set ((rd x7_2 x8_2) : Int).toNat true) (x7_2 ++ (rd_L1 l0 (rd x7_2 x8_2))) (wrap64 (x8_2 + 1))) else (none)) else (none))) = some (r1, r2) := by rw [← hbq22] at H; exact H
                              have Nbq22 := Aside0.mk hbq22
                              clear hbq22
                              by_cases c23 : (bq22 = true)
                              · subst c23
                                have H1 : (seedcornref38_Behind.l0 k2 l0 a1 x6_2 x7_2 (wrap64 (x8_2 + 1))) = some (r1, r2) := by rw [if_pos rfl] at H; exact H
                                clear H
                                have H := H1
                                clear H1
                                have H' := Aside0.mk H
                                clear H
                                obtain ⟨Ao24, co24, eo24⟩ := Kd.R_slice HO_7.out
                                subst eo24
                                have p392 : 0 ≤ (x8_2 : Int) := of_decide_eq_true (by first | (with_reducible assumption) | assumption)
                                have q392 : x8_2 < (x7_2.length : Int) := of_decide_eq_true (by first | (with_reducible assumption) | assumption)
                                obtain ⟨ad392, e392, hx392_0⟩ := Kd.at_int (Kd.R_reads' HO_7.out).2.2 x8_2 p392 q392
                                cases e392
                                replace p392 := eq_true p392
                                replace q392 := eq_true q392
                                obtain ⟨Ao25, co25, eo25⟩ := Kd.R_slice HO_6.out
                                subst eo25
                                have p393 : 0 ≤ ((rd x7_2 x8_2) : Int) := of_decide_eq_true (by first | (with_reducible assumption) | assumption)
                                have q393 : (rd x7_2 x8_2) < (x6_2.length : Int) := of_decide_eq_true (by first | (with_reducible assumption) | assumption)
                                obtain ⟨ad393, e393, hx393_0⟩ := Kd.at_bool (Kd.R_reads' HO_6.out).2.2 (rd x7_2 x8_2) p393 q393
                                (try rw [← Nbq22.out] at hx393_0)
                                cases e393
                                replace p393 := eq_true p393
                                replace q393 := eq_true q393
                                go_wp2
                                go_roundg k2
                                case measure => have := HJ2.out; have := HK2.out; omega
                                case rel => exact ⟨(x6_2), (x7_2), (wrap64 (x8_2 + 1)), (by first | rfl | (simp; done) | (simp [*]; done)), H', ⟨by have := HJ2.out; have := HK2.out; omega⟩, ⟨by (with_reducible repeat (first | apply Kd.R_alloc | apply Kd.R_drewN | apply Kd.R_drew)); exact HO_6.out⟩, ⟨by (with_reducible repeat (first | apply Kd.R_alloc | apply Kd.R_drewN | apply Kd.R_drew)); exact HO_7.out⟩, ⟨by repeat (first | (with_reducible first | exact HB.out | apply below_alloc | apply pw_below_drewN | apply below_drew1) | exact HB.out)⟩⟩
                              · replace c23 := Bool.eq_false_iff.mpr c23
                                subst c23
                                have H1 : (if (rd x7_2 x8_2) < (l0.length : Int) then (if x7_2.length + (rd_L1 l0 (rd x7_2 x8_2)).length < 17592186044416 then (seedcornref38_Behind.l0 k2 l0 a1 (x6_2.set ((rd x7_2 x8_2) : Int).toNat true) (x7_2 ++ (rd_L1 l0 (rd x7_2 x8_2))) (wrap64 (x8_2 + 1))) else (none)) else (none)) = some (r1, r2) := by rw [if_neg (show ¬ (false = true) by decide)] at H; exact H
                                clear H
                                have H := H1
                                clear H1
                                obtain ⟨y395, hy395⟩ : ∃ y_ : List Bool, y_ = (x6_2.set ((rd x7_2 x8_2) : Int).toNat true) := ⟨_, rfl⟩
                                replace H : (if (rd x7_2 x8_2) < (l0.length : Int) then (if x7_2.length + (rd_L1 l0 (rd x7_2 x8_2)).length < 17592186044416 then (seedcornref38_Behind.l0 k2 l0 a1 y395 (x7_2 ++ (rd_L1 l0 (rd x7_2 x8_2))) (wrap64 (x8_2 + 1))) else (none)) else (none)) = some (r1, r2) := by first | (rw [hy395]; with_reducible exact H) | (have H2_ := (Option.bind_some _ _).symm.trans H; rw [hy395]; with_reducible exact H2_) | (have H2_ := (Option.bind_some _ _).symm.trans H; with_reducible exact H2_) | with_reducible exact H | (rw [hy395]; exact H) | exact H
                                have Ny395 := Aside0.mk hy395
                                clear hy395
                                by_cases c27 : (rd x7_2 x8_2) < (l0.length : Int)
                                · rw [if_pos c27] at H
                                  have c27b0 : decide ((rd x7_2 x8_2) < (l0.length : Int)) = true := decide_eq_true c27
                                  clear c27
                                  by_cases c28 : x7_2.length + (rd_L1 l0 (rd x7_2 x8_2)).length < 17592186044416
                                  · rw [if_pos c28] at H
                                    have LMc28 := Aside0.mk c28
                                    clear c28
                                    obtain ⟨y398, hy398⟩ : ∃ y_ : List Int, y_ = (x7_2 ++ (rd_L1 l0 (rd x7_2 x8_2))) := ⟨_, rfl⟩
                                    replace H : (seedcornref38_Behind.l0 k2 l0 a1 y395 y398 (wrap64 (x8_2 + 1))) = some (r1, r2) := by first | (rw [hy398]; with_reducible exact H) | (have H2_ := (Option.bind_some _ _).symm.trans H; rw [hy398]; with_reducible exact H2_) | (have H2_ := (Option.bind_some _ _).symm.trans H; with_reducible exact H2_) | with_reducible exact H | (rw [hy398]; exact H) | exact H
                                    have Ny398 := Aside0.mk hy398
                                    clear hy398
                                    have H' := Aside0.mk H
                                    clear H
                                    obtain ⟨Ao29, co29, eo29⟩ := Kd.R_slice HO_7.out
                                    subst eo29
                                    have p392 : 0 ≤ (x8_2 : Int) := of_decide_eq_true (by first | (with_reducible assumption) | assumption)
                                    have q392 : x8_2 < (x7_2.length : Int) := of_decide_eq_true (by first | (with_reducible assumption) | assumption)
                                    obtain ⟨ad392, e392, hx392_0⟩ := Kd.at_int (Kd.R_reads' HO_7.out).2.2 x8_2 p392 q392
                                    cases e392
                                    replace p392 := eq_true p392
                                    replace q392 := eq_true q392
                                    obtain ⟨Ao30, co30, eo30⟩ := Kd.R_slice HO_6.out
                                    subst eo30
                                    have p393 : 0 ≤ ((rd x7_2 x8_2) : Int) := of_decide_eq_true (by first | (with_reducible assumption) | assumption)
                                    have q393 : (rd x7_2 x8_2) < (x6_2.length : Int) := of_decide_eq_true (by first | (with_reducible assumption) | assumption)
                                    obtain ⟨ad393, e393, hx393_0⟩ := Kd.at_bool (Kd.R_reads' HO_6.out).2.2 (rd x7_2 x8_2) p393 q393
                                    (try rw [← Nbq22.out] at hx393_0)
                                    cases e393
                                    replace p393 := eq_true p393
                                    replace q393 := eq_true q393
                                    have p394 : 0 ≤ (x8_2 : Int) := of_decide_eq_true (by first | (with_reducible assumption) | assumption)
                                    have q394 : x8_2 < (x7_2.length : Int) := of_decide_eq_true (by first | (with_reducible assumption) | assumption)
                                    obtain ⟨ad394, e394, hx394_0⟩ := Kd.at_int (Kd.R_reads' HO_7.out).2.2 x8_2 p394 q394
                                    obtain rfl : ad392 = ad394 := (by injection e394)
                                    replace p394 := eq_true p394
                                    replace q394 := eq_true q394
                                    have p26 : 0 ≤ ((rd x7_2 x8_2) : Int) := of_decide_eq_true (by first | (with_reducible assumption) | assumption)
                                    have q26 : ((rd x7_2 x8_2) : Int) < ((x6_2.length : Int) : Int) := of_decide_eq_true (by first | (with_reducible assumption) | assumption)
                                    obtain ⟨go26, co26, eo26, gb26, gl26, cl26, HG26⟩ := Kd.R_form HO_6.out (by omega)
                                    (first | cases eo26 | (injection eo26 with ea_ en_ ec_; (first | subst ea_ | (injection ea_ with ea_; subst ea_)); subst ec_; clear en_))
                                    have GB26 := Aside0.mk gb26
                                    have GG26 := Aside0.mk HG26
                                    clear gb26 gl26 HG26
                                    (first | simp only [add_plain] at hx393_0 | skip)
                                    obtain ⟨hx26_0, hf26_0⟩ := Kd.R_celln false HO_6.out ((rd x7_2 x8_2) : Int) p26 q26
                                    replace p26 := eq_true p26
                                    replace q26 := eq_true q26
                                    have HP31 := Kd.R_putg HO_6.out ((rd x7_2 x8_2) : Int) true
                                    go_wp2_with (first | ((with_reducible refine gate_store (t := 4) (p := 52) rfl ?_); refine store_event (t := 4) (p := 52) (v := ?vo_w32) (w1 := (wr.setCell ⟨go26, ((rd x7_2 x8_2) : Int).toNat, none⟩ (.bool true))) ?hg ?ho ?hn ?hr ?_; (case ho => rfl); (case hg => rfl); (case hn => rfl); (case hr => first | (go_simp; done) | (go_simp; rfl)); intro w32 hw; have hg : wr.grownBy w32 (some go26) := (by rw [hw]; exact HP31.2); have hp_ : Kd.R Kd.bool 4 w32 w.heap.size (fun _ => True) (.slice (some ⟨go26, 0, none⟩) x6_2.length co30) y395 := (by rw [hw, Ny395.out]; exact HP31.1); clear HP31; have n0_ := Aside0.mk (hp_); have n1_ := Aside0.mk (Kd.R_over' (v := (.slice (some ⟨go26, 0, none⟩) x6_2.length co30)) (by (with_reducible repeat (first | apply Kd.R_alloc | apply Kd.R_drewN | apply Kd.R_drew)); exact HO_7.out) (Kd.R_typed HO_6.out) (by decide) hg); have n2_ := Aside0.mk ((by rw [hw]; exact below_set (HB.out) GB26.out : Below w.heap.size w w32)); clear HO_6; clear HO_7; clear HB; have HO_6 := n0_; have HO_7 := n1_; have HB := n2_; clear n0_ n1_ n2_; clear hg hw hp_; have p396 : 0 ≤ (x8_2 : Int) := of_decide_eq_true (by first | (with_reducible assumption) | assumption); have q396 : x8_2 < (x7_2.length : Int) := of_decide_eq_true (by first | (with_reducible assumption) | assumption); obtain ⟨ad396, e396, hx396_0⟩ := Kd.at_int (Kd.R_reads' HO_7.out).2.2 x8_2 p396 q396; obtain rfl : ad392 = ad396 := (by injection e396); replace p396 := eq_true p396; replace q396 := eq_true q396; have p397 : 0 ≤ ((rd x7_2 x8_2) : Int) := of_decide_eq_true (by first | (with_reducible assumption) | assumption); have q397 : (rd x7_2 x8_2) < (l0.length : Int) := of_decide_eq_true (by first | (with_reducible assumption) | assumption); obtain ⟨ad397, A397_0, c397_0, e397, hx397_0, hl397_0, hi397_0⟩ := at_L1 HR0.out (rd x7_2 x8_2) p397 q397; obtain rfl : ad388 = ad397 := (by injection e397); replace hx397_0 := (HB.out.cell (World.block_lt_of_cell? w _ hx397_0)).trans hx397_0; have HR397_0 := Aside0.mk hi397_0; have HC397_0 := Aside0.mk hl397_0; clear hi397_0 hl397_0; replace p397 := eq_true p397; replace q397 := eq_true q397) | ((with_reducible refine gate_builtin (b := .append) (xs := #[.tmp 53, .tmp 60]) rfl ?_); (try (refine gate_guard (by rfl) ?_; dsimp only)); at_builtin; refine Kd.R_append_rows (Kd.int .i64) (w0 := w) w.heap.size rfl (.tmp 53) (.tmp 60) 25 3 (.int .i64 0) 8 rfl Try.underlying25 info3 rfl (by decide) (by omega) (.slice (some ad392) x7_2.length co29) x7_2 (rd_L1 l0 (rd x7_2 x8_2)) _ _ _ (fun _ => True) (fun _ => False) rfl rfl ?aO ?aR (fun _ _ h => h) (fun _ h => h.elim) ?aF ?aB ?aS ?aL ?_; (case aR => repeat (first | exact (Kd.C_below HR397_0.out HB.out) | (with_reducible refine Kd.C_alloc ?_ _) | (with_reducible refine Kd.C_drewN ?_ _) | (with_reducible refine Kd.C_drew ?_))); (case aB => exact (by repeat (first | (with_reducible first | exact HB.out | apply below_alloc | apply pw_below_drewN | apply below_drew1) | exact HB.out))); (case aF => exact (fun _ _ => trivial)); (case aO => exact (by (with_reducible repeat (first | apply Kd.R_alloc | apply Kd.R_drewN | apply Kd.R_drew)); exact HO_7.out)); (case aS => exact (below_size (by repeat (first | (with_reducible first | exact HB.out | apply below_alloc | apply pw_below_drewN | apply below_drew1) | exact HB.out)))); (case aL => have := LMc28.out; omega); intro v399 w33 ho hb hg hat; rw [← Ny398.out] at ho; have n0_ := Aside0.mk (Kd.R_over' (by (with_reducible repeat (first | apply Kd.R_alloc | apply Kd.R_drewN | apply Kd.R_drew)); exact HO_6.out) (Kd.R_typed (by (with_reducible repeat (first | apply Kd.R_alloc | apply Kd.R_drewN | apply Kd.R_drew)); exact HO_7.out)) (by decide) hg); have n1_ := Aside0.mk (hb); have n2_ := Aside0.mk (ho); clear HO_6; clear HB; clear HO_7; have HO_6 := n0_; have HB := n1_; have HO400 := n2_; clear n0_ n1_ n2_; clear ho hb hg hat))
                                    go_roundg k2
                                    case measure => have := HJ2.out; have := HK2.out; omega
                                    case rel => exact ⟨(y395), (y398), (wrap64 (x8_2 + 1)), (by first | rfl | (simp; done) | (simp [*]; done)), H', ⟨by have := HJ2.out; have := HK2.out; omega⟩, ⟨by (with_reducible repeat (first | apply Kd.R_alloc | apply Kd.R_drewN | apply Kd.R_drew)); exact HO_6.out⟩, ⟨by (with_reducible repeat (first | apply Kd.R_alloc | apply Kd.R_drewN | apply Kd.R_drew)); exact HO400.out⟩, ⟨by repeat (first | (with_reducible first | exact HB.out | apply below_alloc | apply pw_below_drewN | apply below_drew1) | exact HB.out)⟩⟩
                                  · rw [if_neg c28] at H
                                    exact absurd H (by simp)
                                · rw [if_neg c27] at H
                                  exact absurd H (by simp)
                            · rw [if_neg c21] at H
                              exact absurd H (by simp)
                          · rw [if_neg c20] at H
                            exact absurd H (by simp)
                        · rw [if_neg c19] at H
                          exact absurd H (by simp)
                      · rw [if_neg c18] at H
                        have c18b0 : decide (x8_2 < (x7_2.length : Int)) = false := decide_eq_false c18
                        clear c18
                        have H' := Aside0.mk H
                        clear H
                        obtain ⟨Ao34, co34, eo34⟩ := Kd.R_slice HO_7.out
                        subst eo34
                        go_wp2
                        go_loopg [9, 10] k2 (fun kq v9 v10 w' => ∃ (x9_3 : List Int) (x10_3 : Int), v10 = .int .i64 x10_3 ∧ Aside0 (seedcornref38_Behind.l1 kq l0 a1 x6_2 x9_3 x10_3 = some (r1, r2)) ∧ Aside0 (kq ≤ k2) ∧ Aside0 (Kd.R Kd.bool 4 w' w.heap.size (fun _ => True) v383 x6_2) ∧ Aside0 (Kd.R (Kd.int .i64) 3 w' w.heap.size (fun _ => True) v9 x9_3) ∧ Aside0 (Below w.heap.size w w'))
                        case atStart => exact ⟨(([] : List Int)), (0), (by first | rfl | (simp; done) | (simp [*]; done)), H', ⟨Nat.le_refl _⟩, ⟨by (with_reducible repeat (first | apply Kd.R_alloc | apply Kd.R_drewN | apply Kd.R_drew)); exact HO_6.out⟩, ⟨by first | exact Kd.R_nil _ _ _ _ _ | exact Kd.N_nil _ _ _ _ _ | exact Kd.V_nil _ _ _ _ _ | exact Kd.Q_nil _ _ _ _ _ | exact Kd.S_nil _ _ _ _ _⟩, ⟨by repeat (first | (with_reducible first | exact HB.out | apply below_alloc | apply pw_below_drewN | apply below_drew1) | exact HB.out)⟩⟩
                        case round =>
                          clear H'
                          try clear c1
                          try clear c2
                          try clear p2
                          try clear q2
                          try clear hx2
                          try clear hf2
                          try clear c3
                          try clear p3
                          try clear q3
                          try clear hx3
                          try clear c5
                          try clear c6
                          try clear c6b0
                          try clear p6
                          try clear c7
                          try clear c8
                          try clear c8b0
                          try clear c8b1
                          try clear c9
                          try clear c9b0
                          try clear c9b1
                          try clear c10
                          try clear c10b0
                          try clear c11
                          try clear c11b0
                          try clear c12
                          try clear c18
                          try clear c18b0
                          try clear c19
                          try clear c19b0
                          try clear c20
                          try clear c20b0
                          try clear c21
                          try clear c21b0
                          try clear q22
                          try clear c23
                          try clear p26
                          try clear q26
                          try clear hx26
                          try clear hf26
                          try clear c27
                          try clear c27b0
                          try clear c28
                          try clear hx26_0
                          try clear hx388_0
                          try clear hx392_0
                          try clear hx393_0
                          try clear hx394_0
                          try clear hx396_0
                          try clear hx397_0
                          try clear p2
                          try clear p26
                          try clear p3
                          try clear p388
                          try clear p392
                          try clear p393
                          try clear p394
                          try clear p396
                          try clear p397
                          try clear q26
                          try clear q3
                          try clear q388
                          try clear q392
                          try clear q393
                          try clear q394
                          try clear q396
                          try clear q397
                          obtain ⟨x9_3, x10_3, rfl, HA, HK3, HO_6, HO_9, HB⟩ := hrel
                          cases gk with
                          | zero => exact absurd HA.out (by simp [seedcornref38_Behind.l1])
                          | succ k3 =>
                            have H := HA.out
                            clear HA
                            simp only [seedcornref38_Behind.l1] at H
                            by_cases c35 : x10_3 < (l0.length : Int)
                            · rw [if_pos c35] at H
                              have c35b0 : decide (x10_3 < (l0.length : Int)) = true := decide_eq_true c35
                              clear c35
                              by_cases c36 : 0 ≤ x10_3
                              · rw [if_pos c36] at H
                                have c36b0 : decide (0 ≤ x10_3) = true := decide_eq_true c36
                                clear c36
                                by_cases c37 : x10_3 < (x6_2.length : Int)
                                · rw [if_pos c37] at H
                                  have c37b0 : decide (x10_3 < (x6_2.length : Int)) = true := decide_eq_true c37
                                  clear c37
                                  obtain ⟨bq38, hbq38⟩ : ∃ b_ : Bool, b_ = (rdOf false x6_2 x10_3) := ⟨_, rfl⟩
                                  replace H : (if bq38 = true then (if x10_3 = a1 then (seedcornref38_Behind.l1 k3 l0 a1 x6_2 x9_3 (wrap64 (x10_3 + 1))) else (if x9_3.length < 17592186044416 then (seedcornref38_Behind.l1 k3 l0 a1 x6_2 (x9_3 ++ [x10_3]) (wrap64 (x10_3 + 1))) else (none))) else (seedcornref38_Behind.l1 k3 l0 a1 x6_2 x9_3 (wrap64 (x10_3 + 1)))) = some (r1, r2) := by rw [← hbq38] at H; exact H
                                  have Nbq38 := Aside0.mk hbq38
                                  clear hbq38
                                  by_cases c39 : bq38 = true
                                  · subst c39
                                    have H1 : (if x10_3 = a1 then (seedcornref38_Behind.l1 k3 l0 a1 x6_2 x9_3 (wrap64 (x10_3 + 1))) else (if x9_3.length < 17592186044416 then (seedcornref38_Behind.l1 k3 l0 a1 x6_2 (x9_3 ++ [x10_3]) (wrap64 (x10_3 + 1))) else (none))) = some (r1, r2) := by rw [if_pos rfl] at H; exact H
                                    clear H
                                    have H := H1
                                    clear H1
                                    by_cases c40 : x10_3 = a1
                                    · rw [if_pos c40] at H
                                      have c40b0 : (x10_3 == a1) = true := beq_iff_eq.mpr c40
                                      have c40b1 : (x10_3 != a1) = false := bne_eq_false_iff_eq.mpr c40
                                      clear c40
                                      have H' := Aside0.mk H
                                      clear H
                                      obtain ⟨Ao41, co41, eo41⟩ := Kd.R_slice HO_6.out
                                      subst eo41
                                      have p401 : 0 ≤ (x10_3 : Int) := of_decide_eq_true (by first | (with_reducible assumption) | assumption)
                                      have q401 : x10_3 < (x6_2.length : Int) := of_decide_eq_true (by first | (with_reducible assumption) | assumption)
                                      obtain ⟨ad401, e401, hx401_0⟩ := Kd.at_bool (Kd.R_reads' HO_6.out).2.2 x10_3 p401 q401
                                      (try rw [← Nbq38.out] at hx401_0)
                                      cases e401
                                      replace p401 := eq_true p401
                                      replace q401 := eq_true q401
                                      go_wp2
                                      go_roundg k3
                                      case measure => have := HJ2.out; have := HK2.out; have := HK3.out; omega
                                      case rel => exact ⟨(x9_3), (wrap64 (x10_3 + 1)), (by first | rfl | (simp; done) | (simp [*]; done)), H', ⟨by have := HJ2.out; have := HK2.out; have := HK3.out; omega⟩, ⟨by (with_reducible repeat (first | apply Kd.R_alloc | apply Kd.R_drewN | apply Kd.R_drew)); exact HO_6.out⟩, ⟨by (with_reducible repeat (first | apply Kd.R_alloc | apply Kd.R_drewN | apply Kd.R_drew)); exact HO_9.out⟩, ⟨by repeat (first | (with_reducible first | exact HB.out | apply below_alloc | apply pw_below_drewN | apply below_drew1) | exact HB.out)⟩⟩
                                    · rw [if_neg c40] at H
                                      have c40b0 : (x10_3 == a1) = false := beq_eq_false_iff_ne.mpr c40
                                      have c40b1 : (x10_3 != a1) = true := bne_iff_ne.mpr c40
                                      by_cases c42 : x9_3.length < 17592186044416
                                      · rw [if_pos c42] at H
                                        have LMc42 := Aside0.mk c42
                                        clear c42
                                        obtain ⟨y402, hy402⟩ : ∃ y_ : List Int, y_ = (x9_3 ++ [x10_3]) := ⟨_, rfl⟩
                                        replace H : (seedcornref38_Behind.l1 k3 l0 a1 x6_2 y402 (wrap64 (x10_3 + 1))) = some (r1, r2) := by first | (rw [hy402]; with_reducible exact H) | (have H2_ := (Option.bind_some _ _).symm.trans H; rw [hy402]; with_reducible exact H2_) | (have H2_ := (Option.bind_some _ _).symm.trans H; with_reducible exact H2_) | with_reducible exact H | (rw [hy402]; exact H) | exact H
                                        have Ny402 := Aside0.mk hy402
                                        clear hy402
                                        have H' := Aside0.mk H
                                        clear H
                                        obtain ⟨Ao43, co43, eo43⟩ := Kd.R_slice HO_6.out
                                        subst eo43
                                        have p401 : 0 ≤ (x10_3 : Int) := of_decide_eq_true (by first | (with_reducible assumption) | assumption)
                                        have q401 : x10_3 < (x6_2.length : Int) := of_decide_eq_true (by first | (with_reducible assumption) | assumption)
                                        obtain ⟨ad401, e401, hx401_0⟩ := Kd.at_bool (Kd.R_reads' HO_6.out).2.2 x10_3 p401 q401
                                        (try rw [← Nbq38.out] at hx401_0)
                                        cases e401
                                        replace p401 := eq_true p401
                                        replace q401 := eq_true q401
                                        go_wp2_with (first | ((with_reducible refine gate_builtin (b := .append) (xs := #[.tmp 77, .tmp 79]) rfl ?_); (try (refine gate_guard (by rfl) ?_; dsimp only)); at_builtin; refine Kd.R_append (Kd.int .i64) (w0 := w) w.heap.size rfl (.tmp 77) (.tmp 79) 25 3 (.int .i64 0) 8 rfl Try.underlying25 info3 rfl (by decide) (by omega) u9 x9_3 x10_3 [.int .i64 x10_3] (fun _ => True) (fun _ => False) rfl rfl ?aP (fun _ hk => hk.elim) ?aF ?aO ?aB ?aS ?aL ?_; (case aP => exact rfl); (case aB => exact (by repeat (first | (with_reducible first | exact HB.out | apply below_alloc | apply pw_below_drewN | apply below_drew1) | exact HB.out))); (case aF => exact (fun _ _ => trivial)); (case aO => exact (by (with_reducible repeat (first | apply Kd.R_alloc | apply Kd.R_drewN | apply Kd.R_drew)); exact HO_9.out)); (case aS => exact (below_size (by repeat (first | (with_reducible first | exact HB.out | apply below_alloc | apply pw_below_drewN | apply below_drew1) | exact HB.out)))); (case aL => have := LMc42.out; omega); intro v403 w44 ho hb hg hat; rw [← Ny402.out] at ho; have n0_ := Aside0.mk (Kd.R_over' (by (with_reducible repeat (first | apply Kd.R_alloc | apply Kd.R_drewN | apply Kd.R_drew)); exact HO_6.out) (Kd.R_typed (by (with_reducible repeat (first | apply Kd.R_alloc | apply Kd.R_drewN | apply Kd.R_drew)); exact HO_9.out)) (by decide) hg); have n1_ := Aside0.mk (hb); have n2_ := Aside0.mk (ho); clear HO_6; clear HB; clear HO_9; have HO_6 := n0_; have HB := n1_; have HO404 := n2_; clear n0_ n1_ n2_; clear ho hb hg hat))
                                        go_roundg k3
                                        case measure => have := HJ2.out; have := HK2.out; have := HK3.out; omega
                                        case rel => exact ⟨(y402), (wrap64 (x10_3 + 1)), (by first | rfl | (simp; done) | (simp [*]; done)), H', ⟨by have := HJ2.out; have := HK2.out; have := HK3.out; omega⟩, ⟨by (with_reducible repeat (first | apply Kd.R_alloc | apply Kd.R_drewN | apply Kd.R_drew)); exact HO_6.out⟩, ⟨by (with_reducible repeat (first | apply Kd.R_alloc | apply Kd.R_drewN | apply Kd.R_drew)); exact HO404.out⟩, ⟨by repeat (first | (with_reducible first | exact HB.out | apply below_alloc | apply pw_below_drewN | apply below_drew1) | exact HB.out)⟩⟩
                                      · rw [if_neg c42] at H
                                        exact absurd H (by simp)
                                  · replace c39 := Bool.eq_false_iff.mpr c39
                                    subst c39
                                    have H1 : (seedcornref38_Behind.l1 k3 l0 a1 x6_2 x9_3 (wrap64 (x10_3 + 1))) = some (r1, r2) := by rw [if_neg (show ¬ (false = true) by decide)] at H; exact H
                                    clear H
                                    have H := H1
                                    clear H1
                                    have H' := Aside0.mk H
                                    clear H
                                    obtain ⟨Ao45, co45, eo45⟩ := Kd.R_slice HO_6.out
                                    subst eo45
                                    have p401 : 0 ≤ (x10_3 : Int) := of_decide_eq_true (by first | (with_reducible assumption) | assumption)
                                    have q401 : x10_3 < (x6_2.length : Int) := of_decide_eq_true (by first | (with_reducible assumption) | assumption)
                                    obtain ⟨ad401, e401, hx401_0⟩ := Kd.at_bool (Kd.R_reads' HO_6.out).2.2 x10_3 p401 q401
                                    (try rw [← Nbq38.out] at hx401_0)
                                    cases e401
                                    replace p401 := eq_true p401
                                    replace q401 := eq_true q401
                                    go_wp2
                                    go_roundg k3
                                    case measure => have := HJ2.out; have := HK2.out; have := HK3.out; omega
                                    case rel => exact ⟨(x9_3), (wrap64 (x10_3 + 1)), (by first | rfl | (simp; done) | (simp [*]; done)), H', ⟨by have := HJ2.out; have := HK2.out; have := HK3.out; omega⟩, ⟨by (with_reducible repeat (first | apply Kd.R_alloc | apply Kd.R_drewN | apply Kd.R_drew)); exact HO_6.out⟩, ⟨by (with_reducible repeat (first | apply Kd.R_alloc | apply Kd.R_drewN | apply Kd.R_drew)); exact HO_9.out⟩, ⟨by repeat (first | (with_reducible first | exact HB.out | apply below_alloc | apply pw_below_drewN | apply below_drew1) | exact HB.out)⟩⟩
                                · rw [if_neg c37] at H
                                  exact absurd H (by simp)
                              · rw [if_neg c36] at H
                                exact absurd H (by simp)
                            · rw [if_neg c35] at H
                              have c35b0 : decide (x10_3 < (l0.length : Int)) = false := decide_eq_false c35
                              clear c35
                              simp only [Option.some.injEq, Prod.mk.injEq] at H
                              obtain ⟨rfl, rfl⟩ := H
                              go_wp2
                              go_ret2
                              exact ⟨_, by first | rfl | (simp [errW_none, errW_some] <;> rfl) | (simp [*, errW_none, errW_some] <;> rfl), by (with_reducible repeat (first | apply Kd.R_alloc | apply Kd.R_drewN | apply Kd.R_drew)); exact HO_9.out, by repeat (first | (with_reducible first | exact HB.out | apply below_alloc | apply pw_below_drewN | apply below_drew1) | exact HB.out)⟩
                · rw [if_neg c12] at H
                  exact absurd H (by simp)
              · rw [if_neg c11] at H
                exact absurd H (by simp)
            · rw [if_neg c10] at H
              exact absurd H (by simp)
          · rw [if_neg c9] at H
            exact absurd H (by simp)
        · rw [if_neg c8] at H
          exact absurd H (by simp)

end Go.Proofs.Ytdknnekkbhpjlaa.G

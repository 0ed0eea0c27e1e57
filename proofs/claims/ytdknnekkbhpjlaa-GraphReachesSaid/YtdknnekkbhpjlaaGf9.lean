-- laid by a program of the session (wip/gen/gprint.sh) over the kit's printer, with some functions given
import Derived.Test.YtdknnekkbhpjlaaG0
import Derived.Test.YtdknnekkbhpjlaaGf13
import Derived.Test.YtdknnekkbhpjlaaGf21
import Derived.Test.YtdknnekkbhpjlaaHAwake
import Derived.Test.YtdknnekkbhpjlaaHBehind
namespace Go.Proofs.Ytdknnekkbhpjlaa.G
open Go.RowKit Go.Proofs.YtdknnekkbhpjlaaW.PrintWords Go.Proofs.YtdknnekkbhpjlaaW.PrintLast Go.Proofs.YtdknnekkbhpjlaaW.PrintMore
attribute [local go_sem] max2_int min2_int max_two min_two max_three min_three max_four min_four   -- for this text's walks alone
set_option linter.unusedVariables false
set_option linter.unusedSimpArgs false

/-! ### seedcornlaw38_GraphReaches: function 9 -/
mutual
noncomputable def seedcornlaw38_GraphReaches.j0 : Nat → List (List Int) → Int → Bool → Option (Bool)
  | 0, _, _, _ => none
  | k + 1, x0, x1, x25 => if x25 = true then ((seedcornlaw38_awake.f).bind fun t419 => (some t419)) else (if (x0.length : Int) = 0 then (none) else ((graph_Behind.f x0 (Int.tmod (wrap64 (x1)) (x0.length : Int))).bind fun bt420 => (if bt420.2 = 0 then (if 0 ≤ (x0.length : Int) then (if ((x0.length : Int) : Int).toNat ≤ 281474976710656 then (seedcornlaw38_GraphReaches.l0 k x0 (Int.tmod (wrap64 (x1)) (x0.length : Int)) bt420.1 (List.replicate ((x0.length : Int) : Int).toNat false) 0) else (none)) else (none)) else (some false))))
noncomputable def seedcornlaw38_GraphReaches.l0 : Nat → List (List Int) → Int → List Int → List Bool → Int → Option (Bool)
  | 0, _, _, _, _, _ => none
  | k + 1, x0, x5, x6, x8, x9 => if x9 < (x6.length : Int) then (if 0 ≤ x9 then (if (rd x6 x9) < 0 then (some false) else (if (rd x6 x9) ≥ (x0.length : Int) then (some false) else (if (rd x6 x9) = x5 then (some false) else (if x9 > 0 then (if 0 ≤ (wrap64 (x9 - 1)) then (if (wrap64 (x9 - 1)) < (x6.length : Int) then (if (rd x6 x9) ≤ (rd x6 (wrap64 (x9 - 1))) then (some false) else (if 0 ≤ (rd x6 x9) then (if (rd x6 x9) < (x8.length : Int) then (seedcornlaw38_GraphReaches.l0 k x0 x5 x6 (x8.set ((rd x6 x9) : Int).toNat true) (wrap64 (x9 + 1))) else (none)) else (none))) else (none)) else (none)) else (if 0 ≤ (rd x6 x9) then (if (rd x6 x9) < (x8.length : Int) then (seedcornlaw38_GraphReaches.l0 k x0 x5 x6 (x8.set ((rd x6 x9) : Int).toNat true) (wrap64 (x9 + 1))) else (none)) else (none)))))) else (none)) else (seedcornlaw38_GraphReaches.l1 k x0 x5 x6 x8 0)
noncomputable def seedcornlaw38_GraphReaches.l1 : Nat → List (List Int) → Int → List Int → List Bool → Int → Option (Bool)
  | 0, _, _, _, _, _ => none
  | k + 1, x0, x5, x6, x8, x10 => if 0 ≤ x5 then (if x5 < (x0.length : Int) then (if x10 < ((rd_L1 x0 x5).length : Int) then (if 0 ≤ x10 then (if (rd (rd_L1 x0 x5) x10) = x5 then (seedcornlaw38_GraphReaches.l1 k x0 x5 x6 x8 (wrap64 (x10 + 1))) else (if 0 ≤ (rd (rd_L1 x0 x5) x10) then (if (rd (rd_L1 x0 x5) x10) < (x8.length : Int) then (if (rdOf false x8 (rd (rd_L1 x0 x5) x10) = true) then (seedcornlaw38_GraphReaches.l1 k x0 x5 x6 x8 (wrap64 (x10 + 1))) else (some false)) else (none)) else (none))) else (none)) else (seedcornlaw38_GraphReaches.l2 k x0 x5 x6 x8 0)) else (none)) else (none)
noncomputable def seedcornlaw38_GraphReaches.l2 : Nat → List (List Int) → Int → List Int → List Bool → Int → Option (Bool)
  | 0, _, _, _, _, _ => none
  | k + 1, x0, x5, x6, x8, x11 => if x11 < (x6.length : Int) then (seedcornlaw38_GraphReaches.l3 k x0 x5 x6 x8 x11 0) else ((seedcornlaw38_awake.f).bind fun t442 => (some t442))
noncomputable def seedcornlaw38_GraphReaches.l3 : Nat → List (List Int) → Int → List Int → List Bool → Int → Int → Option (Bool)
  | 0, _, _, _, _, _, _ => none
  | k + 1, x0, x5, x6, x8, x11, x12 => if 0 ≤ x11 then (if x11 < (x6.length : Int) then (if 0 ≤ (rd x6 x11) then (if (rd x6 x11) < (x0.length : Int) then (if x12 < ((rd_L1 x0 (rd x6 x11)).length : Int) then (if 0 ≤ x12 then (if (rd (rd_L1 x0 (rd x6 x11)) x12) = x5 then (seedcornlaw38_GraphReaches.l3 k x0 x5 x6 x8 x11 (wrap64 (x12 + 1))) else (if 0 ≤ (rd (rd_L1 x0 (rd x6 x11)) x12) then (if (rd (rd_L1 x0 (rd x6 x11)) x12) < (x8.length : Int) then (if (rdOf false x8 (rd (rd_L1 x0 (rd x6 x11)) x12) = true) then (seedcornlaw38_GraphReaches.l3 k x0 x5 x6 x8 x11 (wrap64 (x12 + 1))) else (some false)) else (none)) else (none))) else (none)) else (seedcornlaw38_GraphReaches.l2 k x0 x5 x6 x8 (wrap64 (x11 + 1)))) else (none)) else (none)) else (none)) else (none)
end
noncomputable def seedcornlaw38_GraphReaches.f (k : Nat) (l0 : List (List Int)) (a1 : Int) : Option (Bool) := (seedcornref38_Few.f k l0 300).bind fun t417 => (if t417 = true then (if (l0.length : Int) = 0 then (seedcornlaw38_GraphReaches.j0 k l0 a1 true) else ((seedcornref38_Right.f k l0).bind fun t418 => (seedcornlaw38_GraphReaches.j0 k l0 a1 (!t418)))) else (seedcornlaw38_GraphReaches.j0 k l0 a1 true))
theorem seedcornlaw38_GraphReaches.mono_l : ∀ k, (∀ y0 y1 y2, LeO (seedcornlaw38_GraphReaches.j0 k y0 y1 y2) (seedcornlaw38_GraphReaches.j0 (k + 1) y0 y1 y2)) ∧ (∀ y0 y1 y2 y3 y4, LeO (seedcornlaw38_GraphReaches.l0 k y0 y1 y2 y3 y4) (seedcornlaw38_GraphReaches.l0 (k + 1) y0 y1 y2 y3 y4)) ∧ (∀ y0 y1 y2 y3 y4, LeO (seedcornlaw38_GraphReaches.l1 k y0 y1 y2 y3 y4) (seedcornlaw38_GraphReaches.l1 (k + 1) y0 y1 y2 y3 y4)) ∧ (∀ y0 y1 y2 y3 y4, LeO (seedcornlaw38_GraphReaches.l2 k y0 y1 y2 y3 y4) (seedcornlaw38_GraphReaches.l2 (k + 1) y0 y1 y2 y3 y4)) ∧ (∀ y0 y1 y2 y3 y4 y5, LeO (seedcornlaw38_GraphReaches.l3 k y0 y1 y2 y3 y4 y5) (seedcornlaw38_GraphReaches.l3 (k + 1) y0 y1 y2 y3 y4 y5))
  | 0 => ⟨fun _ _ _ r h => by simp [seedcornlaw38_GraphReaches.j0] at h, fun _ _ _ _ _ r h => by simp [seedcornlaw38_GraphReaches.l0] at h, fun _ _ _ _ _ r h => by simp [seedcornlaw38_GraphReaches.l1] at h, fun _ _ _ _ _ r h => by simp [seedcornlaw38_GraphReaches.l2] at h, fun _ _ _ _ _ _ r h => by simp [seedcornlaw38_GraphReaches.l3] at h⟩
  | k + 1 => by
    obtain ⟨ih0, ih1, ih2, ih3, ih4⟩ := seedcornlaw38_GraphReaches.mono_l k
    refine ⟨?_, ?_, ?_, ?_, ?_⟩
    · intro y0 y1 y2
      unfold seedcornlaw38_GraphReaches.j0
      repeat' first
      | (with_reducible exact ih0 _ _ _)
      | (with_reducible exact ih1 _ _ _ _ _)
      | (with_reducible exact ih2 _ _ _ _ _)
      | (with_reducible exact ih3 _ _ _ _ _)
      | (with_reducible exact ih4 _ _ _ _ _ _)
      | (with_reducible exact seedcornref38_Few.mono _ _ _)
      | (with_reducible exact seedcornref38_Right.mono _ _)
      | (with_reducible exact LeO.refl _)
      | (with_reducible exact LeO.none _)
      | (with_reducible refine LeO.ite ?_ ?_)
      | (with_reducible refine LeO.bind ?_ (fun _ => ?_))
      | exact ih0 _ _ _
      | exact ih1 _ _ _ _ _
      | exact ih2 _ _ _ _ _
      | exact ih3 _ _ _ _ _
      | exact ih4 _ _ _ _ _ _
      | exact seedcornref38_Few.mono _ _ _
      | exact seedcornref38_Right.mono _ _
      | exact LeO.none _
      | refine LeO.ite ?_ ?_
      | refine LeO.bind ?_ (fun _ => ?_)
    · intro y0 y1 y2 y3 y4
      unfold seedcornlaw38_GraphReaches.l0
      repeat' first
      | (with_reducible exact ih0 _ _ _)
      | (with_reducible exact ih1 _ _ _ _ _)
      | (with_reducible exact ih2 _ _ _ _ _)
      | (with_reducible exact ih3 _ _ _ _ _)
      | (with_reducible exact ih4 _ _ _ _ _ _)
      | (with_reducible exact seedcornref38_Few.mono _ _ _)
      | (with_reducible exact seedcornref38_Right.mono _ _)
      | (with_reducible exact LeO.refl _)
      | (with_reducible exact LeO.none _)
      | (with_reducible refine LeO.ite ?_ ?_)
      | (with_reducible refine LeO.bind ?_ (fun _ => ?_))
      | exact ih0 _ _ _
      | exact ih1 _ _ _ _ _
      | exact ih2 _ _ _ _ _
      | exact ih3 _ _ _ _ _
      | exact ih4 _ _ _ _ _ _
      | exact seedcornref38_Few.mono _ _ _
      | exact seedcornref38_Right.mono _ _
      | exact LeO.none _
      | refine LeO.ite ?_ ?_
      | refine LeO.bind ?_ (fun _ => ?_)
    · intro y0 y1 y2 y3 y4
      unfold seedcornlaw38_GraphReaches.l1
      repeat' first
      | (with_reducible exact ih0 _ _ _)
      | (with_reducible exact ih1 _ _ _ _ _)
      | (with_reducible exact ih2 _ _ _ _ _)
      | (with_reducible exact ih3 _ _ _ _ _)
      | (with_reducible exact ih4 _ _ _ _ _ _)
      | (with_reducible exact seedcornref38_Few.mono _ _ _)
      | (with_reducible exact seedcornref38_Right.mono _ _)
      | (with_reducible exact LeO.refl _)
      | (with_reducible exact LeO.none _)
      | (with_reducible refine LeO.ite ?_ ?_)
      | (with_reducible refine LeO.bind ?_ (fun _ => ?_))
      | exact ih0 _ _ _
      | exact ih1 _ _ _ _ _
      | exact ih2 _ _ _ _ _
      | exact ih3 _ _ _ _ _
      | exact ih4 _ _ _ _ _ _
      | exact seedcornref38_Few.mono _ _ _
      | exact seedcornref38_Right.mono _ _
      | exact LeO.none _
      | refine LeO.ite ?_ ?_
      | refine LeO.bind ?_ (fun _ => ?_)
    · intro y0 y1 y2 y3 y4
      unfold seedcornlaw38_GraphReaches.l2
      repeat' first
      | (with_reducible exact ih0 _ _ _)
      | (with_reducible exact ih1 _ _ _ _ _)
      | (with_reducible exact ih2 _ _ _ _ _)
      | (with_reducible exact ih3 _ _ _ _ _)
      | (with_reducible exact ih4 _ _ _ _ _ _)
      | (with_reducible exact seedcornref38_Few.mono _ _ _)
      | (with_reducible exact seedcornref38_Right.mono _ _)
      | (with_reducible exact LeO.refl _)
      | (with_reducible exact LeO.none _)
      | (with_reducible refine LeO.ite ?_ ?_)
      | (with_reducible refine LeO.bind ?_ (fun _ => ?_))
      | exact ih0 _ _ _
      | exact ih1 _ _ _ _ _
      | exact ih2 _ _ _ _ _
      | exact ih3 _ _ _ _ _
      | exact ih4 _ _ _ _ _ _
      | exact seedcornref38_Few.mono _ _ _
      | exact seedcornref38_Right.mono _ _
      | exact LeO.none _
      | refine LeO.ite ?_ ?_
      | refine LeO.bind ?_ (fun _ => ?_)
    · intro y0 y1 y2 y3 y4 y5
      unfold seedcornlaw38_GraphReaches.l3
      repeat' first
      | (with_reducible exact ih0 _ _ _)
      | (with_reducible exact ih1 _ _ _ _ _)
      | (with_reducible exact ih2 _ _ _ _ _)
      | (with_reducible exact ih3 _ _ _ _ _)
      | (with_reducible exact ih4 _ _ _ _ _ _)
      | (with_reducible exact seedcornref38_Few.mono _ _ _)
      | (with_reducible exact seedcornref38_Right.mono _ _)
      | (with_reducible exact LeO.refl _)
      | (with_reducible exact LeO.none _)
      | (with_reducible refine LeO.ite ?_ ?_)
      | (with_reducible refine LeO.bind ?_ (fun _ => ?_))
      | exact ih0 _ _ _
      | exact ih1 _ _ _ _ _
      | exact ih2 _ _ _ _ _
      | exact ih3 _ _ _ _ _
      | exact ih4 _ _ _ _ _ _
      | exact seedcornref38_Few.mono _ _ _
      | exact seedcornref38_Right.mono _ _
      | exact LeO.none _
      | refine LeO.ite ?_ ?_
      | refine LeO.bind ?_ (fun _ => ?_)
theorem seedcornlaw38_GraphReaches.mono : ∀ a0 a1 k, LeO (seedcornlaw38_GraphReaches.f k a0 a1) (seedcornlaw38_GraphReaches.f (k + 1) a0 a1) := by
  intro a0 a1 k
  obtain ⟨ih0, ih1, ih2, ih3, ih4⟩ := seedcornlaw38_GraphReaches.mono_l k
  unfold seedcornlaw38_GraphReaches.f
  repeat' first
      | (with_reducible exact ih0 _ _ _)
      | (with_reducible exact ih1 _ _ _ _ _)
      | (with_reducible exact ih2 _ _ _ _ _)
      | (with_reducible exact ih3 _ _ _ _ _)
      | (with_reducible exact ih4 _ _ _ _ _ _)
      | (with_reducible exact seedcornref38_Few.mono _ _ _)
      | (with_reducible exact seedcornref38_Right.mono _ _)
      | (with_reducible exact LeO.refl _)
      | (with_reducible exact LeO.none _)
      | (with_reducible refine LeO.ite ?_ ?_)
      | (with_reducible refine LeO.bind ?_ (fun _ => ?_))
      | exact ih0 _ _ _
      | exact ih1 _ _ _ _ _
      | exact ih2 _ _ _ _ _
      | exact ih3 _ _ _ _ _
      | exact ih4 _ _ _ _ _ _
      | exact seedcornref38_Few.mono _ _ _
      | exact seedcornref38_Right.mono _ _
      | exact LeO.none _
      | refine LeO.ite ?_ ?_
      | refine LeO.bind ?_ (fun _ => ?_)
set_option maxHeartbeats 8000000 in
set_option maxRecDepth 100000 in
theorem seedcornlaw38_GraphReaches.calls (k : Nat) (A0 : Option Addr) (c0 : Nat) (l0 : List (List Int)) (a1 : Int) (r : Bool) (w : World) (hr0 : Kd.C (Kd.slice 3 (Kd.int .i64)) w A0 l0.length l0) (hc0 : l0.length ≤ c0) (h : seedcornlaw38_GraphReaches.f k l0 a1 = some r) :
    Calls Try.prog 9 #[.slice A0 l0.length c0, .int .u8 a1] w fun e w' => e = .returned (.bool r) ∧ Below w.heap.size w w' := by
  have HR0 := Aside0.mk hr0
  have HC0 := Aside0.mk hc0
  clear hr0 hc0
  have HB := Aside0.mk (Below.refl w.heap.size w)
  have H : ((seedcornref38_Few.f k l0 300).bind fun t417 => (if t417 = true then (if (l0.length : Int) = 0 then (seedcornlaw38_GraphReaches.j0 k l0 a1 true) else ((seedcornref38_Right.f k l0).bind fun t418 => (seedcornlaw38_GraphReaches.j0 k l0 a1 (!t418)))) else (seedcornlaw38_GraphReaches.j0 k l0 a1 true))) = some r := h
  clear h
  have HC3 := Aside0.mk H
  clear H
  go_enter Try.func9, Try.ntmps9
  go_upto_region 1 with (fail)
  repeat (go_quiet (fail); go_upto_region 1 with (fail))
  go_cut [25] (fun v25 wc => ∃ (kq : Nat) (x25_2 : Bool), v25 = .bool x25_2 ∧ Aside0 (seedcornlaw38_GraphReaches.j0 kq l0 a1 x25_2 = some r) ∧ Aside0 (kq ≤ k) ∧ Aside0 (Below w.heap.size w wc))
  case first =>
    have H := HC3.out
    clear HC3
    replace H := Option.bind_eq_some_iff.mp H
    obtain ⟨t417, A40, H⟩ := H
    replace H : (if t417 = true then (if (l0.length : Int) = 0 then (seedcornlaw38_GraphReaches.j0 k l0 a1 true) else ((seedcornref38_Right.f k l0).bind fun t418 => (seedcornlaw38_GraphReaches.j0 k l0 a1 (!t418)))) else (seedcornlaw38_GraphReaches.j0 k l0 a1 true)) = some r := H
    have A4 := Aside0.mk A40
    clear A40
    by_cases c5 : t417 = true
    · subst c5
      have H1 : (if (l0.length : Int) = 0 then (seedcornlaw38_GraphReaches.j0 k l0 a1 true) else ((seedcornref38_Right.f k l0).bind fun t418 => (seedcornlaw38_GraphReaches.j0 k l0 a1 (!t418)))) = some r := by rw [if_pos rfl] at H; exact H
      clear H
      have H := H1
      clear H1
      by_cases c6 : (l0.length : Int) = 0
      · rw [if_pos c6] at H
        have c6b0 : ((l0.length : Int) == 0) = true := beq_iff_eq.mpr c6
        have c6b1 : ((l0.length : Int) != 0) = false := bne_eq_false_iff_eq.mpr c6
        clear c6
        (first | rw [c6b0] | (simp only [i64_w, i32_w]; rw [c6b0]) | skip)
        have H' := Aside0.mk H
        clear H
        go_wp2_with (first | (go_at_call 13; (with_reducible refine (seedcornref38_Few.calls k _ _ l0 300 true _ ?side1 ?side2 A4.out).mono ?_); (case side1 => repeat (first | exact (Kd.C_below HR0.out HB.out) | (with_reducible refine Kd.C_alloc ?_ _) | (with_reducible refine Kd.C_drewN ?_ _) | (with_reducible refine Kd.C_drew ?_))); (case side2 => exact HC0.out); rintro e w' ⟨rfl, ⟨nd, rfl⟩⟩; (try first | exact ⟨rfl, _, World.drewN_drewN _ _ _⟩ | exact ⟨rfl, _, Eq.trans (World.drewN_drewN _ _ _) (congrArg (World.drewN _) (Nat.add_assoc _ _ _))⟩)))
        repeat (go_quiet (first | (go_at_call 13; (with_reducible refine (seedcornref38_Few.calls k _ _ l0 300 true _ ?side1 ?side2 A4.out).mono ?_); (case side1 => repeat (first | exact (Kd.C_below HR0.out HB.out) | (with_reducible refine Kd.C_alloc ?_ _) | (with_reducible refine Kd.C_drewN ?_ _) | (with_reducible refine Kd.C_drew ?_))); (case side2 => exact HC0.out); rintro e w' ⟨rfl, ⟨nd, rfl⟩⟩; (try first | exact ⟨rfl, _, World.drewN_drewN _ _ _⟩ | exact ⟨rfl, _, Eq.trans (World.drewN_drewN _ _ _) (congrArg (World.drewN _) (Nat.add_assoc _ _ _))⟩))); try go_wp2_with (first | (go_at_call 13; (with_reducible refine (seedcornref38_Few.calls k _ _ l0 300 true _ ?side1 ?side2 A4.out).mono ?_); (case side1 => repeat (first | exact (Kd.C_below HR0.out HB.out) | (with_reducible refine Kd.C_alloc ?_ _) | (with_reducible refine Kd.C_drewN ?_ _) | (with_reducible refine Kd.C_drew ?_))); (case side2 => exact HC0.out); rintro e w' ⟨rfl, ⟨nd, rfl⟩⟩; (try first | exact ⟨rfl, _, World.drewN_drewN _ _ _⟩ | exact ⟨rfl, _, Eq.trans (World.drewN_drewN _ _ _) (congrArg (World.drewN _) (Nat.add_assoc _ _ _))⟩))))
        go_meet
        case rel => exact ⟨_, (true), (by first | rfl | (simp; done) | (simp [*]; done)), H', ⟨by first | omega | exact Nat.le_refl _⟩, ⟨by repeat (first | (with_reducible first | exact HB.out | apply below_alloc | apply pw_below_drewN | apply below_drew1) | exact HB.out)⟩⟩
      · rw [if_neg c6] at H
        have c6b0 : ((l0.length : Int) == 0) = false := beq_eq_false_iff_ne.mpr c6
        have c6b1 : ((l0.length : Int) != 0) = true := bne_iff_ne.mpr c6
        have c6b2 : ¬ (l0 = []) := fun h_ => c6 (by rw [h_]; rfl)
        (first | rw [c6b0] | (simp only [i64_w, i32_w]; rw [c6b0]) | skip)
        replace H := Option.bind_eq_some_iff.mp H
        obtain ⟨t418, A70, H⟩ := H
        replace H : (seedcornlaw38_GraphReaches.j0 k l0 a1 (!t418)) = some r := H
        have A7 := Aside0.mk A70
        clear A70
        have H' := Aside0.mk H
        clear H
        go_wp2_with (first | (go_at_call 13; (with_reducible refine (seedcornref38_Few.calls k _ _ l0 300 true _ ?side1 ?side2 A4.out).mono ?_); (case side1 => repeat (first | exact (Kd.C_below HR0.out HB.out) | (with_reducible refine Kd.C_alloc ?_ _) | (with_reducible refine Kd.C_drewN ?_ _) | (with_reducible refine Kd.C_drew ?_))); (case side2 => exact HC0.out); rintro e w' ⟨rfl, ⟨nd, rfl⟩⟩; (try first | exact ⟨rfl, _, World.drewN_drewN _ _ _⟩ | exact ⟨rfl, _, Eq.trans (World.drewN_drewN _ _ _) (congrArg (World.drewN _) (Nat.add_assoc _ _ _))⟩)) | (go_at_call 21; (with_reducible refine (seedcornref38_Right.calls k _ _ l0 t418 _ ?side1 ?side2 A7.out).mono ?_); (case side1 => repeat (first | exact (Kd.C_below HR0.out (by repeat (first | (with_reducible first | exact HB.out | apply below_alloc | apply pw_below_drewN | apply below_drew1) | exact HB.out))) | (with_reducible refine Kd.C_alloc ?_ _) | (with_reducible refine Kd.C_drewN ?_ _) | (with_reducible refine Kd.C_drew ?_))); (case side2 => exact HC0.out); rintro e w' ⟨rfl, ⟨nd, rfl⟩⟩; (try first | exact ⟨rfl, _, World.drewN_drewN _ _ _⟩ | exact ⟨rfl, _, Eq.trans (World.drewN_drewN _ _ _) (congrArg (World.drewN _) (Nat.add_assoc _ _ _))⟩)))
        repeat (go_quiet (first | (go_at_call 13; (with_reducible refine (seedcornref38_Few.calls k _ _ l0 300 true _ ?side1 ?side2 A4.out).mono ?_); (case side1 => repeat (first | exact (Kd.C_below HR0.out HB.out) | (with_reducible refine Kd.C_alloc ?_ _) | (with_reducible refine Kd.C_drewN ?_ _) | (with_reducible refine Kd.C_drew ?_))); (case side2 => exact HC0.out); rintro e w' ⟨rfl, ⟨nd, rfl⟩⟩; (try first | exact ⟨rfl, _, World.drewN_drewN _ _ _⟩ | exact ⟨rfl, _, Eq.trans (World.drewN_drewN _ _ _) (congrArg (World.drewN _) (Nat.add_assoc _ _ _))⟩)) | (go_at_call 21; (with_reducible refine (seedcornref38_Right.calls k _ _ l0 t418 _ ?side1 ?side2 A7.out).mono ?_); (case side1 => repeat (first | exact (Kd.C_below HR0.out (by repeat (first | (with_reducible first | exact HB.out | apply below_alloc | apply pw_below_drewN | apply below_drew1) | exact HB.out))) | (with_reducible refine Kd.C_alloc ?_ _) | (with_reducible refine Kd.C_drewN ?_ _) | (with_reducible refine Kd.C_drew ?_))); (case side2 => exact HC0.out); rintro e w' ⟨rfl, ⟨nd, rfl⟩⟩; (try first | exact ⟨rfl, _, World.drewN_drewN _ _ _⟩ | exact ⟨rfl, _, Eq.trans (World.drewN_drewN _ _ _) (congrArg (World.drewN _) (Nat.add_assoc _ _ _))⟩))); try go_wp2_with (first | (go_at_call 13; (with_reducible refine (seedcornref38_Few.calls k _ _ l0 300 true _ ?side1 ?side2 A4.out).mono ?_); (case side1 => repeat (first | exact (Kd.C_below HR0.out HB.out) | (with_reducible refine Kd.C_alloc ?_ _) | (with_reducible refine Kd.C_drewN ?_ _) | (with_reducible refine Kd.C_drew ?_))); (case side2 => exact HC0.out); rintro e w' ⟨rfl, ⟨nd, rfl⟩⟩; (try first | exact ⟨rfl, _, World.drewN_drewN _ _ _⟩ | exact ⟨rfl, _, Eq.trans (World.drewN_drewN _ _ _) (congrArg (World.drewN _) (Nat.add_assoc _ _ _))⟩)) | (go_at_call 21; (with_reducible refine (seedcornref38_Right.calls k _ _ l0 t418 _ ?side1 ?side2 A7.out).mono ?_); (case side1 => repeat (first | exact (Kd.C_below HR0.out (by repeat (first | (with_reducible first | exact HB.out | apply below_alloc | apply pw_below_drewN | apply below_drew1) | exact HB.out))) | (with_reducible refine Kd.C_alloc ?_ _) | (with_reducible refine Kd.C_drewN ?_ _) | (with_reducible refine Kd.C_drew ?_))); (case side2 => exact HC0.out); rintro e w' ⟨rfl, ⟨nd, rfl⟩⟩; (try first | exact ⟨rfl, _, World.drewN_drewN _ _ _⟩ | exact ⟨rfl, _, Eq.trans (World.drewN_drewN _ _ _) (congrArg (World.drewN _) (Nat.add_assoc _ _ _))⟩))))
        go_meet
        case rel => exact ⟨_, (!t418), (by first | rfl | (simp; done) | (simp [*]; done)), H', ⟨by first | omega | exact Nat.le_refl _⟩, ⟨by repeat (first | (with_reducible first | exact HB.out | apply below_alloc | apply pw_below_drewN | apply below_drew1) | exact HB.out)⟩⟩
    · replace c5 := Bool.eq_false_iff.mpr c5
      subst c5
      have H1 : (seedcornlaw38_GraphReaches.j0 k l0 a1 true) = some r := by rw [if_neg (show ¬ (false = true) by decide)] at H; exact H
      clear H
      have H := H1
      clear H1
      have H' := Aside0.mk H
      clear H
      go_wp2_with (first | (go_at_call 13; (with_reducible refine (seedcornref38_Few.calls k _ _ l0 300 false _ ?side1 ?side2 A4.out).mono ?_); (case side1 => repeat (first | exact (Kd.C_below HR0.out HB.out) | (with_reducible refine Kd.C_alloc ?_ _) | (with_reducible refine Kd.C_drewN ?_ _) | (with_reducible refine Kd.C_drew ?_))); (case side2 => exact HC0.out); rintro e w' ⟨rfl, ⟨nd, rfl⟩⟩; (try first | exact ⟨rfl, _, World.drewN_drewN _ _ _⟩ | exact ⟨rfl, _, Eq.trans (World.drewN_drewN _ _ _) (congrArg (World.drewN _) (Nat.add_assoc _ _ _))⟩)))
      repeat (go_quiet (first | (go_at_call 13; (with_reducible refine (seedcornref38_Few.calls k _ _ l0 300 false _ ?side1 ?side2 A4.out).mono ?_); (case side1 => repeat (first | exact (Kd.C_below HR0.out HB.out) | (with_reducible refine Kd.C_alloc ?_ _) | (with_reducible refine Kd.C_drewN ?_ _) | (with_reducible refine Kd.C_drew ?_))); (case side2 => exact HC0.out); rintro e w' ⟨rfl, ⟨nd, rfl⟩⟩; (try first | exact ⟨rfl, _, World.drewN_drewN _ _ _⟩ | exact ⟨rfl, _, Eq.trans (World.drewN_drewN _ _ _) (congrArg (World.drewN _) (Nat.add_assoc _ _ _))⟩))); try go_wp2_with (first | (go_at_call 13; (with_reducible refine (seedcornref38_Few.calls k _ _ l0 300 false _ ?side1 ?side2 A4.out).mono ?_); (case side1 => repeat (first | exact (Kd.C_below HR0.out HB.out) | (with_reducible refine Kd.C_alloc ?_ _) | (with_reducible refine Kd.C_drewN ?_ _) | (with_reducible refine Kd.C_drew ?_))); (case side2 => exact HC0.out); rintro e w' ⟨rfl, ⟨nd, rfl⟩⟩; (try first | exact ⟨rfl, _, World.drewN_drewN _ _ _⟩ | exact ⟨rfl, _, Eq.trans (World.drewN_drewN _ _ _) (congrArg (World.drewN _) (Nat.add_assoc _ _ _))⟩))))
      go_meet
      case rel => exact ⟨_, (true), (by first | rfl | (simp; done) | (simp [*]; done)), H', ⟨by first | omega | exact Nat.le_refl _⟩, ⟨by repeat (first | (with_reducible first | exact HB.out | apply below_alloc | apply pw_below_drewN | apply below_drew1) | exact HB.out)⟩⟩
  case rest =>
    clear HC3
    try clear p2
    try clear c5
    try clear c6
    try clear c6b0
    try clear c6b1
    try clear c6b2
    obtain ⟨kq, x25_2, rfl, HA, HJ2, HB⟩ := hcut
    cases kq with
    | zero => exact absurd HA.out (by simp [seedcornlaw38_GraphReaches.j0])
    | succ kj2 =>
      have H := HA.out
      clear HA
      simp only [seedcornlaw38_GraphReaches.j0] at H
      by_cases c8 : x25_2 = true
      · subst c8
        have H1 : ((seedcornlaw38_awake.f).bind fun t419 => (some t419)) = some r := by rw [if_pos rfl] at H; exact H
        clear H
        have H := H1
        clear H1
        replace H := Option.bind_eq_some_iff.mp H
        obtain ⟨t419, A90, H⟩ := H
        replace H : (some t419) = some r := H
        have A9 := Aside0.mk A90
        clear A90
        obtain rfl := Option.some.inj H
        go_wp2_with (first | (go_at_call 10; (with_reducible refine (seedcornlaw38_awake.calls  t419 _ A9.out).mono ?_); rintro e w10 ⟨rfl, hb⟩; have n0_ := Aside0.mk (below_step (by repeat (first | (with_reducible first | exact HB.out | apply below_alloc | apply pw_below_drewN | apply below_drew1) | exact HB.out)) hb); clear HB; have HB := n0_; clear n0_; (try clear hb); (try clear hb2); (try clear hk); (try clear hi)))
        repeat (go_quiet (first | (go_at_call 10; (with_reducible refine (seedcornlaw38_awake.calls  t419 _ A9.out).mono ?_); rintro e w10 ⟨rfl, hb⟩; have n0_ := Aside0.mk (below_step (by repeat (first | (with_reducible first | exact HB.out | apply below_alloc | apply pw_below_drewN | apply below_drew1) | exact HB.out)) hb); clear HB; have HB := n0_; clear n0_; (try clear hb); (try clear hb2); (try clear hk); (try clear hi))); try go_wp2_with (first | (go_at_call 10; (with_reducible refine (seedcornlaw38_awake.calls  t419 _ A9.out).mono ?_); rintro e w10 ⟨rfl, hb⟩; have n0_ := Aside0.mk (below_step (by repeat (first | (with_reducible first | exact HB.out | apply below_alloc | apply pw_below_drewN | apply below_drew1) | exact HB.out)) hb); clear HB; have HB := n0_; clear n0_; (try clear hb); (try clear hb2); (try clear hk); (try clear hi))))
        go_ret
        exact ⟨by first | rfl | (simp [errW_none, errW_some] <;> rfl) | (simp [*, errW_none, errW_some] <;> rfl), by repeat (first | (with_reducible first | exact HB.out | apply below_alloc | apply pw_below_drewN | apply below_drew1) | exact HB.out)⟩
      · replace c8 := Bool.eq_false_iff.mpr c8
        subst c8
        have H1 : (if (l0.length : Int) = 0 then (none) else ((graph_Behind.f l0 (Int.tmod (wrap64 (a1)) (l0.length : Int))).bind fun bt420 => (if bt420.2 = 0 then (if 0 ≤ (l0.length : Int) then (if ((l0.length : Int) : Int).toNat ≤ 281474976710656 then (seedcornlaw38_GraphReaches.l0 kj2 l0 (Int.tmod (wrap64 (a1)) (l0.length : Int)) bt420.1 (List.replicate ((l0.length : Int) : Int).toNat false) 0) else (none)) else (none)) else (some false)))) = some r := by rw [if_neg (show ¬ (false = true) by decide)] at H; exact H
        clear H
        have H := H1
        clear H1
        by_cases c11 : (l0.length : Int) = 0
        · rw [if_pos c11] at H
          exact absurd H (by simp)
        · rw [if_neg c11] at H
          have c11b0 : ((l0.length : Int) == 0) = false := beq_eq_false_iff_ne.mpr c11
          have c11b1 : ((l0.length : Int) != 0) = true := bne_iff_ne.mpr c11
          have c11b2 : ¬ (l0 = []) := fun h_ => c11 (by rw [h_]; rfl)
          replace H := Option.bind_eq_some_iff.mp H
          obtain ⟨⟨t420, t421⟩, A120, H⟩ := H
          replace H : (if t421 = 0 then (if 0 ≤ (l0.length : Int) then (if ((l0.length : Int) : Int).toNat ≤ 281474976710656 then (seedcornlaw38_GraphReaches.l0 kj2 l0 (Int.tmod (wrap64 (a1)) (l0.length : Int)) t420 (List.replicate ((l0.length : Int) : Int).toNat false) 0) else (none)) else (none)) else (some false)) = some r := H
          have A12 := Aside0.mk A120
          clear A120
          by_cases c13 : t421 = 0
          · rw [if_pos c13] at H
            have c13b0 : (t421 == 0) = true := beq_iff_eq.mpr c13
            have c13b1 : (t421 != 0) = false := bne_eq_false_iff_eq.mpr c13
            clear c13
            by_cases c14 : 0 ≤ (l0.length : Int)
            · rw [if_pos c14] at H
              have c14b0 := eq_true c14
              have c14b1 : decide (0 ≤ (l0.length : Int)) = true := decide_eq_true c14
              clear c14
              by_cases c15 : ((l0.length : Int) : Int).toNat ≤ 281474976710656
              · rw [if_pos c15] at H
                have c15b0 := eq_true c15
                have c15b1 : decide (((l0.length : Int) : Int).toNat ≤ 281474976710656) = true := decide_eq_true c15
                clear c15
                obtain ⟨y424, hy424⟩ : ∃ y_ : List Bool, y_ = (List.replicate ((l0.length : Int) : Int).toNat false) := ⟨_, rfl⟩
                replace H : (seedcornlaw38_GraphReaches.l0 kj2 l0 (Int.tmod (wrap64 (a1)) (l0.length : Int)) t420 y424 0) = some r := by first | (rw [hy424]; with_reducible exact H) | (have H2_ := (Option.bind_some _ _).symm.trans H; rw [hy424]; with_reducible exact H2_) | (have H2_ := (Option.bind_some _ _).symm.trans H; with_reducible exact H2_) | with_reducible exact H | (rw [hy424]; exact H) | exact H
                have Ny424 := Aside0.mk hy424
                clear hy424
                have H' := Aside0.mk H
                clear H
                go_wp2_with (first | (go_at_call 19; (with_reducible refine (graph_Behind.calls _ _ l0 (Int.tmod (wrap64 (a1)) (l0.length : Int)) t420 t421 _ ?side1 ?side2 A12.out).mono ?_); (case side1 => repeat (first | exact (Kd.C_below HR0.out HB.out) | (with_reducible refine Kd.C_alloc ?_ _) | (with_reducible refine Kd.C_drewN ?_ _) | (with_reducible refine Kd.C_drew ?_))); (case side2 => exact HC0.out); rintro e w16 ⟨v422, rfl, ho0, hb⟩; have n0_ := Aside0.mk (Kd.R_lower ho0 (below_size (by repeat (first | (with_reducible first | exact HB.out | apply below_alloc | apply pw_below_drewN | apply below_drew1) | exact HB.out)))); have n1_ := Aside0.mk (below_step (by repeat (first | (with_reducible first | exact HB.out | apply below_alloc | apply pw_below_drewN | apply below_drew1) | exact HB.out)) hb); clear HB; have HO423 := n0_; have HB := n1_; clear n0_ n1_; (try clear hb); (try clear hb2); (try clear hk); (try clear hi); (try clear ho0)) | ((with_reducible refine gate_dst (N := 42) rfl ?_); (try (refine gate_guard (by rfl) ?_; dsimp only)); refine Kd.R_make Kd.bool _ 4 rfl (N := 42) rfl 38 _ _ rfl (l0.length : Int) rfl rfl Try.underlying38 (.bool false) 1 info4 rfl (by decide) (by omega) false (ok := fun _ => True) (okp := fun _ => True) rfl (fun _ hk => hk) trivial (of_decide_eq_true (by first | (with_reducible assumption) | assumption)) (Nat.le_trans (Nat.mul_le_mul_right _ (of_decide_eq_true (by first | (with_reducible assumption) | assumption) : (l0.length : Int).toNat ≤ 281474976710656)) (by omega)) (Below.refl _ _) (Nat.le_refl _) ?_; intro v425 w17 ho18 hb hg_ hnew_; clear hg_ hnew_; (first | rw [← Ny424.out] at ho18 | (simp only [Int.reduceToNat] at ho18; rw [← Ny424.out] at ho18)); have n0_ := Aside0.mk (Kd.R_below (by (with_reducible repeat (first | apply Kd.R_alloc | apply Kd.R_drewN | apply Kd.R_drew)); exact HO423.out) hb); have n1_ := Aside0.mk (Kd.R_lower ho18 (below_size (by repeat (first | (with_reducible first | exact HB.out | apply below_alloc | apply pw_below_drewN | apply below_drew1) | exact HB.out)))); have n2_ := Aside0.mk (below_step (by repeat (first | (with_reducible first | exact HB.out | apply below_alloc | apply pw_below_drewN | apply below_drew1) | exact HB.out)) hb); clear HO423; clear HB; have HO423 := n0_; have HO426 := n1_; have HB := n2_; clear n0_ n1_ n2_; clear hb ho18))
                repeat (go_quiet (first | (go_at_call 19; (with_reducible refine (graph_Behind.calls _ _ l0 (Int.tmod (wrap64 (a1)) (l0.length : Int)) t420 t421 _ ?side1 ?side2 A12.out).mono ?_); (case side1 => repeat (first | exact (Kd.C_below HR0.out HB.out) | (with_reducible refine Kd.C_alloc ?_ _) | (with_reducible refine Kd.C_drewN ?_ _) | (with_reducible refine Kd.C_drew ?_))); (case side2 => exact HC0.out); rintro e w16 ⟨v422, rfl, ho0, hb⟩; have n0_ := Aside0.mk (Kd.R_lower ho0 (below_size (by repeat (first | (with_reducible first | exact HB.out | apply below_alloc | apply pw_below_drewN | apply below_drew1) | exact HB.out)))); have n1_ := Aside0.mk (below_step (by repeat (first | (with_reducible first | exact HB.out | apply below_alloc | apply pw_below_drewN | apply below_drew1) | exact HB.out)) hb); clear HB; have HO423 := n0_; have HB := n1_; clear n0_ n1_; (try clear hb); (try clear hb2); (try clear hk); (try clear hi); (try clear ho0)) | ((with_reducible refine gate_dst (N := 42) rfl ?_); (try (refine gate_guard (by rfl) ?_; dsimp only)); refine Kd.R_make Kd.bool _ 4 rfl (N := 42) rfl 38 _ _ rfl (l0.length : Int) rfl rfl Try.underlying38 (.bool false) 1 info4 rfl (by decide) (by omega) false (ok := fun _ => True) (okp := fun _ => True) rfl (fun _ hk => hk) trivial (of_decide_eq_true (by first | (with_reducible assumption) | assumption)) (Nat.le_trans (Nat.mul_le_mul_right _ (of_decide_eq_true (by first | (with_reducible assumption) | assumption) : (l0.length : Int).toNat ≤ 281474976710656)) (by omega)) (Below.refl _ _) (Nat.le_refl _) ?_; intro v425 w17 ho18 hb hg_ hnew_; clear hg_ hnew_; (first | rw [← Ny424.out] at ho18 | (simp only [Int.reduceToNat] at ho18; rw [← Ny424.out] at ho18)); have n0_ := Aside0.mk (Kd.R_below (by (with_reducible repeat (first | apply Kd.R_alloc | apply Kd.R_drewN | apply Kd.R_drew)); exact HO423.out) hb); have n1_ := Aside0.mk (Kd.R_lower ho18 (below_size (by repeat (first | (with_reducible first | exact HB.out | apply below_alloc | apply pw_below_drewN | apply below_drew1) | exact HB.out)))); have n2_ := Aside0.mk (below_step (by repeat (first | (with_reducible first | exact HB.out | apply below_alloc | apply pw_below_drewN | apply below_drew1) | exact HB.out)) hb); clear HO423; clear HB; have HO423 := n0_; have HO426 := n1_; have HB := n2_; clear n0_ n1_ n2_; clear hb ho18)); try go_wp2_with (first | (go_at_call 19; (with_reducible refine (graph_Behind.calls _ _ l0 (Int.tmod (wrap64 (a1)) (l0.length : Int)) t420 t421 _ ?side1 ?side2 A12.out).mono ?_); (case side1 => repeat (first | exact (Kd.C_below HR0.out HB.out) | (with_reducible refine Kd.C_alloc ?_ _) | (with_reducible refine Kd.C_drewN ?_ _) | (with_reducible refine Kd.C_drew ?_))); (case side2 => exact HC0.out); rintro e w16 ⟨v422, rfl, ho0, hb⟩; have n0_ := Aside0.mk (Kd.R_lower ho0 (below_size (by repeat (first | (with_reducible first | exact HB.out | apply below_alloc | apply pw_below_drewN | apply below_drew1) | exact HB.out)))); have n1_ := Aside0.mk (below_step (by repeat (first | (with_reducible first | exact HB.out | apply below_alloc | apply pw_below_drewN | apply below_drew1) | exact HB.out)) hb); clear HB; have HO423 := n0_; have HB := n1_; clear n0_ n1_; (try clear hb); (try clear hb2); (try clear hk); (try clear hi); (try clear ho0)) | ((with_reducible refine gate_dst (N := 42) rfl ?_); (try (refine gate_guard (by rfl) ?_; dsimp only)); refine Kd.R_make Kd.bool _ 4 rfl (N := 42) rfl 38 _ _ rfl (l0.length : Int) rfl rfl Try.underlying38 (.bool false) 1 info4 rfl (by decide) (by omega) false (ok := fun _ => True) (okp := fun _ => True) rfl (fun _ hk => hk) trivial (of_decide_eq_true (by first | (with_reducible assumption) | assumption)) (Nat.le_trans (Nat.mul_le_mul_right _ (of_decide_eq_true (by first | (with_reducible assumption) | assumption) : (l0.length : Int).toNat ≤ 281474976710656)) (by omega)) (Below.refl _ _) (Nat.le_refl _) ?_; intro v425 w17 ho18 hb hg_ hnew_; clear hg_ hnew_; (first | rw [← Ny424.out] at ho18 | (simp only [Int.reduceToNat] at ho18; rw [← Ny424.out] at ho18)); have n0_ := Aside0.mk (Kd.R_below (by (with_reducible repeat (first | apply Kd.R_alloc | apply Kd.R_drewN | apply Kd.R_drew)); exact HO423.out) hb); have n1_ := Aside0.mk (Kd.R_lower ho18 (below_size (by repeat (first | (with_reducible first | exact HB.out | apply below_alloc | apply pw_below_drewN | apply below_drew1) | exact HB.out)))); have n2_ := Aside0.mk (below_step (by repeat (first | (with_reducible first | exact HB.out | apply below_alloc | apply pw_below_drewN | apply below_drew1) | exact HB.out)) hb); clear HO423; clear HB; have HO423 := n0_; have HO426 := n1_; have HB := n2_; clear n0_ n1_ n2_; clear hb ho18)))
                go_loopg [9] kj2 (fun kq v9 w' => ∃ (x8_2 : List Bool) (x9_2 : Int), v9 = .int .i64 x9_2 ∧ Aside0 (seedcornlaw38_GraphReaches.l0 kq l0 (Int.tmod (wrap64 (a1)) (l0.length : Int)) t420 x8_2 x9_2 = some r) ∧ Aside0 (kq ≤ kj2) ∧ Aside0 (Kd.R (Kd.int .i64) 3 w' w.heap.size (fun _ => True) v422 t420) ∧ Aside0 (Kd.R Kd.bool 4 w' w.heap.size (fun _ => True) v425 x8_2) ∧ Aside0 (Below w.heap.size w w'))
                case atStart => exact ⟨(y424), (0), (by first | rfl | (simp; done) | (simp [*]; done)), H', ⟨Nat.le_refl _⟩, ⟨by (with_reducible repeat (first | apply Kd.R_alloc | apply Kd.R_drewN | apply Kd.R_drew)); exact HO423.out⟩, ⟨by (with_reducible repeat (first | apply Kd.R_alloc | apply Kd.R_drewN | apply Kd.R_drew)); exact HO426.out⟩, ⟨by repeat (first | (with_reducible first | exact HB.out | apply below_alloc | apply pw_below_drewN | apply below_drew1) | exact HB.out)⟩⟩
                case round =>
                  clear H'
                  try clear c1
                  try clear p2
                  try clear c5
                  try clear c6
                  try clear c6b0
                  try clear c6b1
                  try clear c6b2
                  try clear p6
                  try clear c8
                  try clear c9
                  try clear c11
                  try clear c11b0
                  try clear c11b1
                  try clear c11b2
                  try clear c13
                  try clear c13b0
                  try clear c13b1
                  try clear c14
                  try clear c14b0
                  try clear c14b1
                  try clear c15
                  try clear c15b0
                  try clear c15b1
                  try clear p2
                  obtain ⟨x8_2, x9_2, rfl, HA, HK2, HO_6, HO_8, HB⟩ := hrel
                  cases gk with
                  | zero => exact absurd HA.out (by simp [seedcornlaw38_GraphReaches.l0])
                  | succ k2 =>
                    have H := HA.out
                    clear HA
                    simp only [seedcornlaw38_GraphReaches.l0] at H
                    by_cases c19 : x9_2 < (t420.length : Int)
                    · rw [if_pos c19] at H
                      have c19b0 : decide (x9_2 < (t420.length : Int)) = true := decide_eq_true c19
                      clear c19
                      by_cases c20 : 0 ≤ x9_2
                      · rw [if_pos c20] at H
                        have c20b0 : decide (0 ≤ x9_2) = true := decide_eq_true c20
                        clear c20
                        by_cases c21 : (rd t420 x9_2) < 0
                        · rw [if_pos c21] at H
                          have c21b0 : decide ((rd t420 x9_2) < 0) = true := decide_eq_true c21
                          clear c21
                          obtain rfl := Option.some.inj H
                          obtain ⟨Ao22, co22, eo22⟩ := Kd.R_slice HO_6.out
                          subst eo22
                          have p427 : 0 ≤ (x9_2 : Int) := of_decide_eq_true (by first | (with_reducible assumption) | assumption)
                          have q427 : x9_2 < (t420.length : Int) := of_decide_eq_true (by first | (with_reducible assumption) | assumption)
                          obtain ⟨ad427, e427, hx427_0⟩ := Kd.at_int (Kd.R_reads' HO_6.out).2.2 x9_2 p427 q427
                          cases e427
                          replace p427 := eq_true p427
                          replace q427 := eq_true q427
                          go_wp2
                          repeat (go_quiet (fail); try go_wp2)
                          go_ret
                          exact ⟨by first | rfl | (simp [errW_none, errW_some] <;> rfl) | (simp [*, errW_none, errW_some] <;> rfl), by repeat (first | (with_reducible first | exact HB.out | apply below_alloc | apply pw_below_drewN | apply below_drew1) | exact HB.out)⟩
                        · rw [if_neg c21] at H
                          have c21b0 : decide ((rd t420 x9_2) < 0) = false := decide_eq_false c21
                          clear c21
                          by_cases c23 : (rd t420 x9_2) ≥ (l0.length : Int)
                          · rw [if_pos c23] at H
                            have c23b0 : decide ((l0.length : Int) ≤ (rd t420 x9_2)) = true := decide_eq_true c23
                            clear c23
                            obtain rfl := Option.some.inj H
                            obtain ⟨Ao24, co24, eo24⟩ := Kd.R_slice HO_6.out
                            subst eo24
                            have p427 : 0 ≤ (x9_2 : Int) := of_decide_eq_true (by first | (with_reducible assumption) | assumption)
                            have q427 : x9_2 < (t420.length : Int) := of_decide_eq_true (by first | (with_reducible assumption) | assumption)
                            obtain ⟨ad427, e427, hx427_0⟩ := Kd.at_int (Kd.R_reads' HO_6.out).2.2 x9_2 p427 q427
                            cases e427
                            replace p427 := eq_true p427
                            replace q427 := eq_true q427
                            have p428 : 0 ≤ (x9_2 : Int) := of_decide_eq_true (by first | (with_reducible assumption) | assumption)
                            have q428 : x9_2 < (t420.length : Int) := of_decide_eq_true (by first | (with_reducible assumption) | assumption)
                            obtain ⟨ad428, e428, hx428_0⟩ := Kd.at_int (Kd.R_reads' HO_6.out).2.2 x9_2 p428 q428
                            obtain rfl : ad427 = ad428 := (by injection e428)
                            replace p428 := eq_true p428
                            replace q428 := eq_true q428
                            go_wp2
                            repeat (go_quiet (fail); try go_wp2)
                            go_ret
                            exact ⟨by first | rfl | (simp [errW_none, errW_some] <;> rfl) | (simp [*, errW_none, errW_some] <;> rfl), by repeat (first | (with_reducible first | exact HB.out | apply below_alloc | apply pw_below_drewN | apply below_drew1) | exact HB.out)⟩
                          · rw [if_neg c23] at H
                            have c23b0 : decide ((l0.length : Int) ≤ (rd t420 x9_2)) = false := decide_eq_false c23
                            clear c23
                            by_cases c25 : (rd t420 x9_2) = (Int.tmod (wrap64 (a1)) (l0.length : Int))
                            · rw [if_pos c25] at H
                              have c25b0 : ((rd t420 x9_2) == (Int.tmod (wrap64 (a1)) (l0.length : Int))) = true := beq_iff_eq.mpr c25
                              have c25b1 : ((rd t420 x9_2) != (Int.tmod (wrap64 (a1)) (l0.length : Int))) = false := bne_eq_false_iff_eq.mpr c25
                              clear c25
                              obtain rfl := Option.some.inj H
                              obtain ⟨Ao26, co26, eo26⟩ := Kd.R_slice HO_6.out
                              subst eo26
                              have p427 : 0 ≤ (x9_2 : Int) := of_decide_eq_true (by first | (with_reducible assumption) | assumption)
                              have q427 : x9_2 < (t420.length : Int) := of_decide_eq_true (by first | (with_reducible assumption) | assumption)
                              obtain ⟨ad427, e427, hx427_0⟩ := Kd.at_int (Kd.R_reads' HO_6.out).2.2 x9_2 p427 q427
                              cases e427
                              replace p427 := eq_true p427
                              replace q427 := eq_true q427
                              have p428 : 0 ≤ (x9_2 : Int) := of_decide_eq_true (by first | (with_reducible assumption) | assumption)
                              have q428 : x9_2 < (t420.length : Int) := of_decide_eq_true (by first | (with_reducible assumption) | assumption)
                              obtain ⟨ad428, e428, hx428_0⟩ := Kd.at_int (Kd.R_reads' HO_6.out).2.2 x9_2 p428 q428
                              obtain rfl : ad427 = ad428 := (by injection e428)
                              replace p428 := eq_true p428
                              replace q428 := eq_true q428
                              have p429 : 0 ≤ (x9_2 : Int) := of_decide_eq_true (by first | (with_reducible assumption) | assumption)
                              have q429 : x9_2 < (t420.length : Int) := of_decide_eq_true (by first | (with_reducible assumption) | assumption)
                              obtain ⟨ad429, e429, hx429_0⟩ := Kd.at_int (Kd.R_reads' HO_6.out).2.2 x9_2 p429 q429
                              obtain rfl : ad427 = ad429 := (by injection e429)
                              replace p429 := eq_true p429
                              replace q429 := eq_true q429
                              go_wp2
                              repeat (go_quiet (fail); try go_wp2)
                              go_ret
                              exact ⟨by first | rfl | (simp [errW_none, errW_some] <;> rfl) | (simp [*, errW_none, errW_some] <;> rfl), by repeat (first | (with_reducible first | exact HB.out | apply below_alloc | apply pw_below_drewN | apply below_drew1) | exact HB.out)⟩
                            · rw [if_neg c25] at H
                              have c25b0 : ((rd t420 x9_2) == (Int.tmod (wrap64 (a1)) (l0.length : Int))) = false := beq_eq_false_iff_ne.mpr c25
                              have c25b1 : ((rd t420 x9_2) != (Int.tmod (wrap64 (a1)) (l0.length : Int))) = true := bne_iff_ne.mpr c25
                              by_cases c27 : x9_2 > 0
                              · rw [if_pos c27] at H
                                have c27b0 : decide (0 < x9_2) = true := decide_eq_true c27
                                clear c27
                                obtain ⟨ji28, hji28⟩ : ∃ j_ : Int, (wrap64 (x9_2 - 1)) = j_ := ⟨_, rfl⟩
                                replace H : (if 0 ≤ (ji28) then (if (ji28) < (t420.length : Int) then (if (rd t420 x9_2) ≤ (rd t420 (ji28)) then (some false) else (if 0 ≤ (rd t420 x9_2) then (if (rd t420 x9_2) < (x8_2.length : Int) then (seedcornlaw38_GraphReaches.l0 k2 l0 (Int.tmod (wrap64 (a1)) (l0.length : Int)) t420 (x8_2.set ((rd t420 x9_2) : Int).toNat true) (wrap64 (x9_2 + 1))) else (none)) else (none))) else (none)) else (none)) = some r := by first | (rw [hji28] at H; exact H) | (simp only [hji28] at H ⊢; exact H)
                                have hji28w : (IntKind.i64.wrap (x9_2 - 1)) = ji28 := (i64_w _).trans hji28
                                by_cases c29 : 0 ≤ (ji28)
                                · rw [if_pos c29] at H
                                  have c29b0 : decide (0 ≤ (ji28)) = true := decide_eq_true c29
                                  clear c29
                                  by_cases c30 : (ji28) < (t420.length : Int)
                                  · rw [if_pos c30] at H
                                    have c30b0 : decide ((ji28) < (t420.length : Int)) = true := decide_eq_true c30
                                    clear c30
                                    by_cases c31 : (rd t420 x9_2) ≤ (rd t420 (ji28))
                                    · rw [if_pos c31] at H
                                      have c31b0 : decide ((rd t420 x9_2) ≤ (rd t420 (ji28))) = true := decide_eq_true c31
                                      clear c31
                                      obtain rfl := Option.some.inj H
                                      obtain ⟨Ao32, co32, eo32⟩ := Kd.R_slice HO_6.out
                                      subst eo32
                                      have p427 : 0 ≤ (x9_2 : Int) := of_decide_eq_true (by first | (with_reducible assumption) | assumption)
                                      have q427 : x9_2 < (t420.length : Int) := of_decide_eq_true (by first | (with_reducible assumption) | assumption)
                                      obtain ⟨ad427, e427, hx427_0⟩ := Kd.at_int (Kd.R_reads' HO_6.out).2.2 x9_2 p427 q427
                                      cases e427
                                      replace p427 := eq_true p427
                                      replace q427 := eq_true q427
                                      have p428 : 0 ≤ (x9_2 : Int) := of_decide_eq_true (by first | (with_reducible assumption) | assumption)
                                      have q428 : x9_2 < (t420.length : Int) := of_decide_eq_true (by first | (with_reducible assumption) | assumption)
                                      obtain ⟨ad428, e428, hx428_0⟩ := Kd.at_int (Kd.R_reads' HO_6.out).2.2 x9_2 p428 q428
                                      obtain rfl : ad427 = ad428 := (by injection e428)
                                      replace p428 := eq_true p428
                                      replace q428 := eq_true q428
                                      have p429 : 0 ≤ (x9_2 : Int) := of_decide_eq_true (by first | (with_reducible assumption) | assumption)
                                      have q429 : x9_2 < (t420.length : Int) := of_decide_eq_true (by first | (with_reducible assumption) | assumption)
                                      obtain ⟨ad429, e429, hx429_0⟩ := Kd.at_int (Kd.R_reads' HO_6.out).2.2 x9_2 p429 q429
                                      obtain rfl : ad427 = ad429 := (by injection e429)
                                      replace p429 := eq_true p429
                                      replace q429 := eq_true q429
                                      have p430 : 0 ≤ (x9_2 : Int) := of_decide_eq_true (by first | (with_reducible assumption) | assumption)
                                      have q430 : x9_2 < (t420.length : Int) := of_decide_eq_true (by first | (with_reducible assumption) | assumption)
                                      obtain ⟨ad430, e430, hx430_0⟩ := Kd.at_int (Kd.R_reads' HO_6.out).2.2 x9_2 p430 q430
                                      obtain rfl : ad427 = ad430 := (by injection e430)
                                      replace p430 := eq_true p430
                                      replace q430 := eq_true q430
                                      have p431 : 0 ≤ ((ji28) : Int) := of_decide_eq_true (by first | (with_reducible assumption) | assumption)
                                      have q431 : (ji28) < (t420.length : Int) := of_decide_eq_true (by first | (with_reducible assumption) | assumption)
                                      obtain ⟨ad431, e431, hx431_0⟩ := Kd.at_int (Kd.R_reads' HO_6.out).2.2 (ji28) p431 q431
                                      obtain rfl : ad427 = ad431 := (by injection e431)
                                      replace p431 := eq_true p431
                                      replace q431 := eq_true q431
                                      go_wp2
                                      repeat (go_quiet (fail); try go_wp2)
                                      go_ret
                                      exact ⟨by first | rfl | (simp [errW_none, errW_some] <;> rfl) | (simp only [← hji28]; first | rfl | (simp [errW_none, errW_some] <;> rfl)) | (simp [*, errW_none, errW_some] <;> rfl), by repeat (first | (with_reducible first | exact HB.out | apply below_alloc | apply pw_below_drewN | apply below_drew1) | exact HB.out)⟩
                                    · rw [if_neg c31] at H
                                      have c31b0 : decide ((rd t420 x9_2) ≤ (rd t420 (ji28))) = false := decide_eq_false c31
                                      clear c31
                                      by_cases c33 : 0 ≤ (rd t420 x9_2)
                                      · rw [if_pos c33] at H
                                        have c33b0 : decide (0 ≤ (rd t420 x9_2)) = true := decide_eq_true c33
                                        clear c33
                                        by_cases c34 : (rd t420 x9_2) < (x8_2.length : Int)
                                        · rw [if_pos c34] at H
                                          have c34b0 : decide ((rd t420 x9_2) < (x8_2.length : Int)) = true := decide_eq_true c34
                                          clear c34
                                          obtain ⟨y433, hy433⟩ : ∃ y_ : List Bool, y_ = (x8_2.set ((rd t420 x9_2) : Int).toNat true) := ⟨_, rfl⟩
                                          replace H : (seedcornlaw38_GraphReaches.l0 k2 l0 (Int.tmod (wrap64 (a1)) (l0.length : Int)) t420 y433 (wrap64 (x9_2 + 1))) = some r := by first | (rw [hy433]; with_reducible exact H) | (have H2_ := (Option.bind_some _ _).symm.trans H; rw [hy433]; with_reducible exact H2_) | (have H2_ := (Option.bind_some _ _).symm.trans H; with_reducible exact H2_) | with_reducible exact H | (rw [hy433]; exact H) | exact H
                                          have Ny433 := Aside0.mk hy433
                                          clear hy433
                                          have H' := Aside0.mk H
                                          clear H
                                          obtain ⟨Ao36, co36, eo36⟩ := Kd.R_slice HO_6.out
                                          subst eo36
                                          have p427 : 0 ≤ (x9_2 : Int) := of_decide_eq_true (by first | (with_reducible assumption) | assumption)
                                          have q427 : x9_2 < (t420.length : Int) := of_decide_eq_true (by first | (with_reducible assumption) | assumption)
                                          obtain ⟨ad427, e427, hx427_0⟩ := Kd.at_int (Kd.R_reads' HO_6.out).2.2 x9_2 p427 q427
                                          cases e427
                                          replace p427 := eq_true p427
                                          replace q427 := eq_true q427
                                          have p428 : 0 ≤ (x9_2 : Int) := of_decide_eq_true (by first | (with_reducible assumption) | assumption)
                                          have q428 : x9_2 < (t420.length : Int) := of_decide_eq_true (by first | (with_reducible assumption) | assumption)
                                          obtain ⟨ad428, e428, hx428_0⟩ := Kd.at_int (Kd.R_reads' HO_6.out).2.2 x9_2 p428 q428
                                          obtain rfl : ad427 = ad428 := (by injection e428)
                                          replace p428 := eq_true p428
                                          replace q428 := eq_true q428
                                          have p429 : 0 ≤ (x9_2 : Int) := of_decide_eq_true (by first | (with_reducible assumption) | assumption)
                                          have q429 : x9_2 < (t420.length : Int) := of_decide_eq_true (by first | (with_reducible assumption) | assumption)
                                          obtain ⟨ad429, e429, hx429_0⟩ := Kd.at_int (Kd.R_reads' HO_6.out).2.2 x9_2 p429 q429
                                          obtain rfl : ad427 = ad429 := (by injection e429)
                                          replace p429 := eq_true p429
                                          replace q429 := eq_true q429
                                          have p430 : 0 ≤ (x9_2 : Int) := of_decide_eq_true (by first | (with_reducible assumption) | assumption)
                                          have q430 : x9_2 < (t420.length : Int) := of_decide_eq_true (by first | (with_reducible assumption) | assumption)
                                          obtain ⟨ad430, e430, hx430_0⟩ := Kd.at_int (Kd.R_reads' HO_6.out).2.2 x9_2 p430 q430
                                          obtain rfl : ad427 = ad430 := (by injection e430)
                                          replace p430 := eq_true p430
                                          replace q430 := eq_true q430
                                          have p431 : 0 ≤ ((ji28) : Int) := of_decide_eq_true (by first | (with_reducible assumption) | assumption)
                                          have q431 : (ji28) < (t420.length : Int) := of_decide_eq_true (by first | (with_reducible assumption) | assumption)
                                          obtain ⟨ad431, e431, hx431_0⟩ := Kd.at_int (Kd.R_reads' HO_6.out).2.2 (ji28) p431 q431
                                          obtain rfl : ad427 = ad431 := (by injection e431)
                                          replace p431 := eq_true p431
                                          replace q431 := eq_true q431
                                          have p432 : 0 ≤ (x9_2 : Int) := of_decide_eq_true (by first | (with_reducible assumption) | assumption)
                                          have q432 : x9_2 < (t420.length : Int) := of_decide_eq_true (by first | (with_reducible assumption) | assumption)
                                          obtain ⟨ad432, e432, hx432_0⟩ := Kd.at_int (Kd.R_reads' HO_6.out).2.2 x9_2 p432 q432
                                          obtain rfl : ad427 = ad432 := (by injection e432)
                                          replace p432 := eq_true p432
                                          replace q432 := eq_true q432
                                          have p35 : 0 ≤ ((rd t420 x9_2) : Int) := of_decide_eq_true (by first | (with_reducible assumption) | assumption)
                                          have q35 : ((rd t420 x9_2) : Int) < ((x8_2.length : Int) : Int) := of_decide_eq_true (by first | (with_reducible assumption) | assumption)
                                          obtain ⟨go35, co35, eo35, gb35, gl35, cl35, HG35⟩ := Kd.R_form HO_8.out (by omega)
                                          (first | cases eo35 | (injection eo35 with ea_ en_ ec_; (first | subst ea_ | (injection ea_ with ea_; subst ea_)); subst ec_; clear en_))
                                          have GB35 := Aside0.mk gb35
                                          have GG35 := Aside0.mk HG35
                                          clear gb35 gl35 HG35
                                          obtain ⟨hx35_0, hf35_0⟩ := Kd.R_celln false HO_8.out ((rd t420 x9_2) : Int) p35 q35
                                          replace p35 := eq_true p35
                                          replace q35 := eq_true q35
                                          have HP37 := Kd.R_putg HO_8.out ((rd t420 x9_2) : Int) true
                                          go_wp2_with (first | ((with_reducible refine gate_store (t := 4) (p := 92) rfl ?_); (generalize hq_ : World.drewN wr _ = wq_; have n0_ := Aside0.mk (Kd.R_at hq_ HO_6.out); have n1_ := Aside0.mk (Kd.R_at hq_ HO_8.out); have n2_ := Aside0.mk (below_at hq_ HB.out); clear hq_ HO_6 HO_8 HB HP37 hx35_0 hf35_0; have HO_6 := n0_; have HO_8 := n1_; have HB := n2_; clear n0_ n1_ n2_; have p35 := of_eq_true p35; have q35 := of_eq_true q35; obtain ⟨hx35_0, hf35_0⟩ := Kd.R_celln false HO_8.out ((rd t420 x9_2) : Int) p35 q35; have HP37 := Kd.R_putg HO_8.out ((rd t420 x9_2) : Int) true; obtain ⟨wr, rfl⟩ : ∃ z : World, z = wq_ := ⟨_, rfl⟩); refine store_event (t := 4) (p := 92) (v := ?vo_w38) (w1 := (wr.setCell ⟨go35, ((rd t420 x9_2) : Int).toNat, none⟩ (.bool true))) ?hg ?ho ?hn ?hr ?_; (case ho => rfl); (case hg => rfl); (case hn => rfl); (case hr => first | (go_simp; done) | (go_simp; rfl)); intro w38 hw; have hg : wr.grownBy w38 (some go35) := (by rw [hw]; exact HP37.2); have hp_ : Kd.R Kd.bool 4 w38 w.heap.size (fun _ => True) (.slice (some ⟨go35, 0, none⟩) x8_2.length co35) y433 := (by rw [hw, Ny433.out]; exact HP37.1); clear HP37; have n0_ := Aside0.mk (Kd.R_over' (v := (.slice (some ⟨go35, 0, none⟩) x8_2.length co35)) (by (with_reducible repeat (first | apply Kd.R_alloc | apply Kd.R_drewN | apply Kd.R_drew)); exact HO_6.out) (Kd.R_typed HO_8.out) (by decide) hg); have n1_ := Aside0.mk (hp_); have n2_ := Aside0.mk ((by rw [hw]; exact below_set (HB.out) GB35.out : Below w.heap.size w w38)); clear HO_6; clear HO_8; clear HB; have HO_6 := n0_; have HO_8 := n1_; have HB := n2_; clear n0_ n1_ n2_; clear hg hw hp_))
                                          repeat (go_quiet (first | ((with_reducible refine gate_store (t := 4) (p := 92) rfl ?_); (generalize hq_ : World.drewN wr _ = wq_; have n0_ := Aside0.mk (Kd.R_at hq_ HO_6.out); have n1_ := Aside0.mk (Kd.R_at hq_ HO_8.out); have n2_ := Aside0.mk (below_at hq_ HB.out); clear hq_ HO_6 HO_8 HB HP37 hx35_0 hf35_0; have HO_6 := n0_; have HO_8 := n1_; have HB := n2_; clear n0_ n1_ n2_; have p35 := of_eq_true p35; have q35 := of_eq_true q35; obtain ⟨hx35_0, hf35_0⟩ := Kd.R_celln false HO_8.out ((rd t420 x9_2) : Int) p35 q35; have HP37 := Kd.R_putg HO_8.out ((rd t420 x9_2) : Int) true; obtain ⟨wr, rfl⟩ : ∃ z : World, z = wq_ := ⟨_, rfl⟩); refine store_event (t := 4) (p := 92) (v := ?vo_w38) (w1 := (wr.setCell ⟨go35, ((rd t420 x9_2) : Int).toNat, none⟩ (.bool true))) ?hg ?ho ?hn ?hr ?_; (case ho => rfl); (case hg => rfl); (case hn => rfl); (case hr => first | (go_simp; done) | (go_simp; rfl)); intro w38 hw; have hg : wr.grownBy w38 (some go35) := (by rw [hw]; exact HP37.2); have hp_ : Kd.R Kd.bool 4 w38 w.heap.size (fun _ => True) (.slice (some ⟨go35, 0, none⟩) x8_2.length co35) y433 := (by rw [hw, Ny433.out]; exact HP37.1); clear HP37; have n0_ := Aside0.mk (Kd.R_over' (v := (.slice (some ⟨go35, 0, none⟩) x8_2.length co35)) (by (with_reducible repeat (first | apply Kd.R_alloc | apply Kd.R_drewN | apply Kd.R_drew)); exact HO_6.out) (Kd.R_typed HO_8.out) (by decide) hg); have n1_ := Aside0.mk (hp_); have n2_ := Aside0.mk ((by rw [hw]; exact below_set (HB.out) GB35.out : Below w.heap.size w w38)); clear HO_6; clear HO_8; clear HB; have HO_6 := n0_; have HO_8 := n1_; have HB := n2_; clear n0_ n1_ n2_; clear hg hw hp_)); try go_wp2_with (first | ((with_reducible refine gate_store (t := 4) (p := 92) rfl ?_); (generalize hq_ : World.drewN wr _ = wq_; have n0_ := Aside0.mk (Kd.R_at hq_ HO_6.out); have n1_ := Aside0.mk (Kd.R_at hq_ HO_8.out); have n2_ := Aside0.mk (below_at hq_ HB.out); clear hq_ HO_6 HO_8 HB HP37 hx35_0 hf35_0; have HO_6 := n0_; have HO_8 := n1_; have HB := n2_; clear n0_ n1_ n2_; have p35 := of_eq_true p35; have q35 := of_eq_true q35; obtain ⟨hx35_0, hf35_0⟩ := Kd.R_celln false HO_8.out ((rd t420 x9_2) : Int) p35 q35; have HP37 := Kd.R_putg HO_8.out ((rd t420 x9_2) : Int) true; obtain ⟨wr, rfl⟩ : ∃ z : World, z = wq_ := ⟨_, rfl⟩); refine store_event (t := 4) (p := 92) (v := ?vo_w38) (w1 := (wr.setCell ⟨go35, ((rd t420 x9_2) : Int).toNat, none⟩ (.bool true))) ?hg ?ho ?hn ?hr ?_; (case ho => rfl); (case hg => rfl); (case hn => rfl); (case hr => first | (go_simp; done) | (go_simp; rfl)); intro w38 hw; have hg : wr.grownBy w38 (some go35) := (by rw [hw]; exact HP37.2); have hp_ : Kd.R Kd.bool 4 w38 w.heap.size (fun _ => True) (.slice (some ⟨go35, 0, none⟩) x8_2.length co35) y433 := (by rw [hw, Ny433.out]; exact HP37.1); clear HP37; have n0_ := Aside0.mk (Kd.R_over' (v := (.slice (some ⟨go35, 0, none⟩) x8_2.length co35)) (by (with_reducible repeat (first | apply Kd.R_alloc | apply Kd.R_drewN | apply Kd.R_drew)); exact HO_6.out) (Kd.R_typed HO_8.out) (by decide) hg); have n1_ := Aside0.mk (hp_); have n2_ := Aside0.mk ((by rw [hw]; exact below_set (HB.out) GB35.out : Below w.heap.size w w38)); clear HO_6; clear HO_8; clear HB; have HO_6 := n0_; have HO_8 := n1_; have HB := n2_; clear n0_ n1_ n2_; clear hg hw hp_)))
                                          go_roundg k2
                                          case measure => have := HJ2.out; have := HK2.out; omega
                                          case rel => exact ⟨(y433), (wrap64 (x9_2 + 1)), (by first | rfl | (simp; done) | (simp [*]; done)), H', ⟨by have := HJ2.out; have := HK2.out; omega⟩, ⟨by (with_reducible repeat (first | apply Kd.R_alloc | apply Kd.R_drewN | apply Kd.R_drew)); exact HO_6.out⟩, ⟨by (with_reducible repeat (first | apply Kd.R_alloc | apply Kd.R_drewN | apply Kd.R_drew)); exact HO_8.out⟩, ⟨by repeat (first | (with_reducible first | exact HB.out | apply below_alloc | apply pw_below_drewN | apply below_drew1) | exact HB.out)⟩⟩
                                        · rw [if_neg c34] at H
                                          exact absurd H (by simp)
                                      · rw [if_neg c33] at H
                                        exact absurd H (by simp)
                                  · rw [if_neg c30] at H
                                    exact absurd H (by simp)
                                · rw [if_neg c29] at H
                                  exact absurd H (by simp)
                              · rw [if_neg c27] at H
                                have c27b0 : decide (0 < x9_2) = false := decide_eq_false c27
                                clear c27
                                by_cases c39 : 0 ≤ (rd t420 x9_2)
                                · rw [if_pos c39] at H
                                  have c39b0 : decide (0 ≤ (rd t420 x9_2)) = true := decide_eq_true c39
                                  clear c39
                                  by_cases c40 : (rd t420 x9_2) < (x8_2.length : Int)
                                  · rw [if_pos c40] at H
                                    have c40b0 : decide ((rd t420 x9_2) < (x8_2.length : Int)) = true := decide_eq_true c40
                                    clear c40
                                    obtain ⟨y435, hy435⟩ : ∃ y_ : List Bool, y_ = (x8_2.set ((rd t420 x9_2) : Int).toNat true) := ⟨_, rfl⟩
                                    replace H : (seedcornlaw38_GraphReaches.l0 k2 l0 (Int.tmod (wrap64 (a1)) (l0.length : Int)) t420 y435 (wrap64 (x9_2 + 1))) = some r := by first | (rw [hy435]; with_reducible exact H) | (have H2_ := (Option.bind_some _ _).symm.trans H; rw [hy435]; with_reducible exact H2_) | (have H2_ := (Option.bind_some _ _).symm.trans H; with_reducible exact H2_) | with_reducible exact H | (rw [hy435]; exact H) | exact H
                                    have Ny435 := Aside0.mk hy435
                                    clear hy435
                                    have H' := Aside0.mk H
                                    clear H
                                    obtain ⟨Ao42, co42, eo42⟩ := Kd.R_slice HO_6.out
                                    subst eo42
                                    have p427 : 0 ≤ (x9_2 : Int) := of_decide_eq_true (by first | (with_reducible assumption) | assumption)
                                    have q427 : x9_2 < (t420.length : Int) := of_decide_eq_true (by first | (with_reducible assumption) | assumption)
                                    obtain ⟨ad427, e427, hx427_0⟩ := Kd.at_int (Kd.R_reads' HO_6.out).2.2 x9_2 p427 q427
                                    cases e427
                                    replace p427 := eq_true p427
                                    replace q427 := eq_true q427
                                    have p428 : 0 ≤ (x9_2 : Int) := of_decide_eq_true (by first | (with_reducible assumption) | assumption)
                                    have q428 : x9_2 < (t420.length : Int) := of_decide_eq_true (by first | (with_reducible assumption) | assumption)
                                    obtain ⟨ad428, e428, hx428_0⟩ := Kd.at_int (Kd.R_reads' HO_6.out).2.2 x9_2 p428 q428
                                    obtain rfl : ad427 = ad428 := (by injection e428)
                                    replace p428 := eq_true p428
                                    replace q428 := eq_true q428
                                    have p429 : 0 ≤ (x9_2 : Int) := of_decide_eq_true (by first | (with_reducible assumption) | assumption)
                                    have q429 : x9_2 < (t420.length : Int) := of_decide_eq_true (by first | (with_reducible assumption) | assumption)
                                    obtain ⟨ad429, e429, hx429_0⟩ := Kd.at_int (Kd.R_reads' HO_6.out).2.2 x9_2 p429 q429
                                    obtain rfl : ad427 = ad429 := (by injection e429)
                                    replace p429 := eq_true p429
                                    replace q429 := eq_true q429
                                    have p434 : 0 ≤ (x9_2 : Int) := of_decide_eq_true (by first | (with_reducible assumption) | assumption)
                                    have q434 : x9_2 < (t420.length : Int) := of_decide_eq_true (by first | (with_reducible assumption) | assumption)
                                    obtain ⟨ad434, e434, hx434_0⟩ := Kd.at_int (Kd.R_reads' HO_6.out).2.2 x9_2 p434 q434
                                    obtain rfl : ad427 = ad434 := (by injection e434)
                                    replace p434 := eq_true p434
                                    replace q434 := eq_true q434
                                    have p41 : 0 ≤ ((rd t420 x9_2) : Int) := of_decide_eq_true (by first | (with_reducible assumption) | assumption)
                                    have q41 : ((rd t420 x9_2) : Int) < ((x8_2.length : Int) : Int) := of_decide_eq_true (by first | (with_reducible assumption) | assumption)
                                    obtain ⟨go41, co41, eo41, gb41, gl41, cl41, HG41⟩ := Kd.R_form HO_8.out (by omega)
                                    (first | cases eo41 | (injection eo41 with ea_ en_ ec_; (first | subst ea_ | (injection ea_ with ea_; subst ea_)); subst ec_; clear en_))
                                    have GB41 := Aside0.mk gb41
                                    have GG41 := Aside0.mk HG41
                                    clear gb41 gl41 HG41
                                    obtain ⟨hx41_0, hf41_0⟩ := Kd.R_celln false HO_8.out ((rd t420 x9_2) : Int) p41 q41
                                    replace p41 := eq_true p41
                                    replace q41 := eq_true q41
                                    have HP43 := Kd.R_putg HO_8.out ((rd t420 x9_2) : Int) true
                                    go_wp2_with (first | ((with_reducible refine gate_store (t := 4) (p := 92) rfl ?_); (generalize hq_ : World.drewN wr _ = wq_; have n0_ := Aside0.mk (Kd.R_at hq_ HO_6.out); have n1_ := Aside0.mk (Kd.R_at hq_ HO_8.out); have n2_ := Aside0.mk (below_at hq_ HB.out); clear hq_ HO_6 HO_8 HB HP43 hx41_0 hf41_0; have HO_6 := n0_; have HO_8 := n1_; have HB := n2_; clear n0_ n1_ n2_; have p41 := of_eq_true p41; have q41 := of_eq_true q41; obtain ⟨hx41_0, hf41_0⟩ := Kd.R_celln false HO_8.out ((rd t420 x9_2) : Int) p41 q41; have HP43 := Kd.R_putg HO_8.out ((rd t420 x9_2) : Int) true; obtain ⟨wr, rfl⟩ : ∃ z : World, z = wq_ := ⟨_, rfl⟩); refine store_event (t := 4) (p := 92) (v := ?vo_w44) (w1 := (wr.setCell ⟨go41, ((rd t420 x9_2) : Int).toNat, none⟩ (.bool true))) ?hg ?ho ?hn ?hr ?_; (case ho => rfl); (case hg => rfl); (case hn => rfl); (case hr => first | (go_simp; done) | (go_simp; rfl)); intro w44 hw; have hg : wr.grownBy w44 (some go41) := (by rw [hw]; exact HP43.2); have hp_ : Kd.R Kd.bool 4 w44 w.heap.size (fun _ => True) (.slice (some ⟨go41, 0, none⟩) x8_2.length co41) y435 := (by rw [hw, Ny435.out]; exact HP43.1); clear HP43; have n0_ := Aside0.mk (Kd.R_over' (v := (.slice (some ⟨go41, 0, none⟩) x8_2.length co41)) (by (with_reducible repeat (first | apply Kd.R_alloc | apply Kd.R_drewN | apply Kd.R_drew)); exact HO_6.out) (Kd.R_typed HO_8.out) (by decide) hg); have n1_ := Aside0.mk (hp_); have n2_ := Aside0.mk ((by rw [hw]; exact below_set (HB.out) GB41.out : Below w.heap.size w w44)); clear HO_6; clear HO_8; clear HB; have HO_6 := n0_; have HO_8 := n1_; have HB := n2_; clear n0_ n1_ n2_; clear hg hw hp_))
                                    repeat (go_quiet (first | ((with_reducible refine gate_store (t := 4) (p := 92) rfl ?_); (generalize hq_ : World.drewN wr _ = wq_; have n0_ := Aside0.mk (Kd.R_at hq_ HO_6.out); have n1_ := Aside0.mk (Kd.R_at hq_ HO_8.out); have n2_ := Aside0.mk (below_at hq_ HB.out); clear hq_ HO_6 HO_8 HB HP43 hx41_0 hf41_0; have HO_6 := n0_; have HO_8 := n1_; have HB := n2_; clear n0_ n1_ n2_; have p41 := of_eq_true p41; have q41 := of_eq_true q41; obtain ⟨hx41_0, hf41_0⟩ := Kd.R_celln false HO_8.out ((rd t420 x9_2) : Int) p41 q41; have HP43 := Kd.R_putg HO_8.out ((rd t420 x9_2) : Int) true; obtain ⟨wr, rfl⟩ : ∃ z : World, z = wq_ := ⟨_, rfl⟩); refine store_event (t := 4) (p := 92) (v := ?vo_w44) (w1 := (wr.setCell ⟨go41, ((rd t420 x9_2) : Int).toNat, none⟩ (.bool true))) ?hg ?ho ?hn ?hr ?_; (case ho => rfl); (case hg => rfl); (case hn => rfl); (case hr => first | (go_simp; done) | (go_simp; rfl)); intro w44 hw; have hg : wr.grownBy w44 (some go41) := (by rw [hw]; exact HP43.2); have hp_ : Kd.R Kd.bool 4 w44 w.heap.size (fun _ => True) (.slice (some ⟨go41, 0, none⟩) x8_2.length co41) y435 := (by rw [hw, Ny435.out]; exact HP43.1); clear HP43; have n0_ := Aside0.mk (Kd.R_over' (v := (.slice (some ⟨go41, 0, none⟩) x8_2.length co41)) (by (with_reducible repeat (first | apply Kd.R_alloc | apply Kd.R_drewN | apply Kd.R_drew)); exact HO_6.out) (Kd.R_typed HO_8.out) (by decide) hg); have n1_ := Aside0.mk (hp_); have n2_ := Aside0.mk ((by rw [hw]; exact below_set (HB.out) GB41.out : Below w.heap.size w w44)); clear HO_6; clear HO_8; clear HB; have HO_6 := n0_; have HO_8 := n1_; have HB := n2_; clear n0_ n1_ n2_; clear hg hw hp_)); try go_wp2_with (first | ((with_reducible refine gate_store (t := 4) (p := 92) rfl ?_); (generalize hq_ : World.drewN wr _ = wq_; have n0_ := Aside0.mk (Kd.R_at hq_ HO_6.out); have n1_ := Aside0.mk (Kd.R_at hq_ HO_8.out); have n2_ := Aside0.mk (below_at hq_ HB.out); clear hq_ HO_6 HO_8 HB HP43 hx41_0 hf41_0; have HO_6 := n0_; have HO_8 := n1_; have HB := n2_; clear n0_ n1_ n2_; have p41 := of_eq_true p41; have q41 := of_eq_true q41; obtain ⟨hx41_0, hf41_0⟩ := Kd.R_celln false HO_8.out ((rd t420 x9_2) : Int) p41 q41; have HP43 := Kd.R_putg HO_8.out ((rd t420 x9_2) : Int) true; obtain ⟨wr, rfl⟩ : ∃ z : World, z = wq_ := ⟨_, rfl⟩); refine store_event (t := 4) (p := 92) (v := ?vo_w44) (w1 := (wr.setCell ⟨go41, ((rd t420 x9_2) : Int).toNat, none⟩ (.bool true))) ?hg ?ho ?hn ?hr ?_; (case ho => rfl); (case hg => rfl); (case hn => rfl); (case hr => first | (go_simp; done) | (go_simp; rfl)); intro w44 hw; have hg : wr.grownBy w44 (some go41) := (by rw [hw]; exact HP43.2); have hp_ : Kd.R Kd.bool 4 w44 w.heap.size (fun _ => True) (.slice (some ⟨go41, 0, none⟩) x8_2.length co41) y435 := (by rw [hw, Ny435.out]; exact HP43.1); clear HP43; have n0_ := Aside0.mk (Kd.R_over' (v := (.slice (some ⟨go41, 0, none⟩) x8_2.length co41)) (by (with_reducible repeat (first | apply Kd.R_alloc | apply Kd.R_drewN | apply Kd.R_drew)); exact HO_6.out) (Kd.R_typed HO_8.out) (by decide) hg); have n1_ := Aside0.mk (hp_); have n2_ := Aside0.mk ((by rw [hw]; exact below_set (HB.out) GB41.out : Below w.heap.size w w44)); clear HO_6; clear HO_8; clear HB; have HO_6 := n0_; have HO_8 := n1_; have HB := n2_; clear n0_ n1_ n2_; clear hg hw hp_)))
                                    go_roundg k2
                                    case measure => have := HJ2.out; have := HK2.out; omega
                                    case rel => exact ⟨(y435), (wrap64 (x9_2 + 1)), (by first | rfl | (simp; done) | (simp [*]; done)), H', ⟨by have := HJ2.out; have := HK2.out; omega⟩, ⟨by (with_reducible repeat (first | apply Kd.R_alloc | apply Kd.R_drewN | apply Kd.R_drew)); exact HO_6.out⟩, ⟨by (with_reducible repeat (first | apply Kd.R_alloc | apply Kd.R_drewN | apply Kd.R_drew)); exact HO_8.out⟩, ⟨by repeat (first | (with_reducible first | exact HB.out | apply below_alloc | apply pw_below_drewN | apply below_drew1) | exact HB.out)⟩⟩
                                  · rw [if_neg c40] at H
                                    exact absurd H (by simp)
                                · rw [if_neg c39] at H
                                  exact absurd H (by simp)
                      · rw [if_neg c20] at H
                        exact absurd H (by simp)
                    · rw [if_neg c19] at H
                      have c19b0 : decide (x9_2 < (t420.length : Int)) = false := decide_eq_false c19
                      clear c19
                      have H' := Aside0.mk H
                      clear H
                      obtain ⟨Ao45, co45, eo45⟩ := Kd.R_slice HO_6.out
                      subst eo45
                      go_wp2
                      repeat (go_quiet (fail); try go_wp2)
                      go_loopg [10] k2 (fun kq v10 w' => ∃ (x10_3 : Int), v10 = .int .i64 x10_3 ∧ Aside0 (seedcornlaw38_GraphReaches.l1 kq l0 (Int.tmod (wrap64 (a1)) (l0.length : Int)) t420 x8_2 x10_3 = some r) ∧ Aside0 (kq ≤ k2) ∧ Aside0 (Kd.R (Kd.int .i64) 3 w' w.heap.size (fun _ => True) (.slice Ao45 t420.length co45) t420) ∧ Aside0 (Kd.R Kd.bool 4 w' w.heap.size (fun _ => True) v425 x8_2) ∧ Aside0 (Below w.heap.size w w'))
                      case atStart => exact ⟨(0), (by first | rfl | (simp; done) | (simp [*]; done)), H', ⟨Nat.le_refl _⟩, ⟨by (with_reducible repeat (first | apply Kd.R_alloc | apply Kd.R_drewN | apply Kd.R_drew)); exact HO_6.out⟩, ⟨by (with_reducible repeat (first | apply Kd.R_alloc | apply Kd.R_drewN | apply Kd.R_drew)); exact HO_8.out⟩, ⟨by repeat (first | (with_reducible first | exact HB.out | apply below_alloc | apply pw_below_drewN | apply below_drew1) | exact HB.out)⟩⟩
                      case round =>
                        clear H'
                        try clear c1
                        try clear c2
                        try clear p2
                        try clear c3
                        try clear p3
                        try clear q3
                        try clear hx3
                        try clear hf3
                        try clear c4
                        try clear p4
                        try clear q4
                        try clear hx4
                        try clear hf4
                        try clear c5
                        try clear c6
                        try clear c6b0
                        try clear c6b1
                        try clear c6b2
                        try clear p6
                        try clear c8
                        try clear c9
                        try clear c11
                        try clear c11b0
                        try clear c11b1
                        try clear c11b2
                        try clear c13
                        try clear c13b0
                        try clear c13b1
                        try clear c14
                        try clear c14b0
                        try clear c14b1
                        try clear c15
                        try clear c15b0
                        try clear c15b1
                        try clear c19
                        try clear c19b0
                        try clear c20
                        try clear c20b0
                        try clear c21
                        try clear c21b0
                        try clear c23
                        try clear c23b0
                        try clear c25
                        try clear c25b0
                        try clear c25b1
                        try clear c27
                        try clear c27b0
                        try clear c29
                        try clear c29b0
                        try clear c30
                        try clear c30b0
                        try clear c31
                        try clear c31b0
                        try clear c33
                        try clear c33b0
                        try clear c34
                        try clear c34b0
                        try clear p35
                        try clear q35
                        try clear hx35
                        try clear hf35
                        try clear c39
                        try clear c39b0
                        try clear c40
                        try clear c40b0
                        try clear p41
                        try clear q41
                        try clear hx41
                        try clear hf41
                        try clear p42
                        try clear q42
                        try clear hx42
                        try clear p43
                        try clear q43
                        try clear hx43
                        try clear hx35_0
                        try clear hx41_0
                        try clear hx427_0
                        try clear hx428_0
                        try clear hx429_0
                        try clear hx430_0
                        try clear hx431_0
                        try clear hx432_0
                        try clear hx434_0
                        try clear p2
                        try clear p35
                        try clear p41
                        try clear p427
                        try clear p428
                        try clear p429
                        try clear p430
                        try clear p431
                        try clear p432
                        try clear p434
                        try clear p6
                        try clear q35
                        try clear q41
                        try clear q427
                        try clear q428
                        try clear q429
                        try clear q430
                        try clear q431
                        try clear q432
                        try clear q434
                        obtain ⟨x10_3, rfl, HA, HK3, HO_6, HO_8, HB⟩ := hrel
                        cases gk with
                        | zero => exact absurd HA.out (by simp [seedcornlaw38_GraphReaches.l1])
                        | succ k3 =>
                          have H := HA.out
                          clear HA
                          simp only [seedcornlaw38_GraphReaches.l1] at H
                          obtain ⟨ji46, hji46⟩ : ∃ j_ : Int, (Int.tmod (wrap64 (a1)) (l0.length : Int)) = j_ := ⟨_, rfl⟩
                          replace H : (if 0 ≤ (ji46) then (if (ji46) < (l0.length : Int) then (if x10_3 < ((rd_L1 l0 (ji46)).length : Int) then (if 0 ≤ x10_3 then (if (rd (rd_L1 l0 (ji46)) x10_3) = (ji46) then (seedcornlaw38_GraphReaches.l1 k3 l0 (ji46) t420 x8_2 (wrap64 (x10_3 + 1))) else (if 0 ≤ (rd (rd_L1 l0 (ji46)) x10_3) then (if (rd (rd_L1 l0 (ji46)) x10_3) < (x8_2.length : Int) then (if (rdOf false x8_2 (rd (rd_L1 l0 (ji46)) x10_3) = true) then (seedcornlaw38_GraphReaches.l1 k3 l0 (ji46) t420 x8_2 (wrap64 (x10_3 + 1))) else (some false)) else (none)) else (none))) else (none)) else (seedcornlaw38_GraphReaches.l2 k3 l0 (ji46) t420 x8_2 0)) else (none)) else (none)) = some r := by first | (rw [hji46] at H; exact H) | (simp only [hji46] at H ⊢; exact H)
                          by_cases c47 : 0 ≤ (ji46)
                          · rw [if_pos c47] at H
                            have c47b0 : decide (0 ≤ (ji46)) = true := decide_eq_true c47
                            clear c47
                            by_cases c48 : (ji46) < (l0.length : Int)
                            · rw [if_pos c48] at H
                              have c48b0 : decide ((ji46) < (l0.length : Int)) = true := decide_eq_true c48
                              clear c48
                              by_cases c49 : x10_3 < ((rd_L1 l0 (ji46)).length : Int)
                              · rw [if_pos c49] at H
                                have c49b0 : decide (x10_3 < ((rd_L1 l0 (ji46)).length : Int)) = true := decide_eq_true c49
                                clear c49
                                by_cases c50 : 0 ≤ x10_3
                                · rw [if_pos c50] at H
                                  have c50b0 : decide (0 ≤ x10_3) = true := decide_eq_true c50
                                  clear c50
                                  by_cases c51 : (rd (rd_L1 l0 (ji46)) x10_3) = (ji46)
                                  · rw [if_pos c51] at H
                                    have c51b0 : ((rd (rd_L1 l0 (ji46)) x10_3) == (ji46)) = true := beq_iff_eq.mpr c51
                                    have c51b1 : ((rd (rd_L1 l0 (ji46)) x10_3) != (ji46)) = false := bne_eq_false_iff_eq.mpr c51
                                    clear c51
                                    have H' := Aside0.mk H
                                    clear H
                                    have p436 : 0 ≤ ((ji46) : Int) := of_decide_eq_true (by first | (with_reducible assumption) | assumption)
                                    have q436 : (ji46) < (l0.length : Int) := of_decide_eq_true (by first | (with_reducible assumption) | assumption)
                                    obtain ⟨ad436, A436_0, c436_0, e436, hx436_0, hl436_0, hi436_0⟩ := at_L1 HR0.out (ji46) p436 q436
                                    cases e436
                                    replace hx436_0 := (HB.out.cell (World.block_lt_of_cell? w _ hx436_0)).trans hx436_0
                                    have HR436_0 := Aside0.mk hi436_0
                                    have HC436_0 := Aside0.mk hl436_0
                                    clear hi436_0 hl436_0
                                    replace p436 := eq_true p436
                                    replace q436 := eq_true q436
                                    have p437 : 0 ≤ ((ji46) : Int) := of_decide_eq_true (by first | (with_reducible assumption) | assumption)
                                    have q437 : (ji46) < (l0.length : Int) := of_decide_eq_true (by first | (with_reducible assumption) | assumption)
                                    obtain ⟨ad437, A437_0, c437_0, e437, hx437_0, hl437_0, hi437_0⟩ := at_L1 HR0.out (ji46) p437 q437
                                    obtain rfl : ad436 = ad437 := (by injection e437)
                                    replace hx437_0 := (HB.out.cell (World.block_lt_of_cell? w _ hx437_0)).trans hx437_0
                                    have HR437_0 := Aside0.mk hi437_0
                                    have HC437_0 := Aside0.mk hl437_0
                                    clear hi437_0 hl437_0
                                    replace p437 := eq_true p437
                                    replace q437 := eq_true q437
                                    have ea_ := Option.some.inj (hx436_0.symm.trans hx437_0)
                                    injection ea_ with ea_ en_ ec_
                                    subst ea_
                                    subst ec_
                                    clear en_
                                    have p438 : 0 ≤ (x10_3 : Int) := of_decide_eq_true (by first | (with_reducible assumption) | assumption)
                                    have q438 : x10_3 < ((rd_L1 l0 (ji46)).length : Int) := of_decide_eq_true (by first | (with_reducible assumption) | assumption)
                                    obtain ⟨ad438, e438, hx438_0⟩ := Kd.at_int HR437_0.out x10_3 p438 q438
                                    cases e438
                                    replace hx438_0 := (HB.out.cell (World.block_lt_of_cell? w _ hx438_0)).trans hx438_0
                                    replace p438 := eq_true p438
                                    replace q438 := eq_true q438
                                    go_wp2
                                    repeat (go_quiet (fail); try go_wp2)
                                    try subst hji46
                                    go_roundg k3
                                    case measure => have := HJ2.out; have := HK2.out; have := HK3.out; omega
                                    case rel => exact ⟨(wrap64 (x10_3 + 1)), (by first | rfl | (simp; done) | (simp [*]; done)), H', ⟨by have := HJ2.out; have := HK2.out; have := HK3.out; omega⟩, ⟨by (with_reducible repeat (first | apply Kd.R_alloc | apply Kd.R_drewN | apply Kd.R_drew)); exact HO_6.out⟩, ⟨by (with_reducible repeat (first | apply Kd.R_alloc | apply Kd.R_drewN | apply Kd.R_drew)); exact HO_8.out⟩, ⟨by repeat (first | (with_reducible first | exact HB.out | apply below_alloc | apply pw_below_drewN | apply below_drew1) | exact HB.out)⟩⟩
                                  · rw [if_neg c51] at H
                                    have c51b0 : ((rd (rd_L1 l0 (ji46)) x10_3) == (ji46)) = false := beq_eq_false_iff_ne.mpr c51
                                    have c51b1 : ((rd (rd_L1 l0 (ji46)) x10_3) != (ji46)) = true := bne_iff_ne.mpr c51
                                    by_cases c52 : 0 ≤ (rd (rd_L1 l0 (ji46)) x10_3)
                                    · rw [if_pos c52] at H
                                      have c52b0 : decide (0 ≤ (rd (rd_L1 l0 (ji46)) x10_3)) = true := decide_eq_true c52
                                      clear c52
                                      by_cases c53 : (rd (rd_L1 l0 (ji46)) x10_3) < (x8_2.length : Int)
                                      · rw [if_pos c53] at H
                                        have c53b0 : decide ((rd (rd_L1 l0 (ji46)) x10_3) < (x8_2.length : Int)) = true := decide_eq_true c53
                                        clear c53
                                        obtain ⟨bq54, hbq54⟩ : ∃ b_ : Bool, b_ = (rdOf false x8_2 (rd (rd_L1 l0 (ji46)) x10_3)) := ⟨_, rfl⟩
                                        replace H : (if (bq54 = true) then (seedcornlaw38_GraphReaches.l1 k3 l0 (ji46) t420 x8_2 (wrap64 (x10_3 + 1))) else (some false)) = some r := by rw [← hbq54] at H; exact H
                                        have Nbq54 := Aside0.mk hbq54
                                        clear hbq54
                                        by_cases c55 : (bq54 = true)
                                        · subst c55
                                          have H1 : (seedcornlaw38_GraphReaches.l1 k3 l0 (ji46) t420 x8_2 (wrap64 (x10_3 + 1))) = some r := by rw [if_pos rfl] at H; exact H
                                          clear H
                                          have H := H1
                                          clear H1
                                          have H' := Aside0.mk H
                                          clear H
                                          have p436 : 0 ≤ ((ji46) : Int) := of_decide_eq_true (by first | (with_reducible assumption) | assumption)
                                          have q436 : (ji46) < (l0.length : Int) := of_decide_eq_true (by first | (with_reducible assumption) | assumption)
                                          obtain ⟨ad436, A436_0, c436_0, e436, hx436_0, hl436_0, hi436_0⟩ := at_L1 HR0.out (ji46) p436 q436
                                          cases e436
                                          replace hx436_0 := (HB.out.cell (World.block_lt_of_cell? w _ hx436_0)).trans hx436_0
                                          have HR436_0 := Aside0.mk hi436_0
                                          have HC436_0 := Aside0.mk hl436_0
                                          clear hi436_0 hl436_0
                                          replace p436 := eq_true p436
                                          replace q436 := eq_true q436
                                          have p437 : 0 ≤ ((ji46) : Int) := of_decide_eq_true (by first | (with_reducible assumption) | assumption)
                                          have q437 : (ji46) < (l0.length : Int) := of_decide_eq_true (by first | (with_reducible assumption) | assumption)
                                          obtain ⟨ad437, A437_0, c437_0, e437, hx437_0, hl437_0, hi437_0⟩ := at_L1 HR0.out (ji46) p437 q437
                                          obtain rfl : ad436 = ad437 := (by injection e437)
                                          replace hx437_0 := (HB.out.cell (World.block_lt_of_cell? w _ hx437_0)).trans hx437_0
                                          have HR437_0 := Aside0.mk hi437_0
                                          have HC437_0 := Aside0.mk hl437_0
                                          clear hi437_0 hl437_0
                                          replace p437 := eq_true p437
                                          replace q437 := eq_true q437
                                          have ea_ := Option.some.inj (hx436_0.symm.trans hx437_0)
                                          injection ea_ with ea_ en_ ec_
                                          subst ea_
                                          subst ec_
                                          clear en_
                                          have p438 : 0 ≤ (x10_3 : Int) := of_decide_eq_true (by first | (with_reducible assumption) | assumption)
                                          have q438 : x10_3 < ((rd_L1 l0 (ji46)).length : Int) := of_decide_eq_true (by first | (with_reducible assumption) | assumption)
                                          obtain ⟨ad438, e438, hx438_0⟩ := Kd.at_int HR437_0.out x10_3 p438 q438
                                          cases e438
                                          replace hx438_0 := (HB.out.cell (World.block_lt_of_cell? w _ hx438_0)).trans hx438_0
                                          replace p438 := eq_true p438
                                          replace q438 := eq_true q438
                                          have p439 : 0 ≤ ((ji46) : Int) := of_decide_eq_true (by first | (with_reducible assumption) | assumption)
                                          have q439 : (ji46) < (l0.length : Int) := of_decide_eq_true (by first | (with_reducible assumption) | assumption)
                                          obtain ⟨ad439, A439_0, c439_0, e439, hx439_0, hl439_0, hi439_0⟩ := at_L1 HR0.out (ji46) p439 q439
                                          obtain rfl : ad436 = ad439 := (by injection e439)
                                          replace hx439_0 := (HB.out.cell (World.block_lt_of_cell? w _ hx439_0)).trans hx439_0
                                          have HR439_0 := Aside0.mk hi439_0
                                          have HC439_0 := Aside0.mk hl439_0
                                          clear hi439_0 hl439_0
                                          replace p439 := eq_true p439
                                          replace q439 := eq_true q439
                                          have ea_ := Option.some.inj (hx436_0.symm.trans hx439_0)
                                          injection ea_ with ea_ en_ ec_
                                          subst ea_
                                          subst ec_
                                          clear en_
                                          have p440 : 0 ≤ (x10_3 : Int) := of_decide_eq_true (by first | (with_reducible assumption) | assumption)
                                          have q440 : x10_3 < ((rd_L1 l0 (ji46)).length : Int) := of_decide_eq_true (by first | (with_reducible assumption) | assumption)
                                          obtain ⟨ad440, e440, hx440_0⟩ := Kd.at_int HR439_0.out x10_3 p440 q440
                                          cases e440
                                          replace hx440_0 := (HB.out.cell (World.block_lt_of_cell? w _ hx440_0)).trans hx440_0
                                          replace p440 := eq_true p440
                                          replace q440 := eq_true q440
                                          obtain ⟨Ao56, co56, eo56⟩ := Kd.R_slice HO_8.out
                                          subst eo56
                                          have p441 : 0 ≤ ((rd (rd_L1 l0 (ji46)) x10_3) : Int) := of_decide_eq_true (by first | (with_reducible assumption) | assumption)
                                          have q441 : (rd (rd_L1 l0 (ji46)) x10_3) < (x8_2.length : Int) := of_decide_eq_true (by first | (with_reducible assumption) | assumption)
                                          obtain ⟨ad441, e441, hx441_0⟩ := Kd.at_bool (Kd.R_reads' HO_8.out).2.2 (rd (rd_L1 l0 (ji46)) x10_3) p441 q441
                                          (try rw [← Nbq54.out] at hx441_0)
                                          cases e441
                                          replace p441 := eq_true p441
                                          replace q441 := eq_true q441
                                          go_wp2
                                          repeat (go_quiet (fail); try go_wp2)
                                          try subst hji46
                                          go_roundg k3
                                          case measure => have := HJ2.out; have := HK2.out; have := HK3.out; omega
                                          case rel => exact ⟨(wrap64 (x10_3 + 1)), (by first | rfl | (simp; done) | (simp [*]; done)), H', ⟨by have := HJ2.out; have := HK2.out; have := HK3.out; omega⟩, ⟨by (with_reducible repeat (first | apply Kd.R_alloc | apply Kd.R_drewN | apply Kd.R_drew)); exact HO_6.out⟩, ⟨by (with_reducible repeat (first | apply Kd.R_alloc | apply Kd.R_drewN | apply Kd.R_drew)); exact HO_8.out⟩, ⟨by repeat (first | (with_reducible first | exact HB.out | apply below_alloc | apply pw_below_drewN | apply below_drew1) | exact HB.out)⟩⟩
                                        · replace c55 := Bool.eq_false_iff.mpr c55
                                          subst c55
                                          have H1 : (some false) = some r := by rw [if_neg (show ¬ (false = true) by decide)] at H; exact H
                                          clear H
                                          have H := H1
                                          clear H1
                                          obtain rfl := Option.some.inj H
                                          have p436 : 0 ≤ ((ji46) : Int) := of_decide_eq_true (by first | (with_reducible assumption) | assumption)
                                          have q436 : (ji46) < (l0.length : Int) := of_decide_eq_true (by first | (with_reducible assumption) | assumption)
                                          obtain ⟨ad436, A436_0, c436_0, e436, hx436_0, hl436_0, hi436_0⟩ := at_L1 HR0.out (ji46) p436 q436
                                          cases e436
                                          replace hx436_0 := (HB.out.cell (World.block_lt_of_cell? w _ hx436_0)).trans hx436_0
                                          have HR436_0 := Aside0.mk hi436_0
                                          have HC436_0 := Aside0.mk hl436_0
                                          clear hi436_0 hl436_0
                                          replace p436 := eq_true p436
                                          replace q436 := eq_true q436
                                          have p437 : 0 ≤ ((ji46) : Int) := of_decide_eq_true (by first | (with_reducible assumption) | assumption)
                                          have q437 : (ji46) < (l0.length : Int) := of_decide_eq_true (by first | (with_reducible assumption) | assumption)
                                          obtain ⟨ad437, A437_0, c437_0, e437, hx437_0, hl437_0, hi437_0⟩ := at_L1 HR0.out (ji46) p437 q437
                                          obtain rfl : ad436 = ad437 := (by injection e437)
                                          replace hx437_0 := (HB.out.cell (World.block_lt_of_cell? w _ hx437_0)).trans hx437_0
                                          have HR437_0 := Aside0.mk hi437_0
                                          have HC437_0 := Aside0.mk hl437_0
                                          clear hi437_0 hl437_0
                                          replace p437 := eq_true p437
                                          replace q437 := eq_true q437
                                          have ea_ := Option.some.inj (hx436_0.symm.trans hx437_0)
                                          injection ea_ with ea_ en_ ec_
                                          subst ea_
                                          subst ec_
                                          clear en_
                                          have p438 : 0 ≤ (x10_3 : Int) := of_decide_eq_true (by first | (with_reducible assumption) | assumption)
                                          have q438 : x10_3 < ((rd_L1 l0 (ji46)).length : Int) := of_decide_eq_true (by first | (with_reducible assumption) | assumption)
                                          obtain ⟨ad438, e438, hx438_0⟩ := Kd.at_int HR437_0.out x10_3 p438 q438
                                          cases e438
                                          replace hx438_0 := (HB.out.cell (World.block_lt_of_cell? w _ hx438_0)).trans hx438_0
                                          replace p438 := eq_true p438
                                          replace q438 := eq_true q438
                                          have p439 : 0 ≤ ((ji46) : Int) := of_decide_eq_true (by first | (with_reducible assumption) | assumption)
                                          have q439 : (ji46) < (l0.length : Int) := of_decide_eq_true (by first | (with_reducible assumption) | assumption)
                                          obtain ⟨ad439, A439_0, c439_0, e439, hx439_0, hl439_0, hi439_0⟩ := at_L1 HR0.out (ji46) p439 q439
                                          obtain rfl : ad436 = ad439 := (by injection e439)
                                          replace hx439_0 := (HB.out.cell (World.block_lt_of_cell? w _ hx439_0)).trans hx439_0
                                          have HR439_0 := Aside0.mk hi439_0
                                          have HC439_0 := Aside0.mk hl439_0
                                          clear hi439_0 hl439_0
                                          replace p439 := eq_true p439
                                          replace q439 := eq_true q439
                                          have ea_ := Option.some.inj (hx436_0.symm.trans hx439_0)
                                          injection ea_ with ea_ en_ ec_
                                          subst ea_
                                          subst ec_
                                          clear en_
                                          have p440 : 0 ≤ (x10_3 : Int) := of_decide_eq_true (by first | (with_reducible assumption) | assumption)
                                          have q440 : x10_3 < ((rd_L1 l0 (ji46)).length : Int) := of_decide_eq_true (by first | (with_reducible assumption) | assumption)
                                          obtain ⟨ad440, e440, hx440_0⟩ := Kd.at_int HR439_0.out x10_3 p440 q440
                                          cases e440
                                          replace hx440_0 := (HB.out.cell (World.block_lt_of_cell? w _ hx440_0)).trans hx440_0
                                          replace p440 := eq_true p440
                                          replace q440 := eq_true q440
                                          obtain ⟨Ao57, co57, eo57⟩ := Kd.R_slice HO_8.out
                                          subst eo57
                                          have p441 : 0 ≤ ((rd (rd_L1 l0 (ji46)) x10_3) : Int) := of_decide_eq_true (by first | (with_reducible assumption) | assumption)
                                          have q441 : (rd (rd_L1 l0 (ji46)) x10_3) < (x8_2.length : Int) := of_decide_eq_true (by first | (with_reducible assumption) | assumption)
                                          obtain ⟨ad441, e441, hx441_0⟩ := Kd.at_bool (Kd.R_reads' HO_8.out).2.2 (rd (rd_L1 l0 (ji46)) x10_3) p441 q441
                                          (try rw [← Nbq54.out] at hx441_0)
                                          cases e441
                                          replace p441 := eq_true p441
                                          replace q441 := eq_true q441
                                          go_wp2
                                          repeat (go_quiet (fail); try go_wp2)
                                          go_ret
                                          exact ⟨by first | rfl | (simp [errW_none, errW_some] <;> rfl) | (simp only [← hji46]; first | rfl | (simp [errW_none, errW_some] <;> rfl)) | (simp [*, errW_none, errW_some] <;> rfl), by repeat (first | (with_reducible first | exact HB.out | apply below_alloc | apply pw_below_drewN | apply below_drew1) | exact HB.out)⟩
                                      · rw [if_neg c53] at H
                                        exact absurd H (by simp)
                                    · rw [if_neg c52] at H
                                      exact absurd H (by simp)
                                · rw [if_neg c50] at H
                                  exact absurd H (by simp)
                              · rw [if_neg c49] at H
                                have c49b0 : decide (x10_3 < ((rd_L1 l0 (ji46)).length : Int)) = false := decide_eq_false c49
                                clear c49
                                have H' := Aside0.mk H
                                clear H
                                have p436 : 0 ≤ ((ji46) : Int) := of_decide_eq_true (by first | (with_reducible assumption) | assumption)
                                have q436 : (ji46) < (l0.length : Int) := of_decide_eq_true (by first | (with_reducible assumption) | assumption)
                                obtain ⟨ad436, A436_0, c436_0, e436, hx436_0, hl436_0, hi436_0⟩ := at_L1 HR0.out (ji46) p436 q436
                                cases e436
                                replace hx436_0 := (HB.out.cell (World.block_lt_of_cell? w _ hx436_0)).trans hx436_0
                                have HR436_0 := Aside0.mk hi436_0
                                have HC436_0 := Aside0.mk hl436_0
                                clear hi436_0 hl436_0
                                replace p436 := eq_true p436
                                replace q436 := eq_true q436
                                go_wp2
                                repeat (go_quiet (fail); try go_wp2)
                                go_loopg [11] k3 (fun kq v11 w' => ∃ (x11_4 : Int), v11 = .int .i64 x11_4 ∧ Aside0 (seedcornlaw38_GraphReaches.l2 kq l0 (ji46) t420 x8_2 x11_4 = some r) ∧ Aside0 (kq ≤ k3) ∧ Aside0 (Kd.R (Kd.int .i64) 3 w' w.heap.size (fun _ => True) (.slice Ao45 t420.length co45) t420) ∧ Aside0 (Kd.R Kd.bool 4 w' w.heap.size (fun _ => True) v425 x8_2) ∧ Aside0 (Below w.heap.size w w'))
                                case atStart => exact ⟨(0), (by first | rfl | (simp; done) | (simp [*]; done)), H', ⟨Nat.le_refl _⟩, ⟨by (with_reducible repeat (first | apply Kd.R_alloc | apply Kd.R_drewN | apply Kd.R_drew)); exact HO_6.out⟩, ⟨by (with_reducible repeat (first | apply Kd.R_alloc | apply Kd.R_drewN | apply Kd.R_drew)); exact HO_8.out⟩, ⟨by repeat (first | (with_reducible first | exact HB.out | apply below_alloc | apply pw_below_drewN | apply below_drew1) | exact HB.out)⟩⟩
                                case round =>
                                  clear H'
                                  try clear c1
                                  try clear c2
                                  try clear p2
                                  try clear c3
                                  try clear p3
                                  try clear q3
                                  try clear hx3
                                  try clear hf3
                                  try clear c4
                                  try clear p4
                                  try clear q4
                                  try clear hx4
                                  try clear hf4
                                  try clear c5
                                  try clear q5
                                  try clear c6
                                  try clear c6b0
                                  try clear c6b1
                                  try clear c6b2
                                  try clear p6
                                  try clear c8
                                  try clear c9
                                  try clear c11
                                  try clear c11b0
                                  try clear c11b1
                                  try clear c11b2
                                  try clear c13
                                  try clear c13b0
                                  try clear c13b1
                                  try clear c14
                                  try clear c14b0
                                  try clear c14b1
                                  try clear c15
                                  try clear c15b0
                                  try clear c15b1
                                  try clear c19
                                  try clear c19b0
                                  try clear c20
                                  try clear c20b0
                                  try clear c21
                                  try clear c21b0
                                  try clear c23
                                  try clear c23b0
                                  try clear c25
                                  try clear c25b0
                                  try clear c25b1
                                  try clear c27
                                  try clear c27b0
                                  try clear c29
                                  try clear c29b0
                                  try clear c30
                                  try clear c30b0
                                  try clear c31
                                  try clear c31b0
                                  try clear c33
                                  try clear c33b0
                                  try clear c34
                                  try clear c34b0
                                  try clear p35
                                  try clear q35
                                  try clear hx35
                                  try clear hf35
                                  try clear c39
                                  try clear c39b0
                                  try clear c40
                                  try clear c40b0
                                  try clear p41
                                  try clear q41
                                  try clear hx41
                                  try clear hf41
                                  try clear p42
                                  try clear q42
                                  try clear hx42
                                  try clear c43
                                  try clear p43
                                  try clear q43
                                  try clear hx43
                                  try clear p44
                                  try clear q44
                                  try clear hx44
                                  try clear c47
                                  try clear c47b0
                                  try clear c48
                                  try clear c48b0
                                  try clear c49
                                  try clear c49b0
                                  try clear c50
                                  try clear c50b0
                                  try clear c51
                                  try clear c51b0
                                  try clear c51b1
                                  try clear c52
                                  try clear c52b0
                                  try clear c53
                                  try clear c53b0
                                  try clear q54
                                  try clear c55
                                  try clear hx35_0
                                  try clear hx41_0
                                  try clear hx427_0
                                  try clear hx428_0
                                  try clear hx429_0
                                  try clear hx430_0
                                  try clear hx431_0
                                  try clear hx432_0
                                  try clear hx434_0
                                  try clear hx436_0
                                  try clear hx437_0
                                  try clear hx438_0
                                  try clear hx439_0
                                  try clear hx440_0
                                  try clear hx441_0
                                  try clear p2
                                  try clear p3
                                  try clear p35
                                  try clear p4
                                  try clear p41
                                  try clear p42
                                  try clear p427
                                  try clear p428
                                  try clear p429
                                  try clear p43
                                  try clear p430
                                  try clear p431
                                  try clear p432
                                  try clear p434
                                  try clear p436
                                  try clear p437
                                  try clear p438
                                  try clear p439
                                  try clear p440
                                  try clear p441
                                  try clear p6
                                  try clear q3
                                  try clear q35
                                  try clear q4
                                  try clear q41
                                  try clear q42
                                  try clear q427
                                  try clear q428
                                  try clear q429
                                  try clear q43
                                  try clear q430
                                  try clear q431
                                  try clear q432
                                  try clear q434
                                  try clear q436
                                  try clear q437
                                  try clear q438
                                  try clear q439
                                  try clear q440
                                  try clear q441
                                  obtain ⟨x11_4, rfl, HA, HK4, HO_6, HO_8, HB⟩ := hrel
                                  cases gk with
                                  | zero => exact absurd HA.out (by simp [seedcornlaw38_GraphReaches.l2])
                                  | succ k4 =>
                                    have H := HA.out
                                    clear HA
                                    simp only [seedcornlaw38_GraphReaches.l2] at H
                                    by_cases c58 : x11_4 < (t420.length : Int)
                                    · rw [if_pos c58] at H
                                      have c58b0 : decide (x11_4 < (t420.length : Int)) = true := decide_eq_true c58
                                      clear c58
                                      have H' := Aside0.mk H
                                      clear H
                                      go_wp2
                                      repeat (go_quiet (fail); try go_wp2)
                                      go_loopg [12] k4 (fun kq v12 w' => ∃ (x12_5 : Int), v12 = .int .i64 x12_5 ∧ Aside0 (seedcornlaw38_GraphReaches.l3 kq l0 (ji46) t420 x8_2 x11_4 x12_5 = some r) ∧ Aside0 (kq ≤ k4) ∧ Aside0 (Kd.R (Kd.int .i64) 3 w' w.heap.size (fun _ => True) (.slice Ao45 t420.length co45) t420) ∧ Aside0 (Kd.R Kd.bool 4 w' w.heap.size (fun _ => True) v425 x8_2) ∧ Aside0 (Below w.heap.size w w'))
                                      case atStart => exact ⟨(0), (by first | rfl | (simp; done) | (simp [*]; done)), H', ⟨Nat.le_refl _⟩, ⟨by (with_reducible repeat (first | apply Kd.R_alloc | apply Kd.R_drewN | apply Kd.R_drew)); exact HO_6.out⟩, ⟨by (with_reducible repeat (first | apply Kd.R_alloc | apply Kd.R_drewN | apply Kd.R_drew)); exact HO_8.out⟩, ⟨by repeat (first | (with_reducible first | exact HB.out | apply below_alloc | apply pw_below_drewN | apply below_drew1) | exact HB.out)⟩⟩
                                      case round =>
                                        clear H'
                                        try clear c1
                                        try clear c2
                                        try clear p2
                                        try clear c3
                                        try clear p3
                                        try clear q3
                                        try clear hx3
                                        try clear hf3
                                        try clear c4
                                        try clear p4
                                        try clear q4
                                        try clear hx4
                                        try clear hf4
                                        try clear c5
                                        try clear q5
                                        try clear c6
                                        try clear c6b0
                                        try clear c6b1
                                        try clear c6b2
                                        try clear p6
                                        try clear c8
                                        try clear c9
                                        try clear c11
                                        try clear c11b0
                                        try clear c11b1
                                        try clear c11b2
                                        try clear c13
                                        try clear c13b0
                                        try clear c13b1
                                        try clear c14
                                        try clear c14b0
                                        try clear c14b1
                                        try clear c15
                                        try clear c15b0
                                        try clear c15b1
                                        try clear c19
                                        try clear c19b0
                                        try clear c20
                                        try clear c20b0
                                        try clear c21
                                        try clear c21b0
                                        try clear c23
                                        try clear c23b0
                                        try clear c25
                                        try clear c25b0
                                        try clear c25b1
                                        try clear c27
                                        try clear c27b0
                                        try clear c29
                                        try clear c29b0
                                        try clear c30
                                        try clear c30b0
                                        try clear c31
                                        try clear c31b0
                                        try clear c33
                                        try clear c33b0
                                        try clear c34
                                        try clear c34b0
                                        try clear p35
                                        try clear q35
                                        try clear hx35
                                        try clear hf35
                                        try clear c39
                                        try clear c39b0
                                        try clear c40
                                        try clear c40b0
                                        try clear p41
                                        try clear q41
                                        try clear hx41
                                        try clear hf41
                                        try clear p42
                                        try clear q42
                                        try clear hx42
                                        try clear c43
                                        try clear p43
                                        try clear q43
                                        try clear hx43
                                        try clear p44
                                        try clear q44
                                        try clear hx44
                                        try clear c47
                                        try clear c47b0
                                        try clear c48
                                        try clear c48b0
                                        try clear c49
                                        try clear c49b0
                                        try clear c50
                                        try clear c50b0
                                        try clear c51
                                        try clear c51b0
                                        try clear c51b1
                                        try clear c52
                                        try clear c52b0
                                        try clear c53
                                        try clear c53b0
                                        try clear q54
                                        try clear c55
                                        try clear c58
                                        try clear c58b0
                                        try clear hx35_0
                                        try clear hx41_0
                                        try clear hx427_0
                                        try clear hx428_0
                                        try clear hx429_0
                                        try clear hx430_0
                                        try clear hx431_0
                                        try clear hx432_0
                                        try clear hx434_0
                                        try clear hx436_0
                                        try clear hx437_0
                                        try clear hx438_0
                                        try clear hx439_0
                                        try clear hx440_0
                                        try clear hx441_0
                                        try clear p2
                                        try clear p3
                                        try clear p35
                                        try clear p4
                                        try clear p41
                                        try clear p42
                                        try clear p427
                                        try clear p428
                                        try clear p429
                                        try clear p43
                                        try clear p430
                                        try clear p431
                                        try clear p432
                                        try clear p434
                                        try clear p436
                                        try clear p437
                                        try clear p438
                                        try clear p439
                                        try clear p44
                                        try clear p440
                                        try clear p441
                                        try clear p6
                                        try clear q3
                                        try clear q35
                                        try clear q4
                                        try clear q41
                                        try clear q42
                                        try clear q427
                                        try clear q428
                                        try clear q429
                                        try clear q43
                                        try clear q430
                                        try clear q431
                                        try clear q432
                                        try clear q434
                                        try clear q436
                                        try clear q437
                                        try clear q438
                                        try clear q439
                                        try clear q44
                                        try clear q440
                                        try clear q441
                                        try clear q5
                                        try clear q54
                                        obtain ⟨x12_5, rfl, HA, HK5, HO_6, HO_8, HB⟩ := hrel
                                        cases gk with
                                        | zero => exact absurd HA.out (by simp [seedcornlaw38_GraphReaches.l3])
                                        | succ k5 =>
                                          have H := HA.out
                                          clear HA
                                          simp only [seedcornlaw38_GraphReaches.l3] at H
                                          by_cases c59 : 0 ≤ x11_4
                                          · rw [if_pos c59] at H
                                            have c59b0 : decide (0 ≤ x11_4) = true := decide_eq_true c59
                                            clear c59
                                            by_cases c60 : x11_4 < (t420.length : Int)
                                            · rw [if_pos c60] at H
                                              have c60b0 : decide (x11_4 < (t420.length : Int)) = true := decide_eq_true c60
                                              clear c60
                                              by_cases c61 : 0 ≤ (rd t420 x11_4)
                                              · rw [if_pos c61] at H
                                                have c61b0 : decide (0 ≤ (rd t420 x11_4)) = true := decide_eq_true c61
                                                clear c61
                                                by_cases c62 : (rd t420 x11_4) < (l0.length : Int)
                                                · rw [if_pos c62] at H
                                                  have c62b0 : decide ((rd t420 x11_4) < (l0.length : Int)) = true := decide_eq_true c62
                                                  clear c62
                                                  by_cases c63 : x12_5 < ((rd_L1 l0 (rd t420 x11_4)).length : Int)
                                                  · rw [if_pos c63] at H
                                                    have c63b0 : decide (x12_5 < ((rd_L1 l0 (rd t420 x11_4)).length : Int)) = true := decide_eq_true c63
                                                    clear c63
                                                    by_cases c64 : 0 ≤ x12_5
                                                    · rw [if_pos c64] at H
                                                      have c64b0 : decide (0 ≤ x12_5) = true := decide_eq_true c64
                                                      clear c64
                                                      by_cases c65 : (rd (rd_L1 l0 (rd t420 x11_4)) x12_5) = (ji46)
                                                      · rw [if_pos c65] at H
                                                        have c65b0 : ((rd (rd_L1 l0 (rd t420 x11_4)) x12_5) == (ji46)) = true := beq_iff_eq.mpr c65
                                                        have c65b1 : ((rd (rd_L1 l0 (rd t420 x11_4)) x12_5) != (ji46)) = false := bne_eq_false_iff_eq.mpr c65
                                                        clear c65
                                                        have H' := Aside0.mk H
                                                        clear H
                                                        have p443 : 0 ≤ (x11_4 : Int) := of_decide_eq_true (by first | (with_reducible assumption) | assumption)
                                                        have q443 : x11_4 < (t420.length : Int) := of_decide_eq_true (by first | (with_reducible assumption) | assumption)
                                                        obtain ⟨ad443, e443, hx443_0⟩ := Kd.at_int (Kd.R_reads' HO_6.out).2.2 x11_4 p443 q443
                                                        cases e443
                                                        replace p443 := eq_true p443
                                                        replace q443 := eq_true q443
                                                        have p444 : 0 ≤ ((rd t420 x11_4) : Int) := of_decide_eq_true (by first | (with_reducible assumption) | assumption)
                                                        have q444 : (rd t420 x11_4) < (l0.length : Int) := of_decide_eq_true (by first | (with_reducible assumption) | assumption)
                                                        obtain ⟨ad444, A444_0, c444_0, e444, hx444_0, hl444_0, hi444_0⟩ := at_L1 HR0.out (rd t420 x11_4) p444 q444
                                                        obtain rfl : ad436 = ad444 := (by injection e444)
                                                        replace hx444_0 := (HB.out.cell (World.block_lt_of_cell? w _ hx444_0)).trans hx444_0
                                                        have HR444_0 := Aside0.mk hi444_0
                                                        have HC444_0 := Aside0.mk hl444_0
                                                        clear hi444_0 hl444_0
                                                        replace p444 := eq_true p444
                                                        replace q444 := eq_true q444
                                                        have p445 : 0 ≤ (x11_4 : Int) := of_decide_eq_true (by first | (with_reducible assumption) | assumption)
                                                        have q445 : x11_4 < (t420.length : Int) := of_decide_eq_true (by first | (with_reducible assumption) | assumption)
                                                        obtain ⟨ad445, e445, hx445_0⟩ := Kd.at_int (Kd.R_reads' HO_6.out).2.2 x11_4 p445 q445
                                                        obtain rfl : ad443 = ad445 := (by injection e445)
                                                        replace p445 := eq_true p445
                                                        replace q445 := eq_true q445
                                                        have p446 : 0 ≤ ((rd t420 x11_4) : Int) := of_decide_eq_true (by first | (with_reducible assumption) | assumption)
                                                        have q446 : (rd t420 x11_4) < (l0.length : Int) := of_decide_eq_true (by first | (with_reducible assumption) | assumption)
                                                        obtain ⟨ad446, A446_0, c446_0, e446, hx446_0, hl446_0, hi446_0⟩ := at_L1 HR0.out (rd t420 x11_4) p446 q446
                                                        obtain rfl : ad436 = ad446 := (by injection e446)
                                                        replace hx446_0 := (HB.out.cell (World.block_lt_of_cell? w _ hx446_0)).trans hx446_0
                                                        have HR446_0 := Aside0.mk hi446_0
                                                        have HC446_0 := Aside0.mk hl446_0
                                                        clear hi446_0 hl446_0
                                                        replace p446 := eq_true p446
                                                        replace q446 := eq_true q446
                                                        have ea_ := Option.some.inj (hx444_0.symm.trans hx446_0)
                                                        injection ea_ with ea_ en_ ec_
                                                        subst ea_
                                                        subst ec_
                                                        clear en_
                                                        have p447 : 0 ≤ (x12_5 : Int) := of_decide_eq_true (by first | (with_reducible assumption) | assumption)
                                                        have q447 : x12_5 < ((rd_L1 l0 (rd t420 x11_4)).length : Int) := of_decide_eq_true (by first | (with_reducible assumption) | assumption)
                                                        obtain ⟨ad447, e447, hx447_0⟩ := Kd.at_int HR446_0.out x12_5 p447 q447
                                                        cases e447
                                                        replace hx447_0 := (HB.out.cell (World.block_lt_of_cell? w _ hx447_0)).trans hx447_0
                                                        replace p447 := eq_true p447
                                                        replace q447 := eq_true q447
                                                        go_wp2
                                                        repeat (go_quiet (fail); try go_wp2)
                                                        go_roundg k5
                                                        case measure => have := HJ2.out; have := HK2.out; have := HK3.out; have := HK4.out; have := HK5.out; omega
                                                        case rel => exact ⟨(wrap64 (x12_5 + 1)), (by first | rfl | (simp; done) | (simp [*]; done)), H', ⟨by have := HJ2.out; have := HK2.out; have := HK3.out; have := HK4.out; have := HK5.out; omega⟩, ⟨by (with_reducible repeat (first | apply Kd.R_alloc | apply Kd.R_drewN | apply Kd.R_drew)); exact HO_6.out⟩, ⟨by (with_reducible repeat (first | apply Kd.R_alloc | apply Kd.R_drewN | apply Kd.R_drew)); exact HO_8.out⟩, ⟨by repeat (first | (with_reducible first | exact HB.out | apply below_alloc | apply pw_below_drewN | apply below_drew1) | exact HB.out)⟩⟩
                                                      · rw [if_neg c65] at H
                                                        have c65b0 : ((rd (rd_L1 l0 (rd t420 x11_4)) x12_5) == (ji46)) = false := beq_eq_false_iff_ne.mpr c65
                                                        have c65b1 : ((rd (rd_L1 l0 (rd t420 x11_4)) x12_5) != (ji46)) = true := bne_iff_ne.mpr c65
                                                        by_cases c66 : 0 ≤ (rd (rd_L1 l0 (rd t420 x11_4)) x12_5)
                                                        · rw [if_pos c66] at H
                                                          have c66b0 : decide (0 ≤ (rd (rd_L1 l0 (rd t420 x11_4)) x12_5)) = true := decide_eq_true c66
                                                          clear c66
                                                          by_cases c67 : (rd (rd_L1 l0 (rd t420 x11_4)) x12_5) < (x8_2.length : Int)
                                                          · rw [if_pos c67] at H
                                                            have c67b0 : decide ((rd (rd_L1 l0 (rd t420 x11_4)) x12_5) < (x8_2.length : Int)) = true := decide_eq_true c67
                                                            clear c67
                                                            obtain ⟨bq68, hbq68⟩ : ∃ b_ : Bool, b_ = (rdOf false x8_2 (rd (rd_L1 l0 (rd t420 x11_4)) x12_5)) := ⟨_, rfl⟩
                                                            replace H : (if (bq68 = true) then (seedcornlaw38_GraphReaches.l3 k5 l0 (ji46) t420 x8_2 x11_4 (wrap64 (x12_5 + 1))) else (some false)) = some r := by rw [← hbq68] at H; exact H
                                                            have Nbq68 := Aside0.mk hbq68
                                                            clear hbq68
                                                            by_cases c69 : (bq68 = true)
                                                            · subst c69
                                                              have H1 : (seedcornlaw38_GraphReaches.l3 k5 l0 (ji46) t420 x8_2 x11_4 (wrap64 (x12_5 + 1))) = some r := by rw [if_pos rfl] at H; exact H
                                                              clear H
                                                              have H := H1
                                                              clear H1
                                                              have H' := Aside0.mk H
                                                              clear H
                                                              have p443 : 0 ≤ (x11_4 : Int) := of_decide_eq_true (by first | (with_reducible assumption) | assumption)
                                                              have q443 : x11_4 < (t420.length : Int) := of_decide_eq_true (by first | (with_reducible assumption) | assumption)
                                                              obtain ⟨ad443, e443, hx443_0⟩ := Kd.at_int (Kd.R_reads' HO_6.out).2.2 x11_4 p443 q443
                                                              cases e443
                                                              replace p443 := eq_true p443
                                                              replace q443 := eq_true q443
                                                              have p444 : 0 ≤ ((rd t420 x11_4) : Int) := of_decide_eq_true (by first | (with_reducible assumption) | assumption)
                                                              have q444 : (rd t420 x11_4) < (l0.length : Int) := of_decide_eq_true (by first | (with_reducible assumption) | assumption)
                                                              obtain ⟨ad444, A444_0, c444_0, e444, hx444_0, hl444_0, hi444_0⟩ := at_L1 HR0.out (rd t420 x11_4) p444 q444
                                                              obtain rfl : ad436 = ad444 := (by injection e444)
                                                              replace hx444_0 := (HB.out.cell (World.block_lt_of_cell? w _ hx444_0)).trans hx444_0
                                                              have HR444_0 := Aside0.mk hi444_0
                                                              have HC444_0 := Aside0.mk hl444_0
                                                              clear hi444_0 hl444_0
                                                              replace p444 := eq_true p444
                                                              replace q444 := eq_true q444
                                                              have p445 : 0 ≤ (x11_4 : Int) := of_decide_eq_true (by first | (with_reducible assumption) | assumption)
                                                              have q445 : x11_4 < (t420.length : Int) := of_decide_eq_true (by first | (with_reducible assumption) | assumption)
                                                              obtain ⟨ad445, e445, hx445_0⟩ := Kd.at_int (Kd.R_reads' HO_6.out).2.2 x11_4 p445 q445
                                                              obtain rfl : ad443 = ad445 := (by injection e445)
                                                              replace p445 := eq_true p445
                                                              replace q445 := eq_true q445
                                                              have p446 : 0 ≤ ((rd t420 x11_4) : Int) := of_decide_eq_true (by first | (with_reducible assumption) | assumption)
                                                              have q446 : (rd t420 x11_4) < (l0.length : Int) := of_decide_eq_true (by first | (with_reducible assumption) | assumption)
                                                              obtain ⟨ad446, A446_0, c446_0, e446, hx446_0, hl446_0, hi446_0⟩ := at_L1 HR0.out (rd t420 x11_4) p446 q446
                                                              obtain rfl : ad436 = ad446 := (by injection e446)
                                                              replace hx446_0 := (HB.out.cell (World.block_lt_of_cell? w _ hx446_0)).trans hx446_0
                                                              have HR446_0 := Aside0.mk hi446_0
                                                              have HC446_0 := Aside0.mk hl446_0
                                                              clear hi446_0 hl446_0
                                                              replace p446 := eq_true p446
                                                              replace q446 := eq_true q446
                                                              have ea_ := Option.some.inj (hx444_0.symm.trans hx446_0)
                                                              injection ea_ with ea_ en_ ec_
                                                              subst ea_
                                                              subst ec_
                                                              clear en_
                                                              have p447 : 0 ≤ (x12_5 : Int) := of_decide_eq_true (by first | (with_reducible assumption) | assumption)
                                                              have q447 : x12_5 < ((rd_L1 l0 (rd t420 x11_4)).length : Int) := of_decide_eq_true (by first | (with_reducible assumption) | assumption)
                                                              obtain ⟨ad447, e447, hx447_0⟩ := Kd.at_int HR446_0.out x12_5 p447 q447
                                                              cases e447
                                                              replace hx447_0 := (HB.out.cell (World.block_lt_of_cell? w _ hx447_0)).trans hx447_0
                                                              replace p447 := eq_true p447
                                                              replace q447 := eq_true q447
                                                              have p448 : 0 ≤ (x11_4 : Int) := of_decide_eq_true (by first | (with_reducible assumption) | assumption)
                                                              have q448 : x11_4 < (t420.length : Int) := of_decide_eq_true (by first | (with_reducible assumption) | assumption)
                                                              obtain ⟨ad448, e448, hx448_0⟩ := Kd.at_int (Kd.R_reads' HO_6.out).2.2 x11_4 p448 q448
                                                              obtain rfl : ad443 = ad448 := (by injection e448)
                                                              replace p448 := eq_true p448
                                                              replace q448 := eq_true q448
                                                              have p449 : 0 ≤ ((rd t420 x11_4) : Int) := of_decide_eq_true (by first | (with_reducible assumption) | assumption)
                                                              have q449 : (rd t420 x11_4) < (l0.length : Int) := of_decide_eq_true (by first | (with_reducible assumption) | assumption)
                                                              obtain ⟨ad449, A449_0, c449_0, e449, hx449_0, hl449_0, hi449_0⟩ := at_L1 HR0.out (rd t420 x11_4) p449 q449
                                                              obtain rfl : ad436 = ad449 := (by injection e449)
                                                              replace hx449_0 := (HB.out.cell (World.block_lt_of_cell? w _ hx449_0)).trans hx449_0
                                                              have HR449_0 := Aside0.mk hi449_0
                                                              have HC449_0 := Aside0.mk hl449_0
                                                              clear hi449_0 hl449_0
                                                              replace p449 := eq_true p449
                                                              replace q449 := eq_true q449
                                                              have ea_ := Option.some.inj (hx444_0.symm.trans hx449_0)
                                                              injection ea_ with ea_ en_ ec_
                                                              subst ea_
                                                              subst ec_
                                                              clear en_
                                                              have p450 : 0 ≤ (x12_5 : Int) := of_decide_eq_true (by first | (with_reducible assumption) | assumption)
                                                              have q450 : x12_5 < ((rd_L1 l0 (rd t420 x11_4)).length : Int) := of_decide_eq_true (by first | (with_reducible assumption) | assumption)
                                                              obtain ⟨ad450, e450, hx450_0⟩ := Kd.at_int HR449_0.out x12_5 p450 q450
                                                              cases e450
                                                              replace hx450_0 := (HB.out.cell (World.block_lt_of_cell? w _ hx450_0)).trans hx450_0
                                                              replace p450 := eq_true p450
                                                              replace q450 := eq_true q450
                                                              obtain ⟨Ao70, co70, eo70⟩ := Kd.R_slice HO_8.out
                                                              subst eo70
                                                              have p451 : 0 ≤ ((rd (rd_L1 l0 (rd t420 x11_4)) x12_5) : Int) := of_decide_eq_true (by first | (with_reducible assumption) | assumption)
                                                              have q451 : (rd (rd_L1 l0 (rd t420 x11_4)) x12_5) < (x8_2.length : Int) := of_decide_eq_true (by first | (with_reducible assumption) | assumption)
                                                              obtain ⟨ad451, e451, hx451_0⟩ := Kd.at_bool (Kd.R_reads' HO_8.out).2.2 (rd (rd_L1 l0 (rd t420 x11_4)) x12_5) p451 q451
                                                              (try rw [← Nbq68.out] at hx451_0)
                                                              cases e451
                                                              replace p451 := eq_true p451
                                                              replace q451 := eq_true q451
                                                              go_wp2
                                                              repeat (go_quiet (fail); try go_wp2)
                                                              go_roundg k5
                                                              case measure => have := HJ2.out; have := HK2.out; have := HK3.out; have := HK4.out; have := HK5.out; omega
                                                              case rel => exact ⟨(wrap64 (x12_5 + 1)), (by first | rfl | (simp; done) | (simp [*]; done)), H', ⟨by have := HJ2.out; have := HK2.out; have := HK3.out; have := HK4.out; have := HK5.out; omega⟩, ⟨by (with_reducible repeat (first | apply Kd.R_alloc | apply Kd.R_drewN | apply Kd.R_drew)); exact HO_6.out⟩, ⟨by (with_reducible repeat (first | apply Kd.R_alloc | apply Kd.R_drewN | apply Kd.R_drew)); exact HO_8.out⟩, ⟨by repeat (first | (with_reducible first | exact HB.out | apply below_alloc | apply pw_below_drewN | apply below_drew1) | exact HB.out)⟩⟩
                                                            · replace c69 := Bool.eq_false_iff.mpr c69
                                                              subst c69
                                                              have H1 : (some false) = some r := by rw [if_neg (show ¬ (false = true) by decide)] at H; exact H
                                                              clear H
                                                              have H := H1
                                                              clear H1
                                                              obtain rfl := Option.some.inj H
                                                              have p443 : 0 ≤ (x11_4 : Int) := of_decide_eq_true (by first | (with_reducible assumption) | assumption)
                                                              have q443 : x11_4 < (t420.length : Int) := of_decide_eq_true (by first | (with_reducible assumption) | assumption)
                                                              obtain ⟨ad443, e443, hx443_0⟩ := Kd.at_int (Kd.R_reads' HO_6.out).2.2 x11_4 p443 q443
                                                              cases e443
                                                              replace p443 := eq_true p443
                                                              replace q443 := eq_true q443
                                                              have p444 : 0 ≤ ((rd t420 x11_4) : Int) := of_decide_eq_true (by first | (with_reducible assumption) | assumption)
                                                              have q444 : (rd t420 x11_4) < (l0.length : Int) := of_decide_eq_true (by first | (with_reducible assumption) | assumption)
                                                              obtain ⟨ad444, A444_0, c444_0, e444, hx444_0, hl444_0, hi444_0⟩ := at_L1 HR0.out (rd t420 x11_4) p444 q444
                                                              obtain rfl : ad436 = ad444 := (by injection e444)
                                                              replace hx444_0 := (HB.out.cell (World.block_lt_of_cell? w _ hx444_0)).trans hx444_0
                                                              have HR444_0 := Aside0.mk hi444_0
                                                              have HC444_0 := Aside0.mk hl444_0
                                                              clear hi444_0 hl444_0
                                                              replace p444 := eq_true p444
                                                              replace q444 := eq_true q444
                                                              have p445 : 0 ≤ (x11_4 : Int) := of_decide_eq_true (by first | (with_reducible assumption) | assumption)
                                                              have q445 : x11_4 < (t420.length : Int) := of_decide_eq_true (by first | (with_reducible assumption) | assumption)
                                                              obtain ⟨ad445, e445, hx445_0⟩ := Kd.at_int (Kd.R_reads' HO_6.out).2.2 x11_4 p445 q445
                                                              obtain rfl : ad443 = ad445 := (by injection e445)
                                                              replace p445 := eq_true p445
                                                              replace q445 := eq_true q445
                                                              have p446 : 0 ≤ ((rd t420 x11_4) : Int) := of_decide_eq_true (by first | (with_reducible assumption) | assumption)
                                                              have q446 : (rd t420 x11_4) < (l0.length : Int) := of_decide_eq_true (by first | (with_reducible assumption) | assumption)
                                                              obtain ⟨ad446, A446_0, c446_0, e446, hx446_0, hl446_0, hi446_0⟩ := at_L1 HR0.out (rd t420 x11_4) p446 q446
                                                              obtain rfl : ad436 = ad446 := (by injection e446)
                                                              replace hx446_0 := (HB.out.cell (World.block_lt_of_cell? w _ hx446_0)).trans hx446_0
                                                              have HR446_0 := Aside0.mk hi446_0
                                                              have HC446_0 := Aside0.mk hl446_0
                                                              clear hi446_0 hl446_0
                                                              replace p446 := eq_true p446
                                                              replace q446 := eq_true q446
                                                              have ea_ := Option.some.inj (hx444_0.symm.trans hx446_0)
                                                              injection ea_ with ea_ en_ ec_
                                                              subst ea_
                                                              subst ec_
                                                              clear en_
                                                              have p447 : 0 ≤ (x12_5 : Int) := of_decide_eq_true (by first | (with_reducible assumption) | assumption)
                                                              have q447 : x12_5 < ((rd_L1 l0 (rd t420 x11_4)).length : Int) := of_decide_eq_true (by first | (with_reducible assumption) | assumption)
                                                              obtain ⟨ad447, e447, hx447_0⟩ := Kd.at_int HR446_0.out x12_5 p447 q447
                                                              cases e447
                                                              replace hx447_0 := (HB.out.cell (World.block_lt_of_cell? w _ hx447_0)).trans hx447_0
                                                              replace p447 := eq_true p447
                                                              replace q447 := eq_true q447
                                                              have p448 : 0 ≤ (x11_4 : Int) := of_decide_eq_true (by first | (with_reducible assumption) | assumption)
                                                              have q448 : x11_4 < (t420.length : Int) := of_decide_eq_true (by first | (with_reducible assumption) | assumption)
                                                              obtain ⟨ad448, e448, hx448_0⟩ := Kd.at_int (Kd.R_reads' HO_6.out).2.2 x11_4 p448 q448
                                                              obtain rfl : ad443 = ad448 := (by injection e448)
                                                              replace p448 := eq_true p448
                                                              replace q448 := eq_true q448
                                                              have p449 : 0 ≤ ((rd t420 x11_4) : Int) := of_decide_eq_true (by first | (with_reducible assumption) | assumption)
                                                              have q449 : (rd t420 x11_4) < (l0.length : Int) := of_decide_eq_true (by first | (with_reducible assumption) | assumption)
                                                              obtain ⟨ad449, A449_0, c449_0, e449, hx449_0, hl449_0, hi449_0⟩ := at_L1 HR0.out (rd t420 x11_4) p449 q449
                                                              obtain rfl : ad436 = ad449 := (by injection e449)
                                                              replace hx449_0 := (HB.out.cell (World.block_lt_of_cell? w _ hx449_0)).trans hx449_0
                                                              have HR449_0 := Aside0.mk hi449_0
                                                              have HC449_0 := Aside0.mk hl449_0
                                                              clear hi449_0 hl449_0
                                                              replace p449 := eq_true p449
                                                              replace q449 := eq_true q449
                                                              have ea_ := Option.some.inj (hx444_0.symm.trans hx449_0)
                                                              injection ea_ with ea_ en_ ec_
                                                              subst ea_
                                                              subst ec_
                                                              clear en_
                                                              have p450 : 0 ≤ (x12_5 : Int) := of_decide_eq_true (by first | (with_reducible assumption) | assumption)
                                                              have q450 : x12_5 < ((rd_L1 l0 (rd t420 x11_4)).length : Int) := of_decide_eq_true (by first | (with_reducible assumption) | assumption)
                                                              obtain ⟨ad450, e450, hx450_0⟩ := Kd.at_int HR449_0.out x12_5 p450 q450
                                                              cases e450
                                                              replace hx450_0 := (HB.out.cell (World.block_lt_of_cell? w _ hx450_0)).trans hx450_0
                                                              replace p450 := eq_true p450
                                                              replace q450 := eq_true q450
                                                              obtain ⟨Ao71, co71, eo71⟩ := Kd.R_slice HO_8.out
                                                              subst eo71
                                                              have p451 : 0 ≤ ((rd (rd_L1 l0 (rd t420 x11_4)) x12_5) : Int) := of_decide_eq_true (by first | (with_reducible assumption) | assumption)
                                                              have q451 : (rd (rd_L1 l0 (rd t420 x11_4)) x12_5) < (x8_2.length : Int) := of_decide_eq_true (by first | (with_reducible assumption) | assumption)
                                                              obtain ⟨ad451, e451, hx451_0⟩ := Kd.at_bool (Kd.R_reads' HO_8.out).2.2 (rd (rd_L1 l0 (rd t420 x11_4)) x12_5) p451 q451
                                                              (try rw [← Nbq68.out] at hx451_0)
                                                              cases e451
                                                              replace p451 := eq_true p451
                                                              replace q451 := eq_true q451
                                                              go_wp2
                                                              repeat (go_quiet (fail); try go_wp2)
                                                              go_ret
                                                              exact ⟨by first | rfl | (simp [errW_none, errW_some] <;> rfl) | (simp only [← hji46]; first | rfl | (simp [errW_none, errW_some] <;> rfl)) | (simp [*, errW_none, errW_some] <;> rfl), by repeat (first | (with_reducible first | exact HB.out | apply below_alloc | apply pw_below_drewN | apply below_drew1) | exact HB.out)⟩
                                                          · rw [if_neg c67] at H
                                                            exact absurd H (by simp)
                                                        · rw [if_neg c66] at H
                                                          exact absurd H (by simp)
                                                    · rw [if_neg c64] at H
                                                      exact absurd H (by simp)
                                                  · rw [if_neg c63] at H
                                                    have c63b0 : decide (x12_5 < ((rd_L1 l0 (rd t420 x11_4)).length : Int)) = false := decide_eq_false c63
                                                    clear c63
                                                    have H' := Aside0.mk H
                                                    clear H
                                                    have p443 : 0 ≤ (x11_4 : Int) := of_decide_eq_true (by first | (with_reducible assumption) | assumption)
                                                    have q443 : x11_4 < (t420.length : Int) := of_decide_eq_true (by first | (with_reducible assumption) | assumption)
                                                    obtain ⟨ad443, e443, hx443_0⟩ := Kd.at_int (Kd.R_reads' HO_6.out).2.2 x11_4 p443 q443
                                                    cases e443
                                                    replace p443 := eq_true p443
                                                    replace q443 := eq_true q443
                                                    have p444 : 0 ≤ ((rd t420 x11_4) : Int) := of_decide_eq_true (by first | (with_reducible assumption) | assumption)
                                                    have q444 : (rd t420 x11_4) < (l0.length : Int) := of_decide_eq_true (by first | (with_reducible assumption) | assumption)
                                                    obtain ⟨ad444, A444_0, c444_0, e444, hx444_0, hl444_0, hi444_0⟩ := at_L1 HR0.out (rd t420 x11_4) p444 q444
                                                    obtain rfl : ad436 = ad444 := (by injection e444)
                                                    replace hx444_0 := (HB.out.cell (World.block_lt_of_cell? w _ hx444_0)).trans hx444_0
                                                    have HR444_0 := Aside0.mk hi444_0
                                                    have HC444_0 := Aside0.mk hl444_0
                                                    clear hi444_0 hl444_0
                                                    replace p444 := eq_true p444
                                                    replace q444 := eq_true q444
                                                    go_wp2
                                                    repeat (go_quiet (fail); try go_wp2)
                                                    go_roundg k5
                                                    case measure => have := HJ2.out; have := HK2.out; have := HK3.out; have := HK4.out; have := HK5.out; omega
                                                    case rel => exact ⟨(wrap64 (x11_4 + 1)), (by first | rfl | (simp; done) | (simp [*]; done)), H', ⟨by have := HJ2.out; have := HK2.out; have := HK3.out; have := HK4.out; have := HK5.out; omega⟩, ⟨by (with_reducible repeat (first | apply Kd.R_alloc | apply Kd.R_drewN | apply Kd.R_drew)); exact HO_6.out⟩, ⟨by (with_reducible repeat (first | apply Kd.R_alloc | apply Kd.R_drewN | apply Kd.R_drew)); exact HO_8.out⟩, ⟨by repeat (first | (with_reducible first | exact HB.out | apply below_alloc | apply pw_below_drewN | apply below_drew1) | exact HB.out)⟩⟩
                                                · rw [if_neg c62] at H
                                                  exact absurd H (by simp)
                                              · rw [if_neg c61] at H
                                                exact absurd H (by simp)
                                            · rw [if_neg c60] at H
                                              exact absurd H (by simp)
                                          · rw [if_neg c59] at H
                                            exact absurd H (by simp)
                                    · rw [if_neg c58] at H
                                      have c58b0 : decide (x11_4 < (t420.length : Int)) = false := decide_eq_false c58
                                      clear c58
                                      replace H := Option.bind_eq_some_iff.mp H
                                      obtain ⟨t442, A720, H⟩ := H
                                      replace H : (some t442) = some r := H
                                      have A72 := Aside0.mk A720
                                      clear A720
                                      obtain rfl := Option.some.inj H
                                      go_wp2_with (first | (go_at_call 10; (with_reducible refine (seedcornlaw38_awake.calls  t442 _ A72.out).mono ?_); rintro e w73 ⟨rfl, hb⟩; have n0_ := Aside0.mk (Kd.R_below (by (with_reducible repeat (first | apply Kd.R_alloc | apply Kd.R_drewN | apply Kd.R_drew)); exact HO_6.out) hb); have n1_ := Aside0.mk (Kd.R_below (by (with_reducible repeat (first | apply Kd.R_alloc | apply Kd.R_drewN | apply Kd.R_drew)); exact HO_8.out) hb); have n2_ := Aside0.mk (below_step (by repeat (first | (with_reducible first | exact HB.out | apply below_alloc | apply pw_below_drewN | apply below_drew1) | exact HB.out)) hb); clear HO_6; clear HO_8; clear HB; have HO_6 := n0_; have HO_8 := n1_; have HB := n2_; clear n0_ n1_ n2_; (try clear hb); (try clear hb2); (try clear hk); (try clear hi)))
                                      repeat (go_quiet (first | (go_at_call 10; (with_reducible refine (seedcornlaw38_awake.calls  t442 _ A72.out).mono ?_); rintro e w73 ⟨rfl, hb⟩; have n0_ := Aside0.mk (Kd.R_below (by (with_reducible repeat (first | apply Kd.R_alloc | apply Kd.R_drewN | apply Kd.R_drew)); exact HO_6.out) hb); have n1_ := Aside0.mk (Kd.R_below (by (with_reducible repeat (first | apply Kd.R_alloc | apply Kd.R_drewN | apply Kd.R_drew)); exact HO_8.out) hb); have n2_ := Aside0.mk (below_step (by repeat (first | (with_reducible first | exact HB.out | apply below_alloc | apply pw_below_drewN | apply below_drew1) | exact HB.out)) hb); clear HO_6; clear HO_8; clear HB; have HO_6 := n0_; have HO_8 := n1_; have HB := n2_; clear n0_ n1_ n2_; (try clear hb); (try clear hb2); (try clear hk); (try clear hi))); try go_wp2_with (first | (go_at_call 10; (with_reducible refine (seedcornlaw38_awake.calls  t442 _ A72.out).mono ?_); rintro e w73 ⟨rfl, hb⟩; have n0_ := Aside0.mk (Kd.R_below (by (with_reducible repeat (first | apply Kd.R_alloc | apply Kd.R_drewN | apply Kd.R_drew)); exact HO_6.out) hb); have n1_ := Aside0.mk (Kd.R_below (by (with_reducible repeat (first | apply Kd.R_alloc | apply Kd.R_drewN | apply Kd.R_drew)); exact HO_8.out) hb); have n2_ := Aside0.mk (below_step (by repeat (first | (with_reducible first | exact HB.out | apply below_alloc | apply pw_below_drewN | apply below_drew1) | exact HB.out)) hb); clear HO_6; clear HO_8; clear HB; have HO_6 := n0_; have HO_8 := n1_; have HB := n2_; clear n0_ n1_ n2_; (try clear hb); (try clear hb2); (try clear hk); (try clear hi))))
                                      go_ret
                                      exact ⟨by first | rfl | (simp [errW_none, errW_some] <;> rfl) | (simp only [← hji46]; first | rfl | (simp [errW_none, errW_some] <;> rfl)) | (simp [*, errW_none, errW_some] <;> rfl), by repeat (first | (with_reducible first | exact HB.out | apply below_alloc | apply pw_below_drewN | apply below_drew1) | exact HB.out)⟩
                            · rw [if_neg c48] at H
                              exact absurd H (by simp)
                          · rw [if_neg c47] at H
                            exact absurd H (by simp)
              · rw [if_neg c15] at H
                exact absurd H (by simp)
            · rw [if_neg c14] at H
              exact absurd H (by simp)
          · rw [if_neg c13] at H
            have c13b0 : (t421 == 0) = false := beq_eq_false_iff_ne.mpr c13
            have c13b1 : (t421 != 0) = true := bne_iff_ne.mpr c13
            obtain rfl := Option.some.inj H
            go_wp2_with (first | (go_at_call 19; (with_reducible refine (graph_Behind.calls _ _ l0 (Int.tmod (wrap64 (a1)) (l0.length : Int)) t420 t421 _ ?side1 ?side2 A12.out).mono ?_); (case side1 => repeat (first | exact (Kd.C_below HR0.out HB.out) | (with_reducible refine Kd.C_alloc ?_ _) | (with_reducible refine Kd.C_drewN ?_ _) | (with_reducible refine Kd.C_drew ?_))); (case side2 => exact HC0.out); rintro e w74 ⟨v422, rfl, ho0, hb⟩; have n0_ := Aside0.mk (Kd.R_lower ho0 (below_size (by repeat (first | (with_reducible first | exact HB.out | apply below_alloc | apply pw_below_drewN | apply below_drew1) | exact HB.out)))); have n1_ := Aside0.mk (below_step (by repeat (first | (with_reducible first | exact HB.out | apply below_alloc | apply pw_below_drewN | apply below_drew1) | exact HB.out)) hb); clear HB; have HO423 := n0_; have HB := n1_; clear n0_ n1_; (try clear hb); (try clear hb2); (try clear hk); (try clear hi); (try clear ho0)))
            repeat (go_quiet (first | (go_at_call 19; (with_reducible refine (graph_Behind.calls _ _ l0 (Int.tmod (wrap64 (a1)) (l0.length : Int)) t420 t421 _ ?side1 ?side2 A12.out).mono ?_); (case side1 => repeat (first | exact (Kd.C_below HR0.out HB.out) | (with_reducible refine Kd.C_alloc ?_ _) | (with_reducible refine Kd.C_drewN ?_ _) | (with_reducible refine Kd.C_drew ?_))); (case side2 => exact HC0.out); rintro e w74 ⟨v422, rfl, ho0, hb⟩; have n0_ := Aside0.mk (Kd.R_lower ho0 (below_size (by repeat (first | (with_reducible first | exact HB.out | apply below_alloc | apply pw_below_drewN | apply below_drew1) | exact HB.out)))); have n1_ := Aside0.mk (below_step (by repeat (first | (with_reducible first | exact HB.out | apply below_alloc | apply pw_below_drewN | apply below_drew1) | exact HB.out)) hb); clear HB; have HO423 := n0_; have HB := n1_; clear n0_ n1_; (try clear hb); (try clear hb2); (try clear hk); (try clear hi); (try clear ho0))); try go_wp2_with (first | (go_at_call 19; (with_reducible refine (graph_Behind.calls _ _ l0 (Int.tmod (wrap64 (a1)) (l0.length : Int)) t420 t421 _ ?side1 ?side2 A12.out).mono ?_); (case side1 => repeat (first | exact (Kd.C_below HR0.out HB.out) | (with_reducible refine Kd.C_alloc ?_ _) | (with_reducible refine Kd.C_drewN ?_ _) | (with_reducible refine Kd.C_drew ?_))); (case side2 => exact HC0.out); rintro e w74 ⟨v422, rfl, ho0, hb⟩; have n0_ := Aside0.mk (Kd.R_lower ho0 (below_size (by repeat (first | (with_reducible first | exact HB.out | apply below_alloc | apply pw_below_drewN | apply below_drew1) | exact HB.out)))); have n1_ := Aside0.mk (below_step (by repeat (first | (with_reducible first | exact HB.out | apply below_alloc | apply pw_below_drewN | apply below_drew1) | exact HB.out)) hb); clear HB; have HO423 := n0_; have HB := n1_; clear n0_ n1_; (try clear hb); (try clear hb2); (try clear hk); (try clear hi); (try clear ho0))))
            go_ret
            exact ⟨by first | rfl | (simp [errW_none, errW_some] <;> rfl) | (simp [*, errW_none, errW_some] <;> rfl), by repeat (first | (with_reducible first | exact HB.out | apply below_alloc | apply pw_below_drewN | apply below_drew1) | exact HB.out)⟩

end Go.Proofs.Ytdknnekkbhpjlaa.G

-- laid by a program of the session (wip/gen/gprint.sh) over the kit's printer, with some functions given
import Derived.Test.YtdpncghnlkgkdaaG0
import Derived.Test.YtdpncghnlkgkdaaMG
namespace Go.Proofs.Ytdpncghnlkgkdaa.G
open Go.RowKit Go.Proofs.YtdpncghnlkgkdaaW.PrintWords Go.Proofs.YtdpncghnlkgkdaaW.PrintLast Go.Proofs.YtdpncghnlkgkdaaW.PrintMore
attribute [local go_sem] max2_int min2_int max_two min_two max_three min_three max_four min_four   -- for this text's walks alone
set_option linter.unusedVariables false
set_option linter.unusedSimpArgs false

/-! ### seedcornref14_Few: function 25 -/
mutual
def seedcornref14_Few.j0 : Nat → Int → Bool → List ByteArray → List (S68) → List (S40) → Option (Bool)
  | 0, _, _, _, _, _ => none
  | k + 1, x1, x24, x428000, x428001, x428002 => if x24 = true then (some false) else (seedcornref14_Few.l0 k (wrap64 ((wrap64 ((wrap64 (x1 - (x428000.length : Int))) - (x428001.length : Int))) - (x428002.length : Int))) 0 x428000 x428001 x428002)
def seedcornref14_Few.l0 : Nat → Int → Int → List ByteArray → List (S68) → List (S40) → Option (Bool)
  | 0, _, _, _, _, _ => none
  | k + 1, x5, x6, x428000, x428001, x428002 => if x6 < (x428001.length : Int) then (if 0 ≤ x6 then (if (((rd_T68 x428001 x6).f0).size : Int) > 60 then (some false) else (seedcornref14_Few.l0 k x5 (wrap64 (x6 + 1)) x428000 x428001 x428002)) else (none)) else (seedcornref14_Few.l1 k x5 0 x428000 x428001 x428002)
def seedcornref14_Few.l1 : Nat → Int → Int → List ByteArray → List (S68) → List (S40) → Option (Bool)
  | 0, _, _, _, _, _ => none
  | k + 1, x5, x7, x428000, x428001, x428002 => if x7 < (x428002.length : Int) then (if 0 ≤ x7 then ((seedcornref14_short.f k ((rd_T40 x428002 x7).f1)).bind fun t432 => (if t432 = true then ((seedcornref14_short.f k ((rd_T40 x428002 x7).f2)).bind fun t433 => (if t433 = true then (if (((rd_T40 x428002 x7).f0).size : Int) > 60 then (some false) else ((seedcornref14_LeftStmts.f k ((rd_T40 x428002 x7).f4) (wrap64 ((wrap64 (x5 - (((rd_T40 x428002 x7).f1).length : Int))) - (((rd_T40 x428002 x7).f2).length : Int))) 60).bind fun t434 => (seedcornref14_Few.l1 k t434 (wrap64 (x7 + 1)) x428000 x428001 x428002))) else (some false))) else (some false))) else (none)) else (some (decide (x5 ≥ 0)))
end
def seedcornref14_Few.f (k : Nat) (l0_0 : List ByteArray) (l0_1 : List (S68)) (l0_2 : List (S40)) (a1 : Int) : Option (Bool) := (seedcornref14_short.f k l0_0).bind fun t428 => (if t428 = true then (if (l0_1.length : Int) > 200 then (seedcornref14_Few.j0 k a1 true l0_0 l0_1 l0_2) else (seedcornref14_Few.j0 k a1 (decide ((l0_2.length : Int) > 70)) l0_0 l0_1 l0_2)) else (seedcornref14_Few.j0 k a1 true l0_0 l0_1 l0_2))
theorem seedcornref14_Few.mono_l : ∀ k, (∀ y0 y1 y2 y3 y4, LeO (seedcornref14_Few.j0 k y0 y1 y2 y3 y4) (seedcornref14_Few.j0 (k + 1) y0 y1 y2 y3 y4)) ∧ (∀ y0 y1 y2 y3 y4, LeO (seedcornref14_Few.l0 k y0 y1 y2 y3 y4) (seedcornref14_Few.l0 (k + 1) y0 y1 y2 y3 y4)) ∧ (∀ y0 y1 y2 y3 y4, LeO (seedcornref14_Few.l1 k y0 y1 y2 y3 y4) (seedcornref14_Few.l1 (k + 1) y0 y1 y2 y3 y4))
  | 0 => ⟨fun _ _ _ _ _ r h => by simp [seedcornref14_Few.j0] at h, fun _ _ _ _ _ r h => by simp [seedcornref14_Few.l0] at h, fun _ _ _ _ _ r h => by simp [seedcornref14_Few.l1] at h⟩
  | k + 1 => by
    obtain ⟨ih0, ih1, ih2⟩ := seedcornref14_Few.mono_l k
    refine ⟨?_, ?_, ?_⟩
    · intro y0 y1 y2 y3 y4
      unfold seedcornref14_Few.j0
      repeat' first
      | (with_reducible exact ih0 _ _ _ _ _)
      | (with_reducible exact ih1 _ _ _ _ _)
      | (with_reducible exact ih2 _ _ _ _ _)
      | (with_reducible exact seedcornref14_LeftStmts.mono _ _ _ _)
      | (with_reducible exact seedcornref14_short.mono _ _)
      | (with_reducible exact LeO.refl _)
      | (with_reducible exact LeO.none _)
      | (with_reducible refine LeO.ite ?_ ?_)
      | (with_reducible refine LeO.bind ?_ (fun _ => ?_))
      | exact ih0 _ _ _ _ _
      | exact ih1 _ _ _ _ _
      | exact ih2 _ _ _ _ _
      | exact seedcornref14_LeftStmts.mono _ _ _ _
      | exact seedcornref14_short.mono _ _
      | exact LeO.none _
      | refine LeO.ite ?_ ?_
      | refine LeO.bind ?_ (fun _ => ?_)
    · intro y0 y1 y2 y3 y4
      unfold seedcornref14_Few.l0
      repeat' first
      | (with_reducible exact ih0 _ _ _ _ _)
      | (with_reducible exact ih1 _ _ _ _ _)
      | (with_reducible exact ih2 _ _ _ _ _)
      | (with_reducible exact seedcornref14_LeftStmts.mono _ _ _ _)
      | (with_reducible exact seedcornref14_short.mono _ _)
      | (with_reducible exact LeO.refl _)
      | (with_reducible exact LeO.none _)
      | (with_reducible refine LeO.ite ?_ ?_)
      | (with_reducible refine LeO.bind ?_ (fun _ => ?_))
      | exact ih0 _ _ _ _ _
      | exact ih1 _ _ _ _ _
      | exact ih2 _ _ _ _ _
      | exact seedcornref14_LeftStmts.mono _ _ _ _
      | exact seedcornref14_short.mono _ _
      | exact LeO.none _
      | refine LeO.ite ?_ ?_
      | refine LeO.bind ?_ (fun _ => ?_)
    · intro y0 y1 y2 y3 y4
      unfold seedcornref14_Few.l1
      repeat' first
      | (with_reducible exact ih0 _ _ _ _ _)
      | (with_reducible exact ih1 _ _ _ _ _)
      | (with_reducible exact ih2 _ _ _ _ _)
      | (with_reducible exact seedcornref14_LeftStmts.mono _ _ _ _)
      | (with_reducible exact seedcornref14_short.mono _ _)
      | (with_reducible exact LeO.refl _)
      | (with_reducible exact LeO.none _)
      | (with_reducible refine LeO.ite ?_ ?_)
      | (with_reducible refine LeO.bind ?_ (fun _ => ?_))
      | exact ih0 _ _ _ _ _
      | exact ih1 _ _ _ _ _
      | exact ih2 _ _ _ _ _
      | exact seedcornref14_LeftStmts.mono _ _ _ _
      | exact seedcornref14_short.mono _ _
      | exact LeO.none _
      | refine LeO.ite ?_ ?_
      | refine LeO.bind ?_ (fun _ => ?_)
theorem seedcornref14_Few.mono : ∀ a0 a1 a2 a3 k, LeO (seedcornref14_Few.f k a0 a1 a2 a3) (seedcornref14_Few.f (k + 1) a0 a1 a2 a3) := by
  intro a0 a1 a2 a3 k
  obtain ⟨ih0, ih1, ih2⟩ := seedcornref14_Few.mono_l k
  unfold seedcornref14_Few.f
  repeat' first
      | (with_reducible exact ih0 _ _ _ _ _)
      | (with_reducible exact ih1 _ _ _ _ _)
      | (with_reducible exact ih2 _ _ _ _ _)
      | (with_reducible exact seedcornref14_LeftStmts.mono _ _ _ _)
      | (with_reducible exact seedcornref14_short.mono _ _)
      | (with_reducible exact LeO.refl _)
      | (with_reducible exact LeO.none _)
      | (with_reducible refine LeO.ite ?_ ?_)
      | (with_reducible refine LeO.bind ?_ (fun _ => ?_))
      | exact ih0 _ _ _ _ _
      | exact ih1 _ _ _ _ _
      | exact ih2 _ _ _ _ _
      | exact seedcornref14_LeftStmts.mono _ _ _ _
      | exact seedcornref14_short.mono _ _
      | exact LeO.none _
      | refine LeO.ite ?_ ?_
      | refine LeO.bind ?_ (fun _ => ?_)
set_option maxHeartbeats 8000000 in
set_option maxRecDepth 100000 in
theorem seedcornref14_Few.calls (k : Nat) (A0_0 : Option Addr) (c0_0 : Nat) (l0_0 : List ByteArray) (A0_1 : Option Addr) (c0_1 : Nat) (l0_1 : List (S68)) (A0_2 : Option Addr) (c0_2 : Nat) (l0_2 : List (S40)) (a1 : Int) (r : Bool) (w : World) (hr0_0 : Kd.C Kd.string w A0_0 l0_0.length l0_0) (hc0_0 : l0_0.length ≤ c0_0) (hr0_1 : Kd.C k68 w A0_1 l0_1.length l0_1) (hc0_1 : l0_1.length ≤ c0_1) (hr0_2 : Kd.C k40 w A0_2 l0_2.length l0_2) (hc0_2 : l0_2.length ≤ c0_2) (h : seedcornref14_Few.f k l0_0 l0_1 l0_2 a1 = some r) :
    Calls Try.prog 25 #[.agg #[.slice A0_0 l0_0.length c0_0, .slice A0_1 l0_1.length c0_1, .slice A0_2 l0_2.length c0_2], .int .i64 a1] w fun e w' => e = .returned (.bool r) ∧ Below w.heap.size w w' := by
  have hu26 := Try.underlying26
  have hu40 := Try.underlying40
  have HR0_0 := Aside0.mk hr0_0
  have HC0_0 := Aside0.mk hc0_0
  clear hr0_0 hc0_0
  have HR0_1 := Aside0.mk hr0_1
  have HC0_1 := Aside0.mk hc0_1
  clear hr0_1 hc0_1
  have HR0_2 := Aside0.mk hr0_2
  have HC0_2 := Aside0.mk hc0_2
  clear hr0_2 hc0_2
  have HB := Aside0.mk (Below.refl w.heap.size w)
  have H : ((seedcornref14_short.f k l0_0).bind fun t428 => (if t428 = true then (if (l0_1.length : Int) > 200 then (seedcornref14_Few.j0 k a1 true l0_0 l0_1 l0_2) else (seedcornref14_Few.j0 k a1 (decide ((l0_2.length : Int) > 70)) l0_0 l0_1 l0_2)) else (seedcornref14_Few.j0 k a1 true l0_0 l0_1 l0_2))) = some r := h
  clear h
  have HC3 := Aside0.mk H
  clear H
  go_enter Try.func25, Try.ntmps25
  go_upto_region 1 with (first | ((with_reducible refine gate_dst (N := 2) rfl ?_); (try (refine gate_guard (by rfl) ?_; dsimp only)); refine box_event ?hg (N := 2) ?hd (cs := #[.slice A0_0 l0_0.length c0_0, .slice A0_1 l0_1.length c0_1, .slice A0_2 l0_2.length c0_2]) (t := 26) ?hr ?_; (case hd => rfl); (case hg => rfl); (case hr => first | (go_simp; done) | (go_simp; rfl)); intro gb427 hg w4 hbox hb; have n0_ := Aside0.mk (below_step (by repeat (first | (with_reducible first | exact HB.out | apply below_alloc | apply pw_below_drewN | apply below_drew1) | exact HB.out)) hb); have n1_ := Aside0.mk (hbox); have n2_ := Aside0.mk ((by rw [hg]; exact (below_size (by repeat (first | (with_reducible first | exact HB.out | apply below_alloc | apply pw_below_drewN | apply below_drew1) | exact HB.out))) : w.heap.size ≤ gb427)); have n3_ := Aside0.mk ((by rw [hg]; exact (below_size (by repeat (first | (with_reducible first | exact HB.out | apply below_alloc | apply pw_below_drewN | apply below_drew1) | exact HB.out))) : w.heap.size ≤ gb427)); clear HB; have HB := n0_; have BK427 := n1_; have GW427 := n2_; have GE427 := n3_; clear n0_ n1_ n2_ n3_; clear hb hbox hg))
  (try simp only [Act.put, List.setIfInBounds_toArray, List.set_cons_zero, List.set_cons_succ])
  go_cut [24] (fun v24 wc => ∃ (kq : Nat) (x24_2 : Bool), v24 = .bool x24_2 ∧ Aside0 (seedcornref14_Few.j0 kq a1 x24_2 l0_0 l0_1 l0_2 = some r) ∧ Aside0 (kq ≤ k) ∧ Aside0 (wc.heap[gb427]? = some (.cells #[(.slice A0_0 l0_0.length c0_0), (.slice A0_1 l0_1.length c0_1), (.slice A0_2 l0_2.length c0_2)] 26 (0, 0))) ∧ Aside0 (Below w.heap.size w wc))
  case first =>
    have H := HC3.out
    clear HC3
    replace H := Option.bind_eq_some_iff.mp H
    obtain ⟨t428, A50, H⟩ := H
    replace H : (if t428 = true then (if (l0_1.length : Int) > 200 then (seedcornref14_Few.j0 k a1 true l0_0 l0_1 l0_2) else (seedcornref14_Few.j0 k a1 (decide ((l0_2.length : Int) > 70)) l0_0 l0_1 l0_2)) else (seedcornref14_Few.j0 k a1 true l0_0 l0_1 l0_2)) = some r := H
    have A5 := Aside0.mk A50
    clear A50
    by_cases c6 : t428 = true
    · subst c6
      have H1 : (if (l0_1.length : Int) > 200 then (seedcornref14_Few.j0 k a1 true l0_0 l0_1 l0_2) else (seedcornref14_Few.j0 k a1 (decide ((l0_2.length : Int) > 70)) l0_0 l0_1 l0_2)) = some r := by rw [if_pos rfl] at H; exact H
      clear H
      have H := H1
      clear H1
      by_cases c7 : (l0_1.length : Int) > 200
      · rw [if_pos c7] at H
        have c7b0 : decide (200 < (l0_1.length : Int)) = true := decide_eq_true c7
        have c7b1 : decide (200 < l0_1.length) = true := decide_eq_true (by omega)
        clear c7
        (first | rw [c7b0] | (simp only [i64_w, i32_w]; rw [c7b0]) | skip)
        have H' := Aside0.mk H
        clear H
        have hcz8_0 : w4.cell? ⟨gb427, 0, none⟩ = some (.slice A0_0 l0_0.length c0_0) := (blk_cell BK427.out 0).trans rfl
        have hcz8_1 : w4.cell? ⟨gb427, 1, none⟩ = some (.slice A0_1 l0_1.length c0_1) := (blk_cell BK427.out 1).trans rfl
        have hcz8_2 : w4.cell? ⟨gb427, 2, none⟩ = some (.slice A0_2 l0_2.length c0_2) := (blk_cell BK427.out 2).trans rfl
        have hfz8_0 := blk_frozen BK427.out 0
        have hfz8_1 := blk_frozen BK427.out 1
        have hfz8_2 := blk_frozen BK427.out 2
        go_wp2_with (first | ((with_reducible refine gate_callee (f := 47) rfl ?_); refine goesL_ (some 11) rfl rfl Try.func47 (by kernel_rfl) rfl #[.slice A0_0 l0_0.length c0_0] rfl (by (try simp only [List.map_toArray, List.map_cons, List.map_nil]); first | done | rfl | (simp only [List.length_drop, List.length_take]; rfl)) ?_; (with_reducible refine (seedcornref14_short.calls k _ _ l0_0 true _ ?side1 ?side2 A5.out).mono ?_); (case side1 => repeat (first | exact (Kd.C_below HR0_0.out HB.out) | (with_reducible refine Kd.C_alloc ?_ _) | (with_reducible refine Kd.C_drewN ?_ _) | (with_reducible refine Kd.C_drew ?_))); (case side2 => exact HC0_0.out); rintro e w' ⟨rfl, ⟨nd, rfl⟩⟩; refine ⟨_, rfl, ?_⟩))
        go_meet
        case rel => exact ⟨_, (true), (by first | rfl | (simp; done) | (simp [*]; done)), H', ⟨by first | omega | exact Nat.le_refl _⟩, ⟨by (with_reducible repeat (first | refine blk_drewN ?_ _ | refine blk_drew ?_ | refine blk_alloc ?_ _)); exact BK427.out⟩, ⟨by repeat (first | (with_reducible first | exact HB.out | apply below_alloc | apply pw_below_drewN | apply below_drew1 | refine below_set ?_ GE427.out) | exact HB.out)⟩⟩
      · rw [if_neg c7] at H
        have c7b0 : decide (200 < (l0_1.length : Int)) = false := decide_eq_false c7
        have c7b1 : decide (200 < l0_1.length) = false := decide_eq_false (by omega)
        clear c7
        (first | rw [c7b0] | (simp only [i64_w, i32_w]; rw [c7b0]) | skip)
        have H' := Aside0.mk H
        clear H
        have hcz9_0 : w4.cell? ⟨gb427, 0, none⟩ = some (.slice A0_0 l0_0.length c0_0) := (blk_cell BK427.out 0).trans rfl
        have hcz9_1 : w4.cell? ⟨gb427, 1, none⟩ = some (.slice A0_1 l0_1.length c0_1) := (blk_cell BK427.out 1).trans rfl
        have hcz9_2 : w4.cell? ⟨gb427, 2, none⟩ = some (.slice A0_2 l0_2.length c0_2) := (blk_cell BK427.out 2).trans rfl
        have hfz9_0 := blk_frozen BK427.out 0
        have hfz9_1 := blk_frozen BK427.out 1
        have hfz9_2 := blk_frozen BK427.out 2
        go_wp2_with (first | ((with_reducible refine gate_callee (f := 47) rfl ?_); refine goesL_ (some 11) rfl rfl Try.func47 (by kernel_rfl) rfl #[.slice A0_0 l0_0.length c0_0] rfl (by (try simp only [List.map_toArray, List.map_cons, List.map_nil]); first | done | rfl | (simp only [List.length_drop, List.length_take]; rfl)) ?_; (with_reducible refine (seedcornref14_short.calls k _ _ l0_0 true _ ?side1 ?side2 A5.out).mono ?_); (case side1 => repeat (first | exact (Kd.C_below HR0_0.out HB.out) | (with_reducible refine Kd.C_alloc ?_ _) | (with_reducible refine Kd.C_drewN ?_ _) | (with_reducible refine Kd.C_drew ?_))); (case side2 => exact HC0_0.out); rintro e w' ⟨rfl, ⟨nd, rfl⟩⟩; refine ⟨_, rfl, ?_⟩))
        go_meet
        case rel => exact ⟨_, (decide ((l0_2.length : Int) > 70)), (by first | rfl | (simp; done) | (simp [*]; done)), H', ⟨by first | omega | exact Nat.le_refl _⟩, ⟨by (with_reducible repeat (first | refine blk_drewN ?_ _ | refine blk_drew ?_ | refine blk_alloc ?_ _)); exact BK427.out⟩, ⟨by repeat (first | (with_reducible first | exact HB.out | apply below_alloc | apply pw_below_drewN | apply below_drew1 | refine below_set ?_ GE427.out) | exact HB.out)⟩⟩
    · replace c6 := Bool.eq_false_iff.mpr c6
      subst c6
      have H1 : (seedcornref14_Few.j0 k a1 true l0_0 l0_1 l0_2) = some r := by rw [if_neg (show ¬ (false = true) by decide)] at H; exact H
      clear H
      have H := H1
      clear H1
      have H' := Aside0.mk H
      clear H
      have hcz10_0 : w4.cell? ⟨gb427, 0, none⟩ = some (.slice A0_0 l0_0.length c0_0) := (blk_cell BK427.out 0).trans rfl
      have hcz10_1 : w4.cell? ⟨gb427, 1, none⟩ = some (.slice A0_1 l0_1.length c0_1) := (blk_cell BK427.out 1).trans rfl
      have hcz10_2 : w4.cell? ⟨gb427, 2, none⟩ = some (.slice A0_2 l0_2.length c0_2) := (blk_cell BK427.out 2).trans rfl
      have hfz10_0 := blk_frozen BK427.out 0
      have hfz10_1 := blk_frozen BK427.out 1
      have hfz10_2 := blk_frozen BK427.out 2
      go_wp2_with (first | ((with_reducible refine gate_callee (f := 47) rfl ?_); refine goesL_ (some 11) rfl rfl Try.func47 (by kernel_rfl) rfl #[.slice A0_0 l0_0.length c0_0] rfl (by (try simp only [List.map_toArray, List.map_cons, List.map_nil]); first | done | rfl | (simp only [List.length_drop, List.length_take]; rfl)) ?_; (with_reducible refine (seedcornref14_short.calls k _ _ l0_0 false _ ?side1 ?side2 A5.out).mono ?_); (case side1 => repeat (first | exact (Kd.C_below HR0_0.out HB.out) | (with_reducible refine Kd.C_alloc ?_ _) | (with_reducible refine Kd.C_drewN ?_ _) | (with_reducible refine Kd.C_drew ?_))); (case side2 => exact HC0_0.out); rintro e w' ⟨rfl, ⟨nd, rfl⟩⟩; refine ⟨_, rfl, ?_⟩))
      go_meet
      case rel => exact ⟨_, (true), (by first | rfl | (simp; done) | (simp [*]; done)), H', ⟨by first | omega | exact Nat.le_refl _⟩, ⟨by (with_reducible repeat (first | refine blk_drewN ?_ _ | refine blk_drew ?_ | refine blk_alloc ?_ _)); exact BK427.out⟩, ⟨by repeat (first | (with_reducible first | exact HB.out | apply below_alloc | apply pw_below_drewN | apply below_drew1 | refine below_set ?_ GE427.out) | exact HB.out)⟩⟩
  case rest =>
    clear HC3
    try clear c2
    try clear p2
    try clear c4
    try clear c6
    try clear c7
    try clear c7b0
    try clear c7b1
    try clear hcz10_0
    try clear hcz10_1
    try clear hcz10_2
    try clear hcz8_0
    try clear hcz8_1
    try clear hcz8_2
    try clear hcz9_0
    try clear hcz9_1
    try clear hcz9_2
    try clear hfz10_0
    try clear hfz10_1
    try clear hfz10_2
    try clear hfz8_0
    try clear hfz8_1
    try clear hfz8_2
    try clear hfz9_0
    try clear hfz9_1
    try clear hfz9_2
    obtain ⟨kq, x24_2, rfl, HA, HJ2, BK427, HB⟩ := hcut
    cases kq with
    | zero => exact absurd HA.out (by simp [seedcornref14_Few.j0])
    | succ kj2 =>
      have H := HA.out
      clear HA
      simp only [seedcornref14_Few.j0] at H
      by_cases c11 : x24_2 = true
      · subst c11
        have H1 : (some false) = some r := by rw [if_pos rfl] at H; exact H
        clear H
        have H := H1
        clear H1
        obtain rfl := Option.some.inj H
        go_wp2
        go_ret
        exact ⟨by first | rfl | (simp [errW_none, errW_some] <;> rfl) | (simp [*, errW_none, errW_some] <;> rfl), by repeat (first | (with_reducible first | exact HB.out | apply below_alloc | apply pw_below_drewN | apply below_drew1 | refine below_set ?_ GE427.out) | exact HB.out)⟩
      · replace c11 := Bool.eq_false_iff.mpr c11
        subst c11
        have H1 : (seedcornref14_Few.l0 kj2 (wrap64 ((wrap64 ((wrap64 (a1 - (l0_0.length : Int))) - (l0_1.length : Int))) - (l0_2.length : Int))) 0 l0_0 l0_1 l0_2) = some r := by rw [if_neg (show ¬ (false = true) by decide)] at H; exact H
        clear H
        have H := H1
        clear H1
        have H' := Aside0.mk H
        clear H
        have hcz12_0 : wc.cell? ⟨gb427, 0, none⟩ = some (.slice A0_0 l0_0.length c0_0) := (blk_cell BK427.out 0).trans rfl
        have hcz12_1 : wc.cell? ⟨gb427, 1, none⟩ = some (.slice A0_1 l0_1.length c0_1) := (blk_cell BK427.out 1).trans rfl
        have hcz12_2 : wc.cell? ⟨gb427, 2, none⟩ = some (.slice A0_2 l0_2.length c0_2) := (blk_cell BK427.out 2).trans rfl
        have hfz12_0 := blk_frozen BK427.out 0
        have hfz12_1 := blk_frozen BK427.out 1
        have hfz12_2 := blk_frozen BK427.out 2
        go_wp2
        go_loopg [6] kj2 (fun kq v6 w' => ∃ (x6_2 : Int), v6 = .int .i64 x6_2 ∧ Aside0 (seedcornref14_Few.l0 kq (wrap64 ((wrap64 ((wrap64 (a1 - (l0_0.length : Int))) - (l0_1.length : Int))) - (l0_2.length : Int))) x6_2 l0_0 l0_1 l0_2 = some r) ∧ Aside0 (kq ≤ kj2) ∧ Aside0 (w'.heap[gb427]? = some (.cells #[(.slice A0_0 l0_0.length c0_0), (.slice A0_1 l0_1.length c0_1), (.slice A0_2 l0_2.length c0_2)] 26 (0, 0))) ∧ Aside0 (Below w.heap.size w w'))
        case atStart => exact ⟨(0), (by first | rfl | (simp; done) | (simp [*]; done)), H', ⟨Nat.le_refl _⟩, ⟨by (with_reducible repeat (first | refine blk_drewN ?_ _ | refine blk_drew ?_ | refine blk_alloc ?_ _)); exact BK427.out⟩, ⟨by repeat (first | (with_reducible first | exact HB.out | apply below_alloc | apply pw_below_drewN | apply below_drew1 | refine below_set ?_ GE427.out) | exact HB.out)⟩⟩
        case round =>
          clear H'
          try clear c1
          try clear c2
          try clear p2
          try clear c4
          try clear c6
          try clear p6
          try clear c7
          try clear c7b0
          try clear c7b1
          try clear c11
          try clear hcz10_0
          try clear hcz10_1
          try clear hcz10_2
          try clear hcz12_0
          try clear hcz12_1
          try clear hcz12_2
          try clear hcz8_0
          try clear hcz8_1
          try clear hcz8_2
          try clear hcz9_0
          try clear hcz9_1
          try clear hcz9_2
          try clear hfz10_0
          try clear hfz10_1
          try clear hfz10_2
          try clear hfz12_0
          try clear hfz12_1
          try clear hfz12_2
          try clear hfz8_0
          try clear hfz8_1
          try clear hfz8_2
          try clear hfz9_0
          try clear hfz9_1
          try clear hfz9_2
          try clear p2
          obtain ⟨x6_2, rfl, HA, HK2, BK427, HB⟩ := hrel
          cases gk with
          | zero => exact absurd HA.out (by simp [seedcornref14_Few.l0])
          | succ k2 =>
            have H := HA.out
            clear HA
            simp only [seedcornref14_Few.l0] at H
            by_cases c13 : x6_2 < (l0_1.length : Int)
            · rw [if_pos c13] at H
              have c13b0 : decide (x6_2 < (l0_1.length : Int)) = true := decide_eq_true c13
              clear c13
              by_cases c14 : 0 ≤ x6_2
              · rw [if_pos c14] at H
                have c14b0 : decide (0 ≤ x6_2) = true := decide_eq_true c14
                clear c14
                by_cases c15 : (((rd_T68 l0_1 x6_2).f0).size : Int) > 60
                · rw [if_pos c15] at H
                  have c15b0 : decide (60 < (((rd_T68 l0_1 x6_2).f0).size : Int)) = true := decide_eq_true c15
                  have c15b1 : decide (60 < ((rd_T68 l0_1 x6_2).f0).size) = true := decide_eq_true (by omega)
                  clear c15
                  obtain rfl := Option.some.inj H
                  have hcz16_0 : wr.cell? ⟨gb427, 0, none⟩ = some (.slice A0_0 l0_0.length c0_0) := (blk_cell BK427.out 0).trans rfl
                  have hcz16_1 : wr.cell? ⟨gb427, 1, none⟩ = some (.slice A0_1 l0_1.length c0_1) := (blk_cell BK427.out 1).trans rfl
                  have hcz16_2 : wr.cell? ⟨gb427, 2, none⟩ = some (.slice A0_2 l0_2.length c0_2) := (blk_cell BK427.out 2).trans rfl
                  have hfz16_0 := blk_frozen BK427.out 0
                  have hfz16_1 := blk_frozen BK427.out 1
                  have hfz16_2 := blk_frozen BK427.out 2
                  have p429 : 0 ≤ (x6_2 : Int) := of_decide_eq_true (by first | (with_reducible assumption) | assumption)
                  have q429 : x6_2 < (l0_1.length : Int) := of_decide_eq_true (by first | (with_reducible assumption) | assumption)
                  obtain ⟨ad429, e429, hx429_0, hx429_1⟩ := at_T68 HR0_1.out x6_2 p429 q429
                  cases e429
                  replace hx429_0 := (HB.out.cell (World.block_lt_of_cell? w _ hx429_0)).trans hx429_0
                  replace hx429_1 := (HB.out.cell (World.block_lt_of_cell? w _ hx429_1)).trans hx429_1
                  replace p429 := eq_true p429
                  replace q429 := eq_true q429
                  go_wp2
                  go_ret
                  exact ⟨by first | rfl | (simp [errW_none, errW_some] <;> rfl) | (simp [*, errW_none, errW_some] <;> rfl), by repeat (first | (with_reducible first | exact HB.out | apply below_alloc | apply pw_below_drewN | apply below_drew1 | refine below_set ?_ GE427.out) | exact HB.out)⟩
                · rw [if_neg c15] at H
                  have c15b0 : decide (60 < (((rd_T68 l0_1 x6_2).f0).size : Int)) = false := decide_eq_false c15
                  have c15b1 : decide (60 < ((rd_T68 l0_1 x6_2).f0).size) = false := decide_eq_false (by omega)
                  clear c15
                  have H' := Aside0.mk H
                  clear H
                  have hcz17_0 : wr.cell? ⟨gb427, 0, none⟩ = some (.slice A0_0 l0_0.length c0_0) := (blk_cell BK427.out 0).trans rfl
                  have hcz17_1 : wr.cell? ⟨gb427, 1, none⟩ = some (.slice A0_1 l0_1.length c0_1) := (blk_cell BK427.out 1).trans rfl
                  have hcz17_2 : wr.cell? ⟨gb427, 2, none⟩ = some (.slice A0_2 l0_2.length c0_2) := (blk_cell BK427.out 2).trans rfl
                  have hfz17_0 := blk_frozen BK427.out 0
                  have hfz17_1 := blk_frozen BK427.out 1
                  have hfz17_2 := blk_frozen BK427.out 2
                  have p429 : 0 ≤ (x6_2 : Int) := of_decide_eq_true (by first | (with_reducible assumption) | assumption)
                  have q429 : x6_2 < (l0_1.length : Int) := of_decide_eq_true (by first | (with_reducible assumption) | assumption)
                  obtain ⟨ad429, e429, hx429_0, hx429_1⟩ := at_T68 HR0_1.out x6_2 p429 q429
                  cases e429
                  replace hx429_0 := (HB.out.cell (World.block_lt_of_cell? w _ hx429_0)).trans hx429_0
                  replace hx429_1 := (HB.out.cell (World.block_lt_of_cell? w _ hx429_1)).trans hx429_1
                  replace p429 := eq_true p429
                  replace q429 := eq_true q429
                  go_wp2
                  go_roundg k2
                  case measure => have := HJ2.out; have := HK2.out; omega
                  case rel => exact ⟨(wrap64 (x6_2 + 1)), (by first | rfl | (simp; done) | (simp [*]; done)), H', ⟨by have := HJ2.out; have := HK2.out; omega⟩, ⟨by (with_reducible repeat (first | refine blk_drewN ?_ _ | refine blk_drew ?_ | refine blk_alloc ?_ _)); exact BK427.out⟩, ⟨by repeat (first | (with_reducible first | exact HB.out | apply below_alloc | apply pw_below_drewN | apply below_drew1 | refine below_set ?_ GE427.out) | exact HB.out)⟩⟩
              · rw [if_neg c14] at H
                exact absurd H (by simp)
            · rw [if_neg c13] at H
              have c13b0 : decide (x6_2 < (l0_1.length : Int)) = false := decide_eq_false c13
              clear c13
              have H' := Aside0.mk H
              clear H
              have hcz18_0 : wr.cell? ⟨gb427, 0, none⟩ = some (.slice A0_0 l0_0.length c0_0) := (blk_cell BK427.out 0).trans rfl
              have hcz18_1 : wr.cell? ⟨gb427, 1, none⟩ = some (.slice A0_1 l0_1.length c0_1) := (blk_cell BK427.out 1).trans rfl
              have hcz18_2 : wr.cell? ⟨gb427, 2, none⟩ = some (.slice A0_2 l0_2.length c0_2) := (blk_cell BK427.out 2).trans rfl
              have hfz18_0 := blk_frozen BK427.out 0
              have hfz18_1 := blk_frozen BK427.out 1
              have hfz18_2 := blk_frozen BK427.out 2
              go_wp2
              go_loopg [5, 7] k2 (fun kq v5 v7 w' => ∃ (x5_3 : Int) (x7_3 : Int), v5 = .int .i64 x5_3 ∧ v7 = .int .i64 x7_3 ∧ Aside0 (seedcornref14_Few.l1 kq x5_3 x7_3 l0_0 l0_1 l0_2 = some r) ∧ Aside0 (kq ≤ k2) ∧ Aside0 (w'.heap[gb427]? = some (.cells #[(.slice A0_0 l0_0.length c0_0), (.slice A0_1 l0_1.length c0_1), (.slice A0_2 l0_2.length c0_2)] 26 (0, 0))) ∧ Aside0 (Below w.heap.size w w'))
              case atStart => exact ⟨((wrap64 ((wrap64 ((wrap64 (a1 - (l0_0.length : Int))) - (l0_1.length : Int))) - (l0_2.length : Int)))), (0), (by first | rfl | (simp; done) | (simp [*]; done)), (by first | rfl | (simp; done) | (simp [*]; done)), H', ⟨Nat.le_refl _⟩, ⟨by (with_reducible repeat (first | refine blk_drewN ?_ _ | refine blk_drew ?_ | refine blk_alloc ?_ _)); exact BK427.out⟩, ⟨by repeat (first | (with_reducible first | exact HB.out | apply below_alloc | apply pw_below_drewN | apply below_drew1 | refine below_set ?_ GE427.out) | exact HB.out)⟩⟩
              case round =>
                clear H'
                try clear c1
                try clear c2
                try clear p2
                try clear c4
                try clear p4
                try clear q4
                try clear hx4
                try clear c6
                try clear p6
                try clear c7
                try clear c7b0
                try clear c7b1
                try clear c11
                try clear c13
                try clear c13b0
                try clear c14
                try clear c14b0
                try clear c15
                try clear c15b0
                try clear c15b1
                try clear hcz10_0
                try clear hcz10_1
                try clear hcz10_2
                try clear hcz12_0
                try clear hcz12_1
                try clear hcz12_2
                try clear hcz16_0
                try clear hcz16_1
                try clear hcz16_2
                try clear hcz17_0
                try clear hcz17_1
                try clear hcz17_2
                try clear hcz18_0
                try clear hcz18_1
                try clear hcz18_2
                try clear hcz8_0
                try clear hcz8_1
                try clear hcz8_2
                try clear hcz9_0
                try clear hcz9_1
                try clear hcz9_2
                try clear hfz10_0
                try clear hfz10_1
                try clear hfz10_2
                try clear hfz12_0
                try clear hfz12_1
                try clear hfz12_2
                try clear hfz16_0
                try clear hfz16_1
                try clear hfz16_2
                try clear hfz17_0
                try clear hfz17_1
                try clear hfz17_2
                try clear hfz18_0
                try clear hfz18_1
                try clear hfz18_2
                try clear hfz8_0
                try clear hfz8_1
                try clear hfz8_2
                try clear hfz9_0
                try clear hfz9_1
                try clear hfz9_2
                try clear hx429_0
                try clear hx429_1
                try clear p2
                try clear p429
                try clear p6
                try clear q429
                obtain ⟨x5_3, x7_3, rfl, rfl, HA, HK3, BK427, HB⟩ := hrel
                cases gk with
                | zero => exact absurd HA.out (by simp [seedcornref14_Few.l1])
                | succ k3 =>
                  have H := HA.out
                  clear HA
                  simp only [seedcornref14_Few.l1] at H
                  by_cases c19 : x7_3 < (l0_2.length : Int)
                  · rw [if_pos c19] at H
                    have c19b0 : decide (x7_3 < (l0_2.length : Int)) = true := decide_eq_true c19
                    clear c19
                    by_cases c20 : 0 ≤ x7_3
                    · rw [if_pos c20] at H
                      have c20b0 : decide (0 ≤ x7_3) = true := decide_eq_true c20
                      clear c20
                      replace H := Option.bind_eq_some_iff.mp H
                      obtain ⟨t432, A210, H⟩ := H
                      replace H : (if t432 = true then ((seedcornref14_short.f k3 ((rd_T40 l0_2 x7_3).f2)).bind fun t433 => (if t433 = true then (if (((rd_T40 l0_2 x7_3).f0).size : Int) > 60 then (some false) else ((seedcornref14_LeftStmts.f k3 ((rd_T40 l0_2 x7_3).f4) (wrap64 ((wrap64 (x5_3 - (((rd_T40 l0_2 x7_3).f1).length : Int))) - (((rd_T40 l0_2 x7_3).f2).length : Int))) 60).bind fun t434 => (seedcornref14_Few.l1 k3 t434 (wrap64 (x7_3 + 1)) l0_0 l0_1 l0_2))) else (some false))) else (some false)) = some r := H
                      have A21 := Aside0.mk A210
                      clear A210
                      by_cases c22 : t432 = true
                      · subst c22
                        have H1 : ((seedcornref14_short.f k3 ((rd_T40 l0_2 x7_3).f2)).bind fun t433 => (if t433 = true then (if (((rd_T40 l0_2 x7_3).f0).size : Int) > 60 then (some false) else ((seedcornref14_LeftStmts.f k3 ((rd_T40 l0_2 x7_3).f4) (wrap64 ((wrap64 (x5_3 - (((rd_T40 l0_2 x7_3).f1).length : Int))) - (((rd_T40 l0_2 x7_3).f2).length : Int))) 60).bind fun t434 => (seedcornref14_Few.l1 k3 t434 (wrap64 (x7_3 + 1)) l0_0 l0_1 l0_2))) else (some false))) = some r := by rw [if_pos rfl] at H; exact H
                        clear H
                        have H := H1
                        clear H1
                        replace H := Option.bind_eq_some_iff.mp H
                        obtain ⟨t433, A230, H⟩ := H
                        replace H : (if t433 = true then (if (((rd_T40 l0_2 x7_3).f0).size : Int) > 60 then (some false) else ((seedcornref14_LeftStmts.f k3 ((rd_T40 l0_2 x7_3).f4) (wrap64 ((wrap64 (x5_3 - (((rd_T40 l0_2 x7_3).f1).length : Int))) - (((rd_T40 l0_2 x7_3).f2).length : Int))) 60).bind fun t434 => (seedcornref14_Few.l1 k3 t434 (wrap64 (x7_3 + 1)) l0_0 l0_1 l0_2))) else (some false)) = some r := H
                        have A23 := Aside0.mk A230
                        clear A230
                        by_cases c24 : t433 = true
                        · subst c24
                          have H1 : (if (((rd_T40 l0_2 x7_3).f0).size : Int) > 60 then (some false) else ((seedcornref14_LeftStmts.f k3 ((rd_T40 l0_2 x7_3).f4) (wrap64 ((wrap64 (x5_3 - (((rd_T40 l0_2 x7_3).f1).length : Int))) - (((rd_T40 l0_2 x7_3).f2).length : Int))) 60).bind fun t434 => (seedcornref14_Few.l1 k3 t434 (wrap64 (x7_3 + 1)) l0_0 l0_1 l0_2))) = some r := by rw [if_pos rfl] at H; exact H
                          clear H
                          have H := H1
                          clear H1
                          by_cases c25 : (((rd_T40 l0_2 x7_3).f0).size : Int) > 60
                          · rw [if_pos c25] at H
                            have c25b0 : decide (60 < (((rd_T40 l0_2 x7_3).f0).size : Int)) = true := decide_eq_true c25
                            have c25b1 : decide (60 < ((rd_T40 l0_2 x7_3).f0).size) = true := decide_eq_true (by omega)
                            clear c25
                            obtain rfl := Option.some.inj H
                            have hcz26_0 : wr.cell? ⟨gb427, 0, none⟩ = some (.slice A0_0 l0_0.length c0_0) := (blk_cell BK427.out 0).trans rfl
                            have hcz26_1 : wr.cell? ⟨gb427, 1, none⟩ = some (.slice A0_1 l0_1.length c0_1) := (blk_cell BK427.out 1).trans rfl
                            have hcz26_2 : wr.cell? ⟨gb427, 2, none⟩ = some (.slice A0_2 l0_2.length c0_2) := (blk_cell BK427.out 2).trans rfl
                            have hfz26_0 := blk_frozen BK427.out 0
                            have hfz26_1 := blk_frozen BK427.out 1
                            have hfz26_2 := blk_frozen BK427.out 2
                            have p430 : 0 ≤ (x7_3 : Int) := of_decide_eq_true (by first | (with_reducible assumption) | assumption)
                            have q430 : x7_3 < (l0_2.length : Int) := of_decide_eq_true (by first | (with_reducible assumption) | assumption)
                            obtain ⟨ad430, A430_1, c430_1, A430_2, c430_2, A430_4, c430_4, e430, hx430_0, hx430_1, hx430_2, hx430_3, hx430_4, hl430_1, hi430_1, hl430_2, hi430_2, hl430_4, hi430_4⟩ := at_T40 HR0_2.out x7_3 p430 q430
                            cases e430
                            replace hx430_0 := (HB.out.cell (World.block_lt_of_cell? w _ hx430_0)).trans hx430_0
                            replace hx430_1 := (HB.out.cell (World.block_lt_of_cell? w _ hx430_1)).trans hx430_1
                            replace hx430_2 := (HB.out.cell (World.block_lt_of_cell? w _ hx430_2)).trans hx430_2
                            replace hx430_3 := (HB.out.cell (World.block_lt_of_cell? w _ hx430_3)).trans hx430_3
                            replace hx430_4 := (HB.out.cell (World.block_lt_of_cell? w _ hx430_4)).trans hx430_4
                            have HR430_1 := Aside0.mk hi430_1
                            have HC430_1 := Aside0.mk hl430_1
                            clear hi430_1 hl430_1
                            have HR430_2 := Aside0.mk hi430_2
                            have HC430_2 := Aside0.mk hl430_2
                            clear hi430_2 hl430_2
                            have HR430_4 := Aside0.mk hi430_4
                            have HC430_4 := Aside0.mk hl430_4
                            clear hi430_4 hl430_4
                            replace p430 := eq_true p430
                            replace q430 := eq_true q430
                            go_wp2_with (first | ((with_reducible refine gate_dst (N := 8) rfl ?_); (try (refine gate_guard (by rfl) ?_; dsimp only)); refine box_event ?hg (N := 8) ?hd (cs := #[.string (⟨#[]⟩ : ByteArray), .slice none 0 0, .slice none 0 0, .bool false, .slice none 0 0]) (t := 40) ?hr ?_; (case hd => rfl); (case hg => rfl); (case hr => first | (go_simp; done) | (go_simp; rfl)); intro gb431 hg w27 hbox hb; have n0_ := Aside0.mk (blk_below (g := gb427) (o := .cells #[.slice A0_0 l0_0.length c0_0, .slice A0_1 l0_1.length c0_1, .slice (some ad430) l0_2.length c0_2] 26 (0, 0)) (by (with_reducible repeat (first | refine blk_drewN ?_ _ | refine blk_drew ?_ | refine blk_alloc ?_ _)); exact BK427.out) hb); have n1_ := Aside0.mk (below_step (by repeat (first | (with_reducible first | exact HB.out | apply below_alloc | apply pw_below_drewN | apply below_drew1 | refine below_set ?_ GE427.out) | exact HB.out)) hb); have n2_ := Aside0.mk (hbox); have n3_ := Aside0.mk ((by rw [hg]; exact (below_size (by repeat (first | (with_reducible first | exact HB.out | apply below_alloc | apply pw_below_drewN | apply below_drew1 | refine below_set ?_ GE427.out) | exact HB.out))) : w.heap.size ≤ gb431)); have n4_ := Aside0.mk ((by rw [hg]; exact (below_size (by repeat (first | (with_reducible first | exact HB.out | apply below_alloc | apply pw_below_drewN | apply below_drew1 | refine below_set ?_ GE427.out) | exact HB.out))) : w.heap.size ≤ gb431)); have n5_ := Aside0.mk ((by rw [hg]; exact Nat.ne_of_lt (blk_lt (g := gb427) (o := .cells #[.slice A0_0 l0_0.length c0_0, .slice A0_1 l0_1.length c0_1, .slice (some ad430) l0_2.length c0_2] 26 (0, 0)) (by (with_reducible repeat (first | refine blk_drewN ?_ _ | refine blk_drew ?_ | refine blk_alloc ?_ _)); exact BK427.out)) : gb427 ≠ gb431)); have n6_ := Aside0.mk ((by rw [hg]; exact Nat.ne_of_gt (blk_lt (g := gb427) (o := .cells #[.slice A0_0 l0_0.length c0_0, .slice A0_1 l0_1.length c0_1, .slice (some ad430) l0_2.length c0_2] 26 (0, 0)) (by (with_reducible repeat (first | refine blk_drewN ?_ _ | refine blk_drew ?_ | refine blk_alloc ?_ _)); exact BK427.out)) : gb431 ≠ gb427)); clear BK427; clear HB; have BK427 := n0_; have HB := n1_; have BK431 := n2_; have GW431 := n3_; have GE431 := n4_; have NB427_431 := n5_; have NB431_427 := n6_; clear n0_ n1_ n2_ n3_ n4_ n5_ n6_; clear hb hbox hg; have hnb28 := NB431_427.out; have hnc28 := NB427_431.out; have hcz29_0 : w27.cell? ⟨gb431, 0, none⟩ = some (.string (⟨#[]⟩ : ByteArray)) := (blk_cell BK431.out 0).trans rfl; have hcz29_1 : w27.cell? ⟨gb431, 1, none⟩ = some (.slice none 0 0) := (blk_cell BK431.out 1).trans rfl; have hcz29_2 : w27.cell? ⟨gb431, 2, none⟩ = some (.slice none 0 0) := (blk_cell BK431.out 2).trans rfl; have hcz29_3 : w27.cell? ⟨gb431, 3, none⟩ = some (.bool false) := (blk_cell BK431.out 3).trans rfl; have hcz29_4 : w27.cell? ⟨gb431, 4, none⟩ = some (.slice none 0 0) := (blk_cell BK431.out 4).trans rfl; have hfz29_0 := blk_frozen BK431.out 0; have hfz29_1 := blk_frozen BK431.out 1; have hfz29_2 := blk_frozen BK431.out 2; have hfz29_3 := blk_frozen BK431.out 3; have hfz29_4 := blk_frozen BK431.out 4) | ((with_reducible refine gate_callee (f := 47) rfl ?_); refine goesL_ (some 67) rfl rfl Try.func47 (by kernel_rfl) rfl #[.slice A430_1 ((rd_T40 l0_2 x7_3).f1).length c430_1] rfl (by (try simp only [List.map_toArray, List.map_cons, List.map_nil]); first | done | rfl | (simp only [List.length_drop, List.length_take]; rfl)) ?_; (with_reducible refine (seedcornref14_short.calls k3 _ _ ((rd_T40 l0_2 x7_3).f1) true _ ?side1 ?side2 A21.out).mono ?_); (case side1 => exact Kd.C_below HR430_1.out (by repeat (first | (with_reducible first | exact HB.out | apply below_alloc | apply pw_below_drewN | apply below_drew1 | refine below_set ?_ GE427.out | refine below_set ?_ GE431.out) | exact HB.out))); (case side2 => exact HC430_1.out); rintro e w' ⟨rfl, ⟨nd, rfl⟩⟩; refine ⟨_, rfl, ?_⟩) | (go_at_call 47; (with_reducible refine (seedcornref14_short.calls k3 _ _ ((rd_T40 l0_2 x7_3).f2) true _ ?side1 ?side2 A23.out).mono ?_); (case side1 => exact Kd.C_below HR430_2.out (by repeat (first | (with_reducible first | exact HB.out | apply below_alloc | apply pw_below_drewN | apply below_drew1 | refine below_set ?_ GE427.out | refine below_set ?_ GE431.out) | exact HB.out))); (case side2 => exact HC430_2.out); rintro e w' ⟨rfl, ⟨nd, rfl⟩⟩))
                            go_ret
                            exact ⟨by first | rfl | (simp [errW_none, errW_some] <;> rfl) | (simp [*, errW_none, errW_some] <;> rfl), by repeat (first | (with_reducible first | exact HB.out | apply below_alloc | apply pw_below_drewN | apply below_drew1 | refine below_set ?_ GE427.out | refine below_set ?_ GE431.out) | exact HB.out)⟩
                          · rw [if_neg c25] at H
                            have c25b0 : decide (60 < (((rd_T40 l0_2 x7_3).f0).size : Int)) = false := decide_eq_false c25
                            have c25b1 : decide (60 < ((rd_T40 l0_2 x7_3).f0).size) = false := decide_eq_false (by omega)
                            clear c25
                            replace H := Option.bind_eq_some_iff.mp H
                            obtain ⟨t434, A300, H⟩ := H
                            replace H : (seedcornref14_Few.l1 k3 t434 (wrap64 (x7_3 + 1)) l0_0 l0_1 l0_2) = some r := H
                            have A30 := Aside0.mk A300
                            clear A300
                            have H' := Aside0.mk H
                            clear H
                            have hcz31_0 : wr.cell? ⟨gb427, 0, none⟩ = some (.slice A0_0 l0_0.length c0_0) := (blk_cell BK427.out 0).trans rfl
                            have hcz31_1 : wr.cell? ⟨gb427, 1, none⟩ = some (.slice A0_1 l0_1.length c0_1) := (blk_cell BK427.out 1).trans rfl
                            have hcz31_2 : wr.cell? ⟨gb427, 2, none⟩ = some (.slice A0_2 l0_2.length c0_2) := (blk_cell BK427.out 2).trans rfl
                            have hfz31_0 := blk_frozen BK427.out 0
                            have hfz31_1 := blk_frozen BK427.out 1
                            have hfz31_2 := blk_frozen BK427.out 2
                            have p430 : 0 ≤ (x7_3 : Int) := of_decide_eq_true (by first | (with_reducible assumption) | assumption)
                            have q430 : x7_3 < (l0_2.length : Int) := of_decide_eq_true (by first | (with_reducible assumption) | assumption)
                            obtain ⟨ad430, A430_1, c430_1, A430_2, c430_2, A430_4, c430_4, e430, hx430_0, hx430_1, hx430_2, hx430_3, hx430_4, hl430_1, hi430_1, hl430_2, hi430_2, hl430_4, hi430_4⟩ := at_T40 HR0_2.out x7_3 p430 q430
                            cases e430
                            replace hx430_0 := (HB.out.cell (World.block_lt_of_cell? w _ hx430_0)).trans hx430_0
                            replace hx430_1 := (HB.out.cell (World.block_lt_of_cell? w _ hx430_1)).trans hx430_1
                            replace hx430_2 := (HB.out.cell (World.block_lt_of_cell? w _ hx430_2)).trans hx430_2
                            replace hx430_3 := (HB.out.cell (World.block_lt_of_cell? w _ hx430_3)).trans hx430_3
                            replace hx430_4 := (HB.out.cell (World.block_lt_of_cell? w _ hx430_4)).trans hx430_4
                            have HR430_1 := Aside0.mk hi430_1
                            have HC430_1 := Aside0.mk hl430_1
                            clear hi430_1 hl430_1
                            have HR430_2 := Aside0.mk hi430_2
                            have HC430_2 := Aside0.mk hl430_2
                            clear hi430_2 hl430_2
                            have HR430_4 := Aside0.mk hi430_4
                            have HC430_4 := Aside0.mk hl430_4
                            clear hi430_4 hl430_4
                            replace p430 := eq_true p430
                            replace q430 := eq_true q430
                            go_wp2_with (first | ((with_reducible refine gate_dst (N := 8) rfl ?_); (try (refine gate_guard (by rfl) ?_; dsimp only)); refine box_event ?hg (N := 8) ?hd (cs := #[.string (⟨#[]⟩ : ByteArray), .slice none 0 0, .slice none 0 0, .bool false, .slice none 0 0]) (t := 40) ?hr ?_; (case hd => rfl); (case hg => rfl); (case hr => first | (go_simp; done) | (go_simp; rfl)); intro gb431 hg w32 hbox hb; have n0_ := Aside0.mk (blk_below (g := gb427) (o := .cells #[.slice A0_0 l0_0.length c0_0, .slice A0_1 l0_1.length c0_1, .slice (some ad430) l0_2.length c0_2] 26 (0, 0)) (by (with_reducible repeat (first | refine blk_drewN ?_ _ | refine blk_drew ?_ | refine blk_alloc ?_ _)); exact BK427.out) hb); have n1_ := Aside0.mk (below_step (by repeat (first | (with_reducible first | exact HB.out | apply below_alloc | apply pw_below_drewN | apply below_drew1 | refine below_set ?_ GE427.out) | exact HB.out)) hb); have n2_ := Aside0.mk (hbox); have n3_ := Aside0.mk ((by rw [hg]; exact (below_size (by repeat (first | (with_reducible first | exact HB.out | apply below_alloc | apply pw_below_drewN | apply below_drew1 | refine below_set ?_ GE427.out) | exact HB.out))) : w.heap.size ≤ gb431)); have n4_ := Aside0.mk ((by rw [hg]; exact (below_size (by repeat (first | (with_reducible first | exact HB.out | apply below_alloc | apply pw_below_drewN | apply below_drew1 | refine below_set ?_ GE427.out) | exact HB.out))) : w.heap.size ≤ gb431)); have n5_ := Aside0.mk ((by rw [hg]; exact Nat.ne_of_lt (blk_lt (g := gb427) (o := .cells #[.slice A0_0 l0_0.length c0_0, .slice A0_1 l0_1.length c0_1, .slice (some ad430) l0_2.length c0_2] 26 (0, 0)) (by (with_reducible repeat (first | refine blk_drewN ?_ _ | refine blk_drew ?_ | refine blk_alloc ?_ _)); exact BK427.out)) : gb427 ≠ gb431)); have n6_ := Aside0.mk ((by rw [hg]; exact Nat.ne_of_gt (blk_lt (g := gb427) (o := .cells #[.slice A0_0 l0_0.length c0_0, .slice A0_1 l0_1.length c0_1, .slice (some ad430) l0_2.length c0_2] 26 (0, 0)) (by (with_reducible repeat (first | refine blk_drewN ?_ _ | refine blk_drew ?_ | refine blk_alloc ?_ _)); exact BK427.out)) : gb431 ≠ gb427)); clear BK427; clear HB; have BK427 := n0_; have HB := n1_; have BK431 := n2_; have GW431 := n3_; have GE431 := n4_; have NB427_431 := n5_; have NB431_427 := n6_; clear n0_ n1_ n2_ n3_ n4_ n5_ n6_; clear hb hbox hg; have hnb33 := NB431_427.out; have hnc33 := NB427_431.out; have hcz34_0 : w32.cell? ⟨gb431, 0, none⟩ = some (.string (⟨#[]⟩ : ByteArray)) := (blk_cell BK431.out 0).trans rfl; have hcz34_1 : w32.cell? ⟨gb431, 1, none⟩ = some (.slice none 0 0) := (blk_cell BK431.out 1).trans rfl; have hcz34_2 : w32.cell? ⟨gb431, 2, none⟩ = some (.slice none 0 0) := (blk_cell BK431.out 2).trans rfl; have hcz34_3 : w32.cell? ⟨gb431, 3, none⟩ = some (.bool false) := (blk_cell BK431.out 3).trans rfl; have hcz34_4 : w32.cell? ⟨gb431, 4, none⟩ = some (.slice none 0 0) := (blk_cell BK431.out 4).trans rfl; have hfz34_0 := blk_frozen BK431.out 0; have hfz34_1 := blk_frozen BK431.out 1; have hfz34_2 := blk_frozen BK431.out 2; have hfz34_3 := blk_frozen BK431.out 3; have hfz34_4 := blk_frozen BK431.out 4) | ((with_reducible refine gate_callee (f := 47) rfl ?_); refine goesL_ (some 67) rfl rfl Try.func47 (by kernel_rfl) rfl #[.slice A430_1 ((rd_T40 l0_2 x7_3).f1).length c430_1] rfl (by (try simp only [List.map_toArray, List.map_cons, List.map_nil]); first | done | rfl | (simp only [List.length_drop, List.length_take]; rfl)) ?_; (with_reducible refine (seedcornref14_short.calls k3 _ _ ((rd_T40 l0_2 x7_3).f1) true _ ?side1 ?side2 A21.out).mono ?_); (case side1 => exact Kd.C_below HR430_1.out (by repeat (first | (with_reducible first | exact HB.out | apply below_alloc | apply pw_below_drewN | apply below_drew1 | refine below_set ?_ GE427.out | refine below_set ?_ GE431.out) | exact HB.out))); (case side2 => exact HC430_1.out); rintro e w' ⟨rfl, ⟨nd, rfl⟩⟩; refine ⟨_, rfl, ?_⟩) | (go_at_call 47; (with_reducible refine (seedcornref14_short.calls k3 _ _ ((rd_T40 l0_2 x7_3).f2) true _ ?side1 ?side2 A23.out).mono ?_); (case side1 => exact Kd.C_below HR430_2.out (by repeat (first | (with_reducible first | exact HB.out | apply below_alloc | apply pw_below_drewN | apply below_drew1 | refine below_set ?_ GE427.out | refine below_set ?_ GE431.out) | exact HB.out))); (case side2 => exact HC430_2.out); rintro e w' ⟨rfl, ⟨nd, rfl⟩⟩) | ((with_reducible refine gate_callee (f := 48) rfl ?_); refine goesL_ (some 92) rfl rfl Try.func48 (by kernel_rfl) rfl #[.slice A430_4 ((rd_T40 l0_2 x7_3).f4).length c430_4, .int .i64 (wrap64 ((wrap64 (x5_3 - (((rd_T40 l0_2 x7_3).f1).length : Int))) - (((rd_T40 l0_2 x7_3).f2).length : Int))), .int .i64 60] rfl (by (try simp only [List.map_toArray, List.map_cons, List.map_nil]); first | done | rfl | (simp only [List.length_drop, List.length_take]; rfl)) ?_; (with_reducible refine (seedcornref14_LeftStmts.calls k3 _ _ ((rd_T40 l0_2 x7_3).f4) (wrap64 ((wrap64 (x5_3 - (((rd_T40 l0_2 x7_3).f1).length : Int))) - (((rd_T40 l0_2 x7_3).f2).length : Int))) 60 t434 _ ?side1 ?side2 A30.out).mono ?_); (case side1 => exact Kd.C_below HR430_4.out (by repeat (first | (with_reducible first | exact HB.out | apply below_alloc | apply pw_below_drewN | apply below_drew1 | refine below_set ?_ GE427.out | refine below_set ?_ GE431.out) | exact HB.out))); (case side2 => exact HC430_4.out); rintro e w' ⟨rfl, ⟨nd, rfl⟩⟩; refine ⟨_, rfl, ?_⟩))
                            go_roundg k3
                            case measure => have := HJ2.out; have := HK2.out; have := HK3.out; omega
                            case rel => exact ⟨(t434), (wrap64 (x7_3 + 1)), (by first | rfl | (simp; done) | (simp [*]; done)), (by first | rfl | (simp; done) | (simp [*]; done)), H', ⟨by have := HJ2.out; have := HK2.out; have := HK3.out; omega⟩, ⟨by (with_reducible repeat (first | refine blk_drewN ?_ _ | refine blk_drew ?_ | refine blk_alloc ?_ _)); refine blk_far ?_ NB427_431.out _; (with_reducible repeat (first | refine blk_drewN ?_ _ | refine blk_drew ?_ | refine blk_alloc ?_ _)); refine blk_far ?_ NB427_431.out _; (with_reducible repeat (first | refine blk_drewN ?_ _ | refine blk_drew ?_ | refine blk_alloc ?_ _)); refine blk_far ?_ NB427_431.out _; (with_reducible repeat (first | refine blk_drewN ?_ _ | refine blk_drew ?_ | refine blk_alloc ?_ _)); refine blk_far ?_ NB427_431.out _; (with_reducible repeat (first | refine blk_drewN ?_ _ | refine blk_drew ?_ | refine blk_alloc ?_ _)); refine blk_far ?_ NB427_431.out _; (with_reducible repeat (first | refine blk_drewN ?_ _ | refine blk_drew ?_ | refine blk_alloc ?_ _)); exact BK427.out⟩, ⟨by repeat (first | (with_reducible first | exact HB.out | apply below_alloc | apply pw_below_drewN | apply below_drew1 | refine below_set ?_ GE427.out | refine below_set ?_ GE431.out) | exact HB.out)⟩⟩
                        · replace c24 := Bool.eq_false_iff.mpr c24
                          subst c24
                          have H1 : (some false) = some r := by rw [if_neg (show ¬ (false = true) by decide)] at H; exact H
                          clear H
                          have H := H1
                          clear H1
                          obtain rfl := Option.some.inj H
                          have hcz35_0 : wr.cell? ⟨gb427, 0, none⟩ = some (.slice A0_0 l0_0.length c0_0) := (blk_cell BK427.out 0).trans rfl
                          have hcz35_1 : wr.cell? ⟨gb427, 1, none⟩ = some (.slice A0_1 l0_1.length c0_1) := (blk_cell BK427.out 1).trans rfl
                          have hcz35_2 : wr.cell? ⟨gb427, 2, none⟩ = some (.slice A0_2 l0_2.length c0_2) := (blk_cell BK427.out 2).trans rfl
                          have hfz35_0 := blk_frozen BK427.out 0
                          have hfz35_1 := blk_frozen BK427.out 1
                          have hfz35_2 := blk_frozen BK427.out 2
                          have p430 : 0 ≤ (x7_3 : Int) := of_decide_eq_true (by first | (with_reducible assumption) | assumption)
                          have q430 : x7_3 < (l0_2.length : Int) := of_decide_eq_true (by first | (with_reducible assumption) | assumption)
                          obtain ⟨ad430, A430_1, c430_1, A430_2, c430_2, A430_4, c430_4, e430, hx430_0, hx430_1, hx430_2, hx430_3, hx430_4, hl430_1, hi430_1, hl430_2, hi430_2, hl430_4, hi430_4⟩ := at_T40 HR0_2.out x7_3 p430 q430
                          cases e430
                          replace hx430_0 := (HB.out.cell (World.block_lt_of_cell? w _ hx430_0)).trans hx430_0
                          replace hx430_1 := (HB.out.cell (World.block_lt_of_cell? w _ hx430_1)).trans hx430_1
                          replace hx430_2 := (HB.out.cell (World.block_lt_of_cell? w _ hx430_2)).trans hx430_2
                          replace hx430_3 := (HB.out.cell (World.block_lt_of_cell? w _ hx430_3)).trans hx430_3
                          replace hx430_4 := (HB.out.cell (World.block_lt_of_cell? w _ hx430_4)).trans hx430_4
                          have HR430_1 := Aside0.mk hi430_1
                          have HC430_1 := Aside0.mk hl430_1
                          clear hi430_1 hl430_1
                          have HR430_2 := Aside0.mk hi430_2
                          have HC430_2 := Aside0.mk hl430_2
                          clear hi430_2 hl430_2
                          have HR430_4 := Aside0.mk hi430_4
                          have HC430_4 := Aside0.mk hl430_4
                          clear hi430_4 hl430_4
                          replace p430 := eq_true p430
                          replace q430 := eq_true q430
                          go_wp2_with (first | ((with_reducible refine gate_dst (N := 8) rfl ?_); (try (refine gate_guard (by rfl) ?_; dsimp only)); refine box_event ?hg (N := 8) ?hd (cs := #[.string (⟨#[]⟩ : ByteArray), .slice none 0 0, .slice none 0 0, .bool false, .slice none 0 0]) (t := 40) ?hr ?_; (case hd => rfl); (case hg => rfl); (case hr => first | (go_simp; done) | (go_simp; rfl)); intro gb431 hg w36 hbox hb; have n0_ := Aside0.mk (blk_below (g := gb427) (o := .cells #[.slice A0_0 l0_0.length c0_0, .slice A0_1 l0_1.length c0_1, .slice (some ad430) l0_2.length c0_2] 26 (0, 0)) (by (with_reducible repeat (first | refine blk_drewN ?_ _ | refine blk_drew ?_ | refine blk_alloc ?_ _)); exact BK427.out) hb); have n1_ := Aside0.mk (below_step (by repeat (first | (with_reducible first | exact HB.out | apply below_alloc | apply pw_below_drewN | apply below_drew1 | refine below_set ?_ GE427.out) | exact HB.out)) hb); have n2_ := Aside0.mk (hbox); have n3_ := Aside0.mk ((by rw [hg]; exact (below_size (by repeat (first | (with_reducible first | exact HB.out | apply below_alloc | apply pw_below_drewN | apply below_drew1 | refine below_set ?_ GE427.out) | exact HB.out))) : w.heap.size ≤ gb431)); have n4_ := Aside0.mk ((by rw [hg]; exact (below_size (by repeat (first | (with_reducible first | exact HB.out | apply below_alloc | apply pw_below_drewN | apply below_drew1 | refine below_set ?_ GE427.out) | exact HB.out))) : w.heap.size ≤ gb431)); have n5_ := Aside0.mk ((by rw [hg]; exact Nat.ne_of_lt (blk_lt (g := gb427) (o := .cells #[.slice A0_0 l0_0.length c0_0, .slice A0_1 l0_1.length c0_1, .slice (some ad430) l0_2.length c0_2] 26 (0, 0)) (by (with_reducible repeat (first | refine blk_drewN ?_ _ | refine blk_drew ?_ | refine blk_alloc ?_ _)); exact BK427.out)) : gb427 ≠ gb431)); have n6_ := Aside0.mk ((by rw [hg]; exact Nat.ne_of_gt (blk_lt (g := gb427) (o := .cells #[.slice A0_0 l0_0.length c0_0, .slice A0_1 l0_1.length c0_1, .slice (some ad430) l0_2.length c0_2] 26 (0, 0)) (by (with_reducible repeat (first | refine blk_drewN ?_ _ | refine blk_drew ?_ | refine blk_alloc ?_ _)); exact BK427.out)) : gb431 ≠ gb427)); clear BK427; clear HB; have BK427 := n0_; have HB := n1_; have BK431 := n2_; have GW431 := n3_; have GE431 := n4_; have NB427_431 := n5_; have NB431_427 := n6_; clear n0_ n1_ n2_ n3_ n4_ n5_ n6_; clear hb hbox hg; have hnb37 := NB431_427.out; have hnc37 := NB427_431.out; have hcz38_0 : w36.cell? ⟨gb431, 0, none⟩ = some (.string (⟨#[]⟩ : ByteArray)) := (blk_cell BK431.out 0).trans rfl; have hcz38_1 : w36.cell? ⟨gb431, 1, none⟩ = some (.slice none 0 0) := (blk_cell BK431.out 1).trans rfl; have hcz38_2 : w36.cell? ⟨gb431, 2, none⟩ = some (.slice none 0 0) := (blk_cell BK431.out 2).trans rfl; have hcz38_3 : w36.cell? ⟨gb431, 3, none⟩ = some (.bool false) := (blk_cell BK431.out 3).trans rfl; have hcz38_4 : w36.cell? ⟨gb431, 4, none⟩ = some (.slice none 0 0) := (blk_cell BK431.out 4).trans rfl; have hfz38_0 := blk_frozen BK431.out 0; have hfz38_1 := blk_frozen BK431.out 1; have hfz38_2 := blk_frozen BK431.out 2; have hfz38_3 := blk_frozen BK431.out 3; have hfz38_4 := blk_frozen BK431.out 4) | ((with_reducible refine gate_callee (f := 47) rfl ?_); refine goesL_ (some 67) rfl rfl Try.func47 (by kernel_rfl) rfl #[.slice A430_1 ((rd_T40 l0_2 x7_3).f1).length c430_1] rfl (by (try simp only [List.map_toArray, List.map_cons, List.map_nil]); first | done | rfl | (simp only [List.length_drop, List.length_take]; rfl)) ?_; (with_reducible refine (seedcornref14_short.calls k3 _ _ ((rd_T40 l0_2 x7_3).f1) true _ ?side1 ?side2 A21.out).mono ?_); (case side1 => exact Kd.C_below HR430_1.out (by repeat (first | (with_reducible first | exact HB.out | apply below_alloc | apply pw_below_drewN | apply below_drew1 | refine below_set ?_ GE427.out | refine below_set ?_ GE431.out) | exact HB.out))); (case side2 => exact HC430_1.out); rintro e w' ⟨rfl, ⟨nd, rfl⟩⟩; refine ⟨_, rfl, ?_⟩) | (go_at_call 47; (with_reducible refine (seedcornref14_short.calls k3 _ _ ((rd_T40 l0_2 x7_3).f2) false _ ?side1 ?side2 A23.out).mono ?_); (case side1 => exact Kd.C_below HR430_2.out (by repeat (first | (with_reducible first | exact HB.out | apply below_alloc | apply pw_below_drewN | apply below_drew1 | refine below_set ?_ GE427.out | refine below_set ?_ GE431.out) | exact HB.out))); (case side2 => exact HC430_2.out); rintro e w' ⟨rfl, ⟨nd, rfl⟩⟩))
                          go_ret
                          exact ⟨by first | rfl | (simp [errW_none, errW_some] <;> rfl) | (simp [*, errW_none, errW_some] <;> rfl), by repeat (first | (with_reducible first | exact HB.out | apply below_alloc | apply pw_below_drewN | apply below_drew1 | refine below_set ?_ GE427.out | refine below_set ?_ GE431.out) | exact HB.out)⟩
                      · replace c22 := Bool.eq_false_iff.mpr c22
                        subst c22
                        have H1 : (some false) = some r := by rw [if_neg (show ¬ (false = true) by decide)] at H; exact H
                        clear H
                        have H := H1
                        clear H1
                        obtain rfl := Option.some.inj H
                        have hcz39_0 : wr.cell? ⟨gb427, 0, none⟩ = some (.slice A0_0 l0_0.length c0_0) := (blk_cell BK427.out 0).trans rfl
                        have hcz39_1 : wr.cell? ⟨gb427, 1, none⟩ = some (.slice A0_1 l0_1.length c0_1) := (blk_cell BK427.out 1).trans rfl
                        have hcz39_2 : wr.cell? ⟨gb427, 2, none⟩ = some (.slice A0_2 l0_2.length c0_2) := (blk_cell BK427.out 2).trans rfl
                        have hfz39_0 := blk_frozen BK427.out 0
                        have hfz39_1 := blk_frozen BK427.out 1
                        have hfz39_2 := blk_frozen BK427.out 2
                        have p430 : 0 ≤ (x7_3 : Int) := of_decide_eq_true (by first | (with_reducible assumption) | assumption)
                        have q430 : x7_3 < (l0_2.length : Int) := of_decide_eq_true (by first | (with_reducible assumption) | assumption)
                        obtain ⟨ad430, A430_1, c430_1, A430_2, c430_2, A430_4, c430_4, e430, hx430_0, hx430_1, hx430_2, hx430_3, hx430_4, hl430_1, hi430_1, hl430_2, hi430_2, hl430_4, hi430_4⟩ := at_T40 HR0_2.out x7_3 p430 q430
                        cases e430
                        replace hx430_0 := (HB.out.cell (World.block_lt_of_cell? w _ hx430_0)).trans hx430_0
                        replace hx430_1 := (HB.out.cell (World.block_lt_of_cell? w _ hx430_1)).trans hx430_1
                        replace hx430_2 := (HB.out.cell (World.block_lt_of_cell? w _ hx430_2)).trans hx430_2
                        replace hx430_3 := (HB.out.cell (World.block_lt_of_cell? w _ hx430_3)).trans hx430_3
                        replace hx430_4 := (HB.out.cell (World.block_lt_of_cell? w _ hx430_4)).trans hx430_4
                        have HR430_1 := Aside0.mk hi430_1
                        have HC430_1 := Aside0.mk hl430_1
                        clear hi430_1 hl430_1
                        have HR430_2 := Aside0.mk hi430_2
                        have HC430_2 := Aside0.mk hl430_2
                        clear hi430_2 hl430_2
                        have HR430_4 := Aside0.mk hi430_4
                        have HC430_4 := Aside0.mk hl430_4
                        clear hi430_4 hl430_4
                        replace p430 := eq_true p430
                        replace q430 := eq_true q430
                        go_wp2_with (first | ((with_reducible refine gate_dst (N := 8) rfl ?_); (try (refine gate_guard (by rfl) ?_; dsimp only)); refine box_event ?hg (N := 8) ?hd (cs := #[.string (⟨#[]⟩ : ByteArray), .slice none 0 0, .slice none 0 0, .bool false, .slice none 0 0]) (t := 40) ?hr ?_; (case hd => rfl); (case hg => rfl); (case hr => first | (go_simp; done) | (go_simp; rfl)); intro gb431 hg w40 hbox hb; have n0_ := Aside0.mk (blk_below (g := gb427) (o := .cells #[.slice A0_0 l0_0.length c0_0, .slice A0_1 l0_1.length c0_1, .slice (some ad430) l0_2.length c0_2] 26 (0, 0)) (by (with_reducible repeat (first | refine blk_drewN ?_ _ | refine blk_drew ?_ | refine blk_alloc ?_ _)); exact BK427.out) hb); have n1_ := Aside0.mk (below_step (by repeat (first | (with_reducible first | exact HB.out | apply below_alloc | apply pw_below_drewN | apply below_drew1 | refine below_set ?_ GE427.out) | exact HB.out)) hb); have n2_ := Aside0.mk (hbox); have n3_ := Aside0.mk ((by rw [hg]; exact (below_size (by repeat (first | (with_reducible first | exact HB.out | apply below_alloc | apply pw_below_drewN | apply below_drew1 | refine below_set ?_ GE427.out) | exact HB.out))) : w.heap.size ≤ gb431)); have n4_ := Aside0.mk ((by rw [hg]; exact (below_size (by repeat (first | (with_reducible first | exact HB.out | apply below_alloc | apply pw_below_drewN | apply below_drew1 | refine below_set ?_ GE427.out) | exact HB.out))) : w.heap.size ≤ gb431)); have n5_ := Aside0.mk ((by rw [hg]; exact Nat.ne_of_lt (blk_lt (g := gb427) (o := .cells #[.slice A0_0 l0_0.length c0_0, .slice A0_1 l0_1.length c0_1, .slice (some ad430) l0_2.length c0_2] 26 (0, 0)) (by (with_reducible repeat (first | refine blk_drewN ?_ _ | refine blk_drew ?_ | refine blk_alloc ?_ _)); exact BK427.out)) : gb427 ≠ gb431)); have n6_ := Aside0.mk ((by rw [hg]; exact Nat.ne_of_gt (blk_lt (g := gb427) (o := .cells #[.slice A0_0 l0_0.length c0_0, .slice A0_1 l0_1.length c0_1, .slice (some ad430) l0_2.length c0_2] 26 (0, 0)) (by (with_reducible repeat (first | refine blk_drewN ?_ _ | refine blk_drew ?_ | refine blk_alloc ?_ _)); exact BK427.out)) : gb431 ≠ gb427)); clear BK427; clear HB; have BK427 := n0_; have HB := n1_; have BK431 := n2_; have GW431 := n3_; have GE431 := n4_; have NB427_431 := n5_; have NB431_427 := n6_; clear n0_ n1_ n2_ n3_ n4_ n5_ n6_; clear hb hbox hg; have hnb41 := NB431_427.out; have hnc41 := NB427_431.out; have hcz42_0 : w40.cell? ⟨gb431, 0, none⟩ = some (.string (⟨#[]⟩ : ByteArray)) := (blk_cell BK431.out 0).trans rfl; have hcz42_1 : w40.cell? ⟨gb431, 1, none⟩ = some (.slice none 0 0) := (blk_cell BK431.out 1).trans rfl; have hcz42_2 : w40.cell? ⟨gb431, 2, none⟩ = some (.slice none 0 0) := (blk_cell BK431.out 2).trans rfl; have hcz42_3 : w40.cell? ⟨gb431, 3, none⟩ = some (.bool false) := (blk_cell BK431.out 3).trans rfl; have hcz42_4 : w40.cell? ⟨gb431, 4, none⟩ = some (.slice none 0 0) := (blk_cell BK431.out 4).trans rfl; have hfz42_0 := blk_frozen BK431.out 0; have hfz42_1 := blk_frozen BK431.out 1; have hfz42_2 := blk_frozen BK431.out 2; have hfz42_3 := blk_frozen BK431.out 3; have hfz42_4 := blk_frozen BK431.out 4) | ((with_reducible refine gate_callee (f := 47) rfl ?_); refine goesL_ (some 67) rfl rfl Try.func47 (by kernel_rfl) rfl #[.slice A430_1 ((rd_T40 l0_2 x7_3).f1).length c430_1] rfl (by (try simp only [List.map_toArray, List.map_cons, List.map_nil]); first | done | rfl | (simp only [List.length_drop, List.length_take]; rfl)) ?_; (with_reducible refine (seedcornref14_short.calls k3 _ _ ((rd_T40 l0_2 x7_3).f1) false _ ?side1 ?side2 A21.out).mono ?_); (case side1 => exact Kd.C_below HR430_1.out (by repeat (first | (with_reducible first | exact HB.out | apply below_alloc | apply pw_below_drewN | apply below_drew1 | refine below_set ?_ GE427.out | refine below_set ?_ GE431.out) | exact HB.out))); (case side2 => exact HC430_1.out); rintro e w' ⟨rfl, ⟨nd, rfl⟩⟩; refine ⟨_, rfl, ?_⟩))
                        go_ret
                        exact ⟨by first | rfl | (simp [errW_none, errW_some] <;> rfl) | (simp [*, errW_none, errW_some] <;> rfl), by repeat (first | (with_reducible first | exact HB.out | apply below_alloc | apply pw_below_drewN | apply below_drew1 | refine below_set ?_ GE427.out | refine below_set ?_ GE431.out) | exact HB.out)⟩
                    · rw [if_neg c20] at H
                      exact absurd H (by simp)
                  · rw [if_neg c19] at H
                    have c19b0 : decide (x7_3 < (l0_2.length : Int)) = false := decide_eq_false c19
                    clear c19
                    obtain rfl := Option.some.inj H
                    have hcz43_0 : wr.cell? ⟨gb427, 0, none⟩ = some (.slice A0_0 l0_0.length c0_0) := (blk_cell BK427.out 0).trans rfl
                    have hcz43_1 : wr.cell? ⟨gb427, 1, none⟩ = some (.slice A0_1 l0_1.length c0_1) := (blk_cell BK427.out 1).trans rfl
                    have hcz43_2 : wr.cell? ⟨gb427, 2, none⟩ = some (.slice A0_2 l0_2.length c0_2) := (blk_cell BK427.out 2).trans rfl
                    have hfz43_0 := blk_frozen BK427.out 0
                    have hfz43_1 := blk_frozen BK427.out 1
                    have hfz43_2 := blk_frozen BK427.out 2
                    go_wp2
                    go_ret
                    exact ⟨by first | rfl | (simp [errW_none, errW_some] <;> rfl) | (simp [*, errW_none, errW_some] <;> rfl), by repeat (first | (with_reducible first | exact HB.out | apply below_alloc | apply pw_below_drewN | apply below_drew1 | refine below_set ?_ GE427.out) | exact HB.out)⟩

end Go.Proofs.Ytdpncghnlkgkdaa.G

-- laid by a program of the session (wip/gen/gprint.sh) over the kit's printer, with some functions given
import Derived.Test.YtggchfdjpfodfaaG0
import Derived.Test.YtggchfdjpfodfaaGf27
import Derived.Test.YtggchfdjpfodfaaKE
namespace Go.Proofs.Ytggchfdjpfodfaa.G
open Go.RowKit Go.Proofs.YtggchfdjpfodfaaW.PrintWords Go.Proofs.YtggchfdjpfodfaaW.PrintLast Go.Proofs.YtggchfdjpfodfaaW.PrintMore
attribute [local go_sem] max2_int min2_int max_two min_two max_three min_three max_four min_four   -- for this text's walks alone
set_option linter.unusedVariables false
set_option linter.unusedSimpArgs false

/-! ### seedcornref30_Ins: function 19 -/
mutual
def seedcornref30_Ins.l0 : Nat → List (S48) → List Bool → List Int → List (S48) → Int → Option ((List (S48)))
 | 0, _, _, _, _, _ => none
 | k + 1, x0, x5, x6, x7, x8 => if x8 < (x0.length : Int) then (if 0 ≤ x8 then (if ((rd_T48 x0 x8).f0) = 2 then (if 0 ≤ ((rd_T48 x0 x8).f2) then (if ((rd_T48 x0 x8).f2) < (x5.length : Int) then (seedcornref30_Ins.j1 k x0 x5 x6 x7 x8 (rdOf false x5 ((rd_T48 x0 x8).f2)) ((rd_T48 x0 x8).f0) ((rd_T48 x0 x8).f1) ((rd_T48 x0 x8).f2) ((rd_T48 x0 x8).f3) ((rd_T48 x0 x8).f4) ((rd_T48 x0 x8).f5) ((rd_T48 x0 x8).f6) ((rd_T48 x0 x8).f7)) else (none)) else (none)) else (seedcornref30_Ins.j1 k x0 x5 x6 x7 x8 false ((rd_T48 x0 x8).f0) ((rd_T48 x0 x8).f1) ((rd_T48 x0 x8).f2) ((rd_T48 x0 x8).f3) ((rd_T48 x0 x8).f4) ((rd_T48 x0 x8).f5) ((rd_T48 x0 x8).f6) ((rd_T48 x0 x8).f7))) else (none)) else (some x7)
def seedcornref30_Ins.j1 : Nat → List (S48) → List Bool → List Int → List (S48) → Int → Bool → Int → Int → Int → Int → Int → Int → Int → Int → Option ((List (S48)))
 | 0, _, _, _, _, _, _, _, _, _, _, _, _, _, _ => none
 | k + 1, x0, x5, x6, x7, x8, x36, x166000, x166001, x166002, x166003, x166004, x166005, x166006, x166007 => if x36 = true then (if 0 ≤ x166002 then (if x166002 < (x6.length : Int) then (seedcornref30_Ins.j2 k x0 x5 x6 x7 x8 1 x166001 0 0 0 0 0 (rd x6 x166002)) else (none)) else (none)) else (seedcornref30_Ins.j2 k x0 x5 x6 x7 x8 x166000 x166001 x166002 x166003 x166004 x166005 x166006 x166007)
def seedcornref30_Ins.j2 : Nat → List (S48) → List Bool → List Int → List (S48) → Int → Int → Int → Int → Int → Int → Int → Int → Int → Option ((List (S48)))
 | 0, _, _, _, _, _, _, _, _, _, _, _, _, _ => none
 | k + 1, x0, x5, x6, x7, x8, x166000, x166001, x166002, x166003, x166004, x166005, x166006, x166007 => if x166000 = 3 then (if 0 ≤ x166002 then (if x166002 < (x5.length : Int) then (if rdOf false x5 x166002 = true then (if 0 ≤ x166003 then (if x166003 < (x5.length : Int) then (seedcornref30_Ins.j3 k x0 x5 x6 x7 x8 (rdOf false x5 x166003) x166000 x166001 x166002 x166003 x166004 x166005 x166006 x166007) else (none)) else (none)) else (seedcornref30_Ins.j3 k x0 x5 x6 x7 x8 false x166000 x166001 x166002 x166003 x166004 x166005 x166006 x166007)) else (none)) else (none)) else (seedcornref30_Ins.j3 k x0 x5 x6 x7 x8 false x166000 x166001 x166002 x166003 x166004 x166005 x166006 x166007)
def seedcornref30_Ins.j3 : Nat → List (S48) → List Bool → List Int → List (S48) → Int → Bool → Int → Int → Int → Int → Int → Int → Int → Int → Option ((List (S48)))
 | 0, _, _, _, _, _, _, _, _, _, _, _, _, _, _ => none
 | k + 1, x0, x5, x6, x7, x8, x61, x166000, x166001, x166002, x166003, x166004, x166005, x166006, x166007 => if x61 = true then (if 0 ≤ x166002 then (if x166002 < (x6.length : Int) then (if 0 ≤ x166003 then (if x166003 < (x6.length : Int) then ((seedcornref01_Apply.f x166004 (rd x6 x166002) (rd x6 x166003)).bind fun bt172 => (if bt172.2 = 0 then ((seedcornref24_Sets.f 1 x166001 0 0 0 0 0 bt172.1).bind fun t174 => (if t174 ≥ 0 then (if 0 ≤ t174 then (if t174 < (x5.length : Int) then (if t174 < (x6.length : Int) then (if x7.length < 2199023255552 then (seedcornref30_Ins.l0 k x0 (x5.set (t174 : Int).toNat (1 == 1)) (x6.set (t174 : Int).toNat bt172.1) (x7 ++ [(⟨1, x166001, 0, 0, 0, 0, 0, bt172.1⟩ : S48)]) (wrap64 (x8 + 1))) else (none)) else (none)) else (none)) else (none)) else (if x7.length < 2199023255552 then (seedcornref30_Ins.l0 k x0 x5 x6 (x7 ++ [(⟨1, x166001, 0, 0, 0, 0, 0, bt172.1⟩ : S48)]) (wrap64 (x8 + 1))) else (none)))) else ((seedcornref24_Sets.f x166000 x166001 x166002 x166003 x166004 x166005 x166006 x166007).bind fun t183 => (if t183 ≥ 0 then (if 0 ≤ t183 then (if t183 < (x5.length : Int) then (if t183 < (x6.length : Int) then (if x7.length < 2199023255552 then (seedcornref30_Ins.l0 k x0 (x5.set (t183 : Int).toNat (x166000 == 1)) (x6.set (t183 : Int).toNat x166007) (x7 ++ [(⟨x166000, x166001, x166002, x166003, x166004, x166005, x166006, x166007⟩ : S48)]) (wrap64 (x8 + 1))) else (none)) else (none)) else (none)) else (none)) else (if x7.length < 2199023255552 then (seedcornref30_Ins.l0 k x0 x5 x6 (x7 ++ [(⟨x166000, x166001, x166002, x166003, x166004, x166005, x166006, x166007⟩ : S48)]) (wrap64 (x8 + 1))) else (none)))))) else (none)) else (none)) else (none)) else (none)) else ((seedcornref24_Sets.f x166000 x166001 x166002 x166003 x166004 x166005 x166006 x166007).bind fun t192 => (if t192 ≥ 0 then (if 0 ≤ t192 then (if t192 < (x5.length : Int) then (if t192 < (x6.length : Int) then (if x7.length < 2199023255552 then (seedcornref30_Ins.l0 k x0 (x5.set (t192 : Int).toNat (x166000 == 1)) (x6.set (t192 : Int).toNat x166007) (x7 ++ [(⟨x166000, x166001, x166002, x166003, x166004, x166005, x166006, x166007⟩ : S48)]) (wrap64 (x8 + 1))) else (none)) else (none)) else (none)) else (none)) else (if x7.length < 2199023255552 then (seedcornref30_Ins.l0 k x0 x5 x6 (x7 ++ [(⟨x166000, x166001, x166002, x166003, x166004, x166005, x166006, x166007⟩ : S48)]) (wrap64 (x8 + 1))) else (none))))
end
def seedcornref30_Ins.f (k : Nat) (l0 : List (S48)) (a1 : Int) : Option ((List (S48))) := if 0 ≤ a1 then (if (a1 : Int).toNat ≤ 281474976710656 then (if (a1 : Int).toNat ≤ 70368744177664 then (seedcornref30_Ins.l0 k l0 (List.replicate (a1 : Int).toNat false) (List.replicate (a1 : Int).toNat 0) ([] : List (S48)) 0) else (none)) else (none)) else (none)
theorem seedcornref30_Ins.mono_l : ∀ k, (∀ y0 y1 y2 y3 y4, LeO (seedcornref30_Ins.l0 k y0 y1 y2 y3 y4) (seedcornref30_Ins.l0 (k + 1) y0 y1 y2 y3 y4)) ∧ (∀ y0 y1 y2 y3 y4 y5 y6 y7 y8 y9 y10 y11 y12 y13, LeO (seedcornref30_Ins.j1 k y0 y1 y2 y3 y4 y5 y6 y7 y8 y9 y10 y11 y12 y13) (seedcornref30_Ins.j1 (k + 1) y0 y1 y2 y3 y4 y5 y6 y7 y8 y9 y10 y11 y12 y13)) ∧ (∀ y0 y1 y2 y3 y4 y5 y6 y7 y8 y9 y10 y11 y12, LeO (seedcornref30_Ins.j2 k y0 y1 y2 y3 y4 y5 y6 y7 y8 y9 y10 y11 y12) (seedcornref30_Ins.j2 (k + 1) y0 y1 y2 y3 y4 y5 y6 y7 y8 y9 y10 y11 y12)) ∧ (∀ y0 y1 y2 y3 y4 y5 y6 y7 y8 y9 y10 y11 y12 y13, LeO (seedcornref30_Ins.j3 k y0 y1 y2 y3 y4 y5 y6 y7 y8 y9 y10 y11 y12 y13) (seedcornref30_Ins.j3 (k + 1) y0 y1 y2 y3 y4 y5 y6 y7 y8 y9 y10 y11 y12 y13))
 | 0 => ⟨fun _ _ _ _ _ r h => by simp [seedcornref30_Ins.l0] at h, fun _ _ _ _ _ _ _ _ _ _ _ _ _ _ r h => by simp [seedcornref30_Ins.j1] at h, fun _ _ _ _ _ _ _ _ _ _ _ _ _ r h => by simp [seedcornref30_Ins.j2] at h, fun _ _ _ _ _ _ _ _ _ _ _ _ _ _ r h => by simp [seedcornref30_Ins.j3] at h⟩
 | k + 1 => by
  obtain ⟨ih0, ih1, ih2, ih3⟩ := seedcornref30_Ins.mono_l k
  refine ⟨?_, ?_, ?_, ?_⟩
  ·
   intro y0 y1 y2 y3 y4
   unfold seedcornref30_Ins.l0
   repeat' first
   | (with_reducible exact ih0 _ _ _ _ _)
   | (with_reducible exact ih1 _ _ _ _ _ _ _ _ _ _ _ _ _ _)
   | (with_reducible exact ih2 _ _ _ _ _ _ _ _ _ _ _ _ _)
   | (with_reducible exact ih3 _ _ _ _ _ _ _ _ _ _ _ _ _ _)
   | (with_reducible exact LeO.refl _)
   | (with_reducible exact LeO.none _)
   | (with_reducible refine LeO.ite ?_ ?_)
   | (with_reducible refine LeO.bind ?_ (fun _ => ?_))
   | exact ih0 _ _ _ _ _
   | exact ih1 _ _ _ _ _ _ _ _ _ _ _ _ _ _
   | exact ih2 _ _ _ _ _ _ _ _ _ _ _ _ _
   | exact ih3 _ _ _ _ _ _ _ _ _ _ _ _ _ _
   | exact LeO.none _
   | refine LeO.ite ?_ ?_
   | refine LeO.bind ?_ (fun _ => ?_)
  ·
   intro y0 y1 y2 y3 y4 y5 y6 y7 y8 y9 y10 y11 y12 y13
   unfold seedcornref30_Ins.j1
   repeat' first
   | (with_reducible exact ih0 _ _ _ _ _)
   | (with_reducible exact ih1 _ _ _ _ _ _ _ _ _ _ _ _ _ _)
   | (with_reducible exact ih2 _ _ _ _ _ _ _ _ _ _ _ _ _)
   | (with_reducible exact ih3 _ _ _ _ _ _ _ _ _ _ _ _ _ _)
   | (with_reducible exact LeO.refl _)
   | (with_reducible exact LeO.none _)
   | (with_reducible refine LeO.ite ?_ ?_)
   | (with_reducible refine LeO.bind ?_ (fun _ => ?_))
   | exact ih0 _ _ _ _ _
   | exact ih1 _ _ _ _ _ _ _ _ _ _ _ _ _ _
   | exact ih2 _ _ _ _ _ _ _ _ _ _ _ _ _
   | exact ih3 _ _ _ _ _ _ _ _ _ _ _ _ _ _
   | exact LeO.none _
   | refine LeO.ite ?_ ?_
   | refine LeO.bind ?_ (fun _ => ?_)
  ·
   intro y0 y1 y2 y3 y4 y5 y6 y7 y8 y9 y10 y11 y12
   unfold seedcornref30_Ins.j2
   repeat' first
   | (with_reducible exact ih0 _ _ _ _ _)
   | (with_reducible exact ih1 _ _ _ _ _ _ _ _ _ _ _ _ _ _)
   | (with_reducible exact ih2 _ _ _ _ _ _ _ _ _ _ _ _ _)
   | (with_reducible exact ih3 _ _ _ _ _ _ _ _ _ _ _ _ _ _)
   | (with_reducible exact LeO.refl _)
   | (with_reducible exact LeO.none _)
   | (with_reducible refine LeO.ite ?_ ?_)
   | (with_reducible refine LeO.bind ?_ (fun _ => ?_))
   | exact ih0 _ _ _ _ _
   | exact ih1 _ _ _ _ _ _ _ _ _ _ _ _ _ _
   | exact ih2 _ _ _ _ _ _ _ _ _ _ _ _ _
   | exact ih3 _ _ _ _ _ _ _ _ _ _ _ _ _ _
   | exact LeO.none _
   | refine LeO.ite ?_ ?_
   | refine LeO.bind ?_ (fun _ => ?_)
  ·
   intro y0 y1 y2 y3 y4 y5 y6 y7 y8 y9 y10 y11 y12 y13
   unfold seedcornref30_Ins.j3
   repeat' first
   | (with_reducible exact ih0 _ _ _ _ _)
   | (with_reducible exact ih1 _ _ _ _ _ _ _ _ _ _ _ _ _ _)
   | (with_reducible exact ih2 _ _ _ _ _ _ _ _ _ _ _ _ _)
   | (with_reducible exact ih3 _ _ _ _ _ _ _ _ _ _ _ _ _ _)
   | (with_reducible exact LeO.refl _)
   | (with_reducible exact LeO.none _)
   | (with_reducible refine LeO.ite ?_ ?_)
   | (with_reducible refine LeO.bind ?_ (fun _ => ?_))
   | exact ih0 _ _ _ _ _
   | exact ih1 _ _ _ _ _ _ _ _ _ _ _ _ _ _
   | exact ih2 _ _ _ _ _ _ _ _ _ _ _ _ _
   | exact ih3 _ _ _ _ _ _ _ _ _ _ _ _ _ _
   | exact LeO.none _
   | refine LeO.ite ?_ ?_
   | refine LeO.bind ?_ (fun _ => ?_)
theorem seedcornref30_Ins.mono : ∀ a0 a1 k, LeO (seedcornref30_Ins.f k a0 a1) (seedcornref30_Ins.f (k + 1) a0 a1) := by
 intro a0 a1 k
 obtain ⟨ih0, ih1, ih2, ih3⟩ := seedcornref30_Ins.mono_l k
 unfold seedcornref30_Ins.f
 repeat' first
   | (with_reducible exact ih0 _ _ _ _ _)
   | (with_reducible exact ih1 _ _ _ _ _ _ _ _ _ _ _ _ _ _)
   | (with_reducible exact ih2 _ _ _ _ _ _ _ _ _ _ _ _ _)
   | (with_reducible exact ih3 _ _ _ _ _ _ _ _ _ _ _ _ _ _)
   | (with_reducible exact LeO.refl _)
   | (with_reducible exact LeO.none _)
   | (with_reducible refine LeO.ite ?_ ?_)
   | (with_reducible refine LeO.bind ?_ (fun _ => ?_))
   | exact ih0 _ _ _ _ _
   | exact ih1 _ _ _ _ _ _ _ _ _ _ _ _ _ _
   | exact ih2 _ _ _ _ _ _ _ _ _ _ _ _ _
   | exact ih3 _ _ _ _ _ _ _ _ _ _ _ _ _ _
   | exact LeO.none _
   | refine LeO.ite ?_ ?_
   | refine LeO.bind ?_ (fun _ => ?_)
def seedcornref30_Ins.T9 : Bool × List (List Nat × List Nat) := (true, [([], []), ([0], [0]), ([], []), ([], []), ([3], [3]), ([2, 4], [2, 4]), ([5], [5]), ([1, 6], [1, 6]), ([7, 0, 1, 2, 3, 4, 5, 6, 7], [7])])
def seedcornref30_Ins.B9 : List Nat := [0, 1, 0, 0, 8, 28, 60, 127, 255]
theorem seedcornref30_Ins.tab9 : rtab .any (opsOf Try.f19 9) = seedcornref30_Ins.T9 := by kernel_rfl
theorem seedcornref30_Ins.bits9 : waitsOk seedcornref30_Ins.T9.2 seedcornref30_Ins.B9 = true := by kernel_rfl
def seedcornref30_Ins.T11 : Bool × List (List Nat × List Nat) := (true, [([], []), ([0], [0]), ([], []), ([], []), ([3], [3]), ([2, 4], [2, 4]), ([5], [5]), ([], []), ([], []), ([8], [8]), ([7, 9], [7, 9]), ([10], [10]), ([1, 6, 11], [1, 6, 11]), ([12], [12]), ([13], [13]), ([13], [13]), ([14, 12, 0, 1, 2, 3, 4, 5, 6, 7, 8, 9, 10, 11, 12, 13, 14], [14]), ([15, 16, 0, 1, 2, 3, 4, 5, 6, 7, 8, 9, 10, 11, 12, 13, 14, 15, 16], [15])])
def seedcornref30_Ins.B11 : List Nat := [0, 1, 0, 0, 8, 28, 60, 0, 0, 256, 896, 1920, 4095, 8191, 16383, 16383, 32767, 131071]
theorem seedcornref30_Ins.tab11 : rtab .any (opsOf Try.f19 11) = seedcornref30_Ins.T11 := by kernel_rfl
theorem seedcornref30_Ins.bits11 : waitsOk seedcornref30_Ins.T11.2 seedcornref30_Ins.B11 = true := by kernel_rfl
set_option maxHeartbeats 8000000 in
set_option maxRecDepth 100000 in
theorem seedcornref30_Ins.calls (k : Nat) (A0 : Option Addr) (c0 : Nat) (l0 : List (S48)) (a1 : Int) (r : List (S48)) (w : World) (hr0 : Kd.C k48 w A0 l0.length l0) (hc0 : l0.length ≤ c0) (h : seedcornref30_Ins.f k l0 a1 = some r) :
  Calls Try.prog 19 #[.slice A0 l0.length c0, .int .i64 a1] w fun e w' => ∃ v0_ : Value, e = .returned (v0_) ∧ Kd.R k48 48 w' w.heap.size (fun _ => True) v0_ r ∧ Below w.heap.size w w' := by
 have hu48 := Try.underlying48
 have HR0 := Aside0.mk hr0
 have HC0 := Aside0.mk hc0
 clear hr0 hc0
 have HB := Aside0.mk (Below.refl w.heap.size w)
 have H : (if 0 ≤ a1 then (if (a1 : Int).toNat ≤ 281474976710656 then (if (a1 : Int).toNat ≤ 70368744177664 then (seedcornref30_Ins.l0 k l0 (List.replicate (a1 : Int).toNat false) (List.replicate (a1 : Int).toNat 0) ([] : List (S48)) 0) else (none)) else (none)) else (none)) = some r := h
 clear h
 by_cases c3 : 0 ≤ a1
 ·
  rw [if_pos c3] at H
  have c3b0 := eq_true c3
  have c3b1 : decide (0 ≤ a1) = true := decide_eq_true c3
  clear c3
  by_cases c4 : (a1 : Int).toNat ≤ 281474976710656
  ·
   rw [if_pos c4] at H
   have c4b0 := eq_true c4
   have c4b1 : decide ((a1 : Int).toNat ≤ 281474976710656) = true := decide_eq_true c4
   clear c4
   obtain ⟨y158, hy158⟩ : ∃ y_ : List Bool, y_ = (List.replicate (a1 : Int).toNat false) := ⟨_, rfl⟩
   replace H : (if (a1 : Int).toNat ≤ 70368744177664 then (seedcornref30_Ins.l0 k l0 y158 (List.replicate (a1 : Int).toNat 0) ([] : List (S48)) 0) else (none)) = some r := by first | (rw [hy158]; with_reducible exact H) | (have H2_ := (Option.bind_some _ _).symm.trans H; rw [hy158]; with_reducible exact H2_) | (have H2_ := (Option.bind_some _ _).symm.trans H; with_reducible exact H2_) | with_reducible exact H | (rw [hy158]; exact H) | exact H
   have Ny158 := Aside0.mk hy158
   clear hy158
   by_cases c5 : (a1 : Int).toNat ≤ 70368744177664
   ·
    rw [if_pos c5] at H
    have c5b0 := eq_true c5
    have c5b1 : decide ((a1 : Int).toNat ≤ 70368744177664) = true := decide_eq_true c5
    clear c5
    obtain ⟨y161, hy161⟩ : ∃ y_ : List Int, y_ = (List.replicate (a1 : Int).toNat 0) := ⟨_, rfl⟩
    replace H : (seedcornref30_Ins.l0 k l0 y158 y161 ([] : List (S48)) 0) = some r := by first | (rw [hy161]; with_reducible exact H) | (have H2_ := (Option.bind_some _ _).symm.trans H; rw [hy161]; with_reducible exact H2_) | (have H2_ := (Option.bind_some _ _).symm.trans H; with_reducible exact H2_) | with_reducible exact H | (rw [hy161]; exact H) | exact H
    have Ny161 := Aside0.mk hy161
    clear hy161
    have H' := Aside0.mk H
    clear H
    go_enter Try.func19, Try.ntmps19
    go_wp2_with (first | ((with_reducible refine gate_dst (N := 14) rfl ?_); refine Kd.R_make Kd.bool _ 4 rfl (N := 14) rfl 60 _ _ rfl a1 rfl rfl Try.underlying60 (.bool false) 1 info4 rfl (by decide) (by omega) false (ok := fun _ => True) (okp := fun _ => True) rfl (fun _ hk => hk) trivial (of_decide_eq_true (by first | (with_reducible assumption) | assumption)) (Nat.le_trans (Nat.mul_le_mul_right _ (of_decide_eq_true (by first | (with_reducible assumption) | assumption) : a1.toNat ≤ 281474976710656)) (by omega)) (Below.refl _ _) (Nat.le_refl _) ?_; intro v159 w6 ho7 hb hg_ hnew_; clear hg_ hnew_; (first | rw [← Ny158.out] at ho7 | (simp only [Int.reduceToNat] at ho7; rw [← Ny158.out] at ho7)); have n0_ := Aside0.mk (Kd.R_lower ho7 (below_size (by repeat (first | (with_reducible first | exact HB.out | apply below_alloc | apply pw_below_drewN | apply below_drew1) | exact HB.out)))); have n1_ := Aside0.mk (below_step (by repeat (first | (with_reducible first | exact HB.out | apply below_alloc | apply pw_below_drewN | apply below_drew1) | exact HB.out)) hb); clear HB; have HO160 := n0_; have HB := n1_; clear n0_ n1_; clear hb ho7) | ((with_reducible refine gate_dst (N := 16) rfl ?_); refine Kd.R_make (Kd.int .u32) _ 46 rfl (N := 16) rfl 55 _ _ rfl a1 rfl rfl Try.underlying55 (.int .u32 0) 4 info46 rfl (by decide) (by omega) 0 (ok := fun _ => True) (okp := fun _ => True) rfl (fun _ hk => hk) trivial (of_decide_eq_true (by first | (with_reducible assumption) | assumption)) (Nat.le_trans (Nat.mul_le_mul_right _ (of_decide_eq_true (by first | (with_reducible assumption) | assumption) : a1.toNat ≤ 70368744177664)) (by omega)) (Below.refl _ _) (Nat.le_refl _) ?_; intro v162 w8 ho9 hb hg_ hnew_; clear hg_ hnew_; (first | rw [← Ny161.out] at ho9 | (simp only [Int.reduceToNat] at ho9; rw [← Ny161.out] at ho9)); have n0_ := Aside0.mk (Kd.R_below (by (with_reducible repeat (first | apply Kd.R_alloc | apply Kd.R_drewN | apply Kd.R_drew)); exact HO160.out) hb); have n1_ := Aside0.mk (Kd.R_lower ho9 (below_size (by repeat (first | (with_reducible first | exact HB.out | apply below_alloc | apply pw_below_drewN | apply below_drew1) | exact HB.out)))); have n2_ := Aside0.mk (below_step (by repeat (first | (with_reducible first | exact HB.out | apply below_alloc | apply pw_below_drewN | apply below_drew1) | exact HB.out)) hb); clear HO160; clear HB; have HO160 := n0_; have HO163 := n1_; have HB := n2_; clear n0_ n1_ n2_; clear hb ho9))
    go_loopg [7, 8] k (fun kq v7 v8 w' => ∃ (x5_1 : List Bool) (x6_1 : List Int) (x7_1 : List (S48)) (x8_1 : Int), v8 = .int .i64 x8_1 ∧ Aside0 (seedcornref30_Ins.l0 kq l0 x5_1 x6_1 x7_1 x8_1 = some r) ∧ Aside0 (kq ≤ k) ∧ Aside0 (Kd.R Kd.bool 4 w' w.heap.size (fun _ => True) v159 x5_1) ∧ Aside0 (Kd.R (Kd.int .u32) 46 w' w.heap.size (fun _ => True) v162 x6_1) ∧ Aside0 (Kd.R k48 48 w' w.heap.size (fun _ => True) v7 x7_1) ∧ Aside0 (Below w.heap.size w w'))
    case atStart => exact ⟨(y158), (y161), (([] : List (S48))), (0), (by first | rfl | (simp; done) | (simp [*]; done)), H', ⟨Nat.le_refl _⟩, ⟨by (with_reducible repeat (first | apply Kd.R_alloc | apply Kd.R_drewN | apply Kd.R_drew)); exact HO160.out⟩, ⟨by (with_reducible repeat (first | apply Kd.R_alloc | apply Kd.R_drewN | apply Kd.R_drew)); exact HO163.out⟩, ⟨by first | exact Kd.R_nil _ _ _ _ _ | exact Kd.N_nil _ _ _ _ _ | exact Kd.V_nil _ _ _ _ _ | exact Kd.Q_nil _ _ _ _ _ | exact Kd.S_nil _ _ _ _ _⟩, ⟨by repeat (first | (with_reducible first | exact HB.out | apply below_alloc | apply pw_below_drewN | apply below_drew1) | exact HB.out)⟩⟩
    case round =>
     clear H'
     try clear c1
     try clear p2
     try clear c3
     try clear c3b0
     try clear c3b1
     try clear c4
     try clear c4b0
     try clear c4b1
     try clear c5
     try clear c5b0
     try clear c5b1
     obtain ⟨x5_1, x6_1, x7_1, x8_1, rfl, HA, HK1, HO_5, HO_6, HO_7, HB⟩ := hrel
     cases gk with
     | zero => exact absurd HA.out (by simp [seedcornref30_Ins.l0])
     | succ k1 =>
      have H := HA.out
      clear HA
      simp only [seedcornref30_Ins.l0] at H
      by_cases c10 : x8_1 < (l0.length : Int)
      ·
       rw [if_pos c10] at H
       have c10b0 : decide (x8_1 < (l0.length : Int)) = true := decide_eq_true c10
       clear c10
       by_cases c11 : 0 ≤ x8_1
       ·
        rw [if_pos c11] at H
        have c11b0 : decide (0 ≤ x8_1) = true := decide_eq_true c11
        clear c11
        have HC12 := Aside0.mk H
        clear H
        have p164 : 0 ≤ (x8_1 : Int) := of_decide_eq_true (by first | (with_reducible assumption) | assumption)
        have q164 : x8_1 < (l0.length : Int) := of_decide_eq_true (by first | (with_reducible assumption) | assumption)
        obtain ⟨ad164, e164, hx164_0, hx164_1, hx164_2, hx164_3, hx164_4, hx164_5, hx164_6, hx164_7⟩ := at_T48 HR0.out x8_1 p164 q164
        cases e164
        replace hx164_0 := (HB.out.cell (World.block_lt_of_cell? w _ hx164_0)).trans hx164_0
        replace hx164_1 := (HB.out.cell (World.block_lt_of_cell? w _ hx164_1)).trans hx164_1
        replace hx164_2 := (HB.out.cell (World.block_lt_of_cell? w _ hx164_2)).trans hx164_2
        replace hx164_3 := (HB.out.cell (World.block_lt_of_cell? w _ hx164_3)).trans hx164_3
        replace hx164_4 := (HB.out.cell (World.block_lt_of_cell? w _ hx164_4)).trans hx164_4
        replace hx164_5 := (HB.out.cell (World.block_lt_of_cell? w _ hx164_5)).trans hx164_5
        replace hx164_6 := (HB.out.cell (World.block_lt_of_cell? w _ hx164_6)).trans hx164_6
        replace hx164_7 := (HB.out.cell (World.block_lt_of_cell? w _ hx164_7)).trans hx164_7
        replace p164 := eq_true p164
        replace q164 := eq_true q164
        go_upto_region 8 with (first | ((with_reducible refine gate_dst (N := 9) rfl ?_); refine box_event ?hg (N := 9) ?hd (cs := #[.int .i64 0, .int .i64 0, .int .i64 0, .int .i64 0, .int .i64 0, .int .i64 0, .int .i64 0, .int .u32 0]) (t := 48) ?hr ?_; (case hd => rfl); (case hg => rfl); (case hr => first | (go_simp; done) | (go_simp; rfl)); intro gb165 hg w13 hbox hb; have n0_ := Aside0.mk (Kd.R_below (by (with_reducible repeat (first | apply Kd.R_alloc | apply Kd.R_drewN | apply Kd.R_drew)); exact HO_5.out) hb); have n1_ := Aside0.mk (Kd.R_below (by (with_reducible repeat (first | apply Kd.R_alloc | apply Kd.R_drewN | apply Kd.R_drew)); exact HO_6.out) hb); have n2_ := Aside0.mk (Kd.R_below (Kd.R_elderB (by (with_reducible repeat (first | apply Kd.R_alloc | apply Kd.R_drewN | apply Kd.R_drew)); exact HO_7.out) gb165 (Nat.le_of_eq hg.symm)) hb); have n3_ := Aside0.mk (below_step (by repeat (first | (with_reducible first | exact HB.out | apply below_alloc | apply pw_below_drewN | apply below_drew1) | exact HB.out)) hb); have n4_ := Aside0.mk (hbox); have n5_ := Aside0.mk ((by rw [hg]; exact (below_size (by repeat (first | (with_reducible first | exact HB.out | apply below_alloc | apply pw_below_drewN | apply below_drew1) | exact HB.out))) : w.heap.size ≤ gb165)); have n6_ := Aside0.mk ((by rw [hg]; exact (below_size (by repeat (first | (with_reducible first | exact HB.out | apply below_alloc | apply pw_below_drewN | apply below_drew1) | exact HB.out))) : w.heap.size ≤ gb165)); clear HO_5; clear HO_6; clear HO_7; clear HB; have HO_5 := n0_; have HO_6 := n1_; have HO_7 := n2_; have HB := n3_; have BK165 := n4_; have GW165 := n5_; have GE165 := n6_; clear n0_ n1_ n2_ n3_ n4_ n5_ n6_; clear hb hbox hg; have hcz14_0 : w13.cell? ⟨gb165, 0, none⟩ = some (.int .i64 0) := (blk_cell BK165.out 0).trans rfl; have hcz14_1 : w13.cell? ⟨gb165, 1, none⟩ = some (.int .i64 0) := (blk_cell BK165.out 1).trans rfl; have hcz14_2 : w13.cell? ⟨gb165, 2, none⟩ = some (.int .i64 0) := (blk_cell BK165.out 2).trans rfl; have hcz14_3 : w13.cell? ⟨gb165, 3, none⟩ = some (.int .i64 0) := (blk_cell BK165.out 3).trans rfl; have hcz14_4 : w13.cell? ⟨gb165, 4, none⟩ = some (.int .i64 0) := (blk_cell BK165.out 4).trans rfl; have hcz14_5 : w13.cell? ⟨gb165, 5, none⟩ = some (.int .i64 0) := (blk_cell BK165.out 5).trans rfl; have hcz14_6 : w13.cell? ⟨gb165, 6, none⟩ = some (.int .i64 0) := (blk_cell BK165.out 6).trans rfl; have hcz14_7 : w13.cell? ⟨gb165, 7, none⟩ = some (.int .u32 0) := (blk_cell BK165.out 7).trans rfl; have hfz14_0 := blk_frozen BK165.out 0; have hfz14_1 := blk_frozen BK165.out 1; have hfz14_2 := blk_frozen BK165.out 2; have hfz14_3 := blk_frozen BK165.out 3; have hfz14_4 := blk_frozen BK165.out 4; have hfz14_5 := blk_frozen BK165.out 5; have hfz14_6 := blk_frozen BK165.out 6; have hfz14_7 := blk_frozen BK165.out 7))
        (try simp only [Act.put, List.setIfInBounds_toArray, List.set_cons_zero, List.set_cons_succ])
        go_cut [36] (fun v36 wc => ∃ (kq : Nat) (x36_11 : Bool), v36 = .bool x36_11 ∧ Aside0 (seedcornref30_Ins.j1 kq l0 x5_1 x6_1 x7_1 x8_1 x36_11 ((rd_T48 l0 x8_1).f0) ((rd_T48 l0 x8_1).f1) ((rd_T48 l0 x8_1).f2) ((rd_T48 l0 x8_1).f3) ((rd_T48 l0 x8_1).f4) ((rd_T48 l0 x8_1).f5) ((rd_T48 l0 x8_1).f6) ((rd_T48 l0 x8_1).f7) = some r) ∧ Aside0 (kq ≤ k1) ∧ Aside0 (Kd.R Kd.bool 4 wc w.heap.size (fun _ => True) v159 x5_1) ∧ Aside0 (Kd.R (Kd.int .u32) 46 wc w.heap.size (fun _ => True) v162 x6_1) ∧ Aside0 (Kd.R k48 48 wc w.heap.size (fun k_ => k_ ≠ gb165) u7 x7_1) ∧ Aside0 (wc.heap[gb165]? = some (.cells #[.int .i64 ((rd_T48 l0 x8_1).f0), .int .i64 ((rd_T48 l0 x8_1).f1), .int .i64 ((rd_T48 l0 x8_1).f2), .int .i64 ((rd_T48 l0 x8_1).f3), .int .i64 ((rd_T48 l0 x8_1).f4), .int .i64 ((rd_T48 l0 x8_1).f5), .int .i64 ((rd_T48 l0 x8_1).f6), .int .u32 ((rd_T48 l0 x8_1).f7)] 48 (0, 0))) ∧ Aside0 (Below w.heap.size w wc))
        case first =>
         have H := HC12.out
         clear HC12
         by_cases c15 : ((rd_T48 l0 x8_1).f0) = 2
         ·
          rw [if_pos c15] at H
          have c15b0 : (((rd_T48 l0 x8_1).f0) == 2) = true := beq_iff_eq.mpr c15
          have c15b1 : (((rd_T48 l0 x8_1).f0) != 2) = false := bne_eq_false_iff_eq.mpr c15
          clear c15
          (first | rw [c15b0] | (simp only [i64_w, i32_w]; rw [c15b0]) | skip)
          by_cases c16 : 0 ≤ ((rd_T48 l0 x8_1).f2)
          ·
           rw [if_pos c16] at H
           have c16b0 : decide (0 ≤ ((rd_T48 l0 x8_1).f2)) = true := decide_eq_true c16
           clear c16
           by_cases c17 : ((rd_T48 l0 x8_1).f2) < (x5_1.length : Int)
           ·
            rw [if_pos c17] at H
            have c17b0 : decide (((rd_T48 l0 x8_1).f2) < (x5_1.length : Int)) = true := decide_eq_true c17
            clear c17
            have H' := Aside0.mk H
            clear H
            have hcz18_0 : w13.cell? ⟨gb165, 0, none⟩ = some (.int .i64 0) := (blk_cell BK165.out 0).trans rfl
            have hcz18_1 : w13.cell? ⟨gb165, 1, none⟩ = some (.int .i64 0) := (blk_cell BK165.out 1).trans rfl
            have hcz18_2 : w13.cell? ⟨gb165, 2, none⟩ = some (.int .i64 0) := (blk_cell BK165.out 2).trans rfl
            have hcz18_3 : w13.cell? ⟨gb165, 3, none⟩ = some (.int .i64 0) := (blk_cell BK165.out 3).trans rfl
            have hcz18_4 : w13.cell? ⟨gb165, 4, none⟩ = some (.int .i64 0) := (blk_cell BK165.out 4).trans rfl
            have hcz18_5 : w13.cell? ⟨gb165, 5, none⟩ = some (.int .i64 0) := (blk_cell BK165.out 5).trans rfl
            have hcz18_6 : w13.cell? ⟨gb165, 6, none⟩ = some (.int .i64 0) := (blk_cell BK165.out 6).trans rfl
            have hcz18_7 : w13.cell? ⟨gb165, 7, none⟩ = some (.int .u32 0) := (blk_cell BK165.out 7).trans rfl
            have hfz18_0 := blk_frozen BK165.out 0
            have hfz18_1 := blk_frozen BK165.out 1
            have hfz18_2 := blk_frozen BK165.out 2
            have hfz18_3 := blk_frozen BK165.out 3
            have hfz18_4 := blk_frozen BK165.out 4
            have hfz18_5 := blk_frozen BK165.out 5
            have hfz18_6 := blk_frozen BK165.out 6
            have hfz18_7 := blk_frozen BK165.out 7
            obtain ⟨Ao19, co19, eo19⟩ := Kd.R_slice HO_5.out
            subst eo19
            have p166 : 0 ≤ (((rd_T48 l0 x8_1).f2) : Int) := of_decide_eq_true (by first | (with_reducible assumption) | assumption)
            have q166 : ((rd_T48 l0 x8_1).f2) < (x5_1.length : Int) := of_decide_eq_true (by first | (with_reducible assumption) | assumption)
            obtain ⟨ad166, e166, hx166_0⟩ := Kd.at_bool (Kd.R_reads' HO_5.out).2.2 ((rd_T48 l0 x8_1).f2) p166 q166
            cases e166
            have hn166_0 : ad166.block ≠ gb165 := Kd.own_blk (Kd.R_ne HO_5.out BK165.out (by decide))
            have hn166_1 : ad166.block ≠ gb165 := Kd.own_blk (Kd.R_ne HO_5.out BK165.out (by decide))
            have hn166_2 : ad166.block ≠ gb165 := Kd.own_blk (Kd.R_ne HO_5.out BK165.out (by decide))
            have hn166_3 : ad166.block ≠ gb165 := Kd.own_blk (Kd.R_ne HO_5.out BK165.out (by decide))
            have hn166_4 : ad166.block ≠ gb165 := Kd.own_blk (Kd.R_ne HO_5.out BK165.out (by decide))
            have hn166_5 : ad166.block ≠ gb165 := Kd.own_blk (Kd.R_ne HO_5.out BK165.out (by decide))
            have hn166_6 : ad166.block ≠ gb165 := Kd.own_blk (Kd.R_ne HO_5.out BK165.out (by decide))
            have hn166_7 : ad166.block ≠ gb165 := Kd.own_blk (Kd.R_ne HO_5.out BK165.out (by decide))
            replace hx166_0 := (cell_far (p := ⟨gb165, 0, none⟩) (by first | (rw [add_block]; exact hn166_0) | (show (Addr.add _ _).block ≠ _; rw [add_block]; exact hn166_0) | exact hn166_0) (.int .i64 ((rd_T48 l0 x8_1).f0))).trans hx166_0
            replace hx166_0 := (cell_far (p := ⟨gb165, 1, none⟩) (by first | (rw [add_block]; exact hn166_1) | (show (Addr.add _ _).block ≠ _; rw [add_block]; exact hn166_1) | exact hn166_1) (.int .i64 ((rd_T48 l0 x8_1).f1))).trans hx166_0
            replace hx166_0 := (cell_far (p := ⟨gb165, 2, none⟩) (by first | (rw [add_block]; exact hn166_2) | (show (Addr.add _ _).block ≠ _; rw [add_block]; exact hn166_2) | exact hn166_2) (.int .i64 ((rd_T48 l0 x8_1).f2))).trans hx166_0
            replace hx166_0 := (cell_far (p := ⟨gb165, 3, none⟩) (by first | (rw [add_block]; exact hn166_3) | (show (Addr.add _ _).block ≠ _; rw [add_block]; exact hn166_3) | exact hn166_3) (.int .i64 ((rd_T48 l0 x8_1).f3))).trans hx166_0
            replace hx166_0 := (cell_far (p := ⟨gb165, 4, none⟩) (by first | (rw [add_block]; exact hn166_4) | (show (Addr.add _ _).block ≠ _; rw [add_block]; exact hn166_4) | exact hn166_4) (.int .i64 ((rd_T48 l0 x8_1).f4))).trans hx166_0
            replace hx166_0 := (cell_far (p := ⟨gb165, 5, none⟩) (by first | (rw [add_block]; exact hn166_5) | (show (Addr.add _ _).block ≠ _; rw [add_block]; exact hn166_5) | exact hn166_5) (.int .i64 ((rd_T48 l0 x8_1).f5))).trans hx166_0
            replace hx166_0 := (cell_far (p := ⟨gb165, 6, none⟩) (by first | (rw [add_block]; exact hn166_6) | (show (Addr.add _ _).block ≠ _; rw [add_block]; exact hn166_6) | exact hn166_6) (.int .i64 ((rd_T48 l0 x8_1).f6))).trans hx166_0
            replace hx166_0 := (cell_far (p := ⟨gb165, 7, none⟩) (by first | (rw [add_block]; exact hn166_7) | (show (Addr.add _ _).block ≠ _; rw [add_block]; exact hn166_7) | exact hn166_7) (.int .u32 ((rd_T48 l0 x8_1).f7))).trans hx166_0
            clear hn166_0
            clear hn166_1
            clear hn166_2
            clear hn166_3
            clear hn166_4
            clear hn166_5
            clear hn166_6
            clear hn166_7
            replace p166 := eq_true p166
            replace q166 := eq_true q166
            go_wp2
            go_meet
            case rel => exact ⟨_, (rdOf false x5_1 ((rd_T48 l0 x8_1).f2)), (by first | rfl | (simp; done) | (simp [*]; done)), H', ⟨by have := HK1.out; first | omega | exact Nat.le_refl _⟩, ⟨by (with_reducible repeat (first | apply Kd.R_alloc | apply Kd.R_drewN | apply Kd.R_drew)); exact Kd.R_mono (Kd.R_far (p := ⟨gb165, 7, none⟩) (Kd.R_far (p := ⟨gb165, 6, none⟩) (Kd.R_far (p := ⟨gb165, 5, none⟩) (Kd.R_far (p := ⟨gb165, 4, none⟩) (Kd.R_far (p := ⟨gb165, 3, none⟩) (Kd.R_far (p := ⟨gb165, 2, none⟩) (Kd.R_far (p := ⟨gb165, 1, none⟩) (Kd.R_far (p := ⟨gb165, 0, none⟩) (Kd.R_types HO_5.out BK165.out (by decide)) (fun _ hk => hk.2) (.int .i64 ((rd_T48 l0 x8_1).f0))) (fun _ hk => hk.2) (.int .i64 ((rd_T48 l0 x8_1).f1))) (fun _ hk => hk.2) (.int .i64 ((rd_T48 l0 x8_1).f2))) (fun _ hk => hk.2) (.int .i64 ((rd_T48 l0 x8_1).f3))) (fun _ hk => hk.2) (.int .i64 ((rd_T48 l0 x8_1).f4))) (fun _ hk => hk.2) (.int .i64 ((rd_T48 l0 x8_1).f5))) (fun _ hk => hk.2) (.int .i64 ((rd_T48 l0 x8_1).f6))) (fun _ hk => hk.2) (.int .u32 ((rd_T48 l0 x8_1).f7))) (fun _ hk => trivial)⟩, ⟨by (with_reducible repeat (first | apply Kd.R_alloc | apply Kd.R_drewN | apply Kd.R_drew)); exact Kd.R_mono (Kd.R_far (p := ⟨gb165, 7, none⟩) (Kd.R_far (p := ⟨gb165, 6, none⟩) (Kd.R_far (p := ⟨gb165, 5, none⟩) (Kd.R_far (p := ⟨gb165, 4, none⟩) (Kd.R_far (p := ⟨gb165, 3, none⟩) (Kd.R_far (p := ⟨gb165, 2, none⟩) (Kd.R_far (p := ⟨gb165, 1, none⟩) (Kd.R_far (p := ⟨gb165, 0, none⟩) (Kd.R_types HO_6.out BK165.out (by decide)) (fun _ hk => hk.2) (.int .i64 ((rd_T48 l0 x8_1).f0))) (fun _ hk => hk.2) (.int .i64 ((rd_T48 l0 x8_1).f1))) (fun _ hk => hk.2) (.int .i64 ((rd_T48 l0 x8_1).f2))) (fun _ hk => hk.2) (.int .i64 ((rd_T48 l0 x8_1).f3))) (fun _ hk => hk.2) (.int .i64 ((rd_T48 l0 x8_1).f4))) (fun _ hk => hk.2) (.int .i64 ((rd_T48 l0 x8_1).f5))) (fun _ hk => hk.2) (.int .i64 ((rd_T48 l0 x8_1).f6))) (fun _ hk => hk.2) (.int .u32 ((rd_T48 l0 x8_1).f7))) (fun _ hk => trivial)⟩, ⟨by (with_reducible repeat (first | apply Kd.R_alloc | apply Kd.R_drewN | apply Kd.R_drew)); exact Kd.R_mono (Kd.R_far (p := ⟨gb165, 7, none⟩) (Kd.R_far (p := ⟨gb165, 6, none⟩) (Kd.R_far (p := ⟨gb165, 5, none⟩) (Kd.R_far (p := ⟨gb165, 4, none⟩) (Kd.R_far (p := ⟨gb165, 3, none⟩) (Kd.R_far (p := ⟨gb165, 2, none⟩) (Kd.R_far (p := ⟨gb165, 1, none⟩) (Kd.R_far (p := ⟨gb165, 0, none⟩) (Kd.R_mono HO_7.out (fun k_ hk => (⟨hk, hk.2⟩ : _ ∧ k_ ≠ gb165))) (fun _ hk => hk.2) (.int .i64 ((rd_T48 l0 x8_1).f0))) (fun _ hk => hk.2) (.int .i64 ((rd_T48 l0 x8_1).f1))) (fun _ hk => hk.2) (.int .i64 ((rd_T48 l0 x8_1).f2))) (fun _ hk => hk.2) (.int .i64 ((rd_T48 l0 x8_1).f3))) (fun _ hk => hk.2) (.int .i64 ((rd_T48 l0 x8_1).f4))) (fun _ hk => hk.2) (.int .i64 ((rd_T48 l0 x8_1).f5))) (fun _ hk => hk.2) (.int .i64 ((rd_T48 l0 x8_1).f6))) (fun _ hk => hk.2) (.int .u32 ((rd_T48 l0 x8_1).f7))) (fun _ hk => hk.1.2)⟩, ⟨by (with_reducible repeat (first | refine blk_drewN ?_ _ | refine blk_drew ?_ | refine blk_alloc ?_ _)); refine blk_put (cs := #[.int .i64 ((rd_T48 l0 x8_1).f0), .int .i64 ((rd_T48 l0 x8_1).f1), .int .i64 ((rd_T48 l0 x8_1).f2), .int .i64 ((rd_T48 l0 x8_1).f3), .int .i64 ((rd_T48 l0 x8_1).f4), .int .i64 ((rd_T48 l0 x8_1).f5), .int .i64 ((rd_T48 l0 x8_1).f6), .int .u32 0]) ?_ 7 _ rfl; (with_reducible repeat (first | refine blk_drewN ?_ _ | refine blk_drew ?_ | refine blk_alloc ?_ _)); refine blk_put (cs := #[.int .i64 ((rd_T48 l0 x8_1).f0), .int .i64 ((rd_T48 l0 x8_1).f1), .int .i64 ((rd_T48 l0 x8_1).f2), .int .i64 ((rd_T48 l0 x8_1).f3), .int .i64 ((rd_T48 l0 x8_1).f4), .int .i64 ((rd_T48 l0 x8_1).f5), .int .i64 0, .int .u32 0]) ?_ 6 _ rfl; (with_reducible repeat (first | refine blk_drewN ?_ _ | refine blk_drew ?_ | refine blk_alloc ?_ _)); refine blk_put (cs := #[.int .i64 ((rd_T48 l0 x8_1).f0), .int .i64 ((rd_T48 l0 x8_1).f1), .int .i64 ((rd_T48 l0 x8_1).f2), .int .i64 ((rd_T48 l0 x8_1).f3), .int .i64 ((rd_T48 l0 x8_1).f4), .int .i64 0, .int .i64 0, .int .u32 0]) ?_ 5 _ rfl; (with_reducible repeat (first | refine blk_drewN ?_ _ | refine blk_drew ?_ | refine blk_alloc ?_ _)); refine blk_put (cs := #[.int .i64 ((rd_T48 l0 x8_1).f0), .int .i64 ((rd_T48 l0 x8_1).f1), .int .i64 ((rd_T48 l0 x8_1).f2), .int .i64 ((rd_T48 l0 x8_1).f3), .int .i64 0, .int .i64 0, .int .i64 0, .int .u32 0]) ?_ 4 _ rfl; (with_reducible repeat (first | refine blk_drewN ?_ _ | refine blk_drew ?_ | refine blk_alloc ?_ _)); refine blk_put (cs := #[.int .i64 ((rd_T48 l0 x8_1).f0), .int .i64 ((rd_T48 l0 x8_1).f1), .int .i64 ((rd_T48 l0 x8_1).f2), .int .i64 0, .int .i64 0, .int .i64 0, .int .i64 0, .int .u32 0]) ?_ 3 _ rfl; (with_reducible repeat (first | refine blk_drewN ?_ _ | refine blk_drew ?_ | refine blk_alloc ?_ _)); refine blk_put (cs := #[.int .i64 ((rd_T48 l0 x8_1).f0), .int .i64 ((rd_T48 l0 x8_1).f1), .int .i64 0, .int .i64 0, .int .i64 0, .int .i64 0, .int .i64 0, .int .u32 0]) ?_ 2 _ rfl; (with_reducible repeat (first | refine blk_drewN ?_ _ | refine blk_drew ?_ | refine blk_alloc ?_ _)); refine blk_put (cs := #[.int .i64 ((rd_T48 l0 x8_1).f0), .int .i64 0, .int .i64 0, .int .i64 0, .int .i64 0, .int .i64 0, .int .i64 0, .int .u32 0]) ?_ 1 _ rfl; (with_reducible repeat (first | refine blk_drewN ?_ _ | refine blk_drew ?_ | refine blk_alloc ?_ _)); refine blk_put (cs := #[.int .i64 0, .int .i64 0, .int .i64 0, .int .i64 0, .int .i64 0, .int .i64 0, .int .i64 0, .int .u32 0]) ?_ 0 _ rfl; (with_reducible repeat (first | refine blk_drewN ?_ _ | refine blk_drew ?_ | refine blk_alloc ?_ _)); exact BK165.out⟩, ⟨by repeat (first | (with_reducible first | exact HB.out | apply below_alloc | apply pw_below_drewN | apply below_drew1 | refine below_set ?_ GE165.out) | exact HB.out)⟩⟩
           ·
            rw [if_neg c17] at H
            exact absurd H (by simp)
          ·
           rw [if_neg c16] at H
           exact absurd H (by simp)
         ·
          rw [if_neg c15] at H
          have c15b0 : (((rd_T48 l0 x8_1).f0) == 2) = false := beq_eq_false_iff_ne.mpr c15
          have c15b1 : (((rd_T48 l0 x8_1).f0) != 2) = true := bne_iff_ne.mpr c15
          (first | rw [c15b0] | (simp only [i64_w, i32_w]; rw [c15b0]) | skip)
          have H' := Aside0.mk H
          clear H
          have hcz20_0 : w13.cell? ⟨gb165, 0, none⟩ = some (.int .i64 0) := (blk_cell BK165.out 0).trans rfl
          have hcz20_1 : w13.cell? ⟨gb165, 1, none⟩ = some (.int .i64 0) := (blk_cell BK165.out 1).trans rfl
          have hcz20_2 : w13.cell? ⟨gb165, 2, none⟩ = some (.int .i64 0) := (blk_cell BK165.out 2).trans rfl
          have hcz20_3 : w13.cell? ⟨gb165, 3, none⟩ = some (.int .i64 0) := (blk_cell BK165.out 3).trans rfl
          have hcz20_4 : w13.cell? ⟨gb165, 4, none⟩ = some (.int .i64 0) := (blk_cell BK165.out 4).trans rfl
          have hcz20_5 : w13.cell? ⟨gb165, 5, none⟩ = some (.int .i64 0) := (blk_cell BK165.out 5).trans rfl
          have hcz20_6 : w13.cell? ⟨gb165, 6, none⟩ = some (.int .i64 0) := (blk_cell BK165.out 6).trans rfl
          have hcz20_7 : w13.cell? ⟨gb165, 7, none⟩ = some (.int .u32 0) := (blk_cell BK165.out 7).trans rfl
          have hfz20_0 := blk_frozen BK165.out 0
          have hfz20_1 := blk_frozen BK165.out 1
          have hfz20_2 := blk_frozen BK165.out 2
          have hfz20_3 := blk_frozen BK165.out 3
          have hfz20_4 := blk_frozen BK165.out 4
          have hfz20_5 := blk_frozen BK165.out 5
          have hfz20_6 := blk_frozen BK165.out 6
          have hfz20_7 := blk_frozen BK165.out 7
          go_wp2
          go_meet
          case rel => exact ⟨_, (false), (by first | rfl | (simp; done) | (simp [*]; done)), H', ⟨by have := HK1.out; first | omega | exact Nat.le_refl _⟩, ⟨by (with_reducible repeat (first | apply Kd.R_alloc | apply Kd.R_drewN | apply Kd.R_drew)); exact Kd.R_mono (Kd.R_far (p := ⟨gb165, 7, none⟩) (Kd.R_far (p := ⟨gb165, 6, none⟩) (Kd.R_far (p := ⟨gb165, 5, none⟩) (Kd.R_far (p := ⟨gb165, 4, none⟩) (Kd.R_far (p := ⟨gb165, 3, none⟩) (Kd.R_far (p := ⟨gb165, 2, none⟩) (Kd.R_far (p := ⟨gb165, 1, none⟩) (Kd.R_far (p := ⟨gb165, 0, none⟩) (Kd.R_types HO_5.out BK165.out (by decide)) (fun _ hk => hk.2) (.int .i64 ((rd_T48 l0 x8_1).f0))) (fun _ hk => hk.2) (.int .i64 ((rd_T48 l0 x8_1).f1))) (fun _ hk => hk.2) (.int .i64 ((rd_T48 l0 x8_1).f2))) (fun _ hk => hk.2) (.int .i64 ((rd_T48 l0 x8_1).f3))) (fun _ hk => hk.2) (.int .i64 ((rd_T48 l0 x8_1).f4))) (fun _ hk => hk.2) (.int .i64 ((rd_T48 l0 x8_1).f5))) (fun _ hk => hk.2) (.int .i64 ((rd_T48 l0 x8_1).f6))) (fun _ hk => hk.2) (.int .u32 ((rd_T48 l0 x8_1).f7))) (fun _ hk => trivial)⟩, ⟨by (with_reducible repeat (first | apply Kd.R_alloc | apply Kd.R_drewN | apply Kd.R_drew)); exact Kd.R_mono (Kd.R_far (p := ⟨gb165, 7, none⟩) (Kd.R_far (p := ⟨gb165, 6, none⟩) (Kd.R_far (p := ⟨gb165, 5, none⟩) (Kd.R_far (p := ⟨gb165, 4, none⟩) (Kd.R_far (p := ⟨gb165, 3, none⟩) (Kd.R_far (p := ⟨gb165, 2, none⟩) (Kd.R_far (p := ⟨gb165, 1, none⟩) (Kd.R_far (p := ⟨gb165, 0, none⟩) (Kd.R_types HO_6.out BK165.out (by decide)) (fun _ hk => hk.2) (.int .i64 ((rd_T48 l0 x8_1).f0))) (fun _ hk => hk.2) (.int .i64 ((rd_T48 l0 x8_1).f1))) (fun _ hk => hk.2) (.int .i64 ((rd_T48 l0 x8_1).f2))) (fun _ hk => hk.2) (.int .i64 ((rd_T48 l0 x8_1).f3))) (fun _ hk => hk.2) (.int .i64 ((rd_T48 l0 x8_1).f4))) (fun _ hk => hk.2) (.int .i64 ((rd_T48 l0 x8_1).f5))) (fun _ hk => hk.2) (.int .i64 ((rd_T48 l0 x8_1).f6))) (fun _ hk => hk.2) (.int .u32 ((rd_T48 l0 x8_1).f7))) (fun _ hk => trivial)⟩, ⟨by (with_reducible repeat (first | apply Kd.R_alloc | apply Kd.R_drewN | apply Kd.R_drew)); exact Kd.R_mono (Kd.R_far (p := ⟨gb165, 7, none⟩) (Kd.R_far (p := ⟨gb165, 6, none⟩) (Kd.R_far (p := ⟨gb165, 5, none⟩) (Kd.R_far (p := ⟨gb165, 4, none⟩) (Kd.R_far (p := ⟨gb165, 3, none⟩) (Kd.R_far (p := ⟨gb165, 2, none⟩) (Kd.R_far (p := ⟨gb165, 1, none⟩) (Kd.R_far (p := ⟨gb165, 0, none⟩) (Kd.R_mono HO_7.out (fun k_ hk => (⟨hk, hk.2⟩ : _ ∧ k_ ≠ gb165))) (fun _ hk => hk.2) (.int .i64 ((rd_T48 l0 x8_1).f0))) (fun _ hk => hk.2) (.int .i64 ((rd_T48 l0 x8_1).f1))) (fun _ hk => hk.2) (.int .i64 ((rd_T48 l0 x8_1).f2))) (fun _ hk => hk.2) (.int .i64 ((rd_T48 l0 x8_1).f3))) (fun _ hk => hk.2) (.int .i64 ((rd_T48 l0 x8_1).f4))) (fun _ hk => hk.2) (.int .i64 ((rd_T48 l0 x8_1).f5))) (fun _ hk => hk.2) (.int .i64 ((rd_T48 l0 x8_1).f6))) (fun _ hk => hk.2) (.int .u32 ((rd_T48 l0 x8_1).f7))) (fun _ hk => hk.1.2)⟩, ⟨by (with_reducible repeat (first | refine blk_drewN ?_ _ | refine blk_drew ?_ | refine blk_alloc ?_ _)); refine blk_put (cs := #[.int .i64 ((rd_T48 l0 x8_1).f0), .int .i64 ((rd_T48 l0 x8_1).f1), .int .i64 ((rd_T48 l0 x8_1).f2), .int .i64 ((rd_T48 l0 x8_1).f3), .int .i64 ((rd_T48 l0 x8_1).f4), .int .i64 ((rd_T48 l0 x8_1).f5), .int .i64 ((rd_T48 l0 x8_1).f6), .int .u32 0]) ?_ 7 _ rfl; (with_reducible repeat (first | refine blk_drewN ?_ _ | refine blk_drew ?_ | refine blk_alloc ?_ _)); refine blk_put (cs := #[.int .i64 ((rd_T48 l0 x8_1).f0), .int .i64 ((rd_T48 l0 x8_1).f1), .int .i64 ((rd_T48 l0 x8_1).f2), .int .i64 ((rd_T48 l0 x8_1).f3), .int .i64 ((rd_T48 l0 x8_1).f4), .int .i64 ((rd_T48 l0 x8_1).f5), .int .i64 0, .int .u32 0]) ?_ 6 _ rfl; (with_reducible repeat (first | refine blk_drewN ?_ _ | refine blk_drew ?_ | refine blk_alloc ?_ _)); refine blk_put (cs := #[.int .i64 ((rd_T48 l0 x8_1).f0), .int .i64 ((rd_T48 l0 x8_1).f1), .int .i64 ((rd_T48 l0 x8_1).f2), .int .i64 ((rd_T48 l0 x8_1).f3), .int .i64 ((rd_T48 l0 x8_1).f4), .int .i64 0, .int .i64 0, .int .u32 0]) ?_ 5 _ rfl; (with_reducible repeat (first | refine blk_drewN ?_ _ | refine blk_drew ?_ | refine blk_alloc ?_ _)); refine blk_put (cs := #[.int .i64 ((rd_T48 l0 x8_1).f0), .int .i64 ((rd_T48 l0 x8_1).f1), .int .i64 ((rd_T48 l0 x8_1).f2), .int .i64 ((rd_T48 l0 x8_1).f3), .int .i64 0, .int .i64 0, .int .i64 0, .int .u32 0]) ?_ 4 _ rfl; (with_reducible repeat (first | refine blk_drewN ?_ _ | refine blk_drew ?_ | refine blk_alloc ?_ _)); refine blk_put (cs := #[.int .i64 ((rd_T48 l0 x8_1).f0), .int .i64 ((rd_T48 l0 x8_1).f1), .int .i64 ((rd_T48 l0 x8_1).f2), .int .i64 0, .int .i64 0, .int .i64 0, .int .i64 0, .int .u32 0]) ?_ 3 _ rfl; (with_reducible repeat (first | refine blk_drewN ?_ _ | refine blk_drew ?_ | refine blk_alloc ?_ _)); refine blk_put (cs := #[.int .i64 ((rd_T48 l0 x8_1).f0), .int .i64 ((rd_T48 l0 x8_1).f1), .int .i64 0, .int .i64 0, .int .i64 0, .int .i64 0, .int .i64 0, .int .u32 0]) ?_ 2 _ rfl; (with_reducible repeat (first | refine blk_drewN ?_ _ | refine blk_drew ?_ | refine blk_alloc ?_ _)); refine blk_put (cs := #[.int .i64 ((rd_T48 l0 x8_1).f0), .int .i64 0, .int .i64 0, .int .i64 0, .int .i64 0, .int .i64 0, .int .i64 0, .int .u32 0]) ?_ 1 _ rfl; (with_reducible repeat (first | refine blk_drewN ?_ _ | refine blk_drew ?_ | refine blk_alloc ?_ _)); refine blk_put (cs := #[.int .i64 0, .int .i64 0, .int .i64 0, .int .i64 0, .int .i64 0, .int .i64 0, .int .i64 0, .int .u32 0]) ?_ 0 _ rfl; (with_reducible repeat (first | refine blk_drewN ?_ _ | refine blk_drew ?_ | refine blk_alloc ?_ _)); exact BK165.out⟩, ⟨by repeat (first | (with_reducible first | exact HB.out | apply below_alloc | apply pw_below_drewN | apply below_drew1 | refine below_set ?_ GE165.out) | exact HB.out)⟩⟩
        case rest =>
         clear HC12
         try clear c1
         try clear p1
         try clear q1
         try clear hx1
         try clear p2
         try clear c3
         try clear c3b0
         try clear c3b1
         try clear c4
         try clear c4b0
         try clear c4b1
         try clear c5
         try clear c5b0
         try clear c5b1
         try clear c10
         try clear c10b0
         try clear c11
         try clear c11b0
         try clear c15
         try clear c15b0
         try clear c15b1
         try clear c16
         try clear c16b0
         try clear p16
         try clear q16
         try clear hx16
         try clear c17
         try clear c17b0
         try clear c19
         try clear hcz14_0
         try clear hcz14_1
         try clear hcz14_2
         try clear hcz14_3
         try clear hcz14_4
         try clear hcz14_5
         try clear hcz14_6
         try clear hcz14_7
         try clear hcz18_0
         try clear hcz18_1
         try clear hcz18_2
         try clear hcz18_3
         try clear hcz18_4
         try clear hcz18_5
         try clear hcz18_6
         try clear hcz18_7
         try clear hcz20_0
         try clear hcz20_1
         try clear hcz20_2
         try clear hcz20_3
         try clear hcz20_4
         try clear hcz20_5
         try clear hcz20_6
         try clear hcz20_7
         try clear hfz14_0
         try clear hfz14_1
         try clear hfz14_2
         try clear hfz14_3
         try clear hfz14_4
         try clear hfz14_5
         try clear hfz14_6
         try clear hfz14_7
         try clear hfz18_0
         try clear hfz18_1
         try clear hfz18_2
         try clear hfz18_3
         try clear hfz18_4
         try clear hfz18_5
         try clear hfz18_6
         try clear hfz18_7
         try clear hfz20_0
         try clear hfz20_1
         try clear hfz20_2
         try clear hfz20_3
         try clear hfz20_4
         try clear hfz20_5
         try clear hfz20_6
         try clear hfz20_7
         try clear hx164_0
         try clear hx164_1
         try clear hx164_2
         try clear hx164_3
         try clear hx164_4
         try clear hx164_5
         try clear hx164_6
         try clear hx164_7
         try clear hx166_0
         try clear p164
         try clear p166
         try clear p2
         try clear q164
         try clear q166
         obtain ⟨kq, x36_11, rfl, HA, HJ11, HO_5, HO_6, HO_7, BK165, HB⟩ := hcut
         cases kq with
         | zero => exact absurd HA.out (by simp [seedcornref30_Ins.j1])
         | succ kj11 =>
          have H := HA.out
          clear HA
          simp only [seedcornref30_Ins.j1] at H
          have HC21 := Aside0.mk H
          clear H
          go_upto_if 36 with (fail)
          go_cut [] (fun wc => ∃ (kq : Nat) (x166000_20 : Int) (x166001_20 : Int) (x166002_20 : Int) (x166003_20 : Int) (x166004_20 : Int) (x166005_20 : Int) (x166006_20 : Int) (x166007_20 : Int), Aside0 (seedcornref30_Ins.j2 kq l0 x5_1 x6_1 x7_1 x8_1 x166000_20 x166001_20 x166002_20 x166003_20 x166004_20 x166005_20 x166006_20 x166007_20 = some r) ∧ Aside0 (kq ≤ kj11) ∧ Aside0 (Kd.R Kd.bool 4 wc w.heap.size (fun _ => True) v159 x5_1) ∧ Aside0 (Kd.R (Kd.int .u32) 46 wc w.heap.size (fun _ => True) v162 x6_1) ∧ Aside0 (Kd.R k48 48 wc w.heap.size (fun k_ => k_ ≠ gb165) u7 x7_1) ∧ Aside0 (wc.heap[gb165]? = some (.cells #[.int .i64 x166000_20, .int .i64 x166001_20, .int .i64 x166002_20, .int .i64 x166003_20, .int .i64 x166004_20, .int .i64 x166005_20, .int .i64 x166006_20, .int .u32 x166007_20] 48 (0, 0))) ∧ Aside0 (Below w.heap.size w wc))
          case first =>
           have H := HC21.out
           clear HC21
           by_cases c22 : x36_11 = true
           ·
            subst c22
            have H1 : (if 0 ≤ ((rd_T48 l0 x8_1).f2) then (if ((rd_T48 l0 x8_1).f2) < (x6_1.length : Int) then (seedcornref30_Ins.j2 kj11 l0 x5_1 x6_1 x7_1 x8_1 1 ((rd_T48 l0 x8_1).f1) 0 0 0 0 0 (rd x6_1 ((rd_T48 l0 x8_1).f2))) else (none)) else (none)) = some r := by rw [if_pos rfl] at H; exact H
            clear H
            have H := H1
            clear H1
            by_cases c23 : 0 ≤ ((rd_T48 l0 x8_1).f2)
            ·
             rw [if_pos c23] at H
             have c23b0 : decide (0 ≤ ((rd_T48 l0 x8_1).f2)) = true := decide_eq_true c23
             clear c23
             (first | rw [c23b0] | (simp only [i64_w, i32_w]; rw [c23b0]) | skip)
             by_cases c24 : ((rd_T48 l0 x8_1).f2) < (x6_1.length : Int)
             ·
              rw [if_pos c24] at H
              have c24b0 : decide (((rd_T48 l0 x8_1).f2) < (x6_1.length : Int)) = true := decide_eq_true c24
              clear c24
              have H' := Aside0.mk H
              clear H
              try go_wp2
              have n0_ := Aside0.mk (Kd.R_drew HO_5.out)
              have n1_ := Aside0.mk (Kd.R_drew HO_6.out)
              have n2_ := Aside0.mk (Kd.R_drew HO_7.out)
              have n3_ := Aside0.mk (blk_drew BK165.out)
              have n4_ := Aside0.mk (below_drew1 HB.out)
              clear HO_5
              clear HO_6
              clear HO_7
              clear BK165
              clear HB
              have HO_5 := n0_
              have HO_6 := n1_
              have HO_7 := n2_
              have BK165 := n3_
              have HB := n4_
              clear n0_ n1_ n2_ n3_ n4_
              obtain ⟨Ao26, co26, eo26⟩ := Kd.R_slice HO_6.out
              (first | subst eo26 | (injection eo26 with f1_ f2_ f3_; have f4_ := f1_.symm; have f5_ := f3_.symm; clear f1_ f2_ f3_; subst f4_; subst f5_))
              have p167 : 0 ≤ (((rd_T48 l0 x8_1).f2) : Int) := of_decide_eq_true (by first | (with_reducible assumption) | assumption)
              have q167 : ((rd_T48 l0 x8_1).f2) < (x6_1.length : Int) := of_decide_eq_true (by first | (with_reducible assumption) | assumption)
              obtain ⟨ad167, e167, hx167_0⟩ := Kd.at_int (Kd.R_reads' HO_6.out).2.2 ((rd_T48 l0 x8_1).f2) p167 q167
              cases e167
              replace p167 := eq_true p167
              replace q167 := eq_true q167
              refine start_ (n := 9) (S := fun w' => w'.cell? ⟨gb165, 0, none⟩ = some (.int .i64 ((rd_T48 l0 x8_1).f0)) ∧ w'.cell? ⟨gb165, 1, none⟩ = some (.int .i64 ((rd_T48 l0 x8_1).f1)) ∧ w'.cell? ⟨gb165, 2, none⟩ = some (.int .i64 ((rd_T48 l0 x8_1).f2)) ∧ w'.cell? ⟨gb165, 3, none⟩ = some (.int .i64 ((rd_T48 l0 x8_1).f3)) ∧ w'.cell? ⟨gb165, 4, none⟩ = some (.int .i64 ((rd_T48 l0 x8_1).f4)) ∧ w'.cell? ⟨gb165, 5, none⟩ = some (.int .i64 ((rd_T48 l0 x8_1).f5)) ∧ w'.cell? ⟨gb165, 6, none⟩ = some (.int .i64 ((rd_T48 l0 x8_1).f6)) ∧ w'.cell? ⟨gb165, 7, none⟩ = some (.int .u32 ((rd_T48 l0 x8_1).f7)) ∧ w'.cell? (ad167.add (((rd_T48 l0 x8_1).f2)).toNat) = some (.int .u32 (rd x6_1 ((rd_T48 l0 x8_1).f2)))) (ds := [8]) #[false, false, false, false, false, false, false, false, false] (by kernel_rfl) rfl rfl ⟨(blk_cell BK165.out 0).trans rfl, (blk_cell BK165.out 1).trans rfl, (blk_cell BK165.out 2).trans rfl, (blk_cell BK165.out 3).trans rfl, (blk_cell BK165.out 4).trans rfl, (blk_cell BK165.out 5).trans rfl, (blk_cell BK165.out 6).trans rfl, (blk_cell BK165.out 7).trans rfl, hx167_0⟩ (fun hHeld => ?_); refine with_tabW seedcornref30_Ins.tab9 seedcornref30_Ins.bits9 (fun HT_ HW_ => ?_)
              generalize wc.drew = w25 at HO_5 HO_6 HO_7 BK165 HB hx167_0 hHeld ⊢
              refine pure_ (i := 0) (N := some 37) (v := ?_) (a' := ?_) #[true, false, false, false, false, false, false, false, false] rfl rfl (any_of HT_.out (by kernel_rfl)) (fun _ _ _ h => h) (Or.inl ⟨by rfl, ?_⟩) ?_ ?_
              rotate_left
              ·
               intro w'
               go_simp
               with_reducible rfl
              rotate_left
              ·
               simp only [Act.put, List.setIfInBounds_toArray, List.set_cons_zero, List.set_cons_succ, i64_w, i32_w]
               rfl
              refine pure_ (i := 2) (N := some 39) (v := ?_) (a' := ?_) #[true, false, true, false, false, false, false, false, false] rfl rfl (any_of HT_.out (by kernel_rfl)) (fun _ _ _ h => h) (Or.inl ⟨by rfl, ?_⟩) ?_ ?_
              rotate_left
              ·
               intro w'
               go_simp
               with_reducible rfl
              rotate_left
              ·
               simp only [Act.put, List.setIfInBounds_toArray, List.set_cons_zero, List.set_cons_succ, i64_w, i32_w]
               rfl
              refine pure_ (i := 3) (N := some 40) (v := ?_) (a' := ?_) #[true, false, true, true, false, false, false, false, false] rfl rfl (any_of HT_.out (by kernel_rfl)) (fun _ _ _ h => h) (Or.inl ⟨by rfl, ?_⟩) ?_ ?_
              rotate_left
              ·
               intro w'
               go_simp
               with_reducible rfl
              rotate_left
              ·
               simp only [Act.put, List.setIfInBounds_toArray, List.set_cons_zero, List.set_cons_succ, i64_w, i32_w]
               rfl
              refine take_ (i := 1) (N := some 38) (v := ?_) (a' := ?_) #[true, true, true, true, false, false, false, false, false] rfl rfl (take_ofW HT_.out HW_.out (by kernel_rfl)) (fun _ _ _ h => h) (Or.inl ⟨by rfl, ?_⟩) hHeld ?_ ?_
              rotate_left
              ·
               rintro w' ⟨s0, s1, s2, s3, s4, s5, s6, s7, s8⟩
               go_simp
               with_reducible rfl
              rotate_left
              ·
               simp only [Act.put, List.setIfInBounds_toArray, List.set_cons_zero, List.set_cons_succ, i64_w, i32_w]
               rfl
              refine take_ (i := 4) (N := some 41) (v := ?_) (a' := ?_) #[true, true, true, true, true, false, false, false, false] rfl rfl (take_ofW HT_.out HW_.out (by kernel_rfl)) (fun _ _ _ h => h) (Or.inl ⟨by rfl, ?_⟩) hHeld ?_ ?_
              rotate_left
              ·
               rintro w' ⟨s0, s1, s2, s3, s4, s5, s6, s7, s8⟩
               go_simp
               with_reducible rfl
              rotate_left
              ·
               simp only [Act.put, List.setIfInBounds_toArray, List.set_cons_zero, List.set_cons_succ, i64_w, i32_w]
               rfl
              refine pure_ (i := 5) (N := some 42) (v := ?_) (a' := ?_) #[true, true, true, true, true, true, false, false, false] rfl rfl (any_of HT_.out (by kernel_rfl)) (fun _ _ _ h => h) (Or.inl ⟨by rfl, ?_⟩) ?_ ?_
              rotate_left
              ·
               intro w'
               go_simp
               with_reducible rfl
              rotate_left
              ·
               simp only [Act.put, List.setIfInBounds_toArray, List.set_cons_zero, List.set_cons_succ, i64_w, i32_w]
               rfl
              refine take_ (i := 6) (N := some 43) (v := ?_) (a' := ?_) #[true, true, true, true, true, true, true, false, false] rfl rfl (take_ofW HT_.out HW_.out (by kernel_rfl)) (fun _ _ _ h => h) (Or.inl ⟨by rfl, ?_⟩) hHeld ?_ ?_
              rotate_left
              ·
               rintro w' ⟨s0, s1, s2, s3, s4, s5, s6, s7, s8⟩
               go_simp
               with_reducible rfl
              rotate_left
              ·
               simp only [Act.put, List.setIfInBounds_toArray, List.set_cons_zero, List.set_cons_succ, i64_w, i32_w]
               rfl
              refine pure_ (i := 7) (N := some 44) (v := ?_) (a' := ?_) #[true, true, true, true, true, true, true, true, false] rfl rfl (any_of HT_.out (by kernel_rfl)) (fun _ _ _ h => h) (Or.inl ⟨by rfl, ?_⟩) ?_ ?_
              rotate_left
              ·
               intro w'
               go_simp
               with_reducible rfl
              rotate_left
              ·
               simp only [Act.put, List.setIfInBounds_toArray, List.set_cons_zero, List.set_cons_succ, i64_w, i32_w]
               rfl
              refine last_ (i := 8) (N := none) #[true, true, true, true, true, true, true, true, true] rfl rfl (one_of HT_.out (by kernel_rfl)) (by decide) (fun K hK => ?_)
              have hs27 : w25.cell? ⟨gb165, 0, none⟩ = some (.int .i64 ((rd_T48 l0 x8_1).f0)) := (blk_cell BK165.out 0).trans rfl
              have hfs27 := blk_frozen BK165.out 0
              have hs28 : w25.cell? ⟨gb165, 1, none⟩ = some (.int .i64 ((rd_T48 l0 x8_1).f1)) := (blk_cell BK165.out 1).trans rfl
              have hfs28 := blk_frozen BK165.out 1
              have hs29 : w25.cell? ⟨gb165, 2, none⟩ = some (.int .i64 ((rd_T48 l0 x8_1).f2)) := (blk_cell BK165.out 2).trans rfl
              have hfs29 := blk_frozen BK165.out 2
              have hs30 : w25.cell? ⟨gb165, 3, none⟩ = some (.int .i64 ((rd_T48 l0 x8_1).f3)) := (blk_cell BK165.out 3).trans rfl
              have hfs30 := blk_frozen BK165.out 3
              have hs31 : w25.cell? ⟨gb165, 4, none⟩ = some (.int .i64 ((rd_T48 l0 x8_1).f4)) := (blk_cell BK165.out 4).trans rfl
              have hfs31 := blk_frozen BK165.out 4
              have hs32 : w25.cell? ⟨gb165, 5, none⟩ = some (.int .i64 ((rd_T48 l0 x8_1).f5)) := (blk_cell BK165.out 5).trans rfl
              have hfs32 := blk_frozen BK165.out 5
              have hs33 : w25.cell? ⟨gb165, 6, none⟩ = some (.int .i64 ((rd_T48 l0 x8_1).f6)) := (blk_cell BK165.out 6).trans rfl
              have hfs33 := blk_frozen BK165.out 6
              have hs34 : w25.cell? ⟨gb165, 7, none⟩ = some (.int .u32 ((rd_T48 l0 x8_1).f7)) := (blk_cell BK165.out 7).trans rfl
              have hfs34 := blk_frozen BK165.out 7
              refine skip_ (w1 := ?_) (by rfl) rfl ?_ ?_
              rotate_left
              ·
               go_simp
               rfl
              refine hK.out _ _ ?_
              clear hK K
              refine done_ (done_of HT_.out (by kernel_rfl)) ?_
              try go_wp2
              go_meet
              case rel => exact ⟨_, (1), (((rd_T48 l0 x8_1).f1)), (0), (0), (0), (0), (0), (rd x6_1 ((rd_T48 l0 x8_1).f2)), H', ⟨by have := HK1.out; have := HJ11.out; first | omega | exact Nat.le_refl _⟩, ⟨by (with_reducible repeat (first | apply Kd.R_alloc | apply Kd.R_drewN | apply Kd.R_drew)); exact Kd.R_mono (Kd.R_far (p := ⟨gb165, 7, none⟩) (Kd.R_far (p := ⟨gb165, 6, none⟩) (Kd.R_far (p := ⟨gb165, 5, none⟩) (Kd.R_far (p := ⟨gb165, 4, none⟩) (Kd.R_far (p := ⟨gb165, 3, none⟩) (Kd.R_far (p := ⟨gb165, 2, none⟩) (Kd.R_far (p := ⟨gb165, 1, none⟩) (Kd.R_far (p := ⟨gb165, 0, none⟩) (Kd.R_types HO_5.out BK165.out (by decide)) (fun _ hk => hk.2) (.int .i64 1)) (fun _ hk => hk.2) (.int .i64 ((rd_T48 l0 x8_1).f1))) (fun _ hk => hk.2) (.int .i64 0)) (fun _ hk => hk.2) (.int .i64 0)) (fun _ hk => hk.2) (.int .i64 0)) (fun _ hk => hk.2) (.int .i64 0)) (fun _ hk => hk.2) (.int .i64 0)) (fun _ hk => hk.2) (.int .u32 (rd x6_1 ((rd_T48 l0 x8_1).f2)))) (fun _ hk => trivial)⟩, ⟨by (with_reducible repeat (first | apply Kd.R_alloc | apply Kd.R_drewN | apply Kd.R_drew)); exact Kd.R_mono (Kd.R_far (p := ⟨gb165, 7, none⟩) (Kd.R_far (p := ⟨gb165, 6, none⟩) (Kd.R_far (p := ⟨gb165, 5, none⟩) (Kd.R_far (p := ⟨gb165, 4, none⟩) (Kd.R_far (p := ⟨gb165, 3, none⟩) (Kd.R_far (p := ⟨gb165, 2, none⟩) (Kd.R_far (p := ⟨gb165, 1, none⟩) (Kd.R_far (p := ⟨gb165, 0, none⟩) (Kd.R_types HO_6.out BK165.out (by decide)) (fun _ hk => hk.2) (.int .i64 1)) (fun _ hk => hk.2) (.int .i64 ((rd_T48 l0 x8_1).f1))) (fun _ hk => hk.2) (.int .i64 0)) (fun _ hk => hk.2) (.int .i64 0)) (fun _ hk => hk.2) (.int .i64 0)) (fun _ hk => hk.2) (.int .i64 0)) (fun _ hk => hk.2) (.int .i64 0)) (fun _ hk => hk.2) (.int .u32 (rd x6_1 ((rd_T48 l0 x8_1).f2)))) (fun _ hk => trivial)⟩, ⟨by (with_reducible repeat (first | apply Kd.R_alloc | apply Kd.R_drewN | apply Kd.R_drew)); exact Kd.R_mono (Kd.R_far (p := ⟨gb165, 7, none⟩) (Kd.R_far (p := ⟨gb165, 6, none⟩) (Kd.R_far (p := ⟨gb165, 5, none⟩) (Kd.R_far (p := ⟨gb165, 4, none⟩) (Kd.R_far (p := ⟨gb165, 3, none⟩) (Kd.R_far (p := ⟨gb165, 2, none⟩) (Kd.R_far (p := ⟨gb165, 1, none⟩) (Kd.R_far (p := ⟨gb165, 0, none⟩) (Kd.R_mono HO_7.out (fun k_ hk => (⟨hk, hk⟩ : _ ∧ k_ ≠ gb165))) (fun _ hk => hk.2) (.int .i64 1)) (fun _ hk => hk.2) (.int .i64 ((rd_T48 l0 x8_1).f1))) (fun _ hk => hk.2) (.int .i64 0)) (fun _ hk => hk.2) (.int .i64 0)) (fun _ hk => hk.2) (.int .i64 0)) (fun _ hk => hk.2) (.int .i64 0)) (fun _ hk => hk.2) (.int .i64 0)) (fun _ hk => hk.2) (.int .u32 (rd x6_1 ((rd_T48 l0 x8_1).f2)))) (fun _ hk => hk.1)⟩, ⟨by (with_reducible repeat (first | refine blk_drewN ?_ _ | refine blk_drew ?_ | refine blk_alloc ?_ _)); refine blk_put (cs := #[.int .i64 1, .int .i64 ((rd_T48 l0 x8_1).f1), .int .i64 0, .int .i64 0, .int .i64 0, .int .i64 0, .int .i64 0, .int .u32 ((rd_T48 l0 x8_1).f7)]) ?_ 7 _ rfl; (with_reducible repeat (first | refine blk_drewN ?_ _ | refine blk_drew ?_ | refine blk_alloc ?_ _)); refine blk_put (cs := #[.int .i64 1, .int .i64 ((rd_T48 l0 x8_1).f1), .int .i64 0, .int .i64 0, .int .i64 0, .int .i64 0, .int .i64 ((rd_T48 l0 x8_1).f6), .int .u32 ((rd_T48 l0 x8_1).f7)]) ?_ 6 _ rfl; (with_reducible repeat (first | refine blk_drewN ?_ _ | refine blk_drew ?_ | refine blk_alloc ?_ _)); refine blk_put (cs := #[.int .i64 1, .int .i64 ((rd_T48 l0 x8_1).f1), .int .i64 0, .int .i64 0, .int .i64 0, .int .i64 ((rd_T48 l0 x8_1).f5), .int .i64 ((rd_T48 l0 x8_1).f6), .int .u32 ((rd_T48 l0 x8_1).f7)]) ?_ 5 _ rfl; (with_reducible repeat (first | refine blk_drewN ?_ _ | refine blk_drew ?_ | refine blk_alloc ?_ _)); refine blk_put (cs := #[.int .i64 1, .int .i64 ((rd_T48 l0 x8_1).f1), .int .i64 0, .int .i64 0, .int .i64 ((rd_T48 l0 x8_1).f4), .int .i64 ((rd_T48 l0 x8_1).f5), .int .i64 ((rd_T48 l0 x8_1).f6), .int .u32 ((rd_T48 l0 x8_1).f7)]) ?_ 4 _ rfl; (with_reducible repeat (first | refine blk_drewN ?_ _ | refine blk_drew ?_ | refine blk_alloc ?_ _)); refine blk_put (cs := #[.int .i64 1, .int .i64 ((rd_T48 l0 x8_1).f1), .int .i64 0, .int .i64 ((rd_T48 l0 x8_1).f3), .int .i64 ((rd_T48 l0 x8_1).f4), .int .i64 ((rd_T48 l0 x8_1).f5), .int .i64 ((rd_T48 l0 x8_1).f6), .int .u32 ((rd_T48 l0 x8_1).f7)]) ?_ 3 _ rfl; (with_reducible repeat (first | refine blk_drewN ?_ _ | refine blk_drew ?_ | refine blk_alloc ?_ _)); refine blk_put (cs := #[.int .i64 1, .int .i64 ((rd_T48 l0 x8_1).f1), .int .i64 ((rd_T48 l0 x8_1).f2), .int .i64 ((rd_T48 l0 x8_1).f3), .int .i64 ((rd_T48 l0 x8_1).f4), .int .i64 ((rd_T48 l0 x8_1).f5), .int .i64 ((rd_T48 l0 x8_1).f6), .int .u32 ((rd_T48 l0 x8_1).f7)]) ?_ 2 _ rfl; (with_reducible repeat (first | refine blk_drewN ?_ _ | refine blk_drew ?_ | refine blk_alloc ?_ _)); refine blk_put (cs := #[.int .i64 1, .int .i64 ((rd_T48 l0 x8_1).f1), .int .i64 ((rd_T48 l0 x8_1).f2), .int .i64 ((rd_T48 l0 x8_1).f3), .int .i64 ((rd_T48 l0 x8_1).f4), .int .i64 ((rd_T48 l0 x8_1).f5), .int .i64 ((rd_T48 l0 x8_1).f6), .int .u32 ((rd_T48 l0 x8_1).f7)]) ?_ 1 _ rfl; (with_reducible repeat (first | refine blk_drewN ?_ _ | refine blk_drew ?_ | refine blk_alloc ?_ _)); refine blk_put (cs := #[.int .i64 ((rd_T48 l0 x8_1).f0), .int .i64 ((rd_T48 l0 x8_1).f1), .int .i64 ((rd_T48 l0 x8_1).f2), .int .i64 ((rd_T48 l0 x8_1).f3), .int .i64 ((rd_T48 l0 x8_1).f4), .int .i64 ((rd_T48 l0 x8_1).f5), .int .i64 ((rd_T48 l0 x8_1).f6), .int .u32 ((rd_T48 l0 x8_1).f7)]) ?_ 0 _ rfl; (with_reducible repeat (first | refine blk_drewN ?_ _ | refine blk_drew ?_ | refine blk_alloc ?_ _)); exact BK165.out⟩, ⟨by repeat (first | (with_reducible first | exact HB.out | apply below_alloc | apply pw_below_drewN | apply below_drew1 | refine below_set ?_ GE165.out) | exact HB.out)⟩⟩
             ·
              rw [if_neg c24] at H
              exact absurd H (by simp)
            ·
             rw [if_neg c23] at H
             exact absurd H (by simp)
           ·
            replace c22 := Bool.eq_false_iff.mpr c22
            subst c22
            have H1 : (seedcornref30_Ins.j2 kj11 l0 x5_1 x6_1 x7_1 x8_1 ((rd_T48 l0 x8_1).f0) ((rd_T48 l0 x8_1).f1) ((rd_T48 l0 x8_1).f2) ((rd_T48 l0 x8_1).f3) ((rd_T48 l0 x8_1).f4) ((rd_T48 l0 x8_1).f5) ((rd_T48 l0 x8_1).f6) ((rd_T48 l0 x8_1).f7)) = some r := by rw [if_neg (show ¬ (false = true) by decide)] at H; exact H
            clear H
            have H := H1
            clear H1
            have H' := Aside0.mk H
            clear H
            go_wp2
            go_meet
            case rel => exact ⟨_, (((rd_T48 l0 x8_1).f0)), (((rd_T48 l0 x8_1).f1)), (((rd_T48 l0 x8_1).f2)), (((rd_T48 l0 x8_1).f3)), (((rd_T48 l0 x8_1).f4)), (((rd_T48 l0 x8_1).f5)), (((rd_T48 l0 x8_1).f6)), (((rd_T48 l0 x8_1).f7)), H', ⟨by have := HK1.out; have := HJ11.out; first | omega | exact Nat.le_refl _⟩, ⟨by (with_reducible repeat (first | apply Kd.R_alloc | apply Kd.R_drewN | apply Kd.R_drew)); exact HO_5.out⟩, ⟨by (with_reducible repeat (first | apply Kd.R_alloc | apply Kd.R_drewN | apply Kd.R_drew)); exact HO_6.out⟩, ⟨by (with_reducible repeat (first | apply Kd.R_alloc | apply Kd.R_drewN | apply Kd.R_drew)); exact HO_7.out⟩, ⟨by (with_reducible repeat (first | refine blk_drewN ?_ _ | refine blk_drew ?_ | refine blk_alloc ?_ _)); exact BK165.out⟩, ⟨by repeat (first | (with_reducible first | exact HB.out | apply below_alloc | apply pw_below_drewN | apply below_drew1 | refine below_set ?_ GE165.out) | exact HB.out)⟩⟩
          case rest =>
           clear HC21
           try clear c1
           try clear p1
           try clear q1
           try clear hx1
           try clear c2
           try clear p2
           try clear c3
           try clear c3b0
           try clear c3b1
           try clear c4
           try clear c4b0
           try clear c4b1
           try clear c5
           try clear c5b0
           try clear c5b1
           try clear c10
           try clear c10b0
           try clear c11
           try clear c11b0
           try clear c15
           try clear c15b0
           try clear c15b1
           try clear c16
           try clear c16b0
           try clear p16
           try clear q16
           try clear hx16
           try clear c17
           try clear c17b0
           try clear c19
           try clear c22
           try clear c23
           try clear c23b0
           try clear c24
           try clear c24b0
           try clear hcz14_0
           try clear hcz14_1
           try clear hcz14_2
           try clear hcz14_3
           try clear hcz14_4
           try clear hcz14_5
           try clear hcz14_6
           try clear hcz14_7
           try clear hcz18_0
           try clear hcz18_1
           try clear hcz18_2
           try clear hcz18_3
           try clear hcz18_4
           try clear hcz18_5
           try clear hcz18_6
           try clear hcz18_7
           try clear hcz20_0
           try clear hcz20_1
           try clear hcz20_2
           try clear hcz20_3
           try clear hcz20_4
           try clear hcz20_5
           try clear hcz20_6
           try clear hcz20_7
           try clear hfz14_0
           try clear hfz14_1
           try clear hfz14_2
           try clear hfz14_3
           try clear hfz14_4
           try clear hfz14_5
           try clear hfz14_6
           try clear hfz14_7
           try clear hfz18_0
           try clear hfz18_1
           try clear hfz18_2
           try clear hfz18_3
           try clear hfz18_4
           try clear hfz18_5
           try clear hfz18_6
           try clear hfz18_7
           try clear hfz20_0
           try clear hfz20_1
           try clear hfz20_2
           try clear hfz20_3
           try clear hfz20_4
           try clear hfz20_5
           try clear hfz20_6
           try clear hfz20_7
           try clear hx164_0
           try clear hx164_1
           try clear hx164_2
           try clear hx164_3
           try clear hx164_4
           try clear hx164_5
           try clear hx164_6
           try clear hx164_7
           try clear hx166_0
           try clear hx167_0
           try clear p1
           try clear p16
           try clear p164
           try clear p166
           try clear p167
           try clear p2
           try clear q1
           try clear q16
           try clear q164
           try clear q166
           try clear q167
           obtain ⟨kq, x166000_20, x166001_20, x166002_20, x166003_20, x166004_20, x166005_20, x166006_20, x166007_20, HA, HJ20, HO_5, HO_6, HO_7, BK165, HB⟩ := hcut
           cases kq with
           | zero => exact absurd HA.out (by simp [seedcornref30_Ins.j2])
           | succ kj20 =>
            have H := HA.out
            clear HA
            simp only [seedcornref30_Ins.j2] at H
            have HC35 := Aside0.mk H
            clear H
            go_upto_region 10 with (fail)
            go_cut [61] (fun v61 wc => ∃ (kq : Nat) (x61_34 : Bool), v61 = .bool x61_34 ∧ Aside0 (seedcornref30_Ins.j3 kq l0 x5_1 x6_1 x7_1 x8_1 x61_34 x166000_20 x166001_20 x166002_20 x166003_20 x166004_20 x166005_20 x166006_20 x166007_20 = some r) ∧ Aside0 (kq ≤ kj20) ∧ Aside0 (Kd.R Kd.bool 4 wc w.heap.size (fun _ => True) v159 x5_1) ∧ Aside0 (Kd.R (Kd.int .u32) 46 wc w.heap.size (fun _ => True) v162 x6_1) ∧ Aside0 (Kd.R k48 48 wc w.heap.size (fun k_ => k_ ≠ gb165) u7 x7_1) ∧ Aside0 (wc.heap[gb165]? = some (.cells #[.int .i64 x166000_20, .int .i64 x166001_20, .int .i64 x166002_20, .int .i64 x166003_20, .int .i64 x166004_20, .int .i64 x166005_20, .int .i64 x166006_20, .int .u32 x166007_20] 48 (0, 0))) ∧ Aside0 (Below w.heap.size w wc))
            case first =>
             have H := HC35.out
             clear HC35
             by_cases c36 : x166000_20 = 3
             ·
              rw [if_pos c36] at H
              have c36b0 : (x166000_20 == 3) = true := beq_iff_eq.mpr c36
              have c36b1 : (x166000_20 != 3) = false := bne_eq_false_iff_eq.mpr c36
              clear c36
              (first | rw [c36b0] | (simp only [i64_w, i32_w]; rw [c36b0]) | skip)
              by_cases c37 : 0 ≤ x166002_20
              ·
               rw [if_pos c37] at H
               have c37b0 : decide (0 ≤ x166002_20) = true := decide_eq_true c37
               clear c37
               by_cases c38 : x166002_20 < (x5_1.length : Int)
               ·
                rw [if_pos c38] at H
                have c38b0 : decide (x166002_20 < (x5_1.length : Int)) = true := decide_eq_true c38
                clear c38
                obtain ⟨bq39, hbq39⟩ : ∃ b_ : Bool, b_ = (rdOf false x5_1 x166002_20) := ⟨_, rfl⟩
                replace H : (if bq39 = true then (if 0 ≤ x166003_20 then (if x166003_20 < (x5_1.length : Int) then (seedcornref30_Ins.j3 kj20 l0 x5_1 x6_1 x7_1 x8_1 (rdOf false x5_1 x166003_20) x166000_20 x166001_20 x166002_20 x166003_20 x166004_20 x166005_20 x166006_20 x166007_20) else (none)) else (none)) else (seedcornref30_Ins.j3 kj20 l0 x5_1 x6_1 x7_1 x8_1 false x166000_20 x166001_20 x166002_20 x166003_20 x166004_20 x166005_20 x166006_20 x166007_20)) = some r := by rw [← hbq39] at H; exact H
                have Nbq39 := Aside0.mk hbq39
                clear hbq39
                by_cases c40 : bq39 = true
                ·
                 subst c40
                 have H1 : (if 0 ≤ x166003_20 then (if x166003_20 < (x5_1.length : Int) then (seedcornref30_Ins.j3 kj20 l0 x5_1 x6_1 x7_1 x8_1 (rdOf false x5_1 x166003_20) x166000_20 x166001_20 x166002_20 x166003_20 x166004_20 x166005_20 x166006_20 x166007_20) else (none)) else (none)) = some r := by rw [if_pos rfl] at H; exact H
                 clear H
                 have H := H1
                 clear H1
                 by_cases c41 : 0 ≤ x166003_20
                 ·
                  rw [if_pos c41] at H
                  have c41b0 : decide (0 ≤ x166003_20) = true := decide_eq_true c41
                  clear c41
                  by_cases c42 : x166003_20 < (x5_1.length : Int)
                  ·
                   rw [if_pos c42] at H
                   have c42b0 : decide (x166003_20 < (x5_1.length : Int)) = true := decide_eq_true c42
                   clear c42
                   have H' := Aside0.mk H
                   clear H
                   have hcz43_0 : wc.cell? ⟨gb165, 0, none⟩ = some (.int .i64 x166000_20) := (blk_cell BK165.out 0).trans rfl
                   have hcz43_1 : wc.cell? ⟨gb165, 1, none⟩ = some (.int .i64 x166001_20) := (blk_cell BK165.out 1).trans rfl
                   have hcz43_2 : wc.cell? ⟨gb165, 2, none⟩ = some (.int .i64 x166002_20) := (blk_cell BK165.out 2).trans rfl
                   have hcz43_3 : wc.cell? ⟨gb165, 3, none⟩ = some (.int .i64 x166003_20) := (blk_cell BK165.out 3).trans rfl
                   have hcz43_4 : wc.cell? ⟨gb165, 4, none⟩ = some (.int .i64 x166004_20) := (blk_cell BK165.out 4).trans rfl
                   have hcz43_5 : wc.cell? ⟨gb165, 5, none⟩ = some (.int .i64 x166005_20) := (blk_cell BK165.out 5).trans rfl
                   have hcz43_6 : wc.cell? ⟨gb165, 6, none⟩ = some (.int .i64 x166006_20) := (blk_cell BK165.out 6).trans rfl
                   have hcz43_7 : wc.cell? ⟨gb165, 7, none⟩ = some (.int .u32 x166007_20) := (blk_cell BK165.out 7).trans rfl
                   have hfz43_0 := blk_frozen BK165.out 0
                   have hfz43_1 := blk_frozen BK165.out 1
                   have hfz43_2 := blk_frozen BK165.out 2
                   have hfz43_3 := blk_frozen BK165.out 3
                   have hfz43_4 := blk_frozen BK165.out 4
                   have hfz43_5 := blk_frozen BK165.out 5
                   have hfz43_6 := blk_frozen BK165.out 6
                   have hfz43_7 := blk_frozen BK165.out 7
                   obtain ⟨Ao44, co44, eo44⟩ := Kd.R_slice HO_5.out
                   subst eo44
                   have p168 : 0 ≤ (x166002_20 : Int) := of_decide_eq_true (by first | (with_reducible assumption) | assumption)
                   have q168 : x166002_20 < (x5_1.length : Int) := of_decide_eq_true (by first | (with_reducible assumption) | assumption)
                   obtain ⟨ad168, e168, hx168_0⟩ := Kd.at_bool (Kd.R_reads' HO_5.out).2.2 x166002_20 p168 q168
                   (try rw [← Nbq39.out] at hx168_0)
                   cases e168
                   replace p168 := eq_true p168
                   replace q168 := eq_true q168
                   have p169 : 0 ≤ (x166003_20 : Int) := of_decide_eq_true (by first | (with_reducible assumption) | assumption)
                   have q169 : x166003_20 < (x5_1.length : Int) := of_decide_eq_true (by first | (with_reducible assumption) | assumption)
                   obtain ⟨ad169, e169, hx169_0⟩ := Kd.at_bool (Kd.R_reads' HO_5.out).2.2 x166003_20 p169 q169
                   (try rw [← Nbq39.out] at hx169_0)
                   obtain rfl : ad168 = ad169 := (by injection e169)
                   replace p169 := eq_true p169
                   replace q169 := eq_true q169
                   go_wp2
                   go_meet
                   case rel => exact ⟨_, (rdOf false x5_1 x166003_20), (by first | rfl | (simp; done) | (simp [*]; done)), H', ⟨by have := HK1.out; have := HJ11.out; have := HJ20.out; first | omega | exact Nat.le_refl _⟩, ⟨by (with_reducible repeat (first | apply Kd.R_alloc | apply Kd.R_drewN | apply Kd.R_drew)); exact HO_5.out⟩, ⟨by (with_reducible repeat (first | apply Kd.R_alloc | apply Kd.R_drewN | apply Kd.R_drew)); exact HO_6.out⟩, ⟨by (with_reducible repeat (first | apply Kd.R_alloc | apply Kd.R_drewN | apply Kd.R_drew)); exact HO_7.out⟩, ⟨by (with_reducible repeat (first | refine blk_drewN ?_ _ | refine blk_drew ?_ | refine blk_alloc ?_ _)); exact BK165.out⟩, ⟨by repeat (first | (with_reducible first | exact HB.out | apply below_alloc | apply pw_below_drewN | apply below_drew1 | refine below_set ?_ GE165.out) | exact HB.out)⟩⟩
                  ·
                   rw [if_neg c42] at H
                   exact absurd H (by simp)
                 ·
                  rw [if_neg c41] at H
                  exact absurd H (by simp)
                ·
                 replace c40 := Bool.eq_false_iff.mpr c40
                 subst c40
                 have H1 : (seedcornref30_Ins.j3 kj20 l0 x5_1 x6_1 x7_1 x8_1 false x166000_20 x166001_20 x166002_20 x166003_20 x166004_20 x166005_20 x166006_20 x166007_20) = some r := by rw [if_neg (show ¬ (false = true) by decide)] at H; exact H
                 clear H
                 have H := H1
                 clear H1
                 have H' := Aside0.mk H
                 clear H
                 have hcz45_0 : wc.cell? ⟨gb165, 0, none⟩ = some (.int .i64 x166000_20) := (blk_cell BK165.out 0).trans rfl
                 have hcz45_1 : wc.cell? ⟨gb165, 1, none⟩ = some (.int .i64 x166001_20) := (blk_cell BK165.out 1).trans rfl
                 have hcz45_2 : wc.cell? ⟨gb165, 2, none⟩ = some (.int .i64 x166002_20) := (blk_cell BK165.out 2).trans rfl
                 have hcz45_3 : wc.cell? ⟨gb165, 3, none⟩ = some (.int .i64 x166003_20) := (blk_cell BK165.out 3).trans rfl
                 have hcz45_4 : wc.cell? ⟨gb165, 4, none⟩ = some (.int .i64 x166004_20) := (blk_cell BK165.out 4).trans rfl
                 have hcz45_5 : wc.cell? ⟨gb165, 5, none⟩ = some (.int .i64 x166005_20) := (blk_cell BK165.out 5).trans rfl
                 have hcz45_6 : wc.cell? ⟨gb165, 6, none⟩ = some (.int .i64 x166006_20) := (blk_cell BK165.out 6).trans rfl
                 have hcz45_7 : wc.cell? ⟨gb165, 7, none⟩ = some (.int .u32 x166007_20) := (blk_cell BK165.out 7).trans rfl
                 have hfz45_0 := blk_frozen BK165.out 0
                 have hfz45_1 := blk_frozen BK165.out 1
                 have hfz45_2 := blk_frozen BK165.out 2
                 have hfz45_3 := blk_frozen BK165.out 3
                 have hfz45_4 := blk_frozen BK165.out 4
                 have hfz45_5 := blk_frozen BK165.out 5
                 have hfz45_6 := blk_frozen BK165.out 6
                 have hfz45_7 := blk_frozen BK165.out 7
                 obtain ⟨Ao46, co46, eo46⟩ := Kd.R_slice HO_5.out
                 subst eo46
                 have p168 : 0 ≤ (x166002_20 : Int) := of_decide_eq_true (by first | (with_reducible assumption) | assumption)
                 have q168 : x166002_20 < (x5_1.length : Int) := of_decide_eq_true (by first | (with_reducible assumption) | assumption)
                 obtain ⟨ad168, e168, hx168_0⟩ := Kd.at_bool (Kd.R_reads' HO_5.out).2.2 x166002_20 p168 q168
                 (try rw [← Nbq39.out] at hx168_0)
                 cases e168
                 replace p168 := eq_true p168
                 replace q168 := eq_true q168
                 go_wp2
                 go_meet
                 case rel => exact ⟨_, (false), (by first | rfl | (simp; done) | (simp [*]; done)), H', ⟨by have := HK1.out; have := HJ11.out; have := HJ20.out; first | omega | exact Nat.le_refl _⟩, ⟨by (with_reducible repeat (first | apply Kd.R_alloc | apply Kd.R_drewN | apply Kd.R_drew)); exact HO_5.out⟩, ⟨by (with_reducible repeat (first | apply Kd.R_alloc | apply Kd.R_drewN | apply Kd.R_drew)); exact HO_6.out⟩, ⟨by (with_reducible repeat (first | apply Kd.R_alloc | apply Kd.R_drewN | apply Kd.R_drew)); exact HO_7.out⟩, ⟨by (with_reducible repeat (first | refine blk_drewN ?_ _ | refine blk_drew ?_ | refine blk_alloc ?_ _)); exact BK165.out⟩, ⟨by repeat (first | (with_reducible first | exact HB.out | apply below_alloc | apply pw_below_drewN | apply below_drew1 | refine below_set ?_ GE165.out) | exact HB.out)⟩⟩
               ·
                rw [if_neg c38] at H
                exact absurd H (by simp)
              ·
               rw [if_neg c37] at H
               exact absurd H (by simp)
             ·
              rw [if_neg c36] at H
              have c36b0 : (x166000_20 == 3) = false := beq_eq_false_iff_ne.mpr c36
              have c36b1 : (x166000_20 != 3) = true := bne_iff_ne.mpr c36
              (first | rw [c36b0] | (simp only [i64_w, i32_w]; rw [c36b0]) | skip)
              have H' := Aside0.mk H
              clear H
              have hcz47_0 : wc.cell? ⟨gb165, 0, none⟩ = some (.int .i64 x166000_20) := (blk_cell BK165.out 0).trans rfl
              have hcz47_1 : wc.cell? ⟨gb165, 1, none⟩ = some (.int .i64 x166001_20) := (blk_cell BK165.out 1).trans rfl
              have hcz47_2 : wc.cell? ⟨gb165, 2, none⟩ = some (.int .i64 x166002_20) := (blk_cell BK165.out 2).trans rfl
              have hcz47_3 : wc.cell? ⟨gb165, 3, none⟩ = some (.int .i64 x166003_20) := (blk_cell BK165.out 3).trans rfl
              have hcz47_4 : wc.cell? ⟨gb165, 4, none⟩ = some (.int .i64 x166004_20) := (blk_cell BK165.out 4).trans rfl
              have hcz47_5 : wc.cell? ⟨gb165, 5, none⟩ = some (.int .i64 x166005_20) := (blk_cell BK165.out 5).trans rfl
              have hcz47_6 : wc.cell? ⟨gb165, 6, none⟩ = some (.int .i64 x166006_20) := (blk_cell BK165.out 6).trans rfl
              have hcz47_7 : wc.cell? ⟨gb165, 7, none⟩ = some (.int .u32 x166007_20) := (blk_cell BK165.out 7).trans rfl
              have hfz47_0 := blk_frozen BK165.out 0
              have hfz47_1 := blk_frozen BK165.out 1
              have hfz47_2 := blk_frozen BK165.out 2
              have hfz47_3 := blk_frozen BK165.out 3
              have hfz47_4 := blk_frozen BK165.out 4
              have hfz47_5 := blk_frozen BK165.out 5
              have hfz47_6 := blk_frozen BK165.out 6
              have hfz47_7 := blk_frozen BK165.out 7
              go_wp2
              go_meet
              case rel => exact ⟨_, (false), (by first | rfl | (simp; done) | (simp [*]; done)), H', ⟨by have := HK1.out; have := HJ11.out; have := HJ20.out; first | omega | exact Nat.le_refl _⟩, ⟨by (with_reducible repeat (first | apply Kd.R_alloc | apply Kd.R_drewN | apply Kd.R_drew)); exact HO_5.out⟩, ⟨by (with_reducible repeat (first | apply Kd.R_alloc | apply Kd.R_drewN | apply Kd.R_drew)); exact HO_6.out⟩, ⟨by (with_reducible repeat (first | apply Kd.R_alloc | apply Kd.R_drewN | apply Kd.R_drew)); exact HO_7.out⟩, ⟨by (with_reducible repeat (first | refine blk_drewN ?_ _ | refine blk_drew ?_ | refine blk_alloc ?_ _)); exact BK165.out⟩, ⟨by repeat (first | (with_reducible first | exact HB.out | apply below_alloc | apply pw_below_drewN | apply below_drew1 | refine below_set ?_ GE165.out) | exact HB.out)⟩⟩
            case rest =>
             clear HC35
             try clear c1
             try clear p1
             try clear q1
             try clear hx1
             try clear c2
             try clear p2
             try clear c3
             try clear c3b0
             try clear c3b1
             try clear q3
             try clear c4
             try clear c4b0
             try clear c4b1
             try clear c5
             try clear c5b0
             try clear c5b1
             try clear c10
             try clear c10b0
             try clear c11
             try clear c11b0
             try clear c15
             try clear c15b0
             try clear c15b1
             try clear c16
             try clear c16b0
             try clear p16
             try clear q16
             try clear hx16
             try clear c17
             try clear c17b0
             try clear c19
             try clear c22
             try clear c23
             try clear c23b0
             try clear c24
             try clear c24b0
             try clear c36
             try clear c36b0
             try clear c36b1
             try clear c37
             try clear c37b0
             try clear c38
             try clear c38b0
             try clear q39
             try clear c40
             try clear c41
             try clear c41b0
             try clear c42
             try clear c42b0
             try clear hcz14_0
             try clear hcz14_1
             try clear hcz14_2
             try clear hcz14_3
             try clear hcz14_4
             try clear hcz14_5
             try clear hcz14_6
             try clear hcz14_7
             try clear hcz18_0
             try clear hcz18_1
             try clear hcz18_2
             try clear hcz18_3
             try clear hcz18_4
             try clear hcz18_5
             try clear hcz18_6
             try clear hcz18_7
             try clear hcz20_0
             try clear hcz20_1
             try clear hcz20_2
             try clear hcz20_3
             try clear hcz20_4
             try clear hcz20_5
             try clear hcz20_6
             try clear hcz20_7
             try clear hcz43_0
             try clear hcz43_1
             try clear hcz43_2
             try clear hcz43_3
             try clear hcz43_4
             try clear hcz43_5
             try clear hcz43_6
             try clear hcz43_7
             try clear hcz45_0
             try clear hcz45_1
             try clear hcz45_2
             try clear hcz45_3
             try clear hcz45_4
             try clear hcz45_5
             try clear hcz45_6
             try clear hcz45_7
             try clear hcz47_0
             try clear hcz47_1
             try clear hcz47_2
             try clear hcz47_3
             try clear hcz47_4
             try clear hcz47_5
             try clear hcz47_6
             try clear hcz47_7
             try clear hfz14_0
             try clear hfz14_1
             try clear hfz14_2
             try clear hfz14_3
             try clear hfz14_4
             try clear hfz14_5
             try clear hfz14_6
             try clear hfz14_7
             try clear hfz18_0
             try clear hfz18_1
             try clear hfz18_2
             try clear hfz18_3
             try clear hfz18_4
             try clear hfz18_5
             try clear hfz18_6
             try clear hfz18_7
             try clear hfz20_0
             try clear hfz20_1
             try clear hfz20_2
             try clear hfz20_3
             try clear hfz20_4
             try clear hfz20_5
             try clear hfz20_6
             try clear hfz20_7
             try clear hfz43_0
             try clear hfz43_1
             try clear hfz43_2
             try clear hfz43_3
             try clear hfz43_4
             try clear hfz43_5
             try clear hfz43_6
             try clear hfz43_7
             try clear hfz45_0
             try clear hfz45_1
             try clear hfz45_2
             try clear hfz45_3
             try clear hfz45_4
             try clear hfz45_5
             try clear hfz45_6
             try clear hfz45_7
             try clear hfz47_0
             try clear hfz47_1
             try clear hfz47_2
             try clear hfz47_3
             try clear hfz47_4
             try clear hfz47_5
             try clear hfz47_6
             try clear hfz47_7
             try clear hx164_0
             try clear hx164_1
             try clear hx164_2
             try clear hx164_3
             try clear hx164_4
             try clear hx164_5
             try clear hx164_6
             try clear hx164_7
             try clear hx166_0
             try clear hx167_0
             try clear hx168_0
             try clear hx169_0
             try clear p1
             try clear p16
             try clear p164
             try clear p166
             try clear p167
             try clear p168
             try clear p169
             try clear p2
             try clear q1
             try clear q16
             try clear q164
             try clear q166
             try clear q167
             try clear q168
             try clear q169
             obtain ⟨kq, x61_34, rfl, HA, HJ34, HO_5, HO_6, HO_7, BK165, HB⟩ := hcut
             cases kq with
             | zero => exact absurd HA.out (by simp [seedcornref30_Ins.j3])
             | succ kj34 =>
              have H := HA.out
              clear HA
              simp only [seedcornref30_Ins.j3] at H
              by_cases c48 : x61_34 = true
              ·
               subst c48
               have H1 : (if 0 ≤ x166002_20 then (if x166002_20 < (x6_1.length : Int) then (if 0 ≤ x166003_20 then (if x166003_20 < (x6_1.length : Int) then ((seedcornref01_Apply.f x166004_20 (rd x6_1 x166002_20) (rd x6_1 x166003_20)).bind fun bt172 => (if bt172.2 = 0 then ((seedcornref24_Sets.f 1 x166001_20 0 0 0 0 0 bt172.1).bind fun t174 => (if t174 ≥ 0 then (if 0 ≤ t174 then (if t174 < (x5_1.length : Int) then (if t174 < (x6_1.length : Int) then (if x7_1.length < 2199023255552 then (seedcornref30_Ins.l0 kj34 l0 (x5_1.set (t174 : Int).toNat (1 == 1)) (x6_1.set (t174 : Int).toNat bt172.1) (x7_1 ++ [(⟨1, x166001_20, 0, 0, 0, 0, 0, bt172.1⟩ : S48)]) (wrap64 (x8_1 + 1))) else (none)) else (none)) else (none)) else (none)) else (if x7_1.length < 2199023255552 then (seedcornref30_Ins.l0 kj34 l0 x5_1 x6_1 (x7_1 ++ [(⟨1, x166001_20, 0, 0, 0, 0, 0, bt172.1⟩ : S48)]) (wrap64 (x8_1 + 1))) else (none)))) else ((seedcornref24_Sets.f x166000_20 x166001_20 x166002_20 x166003_20 x166004_20 x166005_20 x166006_20 x166007_20).bind fun t183 => (if t183 ≥ 0 then (if 0 ≤ t183 then (if t183 < (x5_1.length : Int) then (if t183 < (x6_1.length : Int) then (if x7_1.length < 2199023255552 then (seedcornref30_Ins.l0 kj34 l0 (x5_1.set (t183 : Int).toNat (x166000_20 == 1)) (x6_1.set (t183 : Int).toNat x166007_20) (x7_1 ++ [(⟨x166000_20, x166001_20, x166002_20, x166003_20, x166004_20, x166005_20, x166006_20, x166007_20⟩ : S48)]) (wrap64 (x8_1 + 1))) else (none)) else (none)) else (none)) else (none)) else (if x7_1.length < 2199023255552 then (seedcornref30_Ins.l0 kj34 l0 x5_1 x6_1 (x7_1 ++ [(⟨x166000_20, x166001_20, x166002_20, x166003_20, x166004_20, x166005_20, x166006_20, x166007_20⟩ : S48)]) (wrap64 (x8_1 + 1))) else (none)))))) else (none)) else (none)) else (none)) else (none)) = some r := by rw [if_pos rfl] at H; exact H
               clear H
               have H := H1
               clear H1
               by_cases c49 : 0 ≤ x166002_20
               ·
                rw [if_pos c49] at H
                have c49b0 : decide (0 ≤ x166002_20) = true := decide_eq_true c49
                clear c49
                by_cases c50 : x166002_20 < (x6_1.length : Int)
                ·
                 rw [if_pos c50] at H
                 have c50b0 : decide (x166002_20 < (x6_1.length : Int)) = true := decide_eq_true c50
                 clear c50
                 by_cases c51 : 0 ≤ x166003_20
                 ·
                  rw [if_pos c51] at H
                  have c51b0 : decide (0 ≤ x166003_20) = true := decide_eq_true c51
                  clear c51
                  by_cases c52 : x166003_20 < (x6_1.length : Int)
                  ·
                   rw [if_pos c52] at H
                   have c52b0 : decide (x166003_20 < (x6_1.length : Int)) = true := decide_eq_true c52
                   clear c52
                   replace H := Option.bind_eq_some_iff.mp H
                   obtain ⟨⟨t172, t173⟩, A530, H⟩ := H
                   replace H : (if t173 = 0 then ((seedcornref24_Sets.f 1 x166001_20 0 0 0 0 0 t172).bind fun t174 => (if t174 ≥ 0 then (if 0 ≤ t174 then (if t174 < (x5_1.length : Int) then (if t174 < (x6_1.length : Int) then (if x7_1.length < 2199023255552 then (seedcornref30_Ins.l0 kj34 l0 (x5_1.set (t174 : Int).toNat (1 == 1)) (x6_1.set (t174 : Int).toNat t172) (x7_1 ++ [(⟨1, x166001_20, 0, 0, 0, 0, 0, t172⟩ : S48)]) (wrap64 (x8_1 + 1))) else (none)) else (none)) else (none)) else (none)) else (if x7_1.length < 2199023255552 then (seedcornref30_Ins.l0 kj34 l0 x5_1 x6_1 (x7_1 ++ [(⟨1, x166001_20, 0, 0, 0, 0, 0, t172⟩ : S48)]) (wrap64 (x8_1 + 1))) else (none)))) else ((seedcornref24_Sets.f x166000_20 x166001_20 x166002_20 x166003_20 x166004_20 x166005_20 x166006_20 x166007_20).bind fun t183 => (if t183 ≥ 0 then (if 0 ≤ t183 then (if t183 < (x5_1.length : Int) then (if t183 < (x6_1.length : Int) then (if x7_1.length < 2199023255552 then (seedcornref30_Ins.l0 kj34 l0 (x5_1.set (t183 : Int).toNat (x166000_20 == 1)) (x6_1.set (t183 : Int).toNat x166007_20) (x7_1 ++ [(⟨x166000_20, x166001_20, x166002_20, x166003_20, x166004_20, x166005_20, x166006_20, x166007_20⟩ : S48)]) (wrap64 (x8_1 + 1))) else (none)) else (none)) else (none)) else (none)) else (if x7_1.length < 2199023255552 then (seedcornref30_Ins.l0 kj34 l0 x5_1 x6_1 (x7_1 ++ [(⟨x166000_20, x166001_20, x166002_20, x166003_20, x166004_20, x166005_20, x166006_20, x166007_20⟩ : S48)]) (wrap64 (x8_1 + 1))) else (none))))) = some r := H
                   have A53 := Aside0.mk A530
                   clear A530
                   by_cases c54 : t173 = 0
                   ·
                    rw [if_pos c54] at H
                    have c54b0 : (t173 == 0) = true := beq_iff_eq.mpr c54
                    have c54b1 : (t173 != 0) = false := bne_eq_false_iff_eq.mpr c54
                    clear c54
                    replace H := Option.bind_eq_some_iff.mp H
                    obtain ⟨t174, A550, H⟩ := H
                    replace H : (if t174 ≥ 0 then (if 0 ≤ t174 then (if t174 < (x5_1.length : Int) then (if t174 < (x6_1.length : Int) then (if x7_1.length < 2199023255552 then (seedcornref30_Ins.l0 kj34 l0 (x5_1.set (t174 : Int).toNat (1 == 1)) (x6_1.set (t174 : Int).toNat t172) (x7_1 ++ [(⟨1, x166001_20, 0, 0, 0, 0, 0, t172⟩ : S48)]) (wrap64 (x8_1 + 1))) else (none)) else (none)) else (none)) else (none)) else (if x7_1.length < 2199023255552 then (seedcornref30_Ins.l0 kj34 l0 x5_1 x6_1 (x7_1 ++ [(⟨1, x166001_20, 0, 0, 0, 0, 0, t172⟩ : S48)]) (wrap64 (x8_1 + 1))) else (none))) = some r := H
                    have A55 := Aside0.mk A550
                    clear A550
                    by_cases c56 : t174 ≥ 0
                    ·
                     rw [if_pos c56] at H
                     have c56b0 : decide (0 ≤ t174) = true := decide_eq_true c56
                     clear c56
                     by_cases c57 : 0 ≤ t174
                     ·
                      rw [if_pos c57] at H
                      have c57b0 : decide (0 ≤ t174) = true := decide_eq_true c57
                      clear c57
                      by_cases c58 : t174 < (x5_1.length : Int)
                      ·
                       rw [if_pos c58] at H
                       have c58b0 : decide (t174 < (x5_1.length : Int)) = true := decide_eq_true c58
                       clear c58
                       obtain ⟨y175, hy175⟩ : ∃ y_ : List Bool, y_ = (x5_1.set (t174 : Int).toNat (1 == 1)) := ⟨_, rfl⟩
                       replace H : (if t174 < (x6_1.length : Int) then (if x7_1.length < 2199023255552 then (seedcornref30_Ins.l0 kj34 l0 y175 (x6_1.set (t174 : Int).toNat t172) (x7_1 ++ [(⟨1, x166001_20, 0, 0, 0, 0, 0, t172⟩ : S48)]) (wrap64 (x8_1 + 1))) else (none)) else (none)) = some r := by first | (rw [hy175]; with_reducible exact H) | (have H2_ := (Option.bind_some _ _).symm.trans H; rw [hy175]; with_reducible exact H2_) | (have H2_ := (Option.bind_some _ _).symm.trans H; with_reducible exact H2_) | with_reducible exact H | (rw [hy175]; exact H) | exact H
                       have Ny175 := Aside0.mk hy175
                       clear hy175
                       by_cases c60 : t174 < (x6_1.length : Int)
                       ·
                        rw [if_pos c60] at H
                        have c60b0 : decide (t174 < (x6_1.length : Int)) = true := decide_eq_true c60
                        clear c60
                        obtain ⟨y176, hy176⟩ : ∃ y_ : List Int, y_ = (x6_1.set (t174 : Int).toNat t172) := ⟨_, rfl⟩
                        replace H : (if x7_1.length < 2199023255552 then (seedcornref30_Ins.l0 kj34 l0 y175 y176 (x7_1 ++ [(⟨1, x166001_20, 0, 0, 0, 0, 0, t172⟩ : S48)]) (wrap64 (x8_1 + 1))) else (none)) = some r := by first | (rw [hy176]; with_reducible exact H) | (have H2_ := (Option.bind_some _ _).symm.trans H; rw [hy176]; with_reducible exact H2_) | (have H2_ := (Option.bind_some _ _).symm.trans H; with_reducible exact H2_) | with_reducible exact H | (rw [hy176]; exact H) | exact H
                        have Ny176 := Aside0.mk hy176
                        clear hy176
                        by_cases c62 : x7_1.length < 2199023255552
                        ·
                         rw [if_pos c62] at H
                         have LMc62 := Aside0.mk c62
                         clear c62
                         obtain ⟨y177, hy177⟩ : ∃ y_ : List (S48), y_ = (x7_1 ++ [(⟨1, x166001_20, 0, 0, 0, 0, 0, t172⟩ : S48)]) := ⟨_, rfl⟩
                         replace H : (seedcornref30_Ins.l0 kj34 l0 y175 y176 y177 (wrap64 (x8_1 + 1))) = some r := by first | (rw [hy177]; with_reducible exact H) | (have H2_ := (Option.bind_some _ _).symm.trans H; rw [hy177]; with_reducible exact H2_) | (have H2_ := (Option.bind_some _ _).symm.trans H; with_reducible exact H2_) | with_reducible exact H | (rw [hy177]; exact H) | exact H
                         have Ny177 := Aside0.mk hy177
                         clear hy177
                         have H' := Aside0.mk H
                         clear H
                         try go_wp2
                         have n0_ := Aside0.mk (Kd.R_drew HO_5.out)
                         have n1_ := Aside0.mk (Kd.R_drew HO_6.out)
                         have n2_ := Aside0.mk (Kd.R_drew HO_7.out)
                         have n3_ := Aside0.mk (blk_drew BK165.out)
                         have n4_ := Aside0.mk (below_drew1 HB.out)
                         clear HO_5
                         clear HO_6
                         clear HO_7
                         clear BK165
                         clear HB
                         have HO_5 := n0_
                         have HO_6 := n1_
                         have HO_7 := n2_
                         have BK165 := n3_
                         have HB := n4_
                         clear n0_ n1_ n2_ n3_ n4_
                         obtain ⟨Ao64, co64, eo64⟩ := Kd.R_slice HO_6.out
                         (first | subst eo64 | (injection eo64 with f1_ f2_ f3_; have f4_ := f1_.symm; have f5_ := f3_.symm; clear f1_ f2_ f3_; subst f4_; subst f5_))
                         have p170 : 0 ≤ (x166002_20 : Int) := of_decide_eq_true (by first | (with_reducible assumption) | assumption)
                         have q170 : x166002_20 < (x6_1.length : Int) := of_decide_eq_true (by first | (with_reducible assumption) | assumption)
                         obtain ⟨ad170, e170, hx170_0⟩ := Kd.at_int (Kd.R_reads' HO_6.out).2.2 x166002_20 p170 q170
                         cases e170
                         replace p170 := eq_true p170
                         replace q170 := eq_true q170
                         have p171 : 0 ≤ (x166003_20 : Int) := of_decide_eq_true (by first | (with_reducible assumption) | assumption)
                         have q171 : x166003_20 < (x6_1.length : Int) := of_decide_eq_true (by first | (with_reducible assumption) | assumption)
                         obtain ⟨ad171, e171, hx171_0⟩ := Kd.at_int (Kd.R_reads' HO_6.out).2.2 x166003_20 p171 q171
                         obtain rfl : ad170 = ad171 := (by injection e171)
                         replace p171 := eq_true p171
                         replace q171 := eq_true q171
                         refine start_ (n := 18) (S := fun w' => w'.cell? ⟨gb165, 0, none⟩ = some (.int .i64 x166000_20) ∧ w'.cell? ⟨gb165, 1, none⟩ = some (.int .i64 x166001_20) ∧ w'.cell? ⟨gb165, 2, none⟩ = some (.int .i64 x166002_20) ∧ w'.cell? ⟨gb165, 3, none⟩ = some (.int .i64 x166003_20) ∧ w'.cell? ⟨gb165, 4, none⟩ = some (.int .i64 x166004_20) ∧ w'.cell? ⟨gb165, 5, none⟩ = some (.int .i64 x166005_20) ∧ w'.cell? ⟨gb165, 6, none⟩ = some (.int .i64 x166006_20) ∧ w'.cell? ⟨gb165, 7, none⟩ = some (.int .u32 x166007_20) ∧ w'.cell? (ad170.add (x166002_20).toNat) = some (.int .u32 (rd x6_1 x166002_20)) ∧ w'.cell? (ad170.add (x166003_20).toNat) = some (.int .u32 (rd x6_1 x166003_20))) (ds := []) #[false, false, false, false, false, false, false, false, false, false, false, false, false, false, false, false, false, false] (by kernel_rfl) rfl rfl ⟨(blk_cell BK165.out 0).trans rfl, (blk_cell BK165.out 1).trans rfl, (blk_cell BK165.out 2).trans rfl, (blk_cell BK165.out 3).trans rfl, (blk_cell BK165.out 4).trans rfl, (blk_cell BK165.out 5).trans rfl, (blk_cell BK165.out 6).trans rfl, (blk_cell BK165.out 7).trans rfl, hx170_0, hx171_0⟩ (fun hHeld => ?_); refine with_tabW seedcornref30_Ins.tab11 seedcornref30_Ins.bits11 (fun HT_ HW_ => ?_)
                         generalize wc.drew = w63 at HO_5 HO_6 HO_7 BK165 HB hx170_0 hx171_0 hHeld ⊢
                         refine pure_ (i := 0) (N := some 63) (v := ?_) (a' := ?_) #[true, false, false, false, false, false, false, false, false, false, false, false, false, false, false, false, false, false] rfl rfl (any_of HT_.out (by kernel_rfl)) (fun _ _ _ h => h) (Or.inl ⟨by rfl, ?_⟩) ?_ ?_
                         rotate_left
                         ·
                          intro w'
                          go_simp
                          with_reducible rfl
                         rotate_left
                         ·
                          simp only [Act.put, List.setIfInBounds_toArray, List.set_cons_zero, List.set_cons_succ, i64_w, i32_w]
                          rfl
                         refine pure_ (i := 2) (N := some 65) (v := ?_) (a' := ?_) #[true, false, true, false, false, false, false, false, false, false, false, false, false, false, false, false, false, false] rfl rfl (any_of HT_.out (by kernel_rfl)) (fun _ _ _ h => h) (Or.inl ⟨by rfl, ?_⟩) ?_ ?_
                         rotate_left
                         ·
                          intro w'
                          go_simp
                          with_reducible rfl
                         rotate_left
                         ·
                          simp only [Act.put, List.setIfInBounds_toArray, List.set_cons_zero, List.set_cons_succ, i64_w, i32_w]
                          rfl
                         refine pure_ (i := 3) (N := some 66) (v := ?_) (a' := ?_) #[true, false, true, true, false, false, false, false, false, false, false, false, false, false, false, false, false, false] rfl rfl (any_of HT_.out (by kernel_rfl)) (fun _ _ _ h => h) (Or.inl ⟨by rfl, ?_⟩) ?_ ?_
                         rotate_left
                         ·
                          intro w'
                          go_simp
                          with_reducible rfl
                         rotate_left
                         ·
                          simp only [Act.put, List.setIfInBounds_toArray, List.set_cons_zero, List.set_cons_succ, i64_w, i32_w]
                          rfl
                         refine pure_ (i := 7) (N := some 70) (v := ?_) (a' := ?_) #[true, false, true, true, false, false, false, true, false, false, false, false, false, false, false, false, false, false] rfl rfl (any_of HT_.out (by kernel_rfl)) (fun _ _ _ h => h) (Or.inl ⟨by rfl, ?_⟩) ?_ ?_
                         rotate_left
                         ·
                          intro w'
                          go_simp
                          with_reducible rfl
                         rotate_left
                         ·
                          simp only [Act.put, List.setIfInBounds_toArray, List.set_cons_zero, List.set_cons_succ, i64_w, i32_w]
                          rfl
                         refine pure_ (i := 8) (N := some 71) (v := ?_) (a' := ?_) #[true, false, true, true, false, false, false, true, true, false, false, false, false, false, false, false, false, false] rfl rfl (any_of HT_.out (by kernel_rfl)) (fun _ _ _ h => h) (Or.inl ⟨by rfl, ?_⟩) ?_ ?_
                         rotate_left
                         ·
                          intro w'
                          go_simp
                          with_reducible rfl
                         rotate_left
                         ·
                          simp only [Act.put, List.setIfInBounds_toArray, List.set_cons_zero, List.set_cons_succ, i64_w, i32_w]
                          rfl
                         refine take_ (i := 1) (N := some 64) (v := ?_) (a' := ?_) #[true, true, true, true, false, false, false, true, true, false, false, false, false, false, false, false, false, false] rfl rfl (take_ofW HT_.out HW_.out (by kernel_rfl)) (fun _ _ _ h => h) (Or.inl ⟨by rfl, ?_⟩) hHeld ?_ ?_
                         rotate_left
                         ·
                          rintro w' ⟨s0, s1, s2, s3, s4, s5, s6, s7, s8, s9⟩
                          go_simp
                          with_reducible rfl
                         rotate_left
                         ·
                          simp only [Act.put, List.setIfInBounds_toArray, List.set_cons_zero, List.set_cons_succ, i64_w, i32_w]
                          rfl
                         refine take_ (i := 4) (N := some 67) (v := ?_) (a' := ?_) #[true, true, true, true, true, false, false, true, true, false, false, false, false, false, false, false, false, false] rfl rfl (take_ofW HT_.out HW_.out (by kernel_rfl)) (fun _ _ _ h => h) (Or.inl ⟨by rfl, ?_⟩) hHeld ?_ ?_
                         rotate_left
                         ·
                          rintro w' ⟨s0, s1, s2, s3, s4, s5, s6, s7, s8, s9⟩
                          go_simp
                          with_reducible rfl
                         rotate_left
                         ·
                          simp only [Act.put, List.setIfInBounds_toArray, List.set_cons_zero, List.set_cons_succ, i64_w, i32_w]
                          rfl
                         refine pure_ (i := 5) (N := some 68) (v := ?_) (a' := ?_) #[true, true, true, true, true, true, false, true, true, false, false, false, false, false, false, false, false, false] rfl rfl (any_of HT_.out (by kernel_rfl)) (fun _ _ _ h => h) (Or.inl ⟨by rfl, ?_⟩) ?_ ?_
                         rotate_left
                         ·
                          intro w'
                          go_simp
                          with_reducible rfl
                         rotate_left
                         ·
                          simp only [Act.put, List.setIfInBounds_toArray, List.set_cons_zero, List.set_cons_succ, i64_w, i32_w]
                          rfl
                         refine take_ (i := 6) (N := some 69) (v := ?_) (a' := ?_) #[true, true, true, true, true, true, true, true, true, false, false, false, false, false, false, false, false, false] rfl rfl (take_ofW HT_.out HW_.out (by kernel_rfl)) (fun _ _ _ h => h) (Or.inl ⟨by rfl, ?_⟩) hHeld ?_ ?_
                         rotate_left
                         ·
                          rintro w' ⟨s0, s1, s2, s3, s4, s5, s6, s7, s8, s9⟩
                          go_simp
                          with_reducible rfl
                         rotate_left
                         ·
                          simp only [Act.put, List.setIfInBounds_toArray, List.set_cons_zero, List.set_cons_succ, i64_w, i32_w]
                          rfl
                         refine take_ (i := 9) (N := some 72) (v := ?_) (a' := ?_) #[true, true, true, true, true, true, true, true, true, true, false, false, false, false, false, false, false, false] rfl rfl (take_ofW HT_.out HW_.out (by kernel_rfl)) (fun _ _ _ h => h) (Or.inl ⟨by rfl, ?_⟩) hHeld ?_ ?_
                         rotate_left
                         ·
                          rintro w' ⟨s0, s1, s2, s3, s4, s5, s6, s7, s8, s9⟩
                          go_simp
                          with_reducible rfl
                         rotate_left
                         ·
                          simp only [Act.put, List.setIfInBounds_toArray, List.set_cons_zero, List.set_cons_succ, i64_w, i32_w]
                          rfl
                         refine pure_ (i := 10) (N := some 73) (v := ?_) (a' := ?_) #[true, true, true, true, true, true, true, true, true, true, true, false, false, false, false, false, false, false] rfl rfl (any_of HT_.out (by kernel_rfl)) (fun _ _ _ h => h) (Or.inl ⟨by rfl, ?_⟩) ?_ ?_
                         rotate_left
                         ·
                          intro w'
                          go_simp
                          with_reducible rfl
                         rotate_left
                         ·
                          simp only [Act.put, List.setIfInBounds_toArray, List.set_cons_zero, List.set_cons_succ, i64_w, i32_w]
                          rfl
                         refine take_ (i := 11) (N := some 74) (v := ?_) (a' := ?_) #[true, true, true, true, true, true, true, true, true, true, true, true, false, false, false, false, false, false] rfl rfl (take_ofW HT_.out HW_.out (by kernel_rfl)) (fun _ _ _ h => h) (Or.inl ⟨by rfl, ?_⟩) hHeld ?_ ?_
                         rotate_left
                         ·
                          rintro w' ⟨s0, s1, s2, s3, s4, s5, s6, s7, s8, s9⟩
                          go_simp
                          with_reducible rfl
                         rotate_left
                         ·
                          simp only [Act.put, List.setIfInBounds_toArray, List.set_cons_zero, List.set_cons_succ, i64_w, i32_w]
                          rfl
                         refine one_ (i := 12) (N := some 75) #[true, true, true, true, true, true, true, true, true, true, true, true, true, false, false, false, false, false] rfl rfl (one_of HT_.out (by kernel_rfl)) (by decide) (fun K hK => ?_)
                         refine goes_ Try.func26 (by kernel_rfl) rfl #[.int .i64 x166004_20, .int .u32 (rd x6_1 x166002_20), .int .u32 (rd x6_1 x166003_20)] (by rfl) rfl rfl (by (try simp only [List.map_toArray, List.map_cons, List.map_nil]); first | done | rfl | (simp only [List.length_drop, List.length_take]; rfl)) ?_
                         with_reducible refine (seedcornref01_Apply.calls x166004_20 (rd x6_1 x166002_20) (rd x6_1 x166003_20) t172 t173 _ A53.out).mono ?_
                         rintro e w65 ⟨rfl, hb⟩
                         have HS8_ := (hb.cell (World.block_lt_of_cell? _ _ (hHeld.2.2.2.2.2.2.2.2.1))).trans (hHeld.2.2.2.2.2.2.2.2.1)
                         have HS9_ := (hb.cell (World.block_lt_of_cell? _ _ (hHeld.2.2.2.2.2.2.2.2.2))).trans (hHeld.2.2.2.2.2.2.2.2.2)
                         refine ⟨_, rfl, ?_⟩
                         have n0_ := Aside0.mk (Kd.R_below (by (with_reducible repeat (first | apply Kd.R_alloc | apply Kd.R_drewN | apply Kd.R_drew)); exact HO_5.out) hb)
                         have n1_ := Aside0.mk (Kd.R_below (by (with_reducible repeat (first | apply Kd.R_alloc | apply Kd.R_drewN | apply Kd.R_drew)); exact HO_6.out) hb)
                         have n2_ := Aside0.mk (Kd.R_below (by (with_reducible repeat (first | apply Kd.R_alloc | apply Kd.R_drewN | apply Kd.R_drew)); exact HO_7.out) hb)
                         have n3_ := Aside0.mk (blk_below (g := gb165) (o := .cells #[.int .i64 x166000_20, .int .i64 x166001_20, .int .i64 x166002_20, .int .i64 x166003_20, .int .i64 x166004_20, .int .i64 x166005_20, .int .i64 x166006_20, .int .u32 x166007_20] 48 (0, 0)) (by (with_reducible repeat (first | refine blk_drewN ?_ _ | refine blk_drew ?_ | refine blk_alloc ?_ _)); exact BK165.out) hb)
                         have n4_ := Aside0.mk (below_step (by repeat (first | (with_reducible first | exact HB.out | apply below_alloc | apply pw_below_drewN | apply below_drew1 | refine below_set ?_ GE165.out) | exact HB.out)) hb)
                         clear HO_5
                         clear HO_6
                         clear HO_7
                         clear BK165
                         clear HB
                         have HO_5 := n0_
                         have HO_6 := n1_
                         have HO_7 := n2_
                         have BK165 := n3_
                         have HB := n4_
                         clear n0_ n1_ n2_ n3_ n4_
                         (try clear hb)
                         (try clear hb2)
                         (try clear hk)
                         (try clear hi)
                         refine hK.out _ _ ⟨(blk_cell BK165.out 0).trans rfl, (blk_cell BK165.out 1).trans rfl, (blk_cell BK165.out 2).trans rfl, (blk_cell BK165.out 3).trans rfl, (blk_cell BK165.out 4).trans rfl, (blk_cell BK165.out 5).trans rfl, (blk_cell BK165.out 6).trans rfl, (blk_cell BK165.out 7).trans rfl, HS8_, HS9_⟩ (fun hHeld => ?_)
                         clear hK K
                         refine norm_ (a' := ?_) ?_ ?_
                         rotate_left
                         ·
                          show Act.put _ (some 75) _ = _
                          simp only [Act.put, List.setIfInBounds_toArray, List.set_cons_zero, List.set_cons_succ, i64_w, i32_w]
                          rfl
                         refine pure_ (i := 13) (N := some 62) (v := ?_) (a' := ?_) #[true, true, true, true, true, true, true, true, true, true, true, true, true, true, false, false, false, false] rfl rfl (any_of HT_.out (by kernel_rfl)) (fun _ _ _ h => h) (Or.inl ⟨by rfl, ?_⟩) ?_ ?_
                         rotate_left
                         ·
                          intro w'
                          go_simp
                          with_reducible rfl
                         rotate_left
                         ·
                          simp only [Act.put, List.setIfInBounds_toArray, List.set_cons_zero, List.set_cons_succ, i64_w, i32_w]
                          rfl
                         refine pure_ (i := 14) (N := some 76) (v := ?_) (a' := ?_) #[true, true, true, true, true, true, true, true, true, true, true, true, true, true, true, false, false, false] rfl rfl (any_of HT_.out (by kernel_rfl)) (fun _ _ _ h => h) (Or.inl ⟨by rfl, ?_⟩) ?_ ?_
                         rotate_left
                         ·
                          intro w'
                          go_simp
                          with_reducible rfl
                         rotate_left
                         ·
                          simp only [Act.put, List.setIfInBounds_toArray, List.set_cons_zero, List.set_cons_succ, i64_w, i32_w]
                          rfl
                         refine pure_ (i := 15) (N := some 77) (v := ?_) (a' := ?_) #[true, true, true, true, true, true, true, true, true, true, true, true, true, true, true, true, false, false] rfl rfl (any_of HT_.out (by kernel_rfl)) (fun _ _ _ h => h) (Or.inl ⟨by rfl, ?_⟩) ?_ ?_
                         rotate_left
                         ·
                          intro w'
                          go_simp
                          with_reducible rfl
                         rotate_left
                         ·
                          simp only [Act.put, List.setIfInBounds_toArray, List.set_cons_zero, List.set_cons_succ, i64_w, i32_w]
                          rfl
                         refine pure_ (i := 16) (N := some 10) (v := ?_) (a' := ?_) #[true, true, true, true, true, true, true, true, true, true, true, true, true, true, true, true, true, false] rfl rfl (any_of HT_.out (by kernel_rfl)) (fun _ _ _ h => h) (Or.inl ⟨by rfl, ?_⟩) ?_ ?_
                         rotate_left
                         ·
                          intro w'
                          go_simp
                          with_reducible rfl
                         rotate_left
                         ·
                          simp only [Act.put, List.setIfInBounds_toArray, List.set_cons_zero, List.set_cons_succ, i64_w, i32_w]
                          rfl
                         refine pure_ (i := 17) (N := some 11) (v := ?_) (a' := ?_) #[true, true, true, true, true, true, true, true, true, true, true, true, true, true, true, true, true, true] rfl rfl (any_of HT_.out (by kernel_rfl)) (fun _ _ _ h => h) (Or.inl ⟨by rfl, ?_⟩) ?_ ?_
                         rotate_left
                         ·
                          intro w'
                          go_simp
                          with_reducible rfl
                         rotate_left
                         ·
                          simp only [Act.put, List.setIfInBounds_toArray, List.set_cons_zero, List.set_cons_succ, i64_w, i32_w]
                          rfl
                         refine done_ (done_of HT_.out (by kernel_rfl)) ?_
                         have hcz66_0 : w65.cell? ⟨gb165, 0, none⟩ = some (.int .i64 x166000_20) := (blk_cell BK165.out 0).trans rfl
                         have hcz66_1 : w65.cell? ⟨gb165, 1, none⟩ = some (.int .i64 x166001_20) := (blk_cell BK165.out 1).trans rfl
                         have hcz66_2 : w65.cell? ⟨gb165, 2, none⟩ = some (.int .i64 x166002_20) := (blk_cell BK165.out 2).trans rfl
                         have hcz66_3 : w65.cell? ⟨gb165, 3, none⟩ = some (.int .i64 x166003_20) := (blk_cell BK165.out 3).trans rfl
                         have hcz66_4 : w65.cell? ⟨gb165, 4, none⟩ = some (.int .i64 x166004_20) := (blk_cell BK165.out 4).trans rfl
                         have hcz66_5 : w65.cell? ⟨gb165, 5, none⟩ = some (.int .i64 x166005_20) := (blk_cell BK165.out 5).trans rfl
                         have hcz66_6 : w65.cell? ⟨gb165, 6, none⟩ = some (.int .i64 x166006_20) := (blk_cell BK165.out 6).trans rfl
                         have hcz66_7 : w65.cell? ⟨gb165, 7, none⟩ = some (.int .u32 x166007_20) := (blk_cell BK165.out 7).trans rfl
                         have hfz66_0 := blk_frozen BK165.out 0
                         have hfz66_1 := blk_frozen BK165.out 1
                         have hfz66_2 := blk_frozen BK165.out 2
                         have hfz66_3 := blk_frozen BK165.out 3
                         have hfz66_4 := blk_frozen BK165.out 4
                         have hfz66_5 := blk_frozen BK165.out 5
                         have hfz66_6 := blk_frozen BK165.out 6
                         have hfz66_7 := blk_frozen BK165.out 7
                         try go_wp2_with (first | ((with_reducible refine gate_callee (f := 27) rfl ?_); refine goesL_ (some 85) rfl rfl Try.func27 (by kernel_rfl) rfl #[.agg #[.int .i64 1, .int .i64 x166001_20, .int .i64 0, .int .i64 0, .int .i64 0, .int .i64 0, .int .i64 0, .int .u32 t172]] rfl (by (try simp only [List.map_toArray, List.map_cons, List.map_nil]); first | done | rfl | (simp only [List.length_drop, List.length_take]; rfl)) ?_; (with_reducible refine (seedcornref24_Sets.calls 1 x166001_20 0 0 0 0 0 t172 t174 _ A55.out).mono ?_); rintro e w67 ⟨rfl, hb⟩; refine ⟨_, rfl, ?_⟩; have n0_ := Aside0.mk (Kd.R_below (by (with_reducible repeat (first | apply Kd.R_alloc | apply Kd.R_drewN | apply Kd.R_drew)); exact (Kd.R_mono (Kd.R_far (p := ⟨gb165, 7, none⟩) (Kd.R_far (p := ⟨gb165, 6, none⟩) (Kd.R_far (p := ⟨gb165, 5, none⟩) (Kd.R_far (p := ⟨gb165, 4, none⟩) (Kd.R_far (p := ⟨gb165, 3, none⟩) (Kd.R_far (p := ⟨gb165, 2, none⟩) (Kd.R_far (p := ⟨gb165, 1, none⟩) (Kd.R_far (p := ⟨gb165, 0, none⟩) (Kd.R_types HO_5.out BK165.out (by decide)) (fun _ hk => hk.2) (.int .i64 1)) (fun _ hk => hk.2) (.int .i64 x166001_20)) (fun _ hk => hk.2) (.int .i64 0)) (fun _ hk => hk.2) (.int .i64 0)) (fun _ hk => hk.2) (.int .i64 0)) (fun _ hk => hk.2) (.int .i64 0)) (fun _ hk => hk.2) (.int .i64 0)) (fun _ hk => hk.2) (.int .u32 t172)) (fun _ h_ => h_.1))) hb); have n1_ := Aside0.mk (Kd.R_below (by (with_reducible repeat (first | apply Kd.R_alloc | apply Kd.R_drewN | apply Kd.R_drew)); exact (Kd.R_mono (Kd.R_far (p := ⟨gb165, 7, none⟩) (Kd.R_far (p := ⟨gb165, 6, none⟩) (Kd.R_far (p := ⟨gb165, 5, none⟩) (Kd.R_far (p := ⟨gb165, 4, none⟩) (Kd.R_far (p := ⟨gb165, 3, none⟩) (Kd.R_far (p := ⟨gb165, 2, none⟩) (Kd.R_far (p := ⟨gb165, 1, none⟩) (Kd.R_far (p := ⟨gb165, 0, none⟩) (Kd.R_types HO_6.out BK165.out (by decide)) (fun _ hk => hk.2) (.int .i64 1)) (fun _ hk => hk.2) (.int .i64 x166001_20)) (fun _ hk => hk.2) (.int .i64 0)) (fun _ hk => hk.2) (.int .i64 0)) (fun _ hk => hk.2) (.int .i64 0)) (fun _ hk => hk.2) (.int .i64 0)) (fun _ hk => hk.2) (.int .i64 0)) (fun _ hk => hk.2) (.int .u32 t172)) (fun _ h_ => h_.1))) hb); have n2_ := Aside0.mk (Kd.R_below (by (with_reducible repeat (first | apply Kd.R_alloc | apply Kd.R_drewN | apply Kd.R_drew)); exact (Kd.R_mono (Kd.R_far (p := ⟨gb165, 7, none⟩) (Kd.R_far (p := ⟨gb165, 6, none⟩) (Kd.R_far (p := ⟨gb165, 5, none⟩) (Kd.R_far (p := ⟨gb165, 4, none⟩) (Kd.R_far (p := ⟨gb165, 3, none⟩) (Kd.R_far (p := ⟨gb165, 2, none⟩) (Kd.R_far (p := ⟨gb165, 1, none⟩) (Kd.R_far (p := ⟨gb165, 0, none⟩) (Kd.R_mono HO_7.out (fun k_ hk => (⟨hk, hk⟩ : _ ∧ k_ ≠ gb165))) (fun _ hk => hk.2) (.int .i64 1)) (fun _ hk => hk.2) (.int .i64 x166001_20)) (fun _ hk => hk.2) (.int .i64 0)) (fun _ hk => hk.2) (.int .i64 0)) (fun _ hk => hk.2) (.int .i64 0)) (fun _ hk => hk.2) (.int .i64 0)) (fun _ hk => hk.2) (.int .i64 0)) (fun _ hk => hk.2) (.int .u32 t172)) (fun _ h_ => h_.1))) hb); have n3_ := Aside0.mk (blk_below (g := gb165) (o := .cells #[.int .i64 1, .int .i64 x166001_20, .int .i64 0, .int .i64 0, .int .i64 0, .int .i64 0, .int .i64 0, .int .u32 t172] 48 (0, 0)) (by (with_reducible repeat (first | refine blk_drewN ?_ _ | refine blk_drew ?_ | refine blk_alloc ?_ _)); refine blk_put (cs := #[.int .i64 1, .int .i64 x166001_20, .int .i64 0, .int .i64 0, .int .i64 0, .int .i64 0, .int .i64 0, .int .u32 x166007_20]) ?_ 7 _ rfl; (with_reducible repeat (first | refine blk_drewN ?_ _ | refine blk_drew ?_ | refine blk_alloc ?_ _)); refine blk_put (cs := #[.int .i64 1, .int .i64 x166001_20, .int .i64 0, .int .i64 0, .int .i64 0, .int .i64 0, .int .i64 x166006_20, .int .u32 x166007_20]) ?_ 6 _ rfl; (with_reducible repeat (first | refine blk_drewN ?_ _ | refine blk_drew ?_ | refine blk_alloc ?_ _)); refine blk_put (cs := #[.int .i64 1, .int .i64 x166001_20, .int .i64 0, .int .i64 0, .int .i64 0, .int .i64 x166005_20, .int .i64 x166006_20, .int .u32 x166007_20]) ?_ 5 _ rfl; (with_reducible repeat (first | refine blk_drewN ?_ _ | refine blk_drew ?_ | refine blk_alloc ?_ _)); refine blk_put (cs := #[.int .i64 1, .int .i64 x166001_20, .int .i64 0, .int .i64 0, .int .i64 x166004_20, .int .i64 x166005_20, .int .i64 x166006_20, .int .u32 x166007_20]) ?_ 4 _ rfl; (with_reducible repeat (first | refine blk_drewN ?_ _ | refine blk_drew ?_ | refine blk_alloc ?_ _)); refine blk_put (cs := #[.int .i64 1, .int .i64 x166001_20, .int .i64 0, .int .i64 x166003_20, .int .i64 x166004_20, .int .i64 x166005_20, .int .i64 x166006_20, .int .u32 x166007_20]) ?_ 3 _ rfl; (with_reducible repeat (first | refine blk_drewN ?_ _ | refine blk_drew ?_ | refine blk_alloc ?_ _)); refine blk_put (cs := #[.int .i64 1, .int .i64 x166001_20, .int .i64 x166002_20, .int .i64 x166003_20, .int .i64 x166004_20, .int .i64 x166005_20, .int .i64 x166006_20, .int .u32 x166007_20]) ?_ 2 _ rfl; (with_reducible repeat (first | refine blk_drewN ?_ _ | refine blk_drew ?_ | refine blk_alloc ?_ _)); refine blk_put (cs := #[.int .i64 1, .int .i64 x166001_20, .int .i64 x166002_20, .int .i64 x166003_20, .int .i64 x166004_20, .int .i64 x166005_20, .int .i64 x166006_20, .int .u32 x166007_20]) ?_ 1 _ rfl; (with_reducible repeat (first | refine blk_drewN ?_ _ | refine blk_drew ?_ | refine blk_alloc ?_ _)); refine blk_put (cs := #[.int .i64 x166000_20, .int .i64 x166001_20, .int .i64 x166002_20, .int .i64 x166003_20, .int .i64 x166004_20, .int .i64 x166005_20, .int .i64 x166006_20, .int .u32 x166007_20]) ?_ 0 _ rfl; (with_reducible repeat (first | refine blk_drewN ?_ _ | refine blk_drew ?_ | refine blk_alloc ?_ _)); exact BK165.out) hb); have n4_ := Aside0.mk (below_step (by repeat (first | (with_reducible first | exact HB.out | apply below_alloc | apply pw_below_drewN | apply below_drew1 | refine below_set ?_ GE165.out) | exact HB.out)) hb); clear HO_5; clear HO_6; clear HO_7; clear BK165; clear HB; have HO_5 := n0_; have HO_6 := n1_; have HO_7 := n2_; have BK165 := n3_; have HB := n4_; clear n0_ n1_ n2_ n3_ n4_; (try clear hb); (try clear hb2); (try clear hk); (try clear hi); have hcz68_0 : w67.cell? ⟨gb165, 0, none⟩ = some (.int .i64 1) := (blk_cell BK165.out 0).trans rfl; have hcz68_1 : w67.cell? ⟨gb165, 1, none⟩ = some (.int .i64 x166001_20) := (blk_cell BK165.out 1).trans rfl; have hcz68_2 : w67.cell? ⟨gb165, 2, none⟩ = some (.int .i64 0) := (blk_cell BK165.out 2).trans rfl; have hcz68_3 : w67.cell? ⟨gb165, 3, none⟩ = some (.int .i64 0) := (blk_cell BK165.out 3).trans rfl; have hcz68_4 : w67.cell? ⟨gb165, 4, none⟩ = some (.int .i64 0) := (blk_cell BK165.out 4).trans rfl; have hcz68_5 : w67.cell? ⟨gb165, 5, none⟩ = some (.int .i64 0) := (blk_cell BK165.out 5).trans rfl; have hcz68_6 : w67.cell? ⟨gb165, 6, none⟩ = some (.int .i64 0) := (blk_cell BK165.out 6).trans rfl; have hcz68_7 : w67.cell? ⟨gb165, 7, none⟩ = some (.int .u32 t172) := (blk_cell BK165.out 7).trans rfl; have hfz68_0 := blk_frozen BK165.out 0; have hfz68_1 := blk_frozen BK165.out 1; have hfz68_2 := blk_frozen BK165.out 2; have hfz68_3 := blk_frozen BK165.out 3; have hfz68_4 := blk_frozen BK165.out 4; have hfz68_5 := blk_frozen BK165.out 5; have hfz68_6 := blk_frozen BK165.out 6; have hfz68_7 := blk_frozen BK165.out 7; have p59 : 0 ≤ (t174 : Int) := of_decide_eq_true (by first | (with_reducible assumption) | assumption); have q59 : (t174 : Int) < ((x5_1.length : Int) : Int) := of_decide_eq_true (by first | (with_reducible assumption) | assumption); obtain ⟨go59, co59, eo59, gb59, gl59, cl59, HG59⟩ := Kd.R_form HO_5.out (by omega); (first | cases eo59 | (injection eo59 with ea_ en_ ec_; (first | subst ea_ | (injection ea_ with ea_; subst ea_)); subst ec_; clear en_)); have GB59 := Aside0.mk gb59; have GG59 := Aside0.mk HG59; clear gb59 gl59 HG59; obtain ⟨hx59_0, hf59_0⟩ := Kd.R_celln false HO_5.out (t174 : Int) p59 q59; replace p59 := eq_true p59; replace q59 := eq_true q59; obtain ⟨hy69_, hz69_⟩ := Kd.R_celln false HO_5.out (t174 : Int) (of_decide_eq_true (by first | (with_reducible assumption) | assumption)) (of_decide_eq_true (by first | (with_reducible assumption) | assumption)); have HP69 := Kd.R_putg HO_5.out (t174 : Int) (1 == 1)) | ((with_reducible refine gate_store (t := 4) (p := 93) rfl ?_); refine store_event (t := 4) (p := 93) (v := ?vo_w70) (w1 := (w67.setCell ⟨go59, (t174 : Int).toNat, none⟩ (.bool (1 == 1)))) ?hg ?ho ?hn ?hr ?_; (case ho => rfl); (case hg => rfl); (case hn => rfl); (case hr => first | (go_simp; done) | (go_simp; rfl)); intro w70 hw; have hg : w67.grownBy w70 (some go59) := (by rw [hw]; exact HP69.2); have hp_ : Kd.R Kd.bool 4 w70 w.heap.size (fun _ => True) (.slice (some ⟨go59, 0, none⟩) x5_1.length co59) y175 := (by rw [hw, Ny175.out]; exact HP69.1); clear HP69; have n0_ := Aside0.mk (hp_); have n1_ := Aside0.mk (Kd.R_over' (v := (.slice (some ⟨go59, 0, none⟩) x5_1.length co59)) (by (with_reducible repeat (first | apply Kd.R_alloc | apply Kd.R_drewN | apply Kd.R_drew)); exact HO_6.out) (Kd.R_typed HO_5.out) (by decide) hg); have n2_ := Aside0.mk (Kd.R_over' (v := (.slice (some ⟨go59, 0, none⟩) x5_1.length co59)) (by (with_reducible repeat (first | apply Kd.R_alloc | apply Kd.R_drewN | apply Kd.R_drew)); exact HO_7.out) (Kd.R_typed HO_5.out) (by decide) hg); have n3_ := Aside0.mk (blk_grown (g := gb165) (o := .cells #[.int .i64 1, .int .i64 x166001_20, .int .i64 0, .int .i64 0, .int .i64 0, .int .i64 0, .int .i64 0, .int .u32 t172] 48 (0, 0)) (by (with_reducible repeat (first | refine blk_drewN ?_ _ | refine blk_drew ?_ | refine blk_alloc ?_ _)); exact BK165.out) hg (Kd.R_ne HO_5.out BK165.out (by decide))); have n4_ := Aside0.mk ((by rw [hw]; exact below_set (HB.out) GB59.out : Below w.heap.size w w70)); clear HO_5; clear HO_6; clear HO_7; clear BK165; clear HB; have HO_5 := n0_; have HO_6 := n1_; have HO_7 := n2_; have BK165 := n3_; have HB := n4_; clear n0_ n1_ n2_ n3_ n4_; clear hg hw hp_; have hcz71_0 : w70.cell? ⟨gb165, 0, none⟩ = some (.int .i64 1) := (blk_cell BK165.out 0).trans rfl; have hcz71_1 : w70.cell? ⟨gb165, 1, none⟩ = some (.int .i64 x166001_20) := (blk_cell BK165.out 1).trans rfl; have hcz71_2 : w70.cell? ⟨gb165, 2, none⟩ = some (.int .i64 0) := (blk_cell BK165.out 2).trans rfl; have hcz71_3 : w70.cell? ⟨gb165, 3, none⟩ = some (.int .i64 0) := (blk_cell BK165.out 3).trans rfl; have hcz71_4 : w70.cell? ⟨gb165, 4, none⟩ = some (.int .i64 0) := (blk_cell BK165.out 4).trans rfl; have hcz71_5 : w70.cell? ⟨gb165, 5, none⟩ = some (.int .i64 0) := (blk_cell BK165.out 5).trans rfl; have hcz71_6 : w70.cell? ⟨gb165, 6, none⟩ = some (.int .i64 0) := (blk_cell BK165.out 6).trans rfl; have hcz71_7 : w70.cell? ⟨gb165, 7, none⟩ = some (.int .u32 t172) := (blk_cell BK165.out 7).trans rfl; have hfz71_0 := blk_frozen BK165.out 0; have hfz71_1 := blk_frozen BK165.out 1; have hfz71_2 := blk_frozen BK165.out 2; have hfz71_3 := blk_frozen BK165.out 3; have hfz71_4 := blk_frozen BK165.out 4; have hfz71_5 := blk_frozen BK165.out 5; have hfz71_6 := blk_frozen BK165.out 6; have hfz71_7 := blk_frozen BK165.out 7; have p61 : 0 ≤ (t174 : Int) := of_decide_eq_true (by first | (with_reducible assumption) | assumption); have q61 : (t174 : Int) < ((x6_1.length : Int) : Int) := of_decide_eq_true (by first | (with_reducible assumption) | assumption); obtain ⟨go61, co61, eo61, gb61, gl61, cl61, HG61⟩ := Kd.R_form HO_6.out (by omega); (first | cases eo61 | (injection eo61 with ea_ en_ ec_; (first | subst ea_ | (injection ea_ with ea_; subst ea_)); subst ec_; clear en_)); have GB61 := Aside0.mk gb61; have GG61 := Aside0.mk HG61; clear gb61 gl61 HG61; (first | simp only [add_plain] at hx170_0 | skip); (first | simp only [add_plain] at hx171_0 | skip); obtain ⟨hx61_0, hf61_0⟩ := Kd.R_celln 0 HO_6.out (t174 : Int) p61 q61; replace p61 := eq_true p61; replace q61 := eq_true q61; obtain ⟨hy72_, hz72_⟩ := Kd.R_celln 0 HO_6.out (t174 : Int) (of_decide_eq_true (by first | (with_reducible assumption) | assumption)) (of_decide_eq_true (by first | (with_reducible assumption) | assumption)); have HP72 := Kd.R_putg HO_6.out (t174 : Int) t172) | ((with_reducible refine gate_store (t := 46) (p := 98) rfl ?_); refine store_event (t := 46) (p := 98) (v := ?vo_w73) (w1 := (w70.setCell ⟨go61, (t174 : Int).toNat, none⟩ (.int .u32 t172))) ?hg ?ho ?hn ?hr ?_; (case ho => rfl); (case hg => rfl); (case hn => rfl); (case hr => first | (go_simp; done) | (go_simp; rfl)); intro w73 hw; have hg : w70.grownBy w73 (some go61) := (by rw [hw]; exact HP72.2); have hp_ : Kd.R (Kd.int .u32) 46 w73 w.heap.size (fun _ => True) (.slice (some ⟨go61, 0, none⟩) x6_1.length co64) y176 := (by rw [hw, Ny176.out]; exact HP72.1); clear HP72; have n0_ := Aside0.mk (Kd.R_over' (v := (.slice (some ⟨go61, 0, none⟩) x6_1.length co64)) (by (with_reducible repeat (first | apply Kd.R_alloc | apply Kd.R_drewN | apply Kd.R_drew)); exact HO_5.out) (Kd.R_typed HO_6.out) (by decide) hg); have n1_ := Aside0.mk (hp_); have n2_ := Aside0.mk (Kd.R_over' (v := (.slice (some ⟨go61, 0, none⟩) x6_1.length co64)) (by (with_reducible repeat (first | apply Kd.R_alloc | apply Kd.R_drewN | apply Kd.R_drew)); exact HO_7.out) (Kd.R_typed HO_6.out) (by decide) hg); have n3_ := Aside0.mk (blk_grown (g := gb165) (o := .cells #[.int .i64 1, .int .i64 x166001_20, .int .i64 0, .int .i64 0, .int .i64 0, .int .i64 0, .int .i64 0, .int .u32 t172] 48 (0, 0)) (by (with_reducible repeat (first | refine blk_drewN ?_ _ | refine blk_drew ?_ | refine blk_alloc ?_ _)); exact BK165.out) hg (Kd.R_ne HO_6.out BK165.out (by decide))); have n4_ := Aside0.mk ((by rw [hw]; exact below_set (HB.out) GB61.out : Below w.heap.size w w73)); clear HO_5; clear HO_6; clear HO_7; clear BK165; clear HB; have HO_5 := n0_; have HO_6 := n1_; have HO_7 := n2_; have BK165 := n3_; have HB := n4_; clear n0_ n1_ n2_ n3_ n4_; clear hg hw hp_; have hcz74_0 : w73.cell? ⟨gb165, 0, none⟩ = some (.int .i64 1) := (blk_cell BK165.out 0).trans rfl; have hcz74_1 : w73.cell? ⟨gb165, 1, none⟩ = some (.int .i64 x166001_20) := (blk_cell BK165.out 1).trans rfl; have hcz74_2 : w73.cell? ⟨gb165, 2, none⟩ = some (.int .i64 0) := (blk_cell BK165.out 2).trans rfl; have hcz74_3 : w73.cell? ⟨gb165, 3, none⟩ = some (.int .i64 0) := (blk_cell BK165.out 3).trans rfl; have hcz74_4 : w73.cell? ⟨gb165, 4, none⟩ = some (.int .i64 0) := (blk_cell BK165.out 4).trans rfl; have hcz74_5 : w73.cell? ⟨gb165, 5, none⟩ = some (.int .i64 0) := (blk_cell BK165.out 5).trans rfl; have hcz74_6 : w73.cell? ⟨gb165, 6, none⟩ = some (.int .i64 0) := (blk_cell BK165.out 6).trans rfl; have hcz74_7 : w73.cell? ⟨gb165, 7, none⟩ = some (.int .u32 t172) := (blk_cell BK165.out 7).trans rfl; have hfz74_0 := blk_frozen BK165.out 0; have hfz74_1 := blk_frozen BK165.out 1; have hfz74_2 := blk_frozen BK165.out 2; have hfz74_3 := blk_frozen BK165.out 3; have hfz74_4 := blk_frozen BK165.out 4; have hfz74_5 := blk_frozen BK165.out 5; have hfz74_6 := blk_frozen BK165.out 6; have hfz74_7 := blk_frozen BK165.out 7) | ((with_reducible refine gate_builtin (b := .append) (xs := #[.tmp 99, .tmp 101]) rfl ?_); at_builtin; refine Kd.R_append k48 (w0 := w) w.heap.size rfl (.tmp 99) (.tmp 101) 43 48 (.agg #[(.int .i64 0), (.int .i64 0), (.int .i64 0), (.int .i64 0), (.int .i64 0), (.int .i64 0), (.int .i64 0), (.int .u32 0)]) 64 rfl Try.underlying43 info48 rfl (by decide) (by omega) u7 x7_1 (⟨1, x166001_20, 0, 0, 0, 0, 0, t172⟩ : S48) [.int .i64 1, .int .i64 x166001_20, .int .i64 0, .int .i64 0, .int .i64 0, .int .i64 0, .int .i64 0, .int .u32 t172] (fun k_ => k_ ≠ gb165) (fun _ => False) rfl rfl ?aP (fun _ hk => hk.elim) ?aF ?aO ?aB ?aS ?aL ?_; (case aP => exact k48_mkM _ _ _ (⟨1, x166001_20, 0, 0, 0, 0, 0, t172⟩ : S48)); (case aB => exact (by repeat (first | (with_reducible first | exact HB.out | apply below_alloc | apply pw_below_drewN | apply below_drew1 | refine below_set ?_ GE165.out) | exact HB.out))); (case aF => exact (fun k_ hk => Kd.freshB (g := gb165) (o := .cells #[.int .i64 1, .int .i64 x166001_20, .int .i64 0, .int .i64 0, .int .i64 0, .int .i64 0, .int .i64 0, .int .u32 t172] 48 (0, 0)) (by (with_reducible repeat (first | refine blk_drewN ?_ _ | refine blk_drew ?_ | refine blk_alloc ?_ _)); exact BK165.out) k_ hk)); (case aO => exact (by (with_reducible repeat (first | apply Kd.R_alloc | apply Kd.R_drewN | apply Kd.R_drew)); exact HO_7.out)); (case aS => exact (below_size (by repeat (first | (with_reducible first | exact HB.out | apply below_alloc | apply pw_below_drewN | apply below_drew1 | refine below_set ?_ GE165.out) | exact HB.out)))); (case aL => have := LMc62.out; omega); intro v178 w75 ho hb hg hat; rw [← Ny177.out] at ho; have n0_ := Aside0.mk (Kd.R_over' (by (with_reducible repeat (first | apply Kd.R_alloc | apply Kd.R_drewN | apply Kd.R_drew)); exact HO_5.out) (Kd.R_typed (by (with_reducible repeat (first | apply Kd.R_alloc | apply Kd.R_drewN | apply Kd.R_drew)); exact HO_7.out)) (by decide) hg); have n1_ := Aside0.mk (Kd.R_over' (by (with_reducible repeat (first | apply Kd.R_alloc | apply Kd.R_drewN | apply Kd.R_drew)); exact HO_6.out) (Kd.R_typed (by (with_reducible repeat (first | apply Kd.R_alloc | apply Kd.R_drewN | apply Kd.R_drew)); exact HO_7.out)) (by decide) hg); have n2_ := Aside0.mk (blk_grown (g := gb165) (o := .cells #[.int .i64 1, .int .i64 x166001_20, .int .i64 0, .int .i64 0, .int .i64 0, .int .i64 0, .int .i64 0, .int .u32 t172] 48 (0, 0)) (by (with_reducible repeat (first | refine blk_drewN ?_ _ | refine blk_drew ?_ | refine blk_alloc ?_ _)); exact BK165.out) hg (Kd.R_away HO_7.out (fun _ hk => hk))); have n3_ := Aside0.mk (hb); have n4_ := Aside0.mk (ho); clear HO_5; clear HO_6; clear BK165; clear HB; clear HO_7; have HO_5 := n0_; have HO_6 := n1_; have BK165 := n2_; have HB := n3_; have HO179 := n4_; clear n0_ n1_ n2_ n3_ n4_; clear ho hb hg hat))
                         go_roundg kj34
                         case measure => have := HK1.out; have := HJ11.out; have := HJ20.out; have := HJ34.out; omega
                         case rel => exact ⟨(y175), (y176), (y177), (wrap64 (x8_1 + 1)), (by first | rfl | (simp; done) | (simp [*]; done)), H', ⟨by have := HK1.out; have := HJ11.out; have := HJ20.out; have := HJ34.out; omega⟩, ⟨by (with_reducible repeat (first | apply Kd.R_alloc | apply Kd.R_drewN | apply Kd.R_drew)); exact HO_5.out⟩, ⟨by (with_reducible repeat (first | apply Kd.R_alloc | apply Kd.R_drewN | apply Kd.R_drew)); exact HO_6.out⟩, ⟨by (with_reducible repeat (first | apply Kd.R_alloc | apply Kd.R_drewN | apply Kd.R_drew)); exact Kd.R_mono HO179.out (fun _ hk => trivial)⟩, ⟨by repeat (first | (with_reducible first | exact HB.out | apply below_alloc | apply pw_below_drewN | apply below_drew1 | refine below_set ?_ GE165.out) | exact HB.out)⟩⟩
                        ·
                         rw [if_neg c62] at H
                         exact absurd H (by simp)
                       ·
                        rw [if_neg c60] at H
                        exact absurd H (by simp)
                      ·
                       rw [if_neg c58] at H
                       exact absurd H (by simp)
                     ·
                      rw [if_neg c57] at H
                      exact absurd H (by simp)
                    ·
                     rw [if_neg c56] at H
                     have c56b0 : decide (0 ≤ t174) = false := decide_eq_false c56
                     clear c56
                     by_cases c76 : x7_1.length < 2199023255552
                     ·
                      rw [if_pos c76] at H
                      have LMc76 := Aside0.mk c76
                      clear c76
                      obtain ⟨y180, hy180⟩ : ∃ y_ : List (S48), y_ = (x7_1 ++ [(⟨1, x166001_20, 0, 0, 0, 0, 0, t172⟩ : S48)]) := ⟨_, rfl⟩
                      replace H : (seedcornref30_Ins.l0 kj34 l0 x5_1 x6_1 y180 (wrap64 (x8_1 + 1))) = some r := by first | (rw [hy180]; with_reducible exact H) | (have H2_ := (Option.bind_some _ _).symm.trans H; rw [hy180]; with_reducible exact H2_) | (have H2_ := (Option.bind_some _ _).symm.trans H; with_reducible exact H2_) | with_reducible exact H | (rw [hy180]; exact H) | exact H
                      have Ny180 := Aside0.mk hy180
                      clear hy180
                      have H' := Aside0.mk H
                      clear H
                      try go_wp2
                      have n0_ := Aside0.mk (Kd.R_drew HO_5.out)
                      have n1_ := Aside0.mk (Kd.R_drew HO_6.out)
                      have n2_ := Aside0.mk (Kd.R_drew HO_7.out)
                      have n3_ := Aside0.mk (blk_drew BK165.out)
                      have n4_ := Aside0.mk (below_drew1 HB.out)
                      clear HO_5
                      clear HO_6
                      clear HO_7
                      clear BK165
                      clear HB
                      have HO_5 := n0_
                      have HO_6 := n1_
                      have HO_7 := n2_
                      have BK165 := n3_
                      have HB := n4_
                      clear n0_ n1_ n2_ n3_ n4_
                      obtain ⟨Ao78, co78, eo78⟩ := Kd.R_slice HO_6.out
                      (first | subst eo78 | (injection eo78 with f1_ f2_ f3_; have f4_ := f1_.symm; have f5_ := f3_.symm; clear f1_ f2_ f3_; subst f4_; subst f5_))
                      have p170 : 0 ≤ (x166002_20 : Int) := of_decide_eq_true (by first | (with_reducible assumption) | assumption)
                      have q170 : x166002_20 < (x6_1.length : Int) := of_decide_eq_true (by first | (with_reducible assumption) | assumption)
                      obtain ⟨ad170, e170, hx170_0⟩ := Kd.at_int (Kd.R_reads' HO_6.out).2.2 x166002_20 p170 q170
                      cases e170
                      replace p170 := eq_true p170
                      replace q170 := eq_true q170
                      have p171 : 0 ≤ (x166003_20 : Int) := of_decide_eq_true (by first | (with_reducible assumption) | assumption)
                      have q171 : x166003_20 < (x6_1.length : Int) := of_decide_eq_true (by first | (with_reducible assumption) | assumption)
                      obtain ⟨ad171, e171, hx171_0⟩ := Kd.at_int (Kd.R_reads' HO_6.out).2.2 x166003_20 p171 q171
                      obtain rfl : ad170 = ad171 := (by injection e171)
                      replace p171 := eq_true p171
                      replace q171 := eq_true q171
                      refine start_ (n := 18) (S := fun w' => w'.cell? ⟨gb165, 0, none⟩ = some (.int .i64 x166000_20) ∧ w'.cell? ⟨gb165, 1, none⟩ = some (.int .i64 x166001_20) ∧ w'.cell? ⟨gb165, 2, none⟩ = some (.int .i64 x166002_20) ∧ w'.cell? ⟨gb165, 3, none⟩ = some (.int .i64 x166003_20) ∧ w'.cell? ⟨gb165, 4, none⟩ = some (.int .i64 x166004_20) ∧ w'.cell? ⟨gb165, 5, none⟩ = some (.int .i64 x166005_20) ∧ w'.cell? ⟨gb165, 6, none⟩ = some (.int .i64 x166006_20) ∧ w'.cell? ⟨gb165, 7, none⟩ = some (.int .u32 x166007_20) ∧ w'.cell? (ad170.add (x166002_20).toNat) = some (.int .u32 (rd x6_1 x166002_20)) ∧ w'.cell? (ad170.add (x166003_20).toNat) = some (.int .u32 (rd x6_1 x166003_20))) (ds := []) #[false, false, false, false, false, false, false, false, false, false, false, false, false, false, false, false, false, false] (by kernel_rfl) rfl rfl ⟨(blk_cell BK165.out 0).trans rfl, (blk_cell BK165.out 1).trans rfl, (blk_cell BK165.out 2).trans rfl, (blk_cell BK165.out 3).trans rfl, (blk_cell BK165.out 4).trans rfl, (blk_cell BK165.out 5).trans rfl, (blk_cell BK165.out 6).trans rfl, (blk_cell BK165.out 7).trans rfl, hx170_0, hx171_0⟩ (fun hHeld => ?_); refine with_tabW seedcornref30_Ins.tab11 seedcornref30_Ins.bits11 (fun HT_ HW_ => ?_)
                      generalize wc.drew = w77 at HO_5 HO_6 HO_7 BK165 HB hx170_0 hx171_0 hHeld ⊢
                      refine pure_ (i := 0) (N := some 63) (v := ?_) (a' := ?_) #[true, false, false, false, false, false, false, false, false, false, false, false, false, false, false, false, false, false] rfl rfl (any_of HT_.out (by kernel_rfl)) (fun _ _ _ h => h) (Or.inl ⟨by rfl, ?_⟩) ?_ ?_
                      rotate_left
                      ·
                       intro w'
                       go_simp
                       with_reducible rfl
                      rotate_left
                      ·
                       simp only [Act.put, List.setIfInBounds_toArray, List.set_cons_zero, List.set_cons_succ, i64_w, i32_w]
                       rfl
                      refine pure_ (i := 2) (N := some 65) (v := ?_) (a' := ?_) #[true, false, true, false, false, false, false, false, false, false, false, false, false, false, false, false, false, false] rfl rfl (any_of HT_.out (by kernel_rfl)) (fun _ _ _ h => h) (Or.inl ⟨by rfl, ?_⟩) ?_ ?_
                      rotate_left
                      ·
                       intro w'
                       go_simp
                       with_reducible rfl
                      rotate_left
                      ·
                       simp only [Act.put, List.setIfInBounds_toArray, List.set_cons_zero, List.set_cons_succ, i64_w, i32_w]
                       rfl
                      refine pure_ (i := 3) (N := some 66) (v := ?_) (a' := ?_) #[true, false, true, true, false, false, false, false, false, false, false, false, false, false, false, false, false, false] rfl rfl (any_of HT_.out (by kernel_rfl)) (fun _ _ _ h => h) (Or.inl ⟨by rfl, ?_⟩) ?_ ?_
                      rotate_left
                      ·
                       intro w'
                       go_simp
                       with_reducible rfl
                      rotate_left
                      ·
                       simp only [Act.put, List.setIfInBounds_toArray, List.set_cons_zero, List.set_cons_succ, i64_w, i32_w]
                       rfl
                      refine pure_ (i := 7) (N := some 70) (v := ?_) (a' := ?_) #[true, false, true, true, false, false, false, true, false, false, false, false, false, false, false, false, false, false] rfl rfl (any_of HT_.out (by kernel_rfl)) (fun _ _ _ h => h) (Or.inl ⟨by rfl, ?_⟩) ?_ ?_
                      rotate_left
                      ·
                       intro w'
                       go_simp
                       with_reducible rfl
                      rotate_left
                      ·
                       simp only [Act.put, List.setIfInBounds_toArray, List.set_cons_zero, List.set_cons_succ, i64_w, i32_w]
                       rfl
                      refine pure_ (i := 8) (N := some 71) (v := ?_) (a' := ?_) #[true, false, true, true, false, false, false, true, true, false, false, false, false, false, false, false, false, false] rfl rfl (any_of HT_.out (by kernel_rfl)) (fun _ _ _ h => h) (Or.inl ⟨by rfl, ?_⟩) ?_ ?_
                      rotate_left
                      ·
                       intro w'
                       go_simp
                       with_reducible rfl
                      rotate_left
                      ·
                       simp only [Act.put, List.setIfInBounds_toArray, List.set_cons_zero, List.set_cons_succ, i64_w, i32_w]
                       rfl
                      refine take_ (i := 1) (N := some 64) (v := ?_) (a' := ?_) #[true, true, true, true, false, false, false, true, true, false, false, false, false, false, false, false, false, false] rfl rfl (take_ofW HT_.out HW_.out (by kernel_rfl)) (fun _ _ _ h => h) (Or.inl ⟨by rfl, ?_⟩) hHeld ?_ ?_
                      rotate_left
                      ·
                       rintro w' ⟨s0, s1, s2, s3, s4, s5, s6, s7, s8, s9⟩
                       go_simp
                       with_reducible rfl
                      rotate_left
                      ·
                       simp only [Act.put, List.setIfInBounds_toArray, List.set_cons_zero, List.set_cons_succ, i64_w, i32_w]
                       rfl
                      refine take_ (i := 4) (N := some 67) (v := ?_) (a' := ?_) #[true, true, true, true, true, false, false, true, true, false, false, false, false, false, false, false, false, false] rfl rfl (take_ofW HT_.out HW_.out (by kernel_rfl)) (fun _ _ _ h => h) (Or.inl ⟨by rfl, ?_⟩) hHeld ?_ ?_
                      rotate_left
                      ·
                       rintro w' ⟨s0, s1, s2, s3, s4, s5, s6, s7, s8, s9⟩
                       go_simp
                       with_reducible rfl
                      rotate_left
                      ·
                       simp only [Act.put, List.setIfInBounds_toArray, List.set_cons_zero, List.set_cons_succ, i64_w, i32_w]
                       rfl
                      refine pure_ (i := 5) (N := some 68) (v := ?_) (a' := ?_) #[true, true, true, true, true, true, false, true, true, false, false, false, false, false, false, false, false, false] rfl rfl (any_of HT_.out (by kernel_rfl)) (fun _ _ _ h => h) (Or.inl ⟨by rfl, ?_⟩) ?_ ?_
                      rotate_left
                      ·
                       intro w'
                       go_simp
                       with_reducible rfl
                      rotate_left
                      ·
                       simp only [Act.put, List.setIfInBounds_toArray, List.set_cons_zero, List.set_cons_succ, i64_w, i32_w]
                       rfl
                      refine take_ (i := 6) (N := some 69) (v := ?_) (a' := ?_) #[true, true, true, true, true, true, true, true, true, false, false, false, false, false, false, false, false, false] rfl rfl (take_ofW HT_.out HW_.out (by kernel_rfl)) (fun _ _ _ h => h) (Or.inl ⟨by rfl, ?_⟩) hHeld ?_ ?_
                      rotate_left
                      ·
                       rintro w' ⟨s0, s1, s2, s3, s4, s5, s6, s7, s8, s9⟩
                       go_simp
                       with_reducible rfl
                      rotate_left
                      ·
                       simp only [Act.put, List.setIfInBounds_toArray, List.set_cons_zero, List.set_cons_succ, i64_w, i32_w]
                       rfl
                      refine take_ (i := 9) (N := some 72) (v := ?_) (a' := ?_) #[true, true, true, true, true, true, true, true, true, true, false, false, false, false, false, false, false, false] rfl rfl (take_ofW HT_.out HW_.out (by kernel_rfl)) (fun _ _ _ h => h) (Or.inl ⟨by rfl, ?_⟩) hHeld ?_ ?_
                      rotate_left
                      ·
                       rintro w' ⟨s0, s1, s2, s3, s4, s5, s6, s7, s8, s9⟩
                       go_simp
                       with_reducible rfl
                      rotate_left
                      ·
                       simp only [Act.put, List.setIfInBounds_toArray, List.set_cons_zero, List.set_cons_succ, i64_w, i32_w]
                       rfl
                      refine pure_ (i := 10) (N := some 73) (v := ?_) (a' := ?_) #[true, true, true, true, true, true, true, true, true, true, true, false, false, false, false, false, false, false] rfl rfl (any_of HT_.out (by kernel_rfl)) (fun _ _ _ h => h) (Or.inl ⟨by rfl, ?_⟩) ?_ ?_
                      rotate_left
                      ·
                       intro w'
                       go_simp
                       with_reducible rfl
                      rotate_left
                      ·
                       simp only [Act.put, List.setIfInBounds_toArray, List.set_cons_zero, List.set_cons_succ, i64_w, i32_w]
                       rfl
                      refine take_ (i := 11) (N := some 74) (v := ?_) (a' := ?_) #[true, true, true, true, true, true, true, true, true, true, true, true, false, false, false, false, false, false] rfl rfl (take_ofW HT_.out HW_.out (by kernel_rfl)) (fun _ _ _ h => h) (Or.inl ⟨by rfl, ?_⟩) hHeld ?_ ?_
                      rotate_left
                      ·
                       rintro w' ⟨s0, s1, s2, s3, s4, s5, s6, s7, s8, s9⟩
                       go_simp
                       with_reducible rfl
                      rotate_left
                      ·
                       simp only [Act.put, List.setIfInBounds_toArray, List.set_cons_zero, List.set_cons_succ, i64_w, i32_w]
                       rfl
                      refine one_ (i := 12) (N := some 75) #[true, true, true, true, true, true, true, true, true, true, true, true, true, false, false, false, false, false] rfl rfl (one_of HT_.out (by kernel_rfl)) (by decide) (fun K hK => ?_)
                      refine goes_ Try.func26 (by kernel_rfl) rfl #[.int .i64 x166004_20, .int .u32 (rd x6_1 x166002_20), .int .u32 (rd x6_1 x166003_20)] (by rfl) rfl rfl (by (try simp only [List.map_toArray, List.map_cons, List.map_nil]); first | done | rfl | (simp only [List.length_drop, List.length_take]; rfl)) ?_
                      with_reducible refine (seedcornref01_Apply.calls x166004_20 (rd x6_1 x166002_20) (rd x6_1 x166003_20) t172 t173 _ A53.out).mono ?_
                      rintro e w79 ⟨rfl, hb⟩
                      have HS8_ := (hb.cell (World.block_lt_of_cell? _ _ (hHeld.2.2.2.2.2.2.2.2.1))).trans (hHeld.2.2.2.2.2.2.2.2.1)
                      have HS9_ := (hb.cell (World.block_lt_of_cell? _ _ (hHeld.2.2.2.2.2.2.2.2.2))).trans (hHeld.2.2.2.2.2.2.2.2.2)
                      refine ⟨_, rfl, ?_⟩
                      have n0_ := Aside0.mk (Kd.R_below (by (with_reducible repeat (first | apply Kd.R_alloc | apply Kd.R_drewN | apply Kd.R_drew)); exact HO_5.out) hb)
                      have n1_ := Aside0.mk (Kd.R_below (by (with_reducible repeat (first | apply Kd.R_alloc | apply Kd.R_drewN | apply Kd.R_drew)); exact HO_6.out) hb)
                      have n2_ := Aside0.mk (Kd.R_below (by (with_reducible repeat (first | apply Kd.R_alloc | apply Kd.R_drewN | apply Kd.R_drew)); exact HO_7.out) hb)
                      have n3_ := Aside0.mk (blk_below (g := gb165) (o := .cells #[.int .i64 x166000_20, .int .i64 x166001_20, .int .i64 x166002_20, .int .i64 x166003_20, .int .i64 x166004_20, .int .i64 x166005_20, .int .i64 x166006_20, .int .u32 x166007_20] 48 (0, 0)) (by (with_reducible repeat (first | refine blk_drewN ?_ _ | refine blk_drew ?_ | refine blk_alloc ?_ _)); exact BK165.out) hb)
                      have n4_ := Aside0.mk (below_step (by repeat (first | (with_reducible first | exact HB.out | apply below_alloc | apply pw_below_drewN | apply below_drew1 | refine below_set ?_ GE165.out) | exact HB.out)) hb)
                      clear HO_5
                      clear HO_6
                      clear HO_7
                      clear BK165
                      clear HB
                      have HO_5 := n0_
                      have HO_6 := n1_
                      have HO_7 := n2_
                      have BK165 := n3_
                      have HB := n4_
                      clear n0_ n1_ n2_ n3_ n4_
                      (try clear hb)
                      (try clear hb2)
                      (try clear hk)
                      (try clear hi)
                      refine hK.out _ _ ⟨(blk_cell BK165.out 0).trans rfl, (blk_cell BK165.out 1).trans rfl, (blk_cell BK165.out 2).trans rfl, (blk_cell BK165.out 3).trans rfl, (blk_cell BK165.out 4).trans rfl, (blk_cell BK165.out 5).trans rfl, (blk_cell BK165.out 6).trans rfl, (blk_cell BK165.out 7).trans rfl, HS8_, HS9_⟩ (fun hHeld => ?_)
                      clear hK K
                      refine norm_ (a' := ?_) ?_ ?_
                      rotate_left
                      ·
                       show Act.put _ (some 75) _ = _
                       simp only [Act.put, List.setIfInBounds_toArray, List.set_cons_zero, List.set_cons_succ, i64_w, i32_w]
                       rfl
                      refine pure_ (i := 13) (N := some 62) (v := ?_) (a' := ?_) #[true, true, true, true, true, true, true, true, true, true, true, true, true, true, false, false, false, false] rfl rfl (any_of HT_.out (by kernel_rfl)) (fun _ _ _ h => h) (Or.inl ⟨by rfl, ?_⟩) ?_ ?_
                      rotate_left
                      ·
                       intro w'
                       go_simp
                       with_reducible rfl
                      rotate_left
                      ·
                       simp only [Act.put, List.setIfInBounds_toArray, List.set_cons_zero, List.set_cons_succ, i64_w, i32_w]
                       rfl
                      refine pure_ (i := 14) (N := some 76) (v := ?_) (a' := ?_) #[true, true, true, true, true, true, true, true, true, true, true, true, true, true, true, false, false, false] rfl rfl (any_of HT_.out (by kernel_rfl)) (fun _ _ _ h => h) (Or.inl ⟨by rfl, ?_⟩) ?_ ?_
                      rotate_left
                      ·
                       intro w'
                       go_simp
                       with_reducible rfl
                      rotate_left
                      ·
                       simp only [Act.put, List.setIfInBounds_toArray, List.set_cons_zero, List.set_cons_succ, i64_w, i32_w]
                       rfl
                      refine pure_ (i := 15) (N := some 77) (v := ?_) (a' := ?_) #[true, true, true, true, true, true, true, true, true, true, true, true, true, true, true, true, false, false] rfl rfl (any_of HT_.out (by kernel_rfl)) (fun _ _ _ h => h) (Or.inl ⟨by rfl, ?_⟩) ?_ ?_
                      rotate_left
                      ·
                       intro w'
                       go_simp
                       with_reducible rfl
                      rotate_left
                      ·
                       simp only [Act.put, List.setIfInBounds_toArray, List.set_cons_zero, List.set_cons_succ, i64_w, i32_w]
                       rfl
                      refine pure_ (i := 16) (N := some 10) (v := ?_) (a' := ?_) #[true, true, true, true, true, true, true, true, true, true, true, true, true, true, true, true, true, false] rfl rfl (any_of HT_.out (by kernel_rfl)) (fun _ _ _ h => h) (Or.inl ⟨by rfl, ?_⟩) ?_ ?_
                      rotate_left
                      ·
                       intro w'
                       go_simp
                       with_reducible rfl
                      rotate_left
                      ·
                       simp only [Act.put, List.setIfInBounds_toArray, List.set_cons_zero, List.set_cons_succ, i64_w, i32_w]
                       rfl
                      refine pure_ (i := 17) (N := some 11) (v := ?_) (a' := ?_) #[true, true, true, true, true, true, true, true, true, true, true, true, true, true, true, true, true, true] rfl rfl (any_of HT_.out (by kernel_rfl)) (fun _ _ _ h => h) (Or.inl ⟨by rfl, ?_⟩) ?_ ?_
                      rotate_left
                      ·
                       intro w'
                       go_simp
                       with_reducible rfl
                      rotate_left
                      ·
                       simp only [Act.put, List.setIfInBounds_toArray, List.set_cons_zero, List.set_cons_succ, i64_w, i32_w]
                       rfl
                      refine done_ (done_of HT_.out (by kernel_rfl)) ?_
                      have hcz80_0 : w79.cell? ⟨gb165, 0, none⟩ = some (.int .i64 x166000_20) := (blk_cell BK165.out 0).trans rfl
                      have hcz80_1 : w79.cell? ⟨gb165, 1, none⟩ = some (.int .i64 x166001_20) := (blk_cell BK165.out 1).trans rfl
                      have hcz80_2 : w79.cell? ⟨gb165, 2, none⟩ = some (.int .i64 x166002_20) := (blk_cell BK165.out 2).trans rfl
                      have hcz80_3 : w79.cell? ⟨gb165, 3, none⟩ = some (.int .i64 x166003_20) := (blk_cell BK165.out 3).trans rfl
                      have hcz80_4 : w79.cell? ⟨gb165, 4, none⟩ = some (.int .i64 x166004_20) := (blk_cell BK165.out 4).trans rfl
                      have hcz80_5 : w79.cell? ⟨gb165, 5, none⟩ = some (.int .i64 x166005_20) := (blk_cell BK165.out 5).trans rfl
                      have hcz80_6 : w79.cell? ⟨gb165, 6, none⟩ = some (.int .i64 x166006_20) := (blk_cell BK165.out 6).trans rfl
                      have hcz80_7 : w79.cell? ⟨gb165, 7, none⟩ = some (.int .u32 x166007_20) := (blk_cell BK165.out 7).trans rfl
                      have hfz80_0 := blk_frozen BK165.out 0
                      have hfz80_1 := blk_frozen BK165.out 1
                      have hfz80_2 := blk_frozen BK165.out 2
                      have hfz80_3 := blk_frozen BK165.out 3
                      have hfz80_4 := blk_frozen BK165.out 4
                      have hfz80_5 := blk_frozen BK165.out 5
                      have hfz80_6 := blk_frozen BK165.out 6
                      have hfz80_7 := blk_frozen BK165.out 7
                      try go_wp2_with (first | ((with_reducible refine gate_callee (f := 27) rfl ?_); refine goesL_ (some 85) rfl rfl Try.func27 (by kernel_rfl) rfl #[.agg #[.int .i64 1, .int .i64 x166001_20, .int .i64 0, .int .i64 0, .int .i64 0, .int .i64 0, .int .i64 0, .int .u32 t172]] rfl (by (try simp only [List.map_toArray, List.map_cons, List.map_nil]); first | done | rfl | (simp only [List.length_drop, List.length_take]; rfl)) ?_; (with_reducible refine (seedcornref24_Sets.calls 1 x166001_20 0 0 0 0 0 t172 t174 _ A55.out).mono ?_); rintro e w81 ⟨rfl, hb⟩; refine ⟨_, rfl, ?_⟩; have n0_ := Aside0.mk (Kd.R_below (by (with_reducible repeat (first | apply Kd.R_alloc | apply Kd.R_drewN | apply Kd.R_drew)); exact (Kd.R_mono (Kd.R_far (p := ⟨gb165, 7, none⟩) (Kd.R_far (p := ⟨gb165, 6, none⟩) (Kd.R_far (p := ⟨gb165, 5, none⟩) (Kd.R_far (p := ⟨gb165, 4, none⟩) (Kd.R_far (p := ⟨gb165, 3, none⟩) (Kd.R_far (p := ⟨gb165, 2, none⟩) (Kd.R_far (p := ⟨gb165, 1, none⟩) (Kd.R_far (p := ⟨gb165, 0, none⟩) (Kd.R_types HO_5.out BK165.out (by decide)) (fun _ hk => hk.2) (.int .i64 1)) (fun _ hk => hk.2) (.int .i64 x166001_20)) (fun _ hk => hk.2) (.int .i64 0)) (fun _ hk => hk.2) (.int .i64 0)) (fun _ hk => hk.2) (.int .i64 0)) (fun _ hk => hk.2) (.int .i64 0)) (fun _ hk => hk.2) (.int .i64 0)) (fun _ hk => hk.2) (.int .u32 t172)) (fun _ h_ => h_.1))) hb); have n1_ := Aside0.mk (Kd.R_below (by (with_reducible repeat (first | apply Kd.R_alloc | apply Kd.R_drewN | apply Kd.R_drew)); exact (Kd.R_mono (Kd.R_far (p := ⟨gb165, 7, none⟩) (Kd.R_far (p := ⟨gb165, 6, none⟩) (Kd.R_far (p := ⟨gb165, 5, none⟩) (Kd.R_far (p := ⟨gb165, 4, none⟩) (Kd.R_far (p := ⟨gb165, 3, none⟩) (Kd.R_far (p := ⟨gb165, 2, none⟩) (Kd.R_far (p := ⟨gb165, 1, none⟩) (Kd.R_far (p := ⟨gb165, 0, none⟩) (Kd.R_types HO_6.out BK165.out (by decide)) (fun _ hk => hk.2) (.int .i64 1)) (fun _ hk => hk.2) (.int .i64 x166001_20)) (fun _ hk => hk.2) (.int .i64 0)) (fun _ hk => hk.2) (.int .i64 0)) (fun _ hk => hk.2) (.int .i64 0)) (fun _ hk => hk.2) (.int .i64 0)) (fun _ hk => hk.2) (.int .i64 0)) (fun _ hk => hk.2) (.int .u32 t172)) (fun _ h_ => h_.1))) hb); have n2_ := Aside0.mk (Kd.R_below (by (with_reducible repeat (first | apply Kd.R_alloc | apply Kd.R_drewN | apply Kd.R_drew)); exact (Kd.R_mono (Kd.R_far (p := ⟨gb165, 7, none⟩) (Kd.R_far (p := ⟨gb165, 6, none⟩) (Kd.R_far (p := ⟨gb165, 5, none⟩) (Kd.R_far (p := ⟨gb165, 4, none⟩) (Kd.R_far (p := ⟨gb165, 3, none⟩) (Kd.R_far (p := ⟨gb165, 2, none⟩) (Kd.R_far (p := ⟨gb165, 1, none⟩) (Kd.R_far (p := ⟨gb165, 0, none⟩) (Kd.R_mono HO_7.out (fun k_ hk => (⟨hk, hk⟩ : _ ∧ k_ ≠ gb165))) (fun _ hk => hk.2) (.int .i64 1)) (fun _ hk => hk.2) (.int .i64 x166001_20)) (fun _ hk => hk.2) (.int .i64 0)) (fun _ hk => hk.2) (.int .i64 0)) (fun _ hk => hk.2) (.int .i64 0)) (fun _ hk => hk.2) (.int .i64 0)) (fun _ hk => hk.2) (.int .i64 0)) (fun _ hk => hk.2) (.int .u32 t172)) (fun _ h_ => h_.1))) hb); have n3_ := Aside0.mk (blk_below (g := gb165) (o := .cells #[.int .i64 1, .int .i64 x166001_20, .int .i64 0, .int .i64 0, .int .i64 0, .int .i64 0, .int .i64 0, .int .u32 t172] 48 (0, 0)) (by (with_reducible repeat (first | refine blk_drewN ?_ _ | refine blk_drew ?_ | refine blk_alloc ?_ _)); refine blk_put (cs := #[.int .i64 1, .int .i64 x166001_20, .int .i64 0, .int .i64 0, .int .i64 0, .int .i64 0, .int .i64 0, .int .u32 x166007_20]) ?_ 7 _ rfl; (with_reducible repeat (first | refine blk_drewN ?_ _ | refine blk_drew ?_ | refine blk_alloc ?_ _)); refine blk_put (cs := #[.int .i64 1, .int .i64 x166001_20, .int .i64 0, .int .i64 0, .int .i64 0, .int .i64 0, .int .i64 x166006_20, .int .u32 x166007_20]) ?_ 6 _ rfl; (with_reducible repeat (first | refine blk_drewN ?_ _ | refine blk_drew ?_ | refine blk_alloc ?_ _)); refine blk_put (cs := #[.int .i64 1, .int .i64 x166001_20, .int .i64 0, .int .i64 0, .int .i64 0, .int .i64 x166005_20, .int .i64 x166006_20, .int .u32 x166007_20]) ?_ 5 _ rfl; (with_reducible repeat (first | refine blk_drewN ?_ _ | refine blk_drew ?_ | refine blk_alloc ?_ _)); refine blk_put (cs := #[.int .i64 1, .int .i64 x166001_20, .int .i64 0, .int .i64 0, .int .i64 x166004_20, .int .i64 x166005_20, .int .i64 x166006_20, .int .u32 x166007_20]) ?_ 4 _ rfl; (with_reducible repeat (first | refine blk_drewN ?_ _ | refine blk_drew ?_ | refine blk_alloc ?_ _)); refine blk_put (cs := #[.int .i64 1, .int .i64 x166001_20, .int .i64 0, .int .i64 x166003_20, .int .i64 x166004_20, .int .i64 x166005_20, .int .i64 x166006_20, .int .u32 x166007_20]) ?_ 3 _ rfl; (with_reducible repeat (first | refine blk_drewN ?_ _ | refine blk_drew ?_ | refine blk_alloc ?_ _)); refine blk_put (cs := #[.int .i64 1, .int .i64 x166001_20, .int .i64 x166002_20, .int .i64 x166003_20, .int .i64 x166004_20, .int .i64 x166005_20, .int .i64 x166006_20, .int .u32 x166007_20]) ?_ 2 _ rfl; (with_reducible repeat (first | refine blk_drewN ?_ _ | refine blk_drew ?_ | refine blk_alloc ?_ _)); refine blk_put (cs := #[.int .i64 1, .int .i64 x166001_20, .int .i64 x166002_20, .int .i64 x166003_20, .int .i64 x166004_20, .int .i64 x166005_20, .int .i64 x166006_20, .int .u32 x166007_20]) ?_ 1 _ rfl; (with_reducible repeat (first | refine blk_drewN ?_ _ | refine blk_drew ?_ | refine blk_alloc ?_ _)); refine blk_put (cs := #[.int .i64 x166000_20, .int .i64 x166001_20, .int .i64 x166002_20, .int .i64 x166003_20, .int .i64 x166004_20, .int .i64 x166005_20, .int .i64 x166006_20, .int .u32 x166007_20]) ?_ 0 _ rfl; (with_reducible repeat (first | refine blk_drewN ?_ _ | refine blk_drew ?_ | refine blk_alloc ?_ _)); exact BK165.out) hb); have n4_ := Aside0.mk (below_step (by repeat (first | (with_reducible first | exact HB.out | apply below_alloc | apply pw_below_drewN | apply below_drew1 | refine below_set ?_ GE165.out) | exact HB.out)) hb); clear HO_5; clear HO_6; clear HO_7; clear BK165; clear HB; have HO_5 := n0_; have HO_6 := n1_; have HO_7 := n2_; have BK165 := n3_; have HB := n4_; clear n0_ n1_ n2_ n3_ n4_; (try clear hb); (try clear hb2); (try clear hk); (try clear hi); have hcz82_0 : w81.cell? ⟨gb165, 0, none⟩ = some (.int .i64 1) := (blk_cell BK165.out 0).trans rfl; have hcz82_1 : w81.cell? ⟨gb165, 1, none⟩ = some (.int .i64 x166001_20) := (blk_cell BK165.out 1).trans rfl; have hcz82_2 : w81.cell? ⟨gb165, 2, none⟩ = some (.int .i64 0) := (blk_cell BK165.out 2).trans rfl; have hcz82_3 : w81.cell? ⟨gb165, 3, none⟩ = some (.int .i64 0) := (blk_cell BK165.out 3).trans rfl; have hcz82_4 : w81.cell? ⟨gb165, 4, none⟩ = some (.int .i64 0) := (blk_cell BK165.out 4).trans rfl; have hcz82_5 : w81.cell? ⟨gb165, 5, none⟩ = some (.int .i64 0) := (blk_cell BK165.out 5).trans rfl; have hcz82_6 : w81.cell? ⟨gb165, 6, none⟩ = some (.int .i64 0) := (blk_cell BK165.out 6).trans rfl; have hcz82_7 : w81.cell? ⟨gb165, 7, none⟩ = some (.int .u32 t172) := (blk_cell BK165.out 7).trans rfl; have hfz82_0 := blk_frozen BK165.out 0; have hfz82_1 := blk_frozen BK165.out 1; have hfz82_2 := blk_frozen BK165.out 2; have hfz82_3 := blk_frozen BK165.out 3; have hfz82_4 := blk_frozen BK165.out 4; have hfz82_5 := blk_frozen BK165.out 5; have hfz82_6 := blk_frozen BK165.out 6; have hfz82_7 := blk_frozen BK165.out 7) | ((with_reducible refine gate_builtin (b := .append) (xs := #[.tmp 99, .tmp 101]) rfl ?_); at_builtin; refine Kd.R_append k48 (w0 := w) w.heap.size rfl (.tmp 99) (.tmp 101) 43 48 (.agg #[(.int .i64 0), (.int .i64 0), (.int .i64 0), (.int .i64 0), (.int .i64 0), (.int .i64 0), (.int .i64 0), (.int .u32 0)]) 64 rfl Try.underlying43 info48 rfl (by decide) (by omega) u7 x7_1 (⟨1, x166001_20, 0, 0, 0, 0, 0, t172⟩ : S48) [.int .i64 1, .int .i64 x166001_20, .int .i64 0, .int .i64 0, .int .i64 0, .int .i64 0, .int .i64 0, .int .u32 t172] (fun k_ => k_ ≠ gb165) (fun _ => False) rfl rfl ?aP (fun _ hk => hk.elim) ?aF ?aO ?aB ?aS ?aL ?_; (case aP => exact k48_mkM _ _ _ (⟨1, x166001_20, 0, 0, 0, 0, 0, t172⟩ : S48)); (case aB => exact (by repeat (first | (with_reducible first | exact HB.out | apply below_alloc | apply pw_below_drewN | apply below_drew1 | refine below_set ?_ GE165.out) | exact HB.out))); (case aF => exact (fun k_ hk => Kd.freshB (g := gb165) (o := .cells #[.int .i64 1, .int .i64 x166001_20, .int .i64 0, .int .i64 0, .int .i64 0, .int .i64 0, .int .i64 0, .int .u32 t172] 48 (0, 0)) (by (with_reducible repeat (first | refine blk_drewN ?_ _ | refine blk_drew ?_ | refine blk_alloc ?_ _)); exact BK165.out) k_ hk)); (case aO => exact (by (with_reducible repeat (first | apply Kd.R_alloc | apply Kd.R_drewN | apply Kd.R_drew)); exact HO_7.out)); (case aS => exact (below_size (by repeat (first | (with_reducible first | exact HB.out | apply below_alloc | apply pw_below_drewN | apply below_drew1 | refine below_set ?_ GE165.out) | exact HB.out)))); (case aL => have := LMc76.out; omega); intro v181 w83 ho hb hg hat; rw [← Ny180.out] at ho; have n0_ := Aside0.mk (Kd.R_over' (by (with_reducible repeat (first | apply Kd.R_alloc | apply Kd.R_drewN | apply Kd.R_drew)); exact HO_5.out) (Kd.R_typed (by (with_reducible repeat (first | apply Kd.R_alloc | apply Kd.R_drewN | apply Kd.R_drew)); exact HO_7.out)) (by decide) hg); have n1_ := Aside0.mk (Kd.R_over' (by (with_reducible repeat (first | apply Kd.R_alloc | apply Kd.R_drewN | apply Kd.R_drew)); exact HO_6.out) (Kd.R_typed (by (with_reducible repeat (first | apply Kd.R_alloc | apply Kd.R_drewN | apply Kd.R_drew)); exact HO_7.out)) (by decide) hg); have n2_ := Aside0.mk (blk_grown (g := gb165) (o := .cells #[.int .i64 1, .int .i64 x166001_20, .int .i64 0, .int .i64 0, .int .i64 0, .int .i64 0, .int .i64 0, .int .u32 t172] 48 (0, 0)) (by (with_reducible repeat (first | refine blk_drewN ?_ _ | refine blk_drew ?_ | refine blk_alloc ?_ _)); exact BK165.out) hg (Kd.R_away HO_7.out (fun _ hk => hk))); have n3_ := Aside0.mk (hb); have n4_ := Aside0.mk (ho); clear HO_5; clear HO_6; clear BK165; clear HB; clear HO_7; have HO_5 := n0_; have HO_6 := n1_; have BK165 := n2_; have HB := n3_; have HO182 := n4_; clear n0_ n1_ n2_ n3_ n4_; clear ho hb hg hat))
                      go_roundg kj34
                      case measure => have := HK1.out; have := HJ11.out; have := HJ20.out; have := HJ34.out; omega
                      case rel => exact ⟨(x5_1), (x6_1), (y180), (wrap64 (x8_1 + 1)), (by first | rfl | (simp; done) | (simp [*]; done)), H', ⟨by have := HK1.out; have := HJ11.out; have := HJ20.out; have := HJ34.out; omega⟩, ⟨by (with_reducible repeat (first | apply Kd.R_alloc | apply Kd.R_drewN | apply Kd.R_drew)); exact HO_5.out⟩, ⟨by (with_reducible repeat (first | apply Kd.R_alloc | apply Kd.R_drewN | apply Kd.R_drew)); exact HO_6.out⟩, ⟨by (with_reducible repeat (first | apply Kd.R_alloc | apply Kd.R_drewN | apply Kd.R_drew)); exact Kd.R_mono HO182.out (fun _ hk => trivial)⟩, ⟨by repeat (first | (with_reducible first | exact HB.out | apply below_alloc | apply pw_below_drewN | apply below_drew1 | refine below_set ?_ GE165.out) | exact HB.out)⟩⟩
                     ·
                      rw [if_neg c76] at H
                      exact absurd H (by simp)
                   ·
                    rw [if_neg c54] at H
                    have c54b0 : (t173 == 0) = false := beq_eq_false_iff_ne.mpr c54
                    have c54b1 : (t173 != 0) = true := bne_iff_ne.mpr c54
                    replace H := Option.bind_eq_some_iff.mp H
                    obtain ⟨t183, A840, H⟩ := H
                    replace H : (if t183 ≥ 0 then (if 0 ≤ t183 then (if t183 < (x5_1.length : Int) then (if t183 < (x6_1.length : Int) then (if x7_1.length < 2199023255552 then (seedcornref30_Ins.l0 kj34 l0 (x5_1.set (t183 : Int).toNat (x166000_20 == 1)) (x6_1.set (t183 : Int).toNat x166007_20) (x7_1 ++ [(⟨x166000_20, x166001_20, x166002_20, x166003_20, x166004_20, x166005_20, x166006_20, x166007_20⟩ : S48)]) (wrap64 (x8_1 + 1))) else (none)) else (none)) else (none)) else (none)) else (if x7_1.length < 2199023255552 then (seedcornref30_Ins.l0 kj34 l0 x5_1 x6_1 (x7_1 ++ [(⟨x166000_20, x166001_20, x166002_20, x166003_20, x166004_20, x166005_20, x166006_20, x166007_20⟩ : S48)]) (wrap64 (x8_1 + 1))) else (none))) = some r := H
                    have A84 := Aside0.mk A840
                    clear A840
                    by_cases c85 : t183 ≥ 0
                    ·
                     rw [if_pos c85] at H
                     have c85b0 : decide (0 ≤ t183) = true := decide_eq_true c85
                     clear c85
                     by_cases c86 : 0 ≤ t183
                     ·
                      rw [if_pos c86] at H
                      have c86b0 : decide (0 ≤ t183) = true := decide_eq_true c86
                      clear c86
                      by_cases c87 : t183 < (x5_1.length : Int)
                      ·
                       rw [if_pos c87] at H
                       have c87b0 : decide (t183 < (x5_1.length : Int)) = true := decide_eq_true c87
                       clear c87
                       obtain ⟨y184, hy184⟩ : ∃ y_ : List Bool, y_ = (x5_1.set (t183 : Int).toNat (x166000_20 == 1)) := ⟨_, rfl⟩
                       replace H : (if t183 < (x6_1.length : Int) then (if x7_1.length < 2199023255552 then (seedcornref30_Ins.l0 kj34 l0 y184 (x6_1.set (t183 : Int).toNat x166007_20) (x7_1 ++ [(⟨x166000_20, x166001_20, x166002_20, x166003_20, x166004_20, x166005_20, x166006_20, x166007_20⟩ : S48)]) (wrap64 (x8_1 + 1))) else (none)) else (none)) = some r := by first | (rw [hy184]; with_reducible exact H) | (have H2_ := (Option.bind_some _ _).symm.trans H; rw [hy184]; with_reducible exact H2_) | (have H2_ := (Option.bind_some _ _).symm.trans H; with_reducible exact H2_) | with_reducible exact H | (rw [hy184]; exact H) | exact H
                       have Ny184 := Aside0.mk hy184
                       clear hy184
                       by_cases c89 : t183 < (x6_1.length : Int)
                       ·
                        rw [if_pos c89] at H
                        have c89b0 : decide (t183 < (x6_1.length : Int)) = true := decide_eq_true c89
                        clear c89
                        obtain ⟨y185, hy185⟩ : ∃ y_ : List Int, y_ = (x6_1.set (t183 : Int).toNat x166007_20) := ⟨_, rfl⟩
                        replace H : (if x7_1.length < 2199023255552 then (seedcornref30_Ins.l0 kj34 l0 y184 y185 (x7_1 ++ [(⟨x166000_20, x166001_20, x166002_20, x166003_20, x166004_20, x166005_20, x166006_20, x166007_20⟩ : S48)]) (wrap64 (x8_1 + 1))) else (none)) = some r := by first | (rw [hy185]; with_reducible exact H) | (have H2_ := (Option.bind_some _ _).symm.trans H; rw [hy185]; with_reducible exact H2_) | (have H2_ := (Option.bind_some _ _).symm.trans H; with_reducible exact H2_) | with_reducible exact H | (rw [hy185]; exact H) | exact H
                        have Ny185 := Aside0.mk hy185
                        clear hy185
                        by_cases c91 : x7_1.length < 2199023255552
                        ·
                         rw [if_pos c91] at H
                         have LMc91 := Aside0.mk c91
                         clear c91
                         obtain ⟨y186, hy186⟩ : ∃ y_ : List (S48), y_ = (x7_1 ++ [(⟨x166000_20, x166001_20, x166002_20, x166003_20, x166004_20, x166005_20, x166006_20, x166007_20⟩ : S48)]) := ⟨_, rfl⟩
                         replace H : (seedcornref30_Ins.l0 kj34 l0 y184 y185 y186 (wrap64 (x8_1 + 1))) = some r := by first | (rw [hy186]; with_reducible exact H) | (have H2_ := (Option.bind_some _ _).symm.trans H; rw [hy186]; with_reducible exact H2_) | (have H2_ := (Option.bind_some _ _).symm.trans H; with_reducible exact H2_) | with_reducible exact H | (rw [hy186]; exact H) | exact H
                         have Ny186 := Aside0.mk hy186
                         clear hy186
                         have H' := Aside0.mk H
                         clear H
                         try go_wp2
                         have n0_ := Aside0.mk (Kd.R_drew HO_5.out)
                         have n1_ := Aside0.mk (Kd.R_drew HO_6.out)
                         have n2_ := Aside0.mk (Kd.R_drew HO_7.out)
                         have n3_ := Aside0.mk (blk_drew BK165.out)
                         have n4_ := Aside0.mk (below_drew1 HB.out)
                         clear HO_5
                         clear HO_6
                         clear HO_7
                         clear BK165
                         clear HB
                         have HO_5 := n0_
                         have HO_6 := n1_
                         have HO_7 := n2_
                         have BK165 := n3_
                         have HB := n4_
                         clear n0_ n1_ n2_ n3_ n4_
                         obtain ⟨Ao93, co93, eo93⟩ := Kd.R_slice HO_6.out
                         (first | subst eo93 | (injection eo93 with f1_ f2_ f3_; have f4_ := f1_.symm; have f5_ := f3_.symm; clear f1_ f2_ f3_; subst f4_; subst f5_))
                         have p170 : 0 ≤ (x166002_20 : Int) := of_decide_eq_true (by first | (with_reducible assumption) | assumption)
                         have q170 : x166002_20 < (x6_1.length : Int) := of_decide_eq_true (by first | (with_reducible assumption) | assumption)
                         obtain ⟨ad170, e170, hx170_0⟩ := Kd.at_int (Kd.R_reads' HO_6.out).2.2 x166002_20 p170 q170
                         cases e170
                         replace p170 := eq_true p170
                         replace q170 := eq_true q170
                         have p171 : 0 ≤ (x166003_20 : Int) := of_decide_eq_true (by first | (with_reducible assumption) | assumption)
                         have q171 : x166003_20 < (x6_1.length : Int) := of_decide_eq_true (by first | (with_reducible assumption) | assumption)
                         obtain ⟨ad171, e171, hx171_0⟩ := Kd.at_int (Kd.R_reads' HO_6.out).2.2 x166003_20 p171 q171
                         obtain rfl : ad170 = ad171 := (by injection e171)
                         replace p171 := eq_true p171
                         replace q171 := eq_true q171
                         refine start_ (n := 18) (S := fun w' => w'.cell? ⟨gb165, 0, none⟩ = some (.int .i64 x166000_20) ∧ w'.cell? ⟨gb165, 1, none⟩ = some (.int .i64 x166001_20) ∧ w'.cell? ⟨gb165, 2, none⟩ = some (.int .i64 x166002_20) ∧ w'.cell? ⟨gb165, 3, none⟩ = some (.int .i64 x166003_20) ∧ w'.cell? ⟨gb165, 4, none⟩ = some (.int .i64 x166004_20) ∧ w'.cell? ⟨gb165, 5, none⟩ = some (.int .i64 x166005_20) ∧ w'.cell? ⟨gb165, 6, none⟩ = some (.int .i64 x166006_20) ∧ w'.cell? ⟨gb165, 7, none⟩ = some (.int .u32 x166007_20) ∧ w'.cell? (ad170.add (x166002_20).toNat) = some (.int .u32 (rd x6_1 x166002_20)) ∧ w'.cell? (ad170.add (x166003_20).toNat) = some (.int .u32 (rd x6_1 x166003_20))) (ds := []) #[false, false, false, false, false, false, false, false, false, false, false, false, false, false, false, false, false, false] (by kernel_rfl) rfl rfl ⟨(blk_cell BK165.out 0).trans rfl, (blk_cell BK165.out 1).trans rfl, (blk_cell BK165.out 2).trans rfl, (blk_cell BK165.out 3).trans rfl, (blk_cell BK165.out 4).trans rfl, (blk_cell BK165.out 5).trans rfl, (blk_cell BK165.out 6).trans rfl, (blk_cell BK165.out 7).trans rfl, hx170_0, hx171_0⟩ (fun hHeld => ?_); refine with_tabW seedcornref30_Ins.tab11 seedcornref30_Ins.bits11 (fun HT_ HW_ => ?_)
                         generalize wc.drew = w92 at HO_5 HO_6 HO_7 BK165 HB hx170_0 hx171_0 hHeld ⊢
                         refine pure_ (i := 0) (N := some 63) (v := ?_) (a' := ?_) #[true, false, false, false, false, false, false, false, false, false, false, false, false, false, false, false, false, false] rfl rfl (any_of HT_.out (by kernel_rfl)) (fun _ _ _ h => h) (Or.inl ⟨by rfl, ?_⟩) ?_ ?_
                         rotate_left
                         ·
                          intro w'
                          go_simp
                          with_reducible rfl
                         rotate_left
                         ·
                          simp only [Act.put, List.setIfInBounds_toArray, List.set_cons_zero, List.set_cons_succ, i64_w, i32_w]
                          rfl
                         refine pure_ (i := 2) (N := some 65) (v := ?_) (a' := ?_) #[true, false, true, false, false, false, false, false, false, false, false, false, false, false, false, false, false, false] rfl rfl (any_of HT_.out (by kernel_rfl)) (fun _ _ _ h => h) (Or.inl ⟨by rfl, ?_⟩) ?_ ?_
                         rotate_left
                         ·
                          intro w'
                          go_simp
                          with_reducible rfl
                         rotate_left
                         ·
                          simp only [Act.put, List.setIfInBounds_toArray, List.set_cons_zero, List.set_cons_succ, i64_w, i32_w]
                          rfl
                         refine pure_ (i := 3) (N := some 66) (v := ?_) (a' := ?_) #[true, false, true, true, false, false, false, false, false, false, false, false, false, false, false, false, false, false] rfl rfl (any_of HT_.out (by kernel_rfl)) (fun _ _ _ h => h) (Or.inl ⟨by rfl, ?_⟩) ?_ ?_
                         rotate_left
                         ·
                          intro w'
                          go_simp
                          with_reducible rfl
                         rotate_left
                         ·
                          simp only [Act.put, List.setIfInBounds_toArray, List.set_cons_zero, List.set_cons_succ, i64_w, i32_w]
                          rfl
                         refine pure_ (i := 7) (N := some 70) (v := ?_) (a' := ?_) #[true, false, true, true, false, false, false, true, false, false, false, false, false, false, false, false, false, false] rfl rfl (any_of HT_.out (by kernel_rfl)) (fun _ _ _ h => h) (Or.inl ⟨by rfl, ?_⟩) ?_ ?_
                         rotate_left
                         ·
                          intro w'
                          go_simp
                          with_reducible rfl
                         rotate_left
                         ·
                          simp only [Act.put, List.setIfInBounds_toArray, List.set_cons_zero, List.set_cons_succ, i64_w, i32_w]
                          rfl
                         refine pure_ (i := 8) (N := some 71) (v := ?_) (a' := ?_) #[true, false, true, true, false, false, false, true, true, false, false, false, false, false, false, false, false, false] rfl rfl (any_of HT_.out (by kernel_rfl)) (fun _ _ _ h => h) (Or.inl ⟨by rfl, ?_⟩) ?_ ?_
                         rotate_left
                         ·
                          intro w'
                          go_simp
                          with_reducible rfl
                         rotate_left
                         ·
                          simp only [Act.put, List.setIfInBounds_toArray, List.set_cons_zero, List.set_cons_succ, i64_w, i32_w]
                          rfl
                         refine take_ (i := 1) (N := some 64) (v := ?_) (a' := ?_) #[true, true, true, true, false, false, false, true, true, false, false, false, false, false, false, false, false, false] rfl rfl (take_ofW HT_.out HW_.out (by kernel_rfl)) (fun _ _ _ h => h) (Or.inl ⟨by rfl, ?_⟩) hHeld ?_ ?_
                         rotate_left
                         ·
                          rintro w' ⟨s0, s1, s2, s3, s4, s5, s6, s7, s8, s9⟩
                          go_simp
                          with_reducible rfl
                         rotate_left
                         ·
                          simp only [Act.put, List.setIfInBounds_toArray, List.set_cons_zero, List.set_cons_succ, i64_w, i32_w]
                          rfl
                         refine take_ (i := 4) (N := some 67) (v := ?_) (a' := ?_) #[true, true, true, true, true, false, false, true, true, false, false, false, false, false, false, false, false, false] rfl rfl (take_ofW HT_.out HW_.out (by kernel_rfl)) (fun _ _ _ h => h) (Or.inl ⟨by rfl, ?_⟩) hHeld ?_ ?_
                         rotate_left
                         ·
                          rintro w' ⟨s0, s1, s2, s3, s4, s5, s6, s7, s8, s9⟩
                          go_simp
                          with_reducible rfl
                         rotate_left
                         ·
                          simp only [Act.put, List.setIfInBounds_toArray, List.set_cons_zero, List.set_cons_succ, i64_w, i32_w]
                          rfl
                         refine pure_ (i := 5) (N := some 68) (v := ?_) (a' := ?_) #[true, true, true, true, true, true, false, true, true, false, false, false, false, false, false, false, false, false] rfl rfl (any_of HT_.out (by kernel_rfl)) (fun _ _ _ h => h) (Or.inl ⟨by rfl, ?_⟩) ?_ ?_
                         rotate_left
                         ·
                          intro w'
                          go_simp
                          with_reducible rfl
                         rotate_left
                         ·
                          simp only [Act.put, List.setIfInBounds_toArray, List.set_cons_zero, List.set_cons_succ, i64_w, i32_w]
                          rfl
                         refine take_ (i := 6) (N := some 69) (v := ?_) (a' := ?_) #[true, true, true, true, true, true, true, true, true, false, false, false, false, false, false, false, false, false] rfl rfl (take_ofW HT_.out HW_.out (by kernel_rfl)) (fun _ _ _ h => h) (Or.inl ⟨by rfl, ?_⟩) hHeld ?_ ?_
                         rotate_left
                         ·
                          rintro w' ⟨s0, s1, s2, s3, s4, s5, s6, s7, s8, s9⟩
                          go_simp
                          with_reducible rfl
                         rotate_left
                         ·
                          simp only [Act.put, List.setIfInBounds_toArray, List.set_cons_zero, List.set_cons_succ, i64_w, i32_w]
                          rfl
                         refine take_ (i := 9) (N := some 72) (v := ?_) (a' := ?_) #[true, true, true, true, true, true, true, true, true, true, false, false, false, false, false, false, false, false] rfl rfl (take_ofW HT_.out HW_.out (by kernel_rfl)) (fun _ _ _ h => h) (Or.inl ⟨by rfl, ?_⟩) hHeld ?_ ?_
                         rotate_left
                         ·
                          rintro w' ⟨s0, s1, s2, s3, s4, s5, s6, s7, s8, s9⟩
                          go_simp
                          with_reducible rfl
                         rotate_left
                         ·
                          simp only [Act.put, List.setIfInBounds_toArray, List.set_cons_zero, List.set_cons_succ, i64_w, i32_w]
                          rfl
                         refine pure_ (i := 10) (N := some 73) (v := ?_) (a' := ?_) #[true, true, true, true, true, true, true, true, true, true, true, false, false, false, false, false, false, false] rfl rfl (any_of HT_.out (by kernel_rfl)) (fun _ _ _ h => h) (Or.inl ⟨by rfl, ?_⟩) ?_ ?_
                         rotate_left
                         ·
                          intro w'
                          go_simp
                          with_reducible rfl
                         rotate_left
                         ·
                          simp only [Act.put, List.setIfInBounds_toArray, List.set_cons_zero, List.set_cons_succ, i64_w, i32_w]
                          rfl
                         refine take_ (i := 11) (N := some 74) (v := ?_) (a' := ?_) #[true, true, true, true, true, true, true, true, true, true, true, true, false, false, false, false, false, false] rfl rfl (take_ofW HT_.out HW_.out (by kernel_rfl)) (fun _ _ _ h => h) (Or.inl ⟨by rfl, ?_⟩) hHeld ?_ ?_
                         rotate_left
                         ·
                          rintro w' ⟨s0, s1, s2, s3, s4, s5, s6, s7, s8, s9⟩
                          go_simp
                          with_reducible rfl
                         rotate_left
                         ·
                          simp only [Act.put, List.setIfInBounds_toArray, List.set_cons_zero, List.set_cons_succ, i64_w, i32_w]
                          rfl
                         refine one_ (i := 12) (N := some 75) #[true, true, true, true, true, true, true, true, true, true, true, true, true, false, false, false, false, false] rfl rfl (one_of HT_.out (by kernel_rfl)) (by decide) (fun K hK => ?_)
                         refine goes_ Try.func26 (by kernel_rfl) rfl #[.int .i64 x166004_20, .int .u32 (rd x6_1 x166002_20), .int .u32 (rd x6_1 x166003_20)] (by rfl) rfl rfl (by (try simp only [List.map_toArray, List.map_cons, List.map_nil]); first | done | rfl | (simp only [List.length_drop, List.length_take]; rfl)) ?_
                         with_reducible refine (seedcornref01_Apply.calls x166004_20 (rd x6_1 x166002_20) (rd x6_1 x166003_20) t172 t173 _ A53.out).mono ?_
                         rintro e w94 ⟨rfl, hb⟩
                         have HS8_ := (hb.cell (World.block_lt_of_cell? _ _ (hHeld.2.2.2.2.2.2.2.2.1))).trans (hHeld.2.2.2.2.2.2.2.2.1)
                         have HS9_ := (hb.cell (World.block_lt_of_cell? _ _ (hHeld.2.2.2.2.2.2.2.2.2))).trans (hHeld.2.2.2.2.2.2.2.2.2)
                         refine ⟨_, rfl, ?_⟩
                         have n0_ := Aside0.mk (Kd.R_below (by (with_reducible repeat (first | apply Kd.R_alloc | apply Kd.R_drewN | apply Kd.R_drew)); exact HO_5.out) hb)
                         have n1_ := Aside0.mk (Kd.R_below (by (with_reducible repeat (first | apply Kd.R_alloc | apply Kd.R_drewN | apply Kd.R_drew)); exact HO_6.out) hb)
                         have n2_ := Aside0.mk (Kd.R_below (by (with_reducible repeat (first | apply Kd.R_alloc | apply Kd.R_drewN | apply Kd.R_drew)); exact HO_7.out) hb)
                         have n3_ := Aside0.mk (blk_below (g := gb165) (o := .cells #[.int .i64 x166000_20, .int .i64 x166001_20, .int .i64 x166002_20, .int .i64 x166003_20, .int .i64 x166004_20, .int .i64 x166005_20, .int .i64 x166006_20, .int .u32 x166007_20] 48 (0, 0)) (by (with_reducible repeat (first | refine blk_drewN ?_ _ | refine blk_drew ?_ | refine blk_alloc ?_ _)); exact BK165.out) hb)
                         have n4_ := Aside0.mk (below_step (by repeat (first | (with_reducible first | exact HB.out | apply below_alloc | apply pw_below_drewN | apply below_drew1 | refine below_set ?_ GE165.out) | exact HB.out)) hb)
                         clear HO_5
                         clear HO_6
                         clear HO_7
                         clear BK165
                         clear HB
                         have HO_5 := n0_
                         have HO_6 := n1_
                         have HO_7 := n2_
                         have BK165 := n3_
                         have HB := n4_
                         clear n0_ n1_ n2_ n3_ n4_
                         (try clear hb)
                         (try clear hb2)
                         (try clear hk)
                         (try clear hi)
                         refine hK.out _ _ ⟨(blk_cell BK165.out 0).trans rfl, (blk_cell BK165.out 1).trans rfl, (blk_cell BK165.out 2).trans rfl, (blk_cell BK165.out 3).trans rfl, (blk_cell BK165.out 4).trans rfl, (blk_cell BK165.out 5).trans rfl, (blk_cell BK165.out 6).trans rfl, (blk_cell BK165.out 7).trans rfl, HS8_, HS9_⟩ (fun hHeld => ?_)
                         clear hK K
                         refine norm_ (a' := ?_) ?_ ?_
                         rotate_left
                         ·
                          show Act.put _ (some 75) _ = _
                          simp only [Act.put, List.setIfInBounds_toArray, List.set_cons_zero, List.set_cons_succ, i64_w, i32_w]
                          rfl
                         refine pure_ (i := 13) (N := some 62) (v := ?_) (a' := ?_) #[true, true, true, true, true, true, true, true, true, true, true, true, true, true, false, false, false, false] rfl rfl (any_of HT_.out (by kernel_rfl)) (fun _ _ _ h => h) (Or.inl ⟨by rfl, ?_⟩) ?_ ?_
                         rotate_left
                         ·
                          intro w'
                          go_simp
                          with_reducible rfl
                         rotate_left
                         ·
                          simp only [Act.put, List.setIfInBounds_toArray, List.set_cons_zero, List.set_cons_succ, i64_w, i32_w]
                          rfl
                         refine pure_ (i := 14) (N := some 76) (v := ?_) (a' := ?_) #[true, true, true, true, true, true, true, true, true, true, true, true, true, true, true, false, false, false] rfl rfl (any_of HT_.out (by kernel_rfl)) (fun _ _ _ h => h) (Or.inl ⟨by rfl, ?_⟩) ?_ ?_
                         rotate_left
                         ·
                          intro w'
                          go_simp
                          with_reducible rfl
                         rotate_left
                         ·
                          simp only [Act.put, List.setIfInBounds_toArray, List.set_cons_zero, List.set_cons_succ, i64_w, i32_w]
                          rfl
                         refine pure_ (i := 15) (N := some 77) (v := ?_) (a' := ?_) #[true, true, true, true, true, true, true, true, true, true, true, true, true, true, true, true, false, false] rfl rfl (any_of HT_.out (by kernel_rfl)) (fun _ _ _ h => h) (Or.inl ⟨by rfl, ?_⟩) ?_ ?_
                         rotate_left
                         ·
                          intro w'
                          go_simp
                          with_reducible rfl
                         rotate_left
                         ·
                          simp only [Act.put, List.setIfInBounds_toArray, List.set_cons_zero, List.set_cons_succ, i64_w, i32_w]
                          rfl
                         refine pure_ (i := 16) (N := some 10) (v := ?_) (a' := ?_) #[true, true, true, true, true, true, true, true, true, true, true, true, true, true, true, true, true, false] rfl rfl (any_of HT_.out (by kernel_rfl)) (fun _ _ _ h => h) (Or.inl ⟨by rfl, ?_⟩) ?_ ?_
                         rotate_left
                         ·
                          intro w'
                          go_simp
                          with_reducible rfl
                         rotate_left
                         ·
                          simp only [Act.put, List.setIfInBounds_toArray, List.set_cons_zero, List.set_cons_succ, i64_w, i32_w]
                          rfl
                         refine pure_ (i := 17) (N := some 11) (v := ?_) (a' := ?_) #[true, true, true, true, true, true, true, true, true, true, true, true, true, true, true, true, true, true] rfl rfl (any_of HT_.out (by kernel_rfl)) (fun _ _ _ h => h) (Or.inl ⟨by rfl, ?_⟩) ?_ ?_
                         rotate_left
                         ·
                          intro w'
                          go_simp
                          with_reducible rfl
                         rotate_left
                         ·
                          simp only [Act.put, List.setIfInBounds_toArray, List.set_cons_zero, List.set_cons_succ, i64_w, i32_w]
                          rfl
                         refine done_ (done_of HT_.out (by kernel_rfl)) ?_
                         have hcz95_0 : w94.cell? ⟨gb165, 0, none⟩ = some (.int .i64 x166000_20) := (blk_cell BK165.out 0).trans rfl
                         have hcz95_1 : w94.cell? ⟨gb165, 1, none⟩ = some (.int .i64 x166001_20) := (blk_cell BK165.out 1).trans rfl
                         have hcz95_2 : w94.cell? ⟨gb165, 2, none⟩ = some (.int .i64 x166002_20) := (blk_cell BK165.out 2).trans rfl
                         have hcz95_3 : w94.cell? ⟨gb165, 3, none⟩ = some (.int .i64 x166003_20) := (blk_cell BK165.out 3).trans rfl
                         have hcz95_4 : w94.cell? ⟨gb165, 4, none⟩ = some (.int .i64 x166004_20) := (blk_cell BK165.out 4).trans rfl
                         have hcz95_5 : w94.cell? ⟨gb165, 5, none⟩ = some (.int .i64 x166005_20) := (blk_cell BK165.out 5).trans rfl
                         have hcz95_6 : w94.cell? ⟨gb165, 6, none⟩ = some (.int .i64 x166006_20) := (blk_cell BK165.out 6).trans rfl
                         have hcz95_7 : w94.cell? ⟨gb165, 7, none⟩ = some (.int .u32 x166007_20) := (blk_cell BK165.out 7).trans rfl
                         have hfz95_0 := blk_frozen BK165.out 0
                         have hfz95_1 := blk_frozen BK165.out 1
                         have hfz95_2 := blk_frozen BK165.out 2
                         have hfz95_3 := blk_frozen BK165.out 3
                         have hfz95_4 := blk_frozen BK165.out 4
                         have hfz95_5 := blk_frozen BK165.out 5
                         have hfz95_6 := blk_frozen BK165.out 6
                         have hfz95_7 := blk_frozen BK165.out 7
                         try go_wp2_with (first | ((with_reducible refine gate_callee (f := 27) rfl ?_); refine goesL_ (some 85) rfl rfl Try.func27 (by kernel_rfl) rfl #[.agg #[.int .i64 x166000_20, .int .i64 x166001_20, .int .i64 x166002_20, .int .i64 x166003_20, .int .i64 x166004_20, .int .i64 x166005_20, .int .i64 x166006_20, .int .u32 x166007_20]] rfl (by (try simp only [List.map_toArray, List.map_cons, List.map_nil]); first | done | rfl | (simp only [List.length_drop, List.length_take]; rfl)) ?_; (with_reducible refine (seedcornref24_Sets.calls x166000_20 x166001_20 x166002_20 x166003_20 x166004_20 x166005_20 x166006_20 x166007_20 t183 _ A84.out).mono ?_); rintro e w96 ⟨rfl, hb⟩; refine ⟨_, rfl, ?_⟩; have n0_ := Aside0.mk (Kd.R_below (by (with_reducible repeat (first | apply Kd.R_alloc | apply Kd.R_drewN | apply Kd.R_drew)); exact HO_5.out) hb); have n1_ := Aside0.mk (Kd.R_below (by (with_reducible repeat (first | apply Kd.R_alloc | apply Kd.R_drewN | apply Kd.R_drew)); exact HO_6.out) hb); have n2_ := Aside0.mk (Kd.R_below (by (with_reducible repeat (first | apply Kd.R_alloc | apply Kd.R_drewN | apply Kd.R_drew)); exact HO_7.out) hb); have n3_ := Aside0.mk (blk_below (g := gb165) (o := .cells #[.int .i64 x166000_20, .int .i64 x166001_20, .int .i64 x166002_20, .int .i64 x166003_20, .int .i64 x166004_20, .int .i64 x166005_20, .int .i64 x166006_20, .int .u32 x166007_20] 48 (0, 0)) (by (with_reducible repeat (first | refine blk_drewN ?_ _ | refine blk_drew ?_ | refine blk_alloc ?_ _)); exact BK165.out) hb); have n4_ := Aside0.mk (below_step (by repeat (first | (with_reducible first | exact HB.out | apply below_alloc | apply pw_below_drewN | apply below_drew1 | refine below_set ?_ GE165.out) | exact HB.out)) hb); clear HO_5; clear HO_6; clear HO_7; clear BK165; clear HB; have HO_5 := n0_; have HO_6 := n1_; have HO_7 := n2_; have BK165 := n3_; have HB := n4_; clear n0_ n1_ n2_ n3_ n4_; (try clear hb); (try clear hb2); (try clear hk); (try clear hi); have hcz97_0 : w96.cell? ⟨gb165, 0, none⟩ = some (.int .i64 x166000_20) := (blk_cell BK165.out 0).trans rfl; have hcz97_1 : w96.cell? ⟨gb165, 1, none⟩ = some (.int .i64 x166001_20) := (blk_cell BK165.out 1).trans rfl; have hcz97_2 : w96.cell? ⟨gb165, 2, none⟩ = some (.int .i64 x166002_20) := (blk_cell BK165.out 2).trans rfl; have hcz97_3 : w96.cell? ⟨gb165, 3, none⟩ = some (.int .i64 x166003_20) := (blk_cell BK165.out 3).trans rfl; have hcz97_4 : w96.cell? ⟨gb165, 4, none⟩ = some (.int .i64 x166004_20) := (blk_cell BK165.out 4).trans rfl; have hcz97_5 : w96.cell? ⟨gb165, 5, none⟩ = some (.int .i64 x166005_20) := (blk_cell BK165.out 5).trans rfl; have hcz97_6 : w96.cell? ⟨gb165, 6, none⟩ = some (.int .i64 x166006_20) := (blk_cell BK165.out 6).trans rfl; have hcz97_7 : w96.cell? ⟨gb165, 7, none⟩ = some (.int .u32 x166007_20) := (blk_cell BK165.out 7).trans rfl; have hfz97_0 := blk_frozen BK165.out 0; have hfz97_1 := blk_frozen BK165.out 1; have hfz97_2 := blk_frozen BK165.out 2; have hfz97_3 := blk_frozen BK165.out 3; have hfz97_4 := blk_frozen BK165.out 4; have hfz97_5 := blk_frozen BK165.out 5; have hfz97_6 := blk_frozen BK165.out 6; have hfz97_7 := blk_frozen BK165.out 7; have p88 : 0 ≤ (t183 : Int) := of_decide_eq_true (by first | (with_reducible assumption) | assumption); have q88 : (t183 : Int) < ((x5_1.length : Int) : Int) := of_decide_eq_true (by first | (with_reducible assumption) | assumption); obtain ⟨go88, co88, eo88, gb88, gl88, cl88, HG88⟩ := Kd.R_form HO_5.out (by omega); (first | cases eo88 | (injection eo88 with ea_ en_ ec_; (first | subst ea_ | (injection ea_ with ea_; subst ea_)); subst ec_; clear en_)); have GB88 := Aside0.mk gb88; have GG88 := Aside0.mk HG88; clear gb88 gl88 HG88; obtain ⟨hx88_0, hf88_0⟩ := Kd.R_celln false HO_5.out (t183 : Int) p88 q88; replace p88 := eq_true p88; replace q88 := eq_true q88; obtain ⟨hy98_, hz98_⟩ := Kd.R_celln false HO_5.out (t183 : Int) (of_decide_eq_true (by first | (with_reducible assumption) | assumption)) (of_decide_eq_true (by first | (with_reducible assumption) | assumption)); have HP98 := Kd.R_putg HO_5.out (t183 : Int) (x166000_20 == 1)) | ((with_reducible refine gate_store (t := 4) (p := 93) rfl ?_); refine store_event (t := 4) (p := 93) (v := ?vo_w99) (w1 := (w96.setCell ⟨go88, (t183 : Int).toNat, none⟩ (.bool (x166000_20 == 1)))) ?hg ?ho ?hn ?hr ?_; (case ho => rfl); (case hg => rfl); (case hn => rfl); (case hr => first | (go_simp; done) | (go_simp; rfl)); intro w99 hw; have hg : w96.grownBy w99 (some go88) := (by rw [hw]; exact HP98.2); have hp_ : Kd.R Kd.bool 4 w99 w.heap.size (fun _ => True) (.slice (some ⟨go88, 0, none⟩) x5_1.length co88) y184 := (by rw [hw, Ny184.out]; exact HP98.1); clear HP98; have n0_ := Aside0.mk (hp_); have n1_ := Aside0.mk (Kd.R_over' (v := (.slice (some ⟨go88, 0, none⟩) x5_1.length co88)) (by (with_reducible repeat (first | apply Kd.R_alloc | apply Kd.R_drewN | apply Kd.R_drew)); exact HO_6.out) (Kd.R_typed HO_5.out) (by decide) hg); have n2_ := Aside0.mk (Kd.R_over' (v := (.slice (some ⟨go88, 0, none⟩) x5_1.length co88)) (by (with_reducible repeat (first | apply Kd.R_alloc | apply Kd.R_drewN | apply Kd.R_drew)); exact HO_7.out) (Kd.R_typed HO_5.out) (by decide) hg); have n3_ := Aside0.mk (blk_grown (g := gb165) (o := .cells #[.int .i64 x166000_20, .int .i64 x166001_20, .int .i64 x166002_20, .int .i64 x166003_20, .int .i64 x166004_20, .int .i64 x166005_20, .int .i64 x166006_20, .int .u32 x166007_20] 48 (0, 0)) (by (with_reducible repeat (first | refine blk_drewN ?_ _ | refine blk_drew ?_ | refine blk_alloc ?_ _)); exact BK165.out) hg (Kd.R_ne HO_5.out BK165.out (by decide))); have n4_ := Aside0.mk ((by rw [hw]; exact below_set (HB.out) GB88.out : Below w.heap.size w w99)); clear HO_5; clear HO_6; clear HO_7; clear BK165; clear HB; have HO_5 := n0_; have HO_6 := n1_; have HO_7 := n2_; have BK165 := n3_; have HB := n4_; clear n0_ n1_ n2_ n3_ n4_; clear hg hw hp_; have hcz100_0 : w99.cell? ⟨gb165, 0, none⟩ = some (.int .i64 x166000_20) := (blk_cell BK165.out 0).trans rfl; have hcz100_1 : w99.cell? ⟨gb165, 1, none⟩ = some (.int .i64 x166001_20) := (blk_cell BK165.out 1).trans rfl; have hcz100_2 : w99.cell? ⟨gb165, 2, none⟩ = some (.int .i64 x166002_20) := (blk_cell BK165.out 2).trans rfl; have hcz100_3 : w99.cell? ⟨gb165, 3, none⟩ = some (.int .i64 x166003_20) := (blk_cell BK165.out 3).trans rfl; have hcz100_4 : w99.cell? ⟨gb165, 4, none⟩ = some (.int .i64 x166004_20) := (blk_cell BK165.out 4).trans rfl; have hcz100_5 : w99.cell? ⟨gb165, 5, none⟩ = some (.int .i64 x166005_20) := (blk_cell BK165.out 5).trans rfl; have hcz100_6 : w99.cell? ⟨gb165, 6, none⟩ = some (.int .i64 x166006_20) := (blk_cell BK165.out 6).trans rfl; have hcz100_7 : w99.cell? ⟨gb165, 7, none⟩ = some (.int .u32 x166007_20) := (blk_cell BK165.out 7).trans rfl; have hfz100_0 := blk_frozen BK165.out 0; have hfz100_1 := blk_frozen BK165.out 1; have hfz100_2 := blk_frozen BK165.out 2; have hfz100_3 := blk_frozen BK165.out 3; have hfz100_4 := blk_frozen BK165.out 4; have hfz100_5 := blk_frozen BK165.out 5; have hfz100_6 := blk_frozen BK165.out 6; have hfz100_7 := blk_frozen BK165.out 7; have p90 : 0 ≤ (t183 : Int) := of_decide_eq_true (by first | (with_reducible assumption) | assumption); have q90 : (t183 : Int) < ((x6_1.length : Int) : Int) := of_decide_eq_true (by first | (with_reducible assumption) | assumption); obtain ⟨go90, co90, eo90, gb90, gl90, cl90, HG90⟩ := Kd.R_form HO_6.out (by omega); (first | cases eo90 | (injection eo90 with ea_ en_ ec_; (first | subst ea_ | (injection ea_ with ea_; subst ea_)); subst ec_; clear en_)); have GB90 := Aside0.mk gb90; have GG90 := Aside0.mk HG90; clear gb90 gl90 HG90; (first | simp only [add_plain] at hx170_0 | skip); (first | simp only [add_plain] at hx171_0 | skip); obtain ⟨hx90_0, hf90_0⟩ := Kd.R_celln 0 HO_6.out (t183 : Int) p90 q90; replace p90 := eq_true p90; replace q90 := eq_true q90; obtain ⟨hy101_, hz101_⟩ := Kd.R_celln 0 HO_6.out (t183 : Int) (of_decide_eq_true (by first | (with_reducible assumption) | assumption)) (of_decide_eq_true (by first | (with_reducible assumption) | assumption)); have HP101 := Kd.R_putg HO_6.out (t183 : Int) x166007_20) | ((with_reducible refine gate_store (t := 46) (p := 98) rfl ?_); refine store_event (t := 46) (p := 98) (v := ?vo_w102) (w1 := (w99.setCell ⟨go90, (t183 : Int).toNat, none⟩ (.int .u32 x166007_20))) ?hg ?ho ?hn ?hr ?_; (case ho => rfl); (case hg => rfl); (case hn => rfl); (case hr => first | (go_simp; done) | (go_simp; rfl)); intro w102 hw; have hg : w99.grownBy w102 (some go90) := (by rw [hw]; exact HP101.2); have hp_ : Kd.R (Kd.int .u32) 46 w102 w.heap.size (fun _ => True) (.slice (some ⟨go90, 0, none⟩) x6_1.length co93) y185 := (by rw [hw, Ny185.out]; exact HP101.1); clear HP101; have n0_ := Aside0.mk (Kd.R_over' (v := (.slice (some ⟨go90, 0, none⟩) x6_1.length co93)) (by (with_reducible repeat (first | apply Kd.R_alloc | apply Kd.R_drewN | apply Kd.R_drew)); exact HO_5.out) (Kd.R_typed HO_6.out) (by decide) hg); have n1_ := Aside0.mk (hp_); have n2_ := Aside0.mk (Kd.R_over' (v := (.slice (some ⟨go90, 0, none⟩) x6_1.length co93)) (by (with_reducible repeat (first | apply Kd.R_alloc | apply Kd.R_drewN | apply Kd.R_drew)); exact HO_7.out) (Kd.R_typed HO_6.out) (by decide) hg); have n3_ := Aside0.mk (blk_grown (g := gb165) (o := .cells #[.int .i64 x166000_20, .int .i64 x166001_20, .int .i64 x166002_20, .int .i64 x166003_20, .int .i64 x166004_20, .int .i64 x166005_20, .int .i64 x166006_20, .int .u32 x166007_20] 48 (0, 0)) (by (with_reducible repeat (first | refine blk_drewN ?_ _ | refine blk_drew ?_ | refine blk_alloc ?_ _)); exact BK165.out) hg (Kd.R_ne HO_6.out BK165.out (by decide))); have n4_ := Aside0.mk ((by rw [hw]; exact below_set (HB.out) GB90.out : Below w.heap.size w w102)); clear HO_5; clear HO_6; clear HO_7; clear BK165; clear HB; have HO_5 := n0_; have HO_6 := n1_; have HO_7 := n2_; have BK165 := n3_; have HB := n4_; clear n0_ n1_ n2_ n3_ n4_; clear hg hw hp_; have hcz103_0 : w102.cell? ⟨gb165, 0, none⟩ = some (.int .i64 x166000_20) := (blk_cell BK165.out 0).trans rfl; have hcz103_1 : w102.cell? ⟨gb165, 1, none⟩ = some (.int .i64 x166001_20) := (blk_cell BK165.out 1).trans rfl; have hcz103_2 : w102.cell? ⟨gb165, 2, none⟩ = some (.int .i64 x166002_20) := (blk_cell BK165.out 2).trans rfl; have hcz103_3 : w102.cell? ⟨gb165, 3, none⟩ = some (.int .i64 x166003_20) := (blk_cell BK165.out 3).trans rfl; have hcz103_4 : w102.cell? ⟨gb165, 4, none⟩ = some (.int .i64 x166004_20) := (blk_cell BK165.out 4).trans rfl; have hcz103_5 : w102.cell? ⟨gb165, 5, none⟩ = some (.int .i64 x166005_20) := (blk_cell BK165.out 5).trans rfl; have hcz103_6 : w102.cell? ⟨gb165, 6, none⟩ = some (.int .i64 x166006_20) := (blk_cell BK165.out 6).trans rfl; have hcz103_7 : w102.cell? ⟨gb165, 7, none⟩ = some (.int .u32 x166007_20) := (blk_cell BK165.out 7).trans rfl; have hfz103_0 := blk_frozen BK165.out 0; have hfz103_1 := blk_frozen BK165.out 1; have hfz103_2 := blk_frozen BK165.out 2; have hfz103_3 := blk_frozen BK165.out 3; have hfz103_4 := blk_frozen BK165.out 4; have hfz103_5 := blk_frozen BK165.out 5; have hfz103_6 := blk_frozen BK165.out 6; have hfz103_7 := blk_frozen BK165.out 7) | ((with_reducible refine gate_builtin (b := .append) (xs := #[.tmp 99, .tmp 101]) rfl ?_); at_builtin; refine Kd.R_append k48 (w0 := w) w.heap.size rfl (.tmp 99) (.tmp 101) 43 48 (.agg #[(.int .i64 0), (.int .i64 0), (.int .i64 0), (.int .i64 0), (.int .i64 0), (.int .i64 0), (.int .i64 0), (.int .u32 0)]) 64 rfl Try.underlying43 info48 rfl (by decide) (by omega) u7 x7_1 (⟨x166000_20, x166001_20, x166002_20, x166003_20, x166004_20, x166005_20, x166006_20, x166007_20⟩ : S48) [.int .i64 x166000_20, .int .i64 x166001_20, .int .i64 x166002_20, .int .i64 x166003_20, .int .i64 x166004_20, .int .i64 x166005_20, .int .i64 x166006_20, .int .u32 x166007_20] (fun k_ => k_ ≠ gb165) (fun _ => False) rfl rfl ?aP (fun _ hk => hk.elim) ?aF ?aO ?aB ?aS ?aL ?_; (case aP => exact k48_mkM _ _ _ (⟨x166000_20, x166001_20, x166002_20, x166003_20, x166004_20, x166005_20, x166006_20, x166007_20⟩ : S48)); (case aB => exact (by repeat (first | (with_reducible first | exact HB.out | apply below_alloc | apply pw_below_drewN | apply below_drew1 | refine below_set ?_ GE165.out) | exact HB.out))); (case aF => exact (fun k_ hk => Kd.freshB (g := gb165) (o := .cells #[.int .i64 x166000_20, .int .i64 x166001_20, .int .i64 x166002_20, .int .i64 x166003_20, .int .i64 x166004_20, .int .i64 x166005_20, .int .i64 x166006_20, .int .u32 x166007_20] 48 (0, 0)) (by (with_reducible repeat (first | refine blk_drewN ?_ _ | refine blk_drew ?_ | refine blk_alloc ?_ _)); exact BK165.out) k_ hk)); (case aO => exact (by (with_reducible repeat (first | apply Kd.R_alloc | apply Kd.R_drewN | apply Kd.R_drew)); exact HO_7.out)); (case aS => exact (below_size (by repeat (first | (with_reducible first | exact HB.out | apply below_alloc | apply pw_below_drewN | apply below_drew1 | refine below_set ?_ GE165.out) | exact HB.out)))); (case aL => have := LMc91.out; omega); intro v187 w104 ho hb hg hat; rw [← Ny186.out] at ho; have n0_ := Aside0.mk (Kd.R_over' (by (with_reducible repeat (first | apply Kd.R_alloc | apply Kd.R_drewN | apply Kd.R_drew)); exact HO_5.out) (Kd.R_typed (by (with_reducible repeat (first | apply Kd.R_alloc | apply Kd.R_drewN | apply Kd.R_drew)); exact HO_7.out)) (by decide) hg); have n1_ := Aside0.mk (Kd.R_over' (by (with_reducible repeat (first | apply Kd.R_alloc | apply Kd.R_drewN | apply Kd.R_drew)); exact HO_6.out) (Kd.R_typed (by (with_reducible repeat (first | apply Kd.R_alloc | apply Kd.R_drewN | apply Kd.R_drew)); exact HO_7.out)) (by decide) hg); have n2_ := Aside0.mk (blk_grown (g := gb165) (o := .cells #[.int .i64 x166000_20, .int .i64 x166001_20, .int .i64 x166002_20, .int .i64 x166003_20, .int .i64 x166004_20, .int .i64 x166005_20, .int .i64 x166006_20, .int .u32 x166007_20] 48 (0, 0)) (by (with_reducible repeat (first | refine blk_drewN ?_ _ | refine blk_drew ?_ | refine blk_alloc ?_ _)); exact BK165.out) hg (Kd.R_away HO_7.out (fun _ hk => hk))); have n3_ := Aside0.mk (hb); have n4_ := Aside0.mk (ho); clear HO_5; clear HO_6; clear BK165; clear HB; clear HO_7; have HO_5 := n0_; have HO_6 := n1_; have BK165 := n2_; have HB := n3_; have HO188 := n4_; clear n0_ n1_ n2_ n3_ n4_; clear ho hb hg hat))
                         go_roundg kj34
                         case measure => have := HK1.out; have := HJ11.out; have := HJ20.out; have := HJ34.out; omega
                         case rel => exact ⟨(y184), (y185), (y186), (wrap64 (x8_1 + 1)), (by first | rfl | (simp; done) | (simp [*]; done)), H', ⟨by have := HK1.out; have := HJ11.out; have := HJ20.out; have := HJ34.out; omega⟩, ⟨by (with_reducible repeat (first | apply Kd.R_alloc | apply Kd.R_drewN | apply Kd.R_drew)); exact HO_5.out⟩, ⟨by (with_reducible repeat (first | apply Kd.R_alloc | apply Kd.R_drewN | apply Kd.R_drew)); exact HO_6.out⟩, ⟨by (with_reducible repeat (first | apply Kd.R_alloc | apply Kd.R_drewN | apply Kd.R_drew)); exact Kd.R_mono HO188.out (fun _ hk => trivial)⟩, ⟨by repeat (first | (with_reducible first | exact HB.out | apply below_alloc | apply pw_below_drewN | apply below_drew1 | refine below_set ?_ GE165.out) | exact HB.out)⟩⟩
                        ·
                         rw [if_neg c91] at H
                         exact absurd H (by simp)
                       ·
                        rw [if_neg c89] at H
                        exact absurd H (by simp)
                      ·
                       rw [if_neg c87] at H
                       exact absurd H (by simp)
                     ·
                      rw [if_neg c86] at H
                      exact absurd H (by simp)
                    ·
                     rw [if_neg c85] at H
                     have c85b0 : decide (0 ≤ t183) = false := decide_eq_false c85
                     clear c85
                     by_cases c105 : x7_1.length < 2199023255552
                     ·
                      rw [if_pos c105] at H
                      have LMc105 := Aside0.mk c105
                      clear c105
                      obtain ⟨y189, hy189⟩ : ∃ y_ : List (S48), y_ = (x7_1 ++ [(⟨x166000_20, x166001_20, x166002_20, x166003_20, x166004_20, x166005_20, x166006_20, x166007_20⟩ : S48)]) := ⟨_, rfl⟩
                      replace H : (seedcornref30_Ins.l0 kj34 l0 x5_1 x6_1 y189 (wrap64 (x8_1 + 1))) = some r := by first | (rw [hy189]; with_reducible exact H) | (have H2_ := (Option.bind_some _ _).symm.trans H; rw [hy189]; with_reducible exact H2_) | (have H2_ := (Option.bind_some _ _).symm.trans H; with_reducible exact H2_) | with_reducible exact H | (rw [hy189]; exact H) | exact H
                      have Ny189 := Aside0.mk hy189
                      clear hy189
                      have H' := Aside0.mk H
                      clear H
                      try go_wp2
                      have n0_ := Aside0.mk (Kd.R_drew HO_5.out)
                      have n1_ := Aside0.mk (Kd.R_drew HO_6.out)
                      have n2_ := Aside0.mk (Kd.R_drew HO_7.out)
                      have n3_ := Aside0.mk (blk_drew BK165.out)
                      have n4_ := Aside0.mk (below_drew1 HB.out)
                      clear HO_5
                      clear HO_6
                      clear HO_7
                      clear BK165
                      clear HB
                      have HO_5 := n0_
                      have HO_6 := n1_
                      have HO_7 := n2_
                      have BK165 := n3_
                      have HB := n4_
                      clear n0_ n1_ n2_ n3_ n4_
                      obtain ⟨Ao107, co107, eo107⟩ := Kd.R_slice HO_6.out
                      (first | subst eo107 | (injection eo107 with f1_ f2_ f3_; have f4_ := f1_.symm; have f5_ := f3_.symm; clear f1_ f2_ f3_; subst f4_; subst f5_))
                      have p170 : 0 ≤ (x166002_20 : Int) := of_decide_eq_true (by first | (with_reducible assumption) | assumption)
                      have q170 : x166002_20 < (x6_1.length : Int) := of_decide_eq_true (by first | (with_reducible assumption) | assumption)
                      obtain ⟨ad170, e170, hx170_0⟩ := Kd.at_int (Kd.R_reads' HO_6.out).2.2 x166002_20 p170 q170
                      cases e170
                      replace p170 := eq_true p170
                      replace q170 := eq_true q170
                      have p171 : 0 ≤ (x166003_20 : Int) := of_decide_eq_true (by first | (with_reducible assumption) | assumption)
                      have q171 : x166003_20 < (x6_1.length : Int) := of_decide_eq_true (by first | (with_reducible assumption) | assumption)
                      obtain ⟨ad171, e171, hx171_0⟩ := Kd.at_int (Kd.R_reads' HO_6.out).2.2 x166003_20 p171 q171
                      obtain rfl : ad170 = ad171 := (by injection e171)
                      replace p171 := eq_true p171
                      replace q171 := eq_true q171
                      refine start_ (n := 18) (S := fun w' => w'.cell? ⟨gb165, 0, none⟩ = some (.int .i64 x166000_20) ∧ w'.cell? ⟨gb165, 1, none⟩ = some (.int .i64 x166001_20) ∧ w'.cell? ⟨gb165, 2, none⟩ = some (.int .i64 x166002_20) ∧ w'.cell? ⟨gb165, 3, none⟩ = some (.int .i64 x166003_20) ∧ w'.cell? ⟨gb165, 4, none⟩ = some (.int .i64 x166004_20) ∧ w'.cell? ⟨gb165, 5, none⟩ = some (.int .i64 x166005_20) ∧ w'.cell? ⟨gb165, 6, none⟩ = some (.int .i64 x166006_20) ∧ w'.cell? ⟨gb165, 7, none⟩ = some (.int .u32 x166007_20) ∧ w'.cell? (ad170.add (x166002_20).toNat) = some (.int .u32 (rd x6_1 x166002_20)) ∧ w'.cell? (ad170.add (x166003_20).toNat) = some (.int .u32 (rd x6_1 x166003_20))) (ds := []) #[false, false, false, false, false, false, false, false, false, false, false, false, false, false, false, false, false, false] (by kernel_rfl) rfl rfl ⟨(blk_cell BK165.out 0).trans rfl, (blk_cell BK165.out 1).trans rfl, (blk_cell BK165.out 2).trans rfl, (blk_cell BK165.out 3).trans rfl, (blk_cell BK165.out 4).trans rfl, (blk_cell BK165.out 5).trans rfl, (blk_cell BK165.out 6).trans rfl, (blk_cell BK165.out 7).trans rfl, hx170_0, hx171_0⟩ (fun hHeld => ?_); refine with_tabW seedcornref30_Ins.tab11 seedcornref30_Ins.bits11 (fun HT_ HW_ => ?_)
                      generalize wc.drew = w106 at HO_5 HO_6 HO_7 BK165 HB hx170_0 hx171_0 hHeld ⊢
                      refine pure_ (i := 0) (N := some 63) (v := ?_) (a' := ?_) #[true, false, false, false, false, false, false, false, false, false, false, false, false, false, false, false, false, false] rfl rfl (any_of HT_.out (by kernel_rfl)) (fun _ _ _ h => h) (Or.inl ⟨by rfl, ?_⟩) ?_ ?_
                      rotate_left
                      ·
                       intro w'
                       go_simp
                       with_reducible rfl
                      rotate_left
                      ·
                       simp only [Act.put, List.setIfInBounds_toArray, List.set_cons_zero, List.set_cons_succ, i64_w, i32_w]
                       rfl
                      refine pure_ (i := 2) (N := some 65) (v := ?_) (a' := ?_) #[true, false, true, false, false, false, false, false, false, false, false, false, false, false, false, false, false, false] rfl rfl (any_of HT_.out (by kernel_rfl)) (fun _ _ _ h => h) (Or.inl ⟨by rfl, ?_⟩) ?_ ?_
                      rotate_left
                      ·
                       intro w'
                       go_simp
                       with_reducible rfl
                      rotate_left
                      ·
                       simp only [Act.put, List.setIfInBounds_toArray, List.set_cons_zero, List.set_cons_succ, i64_w, i32_w]
                       rfl
                      refine pure_ (i := 3) (N := some 66) (v := ?_) (a' := ?_) #[true, false, true, true, false, false, false, false, false, false, false, false, false, false, false, false, false, false] rfl rfl (any_of HT_.out (by kernel_rfl)) (fun _ _ _ h => h) (Or.inl ⟨by rfl, ?_⟩) ?_ ?_
                      rotate_left
                      ·
                       intro w'
                       go_simp
                       with_reducible rfl
                      rotate_left
                      ·
                       simp only [Act.put, List.setIfInBounds_toArray, List.set_cons_zero, List.set_cons_succ, i64_w, i32_w]
                       rfl
                      refine pure_ (i := 7) (N := some 70) (v := ?_) (a' := ?_) #[true, false, true, true, false, false, false, true, false, false, false, false, false, false, false, false, false, false] rfl rfl (any_of HT_.out (by kernel_rfl)) (fun _ _ _ h => h) (Or.inl ⟨by rfl, ?_⟩) ?_ ?_
                      rotate_left
                      ·
                       intro w'
                       go_simp
                       with_reducible rfl
                      rotate_left
                      ·
                       simp only [Act.put, List.setIfInBounds_toArray, List.set_cons_zero, List.set_cons_succ, i64_w, i32_w]
                       rfl
                      refine pure_ (i := 8) (N := some 71) (v := ?_) (a' := ?_) #[true, false, true, true, false, false, false, true, true, false, false, false, false, false, false, false, false, false] rfl rfl (any_of HT_.out (by kernel_rfl)) (fun _ _ _ h => h) (Or.inl ⟨by rfl, ?_⟩) ?_ ?_
                      rotate_left
                      ·
                       intro w'
                       go_simp
                       with_reducible rfl
                      rotate_left
                      ·
                       simp only [Act.put, List.setIfInBounds_toArray, List.set_cons_zero, List.set_cons_succ, i64_w, i32_w]
                       rfl
                      refine take_ (i := 1) (N := some 64) (v := ?_) (a' := ?_) #[true, true, true, true, false, false, false, true, true, false, false, false, false, false, false, false, false, false] rfl rfl (take_ofW HT_.out HW_.out (by kernel_rfl)) (fun _ _ _ h => h) (Or.inl ⟨by rfl, ?_⟩) hHeld ?_ ?_
                      rotate_left
                      ·
                       rintro w' ⟨s0, s1, s2, s3, s4, s5, s6, s7, s8, s9⟩
                       go_simp
                       with_reducible rfl
                      rotate_left
                      ·
                       simp only [Act.put, List.setIfInBounds_toArray, List.set_cons_zero, List.set_cons_succ, i64_w, i32_w]
                       rfl
                      refine take_ (i := 4) (N := some 67) (v := ?_) (a' := ?_) #[true, true, true, true, true, false, false, true, true, false, false, false, false, false, false, false, false, false] rfl rfl (take_ofW HT_.out HW_.out (by kernel_rfl)) (fun _ _ _ h => h) (Or.inl ⟨by rfl, ?_⟩) hHeld ?_ ?_
                      rotate_left
                      ·
                       rintro w' ⟨s0, s1, s2, s3, s4, s5, s6, s7, s8, s9⟩
                       go_simp
                       with_reducible rfl
                      rotate_left
                      ·
                       simp only [Act.put, List.setIfInBounds_toArray, List.set_cons_zero, List.set_cons_succ, i64_w, i32_w]
                       rfl
                      refine pure_ (i := 5) (N := some 68) (v := ?_) (a' := ?_) #[true, true, true, true, true, true, false, true, true, false, false, false, false, false, false, false, false, false] rfl rfl (any_of HT_.out (by kernel_rfl)) (fun _ _ _ h => h) (Or.inl ⟨by rfl, ?_⟩) ?_ ?_
                      rotate_left
                      ·
                       intro w'
                       go_simp
                       with_reducible rfl
                      rotate_left
                      ·
                       simp only [Act.put, List.setIfInBounds_toArray, List.set_cons_zero, List.set_cons_succ, i64_w, i32_w]
                       rfl
                      refine take_ (i := 6) (N := some 69) (v := ?_) (a' := ?_) #[true, true, true, true, true, true, true, true, true, false, false, false, false, false, false, false, false, false] rfl rfl (take_ofW HT_.out HW_.out (by kernel_rfl)) (fun _ _ _ h => h) (Or.inl ⟨by rfl, ?_⟩) hHeld ?_ ?_
                      rotate_left
                      ·
                       rintro w' ⟨s0, s1, s2, s3, s4, s5, s6, s7, s8, s9⟩
                       go_simp
                       with_reducible rfl
                      rotate_left
                      ·
                       simp only [Act.put, List.setIfInBounds_toArray, List.set_cons_zero, List.set_cons_succ, i64_w, i32_w]
                       rfl
                      refine take_ (i := 9) (N := some 72) (v := ?_) (a' := ?_) #[true, true, true, true, true, true, true, true, true, true, false, false, false, false, false, false, false, false] rfl rfl (take_ofW HT_.out HW_.out (by kernel_rfl)) (fun _ _ _ h => h) (Or.inl ⟨by rfl, ?_⟩) hHeld ?_ ?_
                      rotate_left
                      ·
                       rintro w' ⟨s0, s1, s2, s3, s4, s5, s6, s7, s8, s9⟩
                       go_simp
                       with_reducible rfl
                      rotate_left
                      ·
                       simp only [Act.put, List.setIfInBounds_toArray, List.set_cons_zero, List.set_cons_succ, i64_w, i32_w]
                       rfl
                      refine pure_ (i := 10) (N := some 73) (v := ?_) (a' := ?_) #[true, true, true, true, true, true, true, true, true, true, true, false, false, false, false, false, false, false] rfl rfl (any_of HT_.out (by kernel_rfl)) (fun _ _ _ h => h) (Or.inl ⟨by rfl, ?_⟩) ?_ ?_
                      rotate_left
                      ·
                       intro w'
                       go_simp
                       with_reducible rfl
                      rotate_left
                      ·
                       simp only [Act.put, List.setIfInBounds_toArray, List.set_cons_zero, List.set_cons_succ, i64_w, i32_w]
                       rfl
                      refine take_ (i := 11) (N := some 74) (v := ?_) (a' := ?_) #[true, true, true, true, true, true, true, true, true, true, true, true, false, false, false, false, false, false] rfl rfl (take_ofW HT_.out HW_.out (by kernel_rfl)) (fun _ _ _ h => h) (Or.inl ⟨by rfl, ?_⟩) hHeld ?_ ?_
                      rotate_left
                      ·
                       rintro w' ⟨s0, s1, s2, s3, s4, s5, s6, s7, s8, s9⟩
                       go_simp
                       with_reducible rfl
                      rotate_left
                      ·
                       simp only [Act.put, List.setIfInBounds_toArray, List.set_cons_zero, List.set_cons_succ, i64_w, i32_w]
                       rfl
                      refine one_ (i := 12) (N := some 75) #[true, true, true, true, true, true, true, true, true, true, true, true, true, false, false, false, false, false] rfl rfl (one_of HT_.out (by kernel_rfl)) (by decide) (fun K hK => ?_)
                      refine goes_ Try.func26 (by kernel_rfl) rfl #[.int .i64 x166004_20, .int .u32 (rd x6_1 x166002_20), .int .u32 (rd x6_1 x166003_20)] (by rfl) rfl rfl (by (try simp only [List.map_toArray, List.map_cons, List.map_nil]); first | done | rfl | (simp only [List.length_drop, List.length_take]; rfl)) ?_
                      with_reducible refine (seedcornref01_Apply.calls x166004_20 (rd x6_1 x166002_20) (rd x6_1 x166003_20) t172 t173 _ A53.out).mono ?_
                      rintro e w108 ⟨rfl, hb⟩
                      have HS8_ := (hb.cell (World.block_lt_of_cell? _ _ (hHeld.2.2.2.2.2.2.2.2.1))).trans (hHeld.2.2.2.2.2.2.2.2.1)
                      have HS9_ := (hb.cell (World.block_lt_of_cell? _ _ (hHeld.2.2.2.2.2.2.2.2.2))).trans (hHeld.2.2.2.2.2.2.2.2.2)
                      refine ⟨_, rfl, ?_⟩
                      have n0_ := Aside0.mk (Kd.R_below (by (with_reducible repeat (first | apply Kd.R_alloc | apply Kd.R_drewN | apply Kd.R_drew)); exact HO_5.out) hb)
                      have n1_ := Aside0.mk (Kd.R_below (by (with_reducible repeat (first | apply Kd.R_alloc | apply Kd.R_drewN | apply Kd.R_drew)); exact HO_6.out) hb)
                      have n2_ := Aside0.mk (Kd.R_below (by (with_reducible repeat (first | apply Kd.R_alloc | apply Kd.R_drewN | apply Kd.R_drew)); exact HO_7.out) hb)
                      have n3_ := Aside0.mk (blk_below (g := gb165) (o := .cells #[.int .i64 x166000_20, .int .i64 x166001_20, .int .i64 x166002_20, .int .i64 x166003_20, .int .i64 x166004_20, .int .i64 x166005_20, .int .i64 x166006_20, .int .u32 x166007_20] 48 (0, 0)) (by (with_reducible repeat (first | refine blk_drewN ?_ _ | refine blk_drew ?_ | refine blk_alloc ?_ _)); exact BK165.out) hb)
                      have n4_ := Aside0.mk (below_step (by repeat (first | (with_reducible first | exact HB.out | apply below_alloc | apply pw_below_drewN | apply below_drew1 | refine below_set ?_ GE165.out) | exact HB.out)) hb)
                      clear HO_5
                      clear HO_6
                      clear HO_7
                      clear BK165
                      clear HB
                      have HO_5 := n0_
                      have HO_6 := n1_
                      have HO_7 := n2_
                      have BK165 := n3_
                      have HB := n4_
                      clear n0_ n1_ n2_ n3_ n4_
                      (try clear hb)
                      (try clear hb2)
                      (try clear hk)
                      (try clear hi)
                      refine hK.out _ _ ⟨(blk_cell BK165.out 0).trans rfl, (blk_cell BK165.out 1).trans rfl, (blk_cell BK165.out 2).trans rfl, (blk_cell BK165.out 3).trans rfl, (blk_cell BK165.out 4).trans rfl, (blk_cell BK165.out 5).trans rfl, (blk_cell BK165.out 6).trans rfl, (blk_cell BK165.out 7).trans rfl, HS8_, HS9_⟩ (fun hHeld => ?_)
                      clear hK K
                      refine norm_ (a' := ?_) ?_ ?_
                      rotate_left
                      ·
                       show Act.put _ (some 75) _ = _
                       simp only [Act.put, List.setIfInBounds_toArray, List.set_cons_zero, List.set_cons_succ, i64_w, i32_w]
                       rfl
                      refine pure_ (i := 13) (N := some 62) (v := ?_) (a' := ?_) #[true, true, true, true, true, true, true, true, true, true, true, true, true, true, false, false, false, false] rfl rfl (any_of HT_.out (by kernel_rfl)) (fun _ _ _ h => h) (Or.inl ⟨by rfl, ?_⟩) ?_ ?_
                      rotate_left
                      ·
                       intro w'
                       go_simp
                       with_reducible rfl
                      rotate_left
                      ·
                       simp only [Act.put, List.setIfInBounds_toArray, List.set_cons_zero, List.set_cons_succ, i64_w, i32_w]
                       rfl
                      refine pure_ (i := 14) (N := some 76) (v := ?_) (a' := ?_) #[true, true, true, true, true, true, true, true, true, true, true, true, true, true, true, false, false, false] rfl rfl (any_of HT_.out (by kernel_rfl)) (fun _ _ _ h => h) (Or.inl ⟨by rfl, ?_⟩) ?_ ?_
                      rotate_left
                      ·
                       intro w'
                       go_simp
                       with_reducible rfl
                      rotate_left
                      ·
                       simp only [Act.put, List.setIfInBounds_toArray, List.set_cons_zero, List.set_cons_succ, i64_w, i32_w]
                       rfl
                      refine pure_ (i := 15) (N := some 77) (v := ?_) (a' := ?_) #[true, true, true, true, true, true, true, true, true, true, true, true, true, true, true, true, false, false] rfl rfl (any_of HT_.out (by kernel_rfl)) (fun _ _ _ h => h) (Or.inl ⟨by rfl, ?_⟩) ?_ ?_
                      rotate_left
                      ·
                       intro w'
                       go_simp
                       with_reducible rfl
                      rotate_left
                      ·
                       simp only [Act.put, List.setIfInBounds_toArray, List.set_cons_zero, List.set_cons_succ, i64_w, i32_w]
                       rfl
                      refine pure_ (i := 16) (N := some 10) (v := ?_) (a' := ?_) #[true, true, true, true, true, true, true, true, true, true, true, true, true, true, true, true, true, false] rfl rfl (any_of HT_.out (by kernel_rfl)) (fun _ _ _ h => h) (Or.inl ⟨by rfl, ?_⟩) ?_ ?_
                      rotate_left
                      ·
                       intro w'
                       go_simp
                       with_reducible rfl
                      rotate_left
                      ·
                       simp only [Act.put, List.setIfInBounds_toArray, List.set_cons_zero, List.set_cons_succ, i64_w, i32_w]
                       rfl
                      refine pure_ (i := 17) (N := some 11) (v := ?_) (a' := ?_) #[true, true, true, true, true, true, true, true, true, true, true, true, true, true, true, true, true, true] rfl rfl (any_of HT_.out (by kernel_rfl)) (fun _ _ _ h => h) (Or.inl ⟨by rfl, ?_⟩) ?_ ?_
                      rotate_left
                      ·
                       intro w'
                       go_simp
                       with_reducible rfl
                      rotate_left
                      ·
                       simp only [Act.put, List.setIfInBounds_toArray, List.set_cons_zero, List.set_cons_succ, i64_w, i32_w]
                       rfl
                      refine done_ (done_of HT_.out (by kernel_rfl)) ?_
                      have hcz109_0 : w108.cell? ⟨gb165, 0, none⟩ = some (.int .i64 x166000_20) := (blk_cell BK165.out 0).trans rfl
                      have hcz109_1 : w108.cell? ⟨gb165, 1, none⟩ = some (.int .i64 x166001_20) := (blk_cell BK165.out 1).trans rfl
                      have hcz109_2 : w108.cell? ⟨gb165, 2, none⟩ = some (.int .i64 x166002_20) := (blk_cell BK165.out 2).trans rfl
                      have hcz109_3 : w108.cell? ⟨gb165, 3, none⟩ = some (.int .i64 x166003_20) := (blk_cell BK165.out 3).trans rfl
                      have hcz109_4 : w108.cell? ⟨gb165, 4, none⟩ = some (.int .i64 x166004_20) := (blk_cell BK165.out 4).trans rfl
                      have hcz109_5 : w108.cell? ⟨gb165, 5, none⟩ = some (.int .i64 x166005_20) := (blk_cell BK165.out 5).trans rfl
                      have hcz109_6 : w108.cell? ⟨gb165, 6, none⟩ = some (.int .i64 x166006_20) := (blk_cell BK165.out 6).trans rfl
                      have hcz109_7 : w108.cell? ⟨gb165, 7, none⟩ = some (.int .u32 x166007_20) := (blk_cell BK165.out 7).trans rfl
                      have hfz109_0 := blk_frozen BK165.out 0
                      have hfz109_1 := blk_frozen BK165.out 1
                      have hfz109_2 := blk_frozen BK165.out 2
                      have hfz109_3 := blk_frozen BK165.out 3
                      have hfz109_4 := blk_frozen BK165.out 4
                      have hfz109_5 := blk_frozen BK165.out 5
                      have hfz109_6 := blk_frozen BK165.out 6
                      have hfz109_7 := blk_frozen BK165.out 7
                      try go_wp2_with (first | ((with_reducible refine gate_callee (f := 27) rfl ?_); refine goesL_ (some 85) rfl rfl Try.func27 (by kernel_rfl) rfl #[.agg #[.int .i64 x166000_20, .int .i64 x166001_20, .int .i64 x166002_20, .int .i64 x166003_20, .int .i64 x166004_20, .int .i64 x166005_20, .int .i64 x166006_20, .int .u32 x166007_20]] rfl (by (try simp only [List.map_toArray, List.map_cons, List.map_nil]); first | done | rfl | (simp only [List.length_drop, List.length_take]; rfl)) ?_; (with_reducible refine (seedcornref24_Sets.calls x166000_20 x166001_20 x166002_20 x166003_20 x166004_20 x166005_20 x166006_20 x166007_20 t183 _ A84.out).mono ?_); rintro e w110 ⟨rfl, hb⟩; refine ⟨_, rfl, ?_⟩; have n0_ := Aside0.mk (Kd.R_below (by (with_reducible repeat (first | apply Kd.R_alloc | apply Kd.R_drewN | apply Kd.R_drew)); exact HO_5.out) hb); have n1_ := Aside0.mk (Kd.R_below (by (with_reducible repeat (first | apply Kd.R_alloc | apply Kd.R_drewN | apply Kd.R_drew)); exact HO_6.out) hb); have n2_ := Aside0.mk (Kd.R_below (by (with_reducible repeat (first | apply Kd.R_alloc | apply Kd.R_drewN | apply Kd.R_drew)); exact HO_7.out) hb); have n3_ := Aside0.mk (blk_below (g := gb165) (o := .cells #[.int .i64 x166000_20, .int .i64 x166001_20, .int .i64 x166002_20, .int .i64 x166003_20, .int .i64 x166004_20, .int .i64 x166005_20, .int .i64 x166006_20, .int .u32 x166007_20] 48 (0, 0)) (by (with_reducible repeat (first | refine blk_drewN ?_ _ | refine blk_drew ?_ | refine blk_alloc ?_ _)); exact BK165.out) hb); have n4_ := Aside0.mk (below_step (by repeat (first | (with_reducible first | exact HB.out | apply below_alloc | apply pw_below_drewN | apply below_drew1 | refine below_set ?_ GE165.out) | exact HB.out)) hb); clear HO_5; clear HO_6; clear HO_7; clear BK165; clear HB; have HO_5 := n0_; have HO_6 := n1_; have HO_7 := n2_; have BK165 := n3_; have HB := n4_; clear n0_ n1_ n2_ n3_ n4_; (try clear hb); (try clear hb2); (try clear hk); (try clear hi); have hcz111_0 : w110.cell? ⟨gb165, 0, none⟩ = some (.int .i64 x166000_20) := (blk_cell BK165.out 0).trans rfl; have hcz111_1 : w110.cell? ⟨gb165, 1, none⟩ = some (.int .i64 x166001_20) := (blk_cell BK165.out 1).trans rfl; have hcz111_2 : w110.cell? ⟨gb165, 2, none⟩ = some (.int .i64 x166002_20) := (blk_cell BK165.out 2).trans rfl; have hcz111_3 : w110.cell? ⟨gb165, 3, none⟩ = some (.int .i64 x166003_20) := (blk_cell BK165.out 3).trans rfl; have hcz111_4 : w110.cell? ⟨gb165, 4, none⟩ = some (.int .i64 x166004_20) := (blk_cell BK165.out 4).trans rfl; have hcz111_5 : w110.cell? ⟨gb165, 5, none⟩ = some (.int .i64 x166005_20) := (blk_cell BK165.out 5).trans rfl; have hcz111_6 : w110.cell? ⟨gb165, 6, none⟩ = some (.int .i64 x166006_20) := (blk_cell BK165.out 6).trans rfl; have hcz111_7 : w110.cell? ⟨gb165, 7, none⟩ = some (.int .u32 x166007_20) := (blk_cell BK165.out 7).trans rfl; have hfz111_0 := blk_frozen BK165.out 0; have hfz111_1 := blk_frozen BK165.out 1; have hfz111_2 := blk_frozen BK165.out 2; have hfz111_3 := blk_frozen BK165.out 3; have hfz111_4 := blk_frozen BK165.out 4; have hfz111_5 := blk_frozen BK165.out 5; have hfz111_6 := blk_frozen BK165.out 6; have hfz111_7 := blk_frozen BK165.out 7) | ((with_reducible refine gate_builtin (b := .append) (xs := #[.tmp 99, .tmp 101]) rfl ?_); at_builtin; refine Kd.R_append k48 (w0 := w) w.heap.size rfl (.tmp 99) (.tmp 101) 43 48 (.agg #[(.int .i64 0), (.int .i64 0), (.int .i64 0), (.int .i64 0), (.int .i64 0), (.int .i64 0), (.int .i64 0), (.int .u32 0)]) 64 rfl Try.underlying43 info48 rfl (by decide) (by omega) u7 x7_1 (⟨x166000_20, x166001_20, x166002_20, x166003_20, x166004_20, x166005_20, x166006_20, x166007_20⟩ : S48) [.int .i64 x166000_20, .int .i64 x166001_20, .int .i64 x166002_20, .int .i64 x166003_20, .int .i64 x166004_20, .int .i64 x166005_20, .int .i64 x166006_20, .int .u32 x166007_20] (fun k_ => k_ ≠ gb165) (fun _ => False) rfl rfl ?aP (fun _ hk => hk.elim) ?aF ?aO ?aB ?aS ?aL ?_; (case aP => exact k48_mkM _ _ _ (⟨x166000_20, x166001_20, x166002_20, x166003_20, x166004_20, x166005_20, x166006_20, x166007_20⟩ : S48)); (case aB => exact (by repeat (first | (with_reducible first | exact HB.out | apply below_alloc | apply pw_below_drewN | apply below_drew1 | refine below_set ?_ GE165.out) | exact HB.out))); (case aF => exact (fun k_ hk => Kd.freshB (g := gb165) (o := .cells #[.int .i64 x166000_20, .int .i64 x166001_20, .int .i64 x166002_20, .int .i64 x166003_20, .int .i64 x166004_20, .int .i64 x166005_20, .int .i64 x166006_20, .int .u32 x166007_20] 48 (0, 0)) (by (with_reducible repeat (first | refine blk_drewN ?_ _ | refine blk_drew ?_ | refine blk_alloc ?_ _)); exact BK165.out) k_ hk)); (case aO => exact (by (with_reducible repeat (first | apply Kd.R_alloc | apply Kd.R_drewN | apply Kd.R_drew)); exact HO_7.out)); (case aS => exact (below_size (by repeat (first | (with_reducible first | exact HB.out | apply below_alloc | apply pw_below_drewN | apply below_drew1 | refine below_set ?_ GE165.out) | exact HB.out)))); (case aL => have := LMc105.out; omega); intro v190 w112 ho hb hg hat; rw [← Ny189.out] at ho; have n0_ := Aside0.mk (Kd.R_over' (by (with_reducible repeat (first | apply Kd.R_alloc | apply Kd.R_drewN | apply Kd.R_drew)); exact HO_5.out) (Kd.R_typed (by (with_reducible repeat (first | apply Kd.R_alloc | apply Kd.R_drewN | apply Kd.R_drew)); exact HO_7.out)) (by decide) hg); have n1_ := Aside0.mk (Kd.R_over' (by (with_reducible repeat (first | apply Kd.R_alloc | apply Kd.R_drewN | apply Kd.R_drew)); exact HO_6.out) (Kd.R_typed (by (with_reducible repeat (first | apply Kd.R_alloc | apply Kd.R_drewN | apply Kd.R_drew)); exact HO_7.out)) (by decide) hg); have n2_ := Aside0.mk (blk_grown (g := gb165) (o := .cells #[.int .i64 x166000_20, .int .i64 x166001_20, .int .i64 x166002_20, .int .i64 x166003_20, .int .i64 x166004_20, .int .i64 x166005_20, .int .i64 x166006_20, .int .u32 x166007_20] 48 (0, 0)) (by (with_reducible repeat (first | refine blk_drewN ?_ _ | refine blk_drew ?_ | refine blk_alloc ?_ _)); exact BK165.out) hg (Kd.R_away HO_7.out (fun _ hk => hk))); have n3_ := Aside0.mk (hb); have n4_ := Aside0.mk (ho); clear HO_5; clear HO_6; clear BK165; clear HB; clear HO_7; have HO_5 := n0_; have HO_6 := n1_; have BK165 := n2_; have HB := n3_; have HO191 := n4_; clear n0_ n1_ n2_ n3_ n4_; clear ho hb hg hat))
                      go_roundg kj34
                      case measure => have := HK1.out; have := HJ11.out; have := HJ20.out; have := HJ34.out; omega
                      case rel => exact ⟨(x5_1), (x6_1), (y189), (wrap64 (x8_1 + 1)), (by first | rfl | (simp; done) | (simp [*]; done)), H', ⟨by have := HK1.out; have := HJ11.out; have := HJ20.out; have := HJ34.out; omega⟩, ⟨by (with_reducible repeat (first | apply Kd.R_alloc | apply Kd.R_drewN | apply Kd.R_drew)); exact HO_5.out⟩, ⟨by (with_reducible repeat (first | apply Kd.R_alloc | apply Kd.R_drewN | apply Kd.R_drew)); exact HO_6.out⟩, ⟨by (with_reducible repeat (first | apply Kd.R_alloc | apply Kd.R_drewN | apply Kd.R_drew)); exact Kd.R_mono HO191.out (fun _ hk => trivial)⟩, ⟨by repeat (first | (with_reducible first | exact HB.out | apply below_alloc | apply pw_below_drewN | apply below_drew1 | refine below_set ?_ GE165.out) | exact HB.out)⟩⟩
                     ·
                      rw [if_neg c105] at H
                      exact absurd H (by simp)
                  ·
                   rw [if_neg c52] at H
                   exact absurd H (by simp)
                 ·
                  rw [if_neg c51] at H
                  exact absurd H (by simp)
                ·
                 rw [if_neg c50] at H
                 exact absurd H (by simp)
               ·
                rw [if_neg c49] at H
                exact absurd H (by simp)
              ·
               replace c48 := Bool.eq_false_iff.mpr c48
               subst c48
               have H1 : ((seedcornref24_Sets.f x166000_20 x166001_20 x166002_20 x166003_20 x166004_20 x166005_20 x166006_20 x166007_20).bind fun t192 => (if t192 ≥ 0 then (if 0 ≤ t192 then (if t192 < (x5_1.length : Int) then (if t192 < (x6_1.length : Int) then (if x7_1.length < 2199023255552 then (seedcornref30_Ins.l0 kj34 l0 (x5_1.set (t192 : Int).toNat (x166000_20 == 1)) (x6_1.set (t192 : Int).toNat x166007_20) (x7_1 ++ [(⟨x166000_20, x166001_20, x166002_20, x166003_20, x166004_20, x166005_20, x166006_20, x166007_20⟩ : S48)]) (wrap64 (x8_1 + 1))) else (none)) else (none)) else (none)) else (none)) else (if x7_1.length < 2199023255552 then (seedcornref30_Ins.l0 kj34 l0 x5_1 x6_1 (x7_1 ++ [(⟨x166000_20, x166001_20, x166002_20, x166003_20, x166004_20, x166005_20, x166006_20, x166007_20⟩ : S48)]) (wrap64 (x8_1 + 1))) else (none)))) = some r := by rw [if_neg (show ¬ (false = true) by decide)] at H; exact H
               clear H
               have H := H1
               clear H1
               replace H := Option.bind_eq_some_iff.mp H
               obtain ⟨t192, A1130, H⟩ := H
               replace H : (if t192 ≥ 0 then (if 0 ≤ t192 then (if t192 < (x5_1.length : Int) then (if t192 < (x6_1.length : Int) then (if x7_1.length < 2199023255552 then (seedcornref30_Ins.l0 kj34 l0 (x5_1.set (t192 : Int).toNat (x166000_20 == 1)) (x6_1.set (t192 : Int).toNat x166007_20) (x7_1 ++ [(⟨x166000_20, x166001_20, x166002_20, x166003_20, x166004_20, x166005_20, x166006_20, x166007_20⟩ : S48)]) (wrap64 (x8_1 + 1))) else (none)) else (none)) else (none)) else (none)) else (if x7_1.length < 2199023255552 then (seedcornref30_Ins.l0 kj34 l0 x5_1 x6_1 (x7_1 ++ [(⟨x166000_20, x166001_20, x166002_20, x166003_20, x166004_20, x166005_20, x166006_20, x166007_20⟩ : S48)]) (wrap64 (x8_1 + 1))) else (none))) = some r := H
               have A113 := Aside0.mk A1130
               clear A1130
               by_cases c114 : t192 ≥ 0
               ·
                rw [if_pos c114] at H
                have c114b0 : decide (0 ≤ t192) = true := decide_eq_true c114
                clear c114
                by_cases c115 : 0 ≤ t192
                ·
                 rw [if_pos c115] at H
                 have c115b0 : decide (0 ≤ t192) = true := decide_eq_true c115
                 clear c115
                 by_cases c116 : t192 < (x5_1.length : Int)
                 ·
                  rw [if_pos c116] at H
                  have c116b0 : decide (t192 < (x5_1.length : Int)) = true := decide_eq_true c116
                  clear c116
                  obtain ⟨y193, hy193⟩ : ∃ y_ : List Bool, y_ = (x5_1.set (t192 : Int).toNat (x166000_20 == 1)) := ⟨_, rfl⟩
                  replace H : (if t192 < (x6_1.length : Int) then (if x7_1.length < 2199023255552 then (seedcornref30_Ins.l0 kj34 l0 y193 (x6_1.set (t192 : Int).toNat x166007_20) (x7_1 ++ [(⟨x166000_20, x166001_20, x166002_20, x166003_20, x166004_20, x166005_20, x166006_20, x166007_20⟩ : S48)]) (wrap64 (x8_1 + 1))) else (none)) else (none)) = some r := by first | (rw [hy193]; with_reducible exact H) | (have H2_ := (Option.bind_some _ _).symm.trans H; rw [hy193]; with_reducible exact H2_) | (have H2_ := (Option.bind_some _ _).symm.trans H; with_reducible exact H2_) | with_reducible exact H | (rw [hy193]; exact H) | exact H
                  have Ny193 := Aside0.mk hy193
                  clear hy193
                  by_cases c118 : t192 < (x6_1.length : Int)
                  ·
                   rw [if_pos c118] at H
                   have c118b0 : decide (t192 < (x6_1.length : Int)) = true := decide_eq_true c118
                   clear c118
                   obtain ⟨y194, hy194⟩ : ∃ y_ : List Int, y_ = (x6_1.set (t192 : Int).toNat x166007_20) := ⟨_, rfl⟩
                   replace H : (if x7_1.length < 2199023255552 then (seedcornref30_Ins.l0 kj34 l0 y193 y194 (x7_1 ++ [(⟨x166000_20, x166001_20, x166002_20, x166003_20, x166004_20, x166005_20, x166006_20, x166007_20⟩ : S48)]) (wrap64 (x8_1 + 1))) else (none)) = some r := by first | (rw [hy194]; with_reducible exact H) | (have H2_ := (Option.bind_some _ _).symm.trans H; rw [hy194]; with_reducible exact H2_) | (have H2_ := (Option.bind_some _ _).symm.trans H; with_reducible exact H2_) | with_reducible exact H | (rw [hy194]; exact H) | exact H
                   have Ny194 := Aside0.mk hy194
                   clear hy194
                   by_cases c120 : x7_1.length < 2199023255552
                   ·
                    rw [if_pos c120] at H
                    have LMc120 := Aside0.mk c120
                    clear c120
                    obtain ⟨y195, hy195⟩ : ∃ y_ : List (S48), y_ = (x7_1 ++ [(⟨x166000_20, x166001_20, x166002_20, x166003_20, x166004_20, x166005_20, x166006_20, x166007_20⟩ : S48)]) := ⟨_, rfl⟩
                    replace H : (seedcornref30_Ins.l0 kj34 l0 y193 y194 y195 (wrap64 (x8_1 + 1))) = some r := by first | (rw [hy195]; with_reducible exact H) | (have H2_ := (Option.bind_some _ _).symm.trans H; rw [hy195]; with_reducible exact H2_) | (have H2_ := (Option.bind_some _ _).symm.trans H; with_reducible exact H2_) | with_reducible exact H | (rw [hy195]; exact H) | exact H
                    have Ny195 := Aside0.mk hy195
                    clear hy195
                    have H' := Aside0.mk H
                    clear H
                    have hcz121_0 : wc.cell? ⟨gb165, 0, none⟩ = some (.int .i64 x166000_20) := (blk_cell BK165.out 0).trans rfl
                    have hcz121_1 : wc.cell? ⟨gb165, 1, none⟩ = some (.int .i64 x166001_20) := (blk_cell BK165.out 1).trans rfl
                    have hcz121_2 : wc.cell? ⟨gb165, 2, none⟩ = some (.int .i64 x166002_20) := (blk_cell BK165.out 2).trans rfl
                    have hcz121_3 : wc.cell? ⟨gb165, 3, none⟩ = some (.int .i64 x166003_20) := (blk_cell BK165.out 3).trans rfl
                    have hcz121_4 : wc.cell? ⟨gb165, 4, none⟩ = some (.int .i64 x166004_20) := (blk_cell BK165.out 4).trans rfl
                    have hcz121_5 : wc.cell? ⟨gb165, 5, none⟩ = some (.int .i64 x166005_20) := (blk_cell BK165.out 5).trans rfl
                    have hcz121_6 : wc.cell? ⟨gb165, 6, none⟩ = some (.int .i64 x166006_20) := (blk_cell BK165.out 6).trans rfl
                    have hcz121_7 : wc.cell? ⟨gb165, 7, none⟩ = some (.int .u32 x166007_20) := (blk_cell BK165.out 7).trans rfl
                    have hfz121_0 := blk_frozen BK165.out 0
                    have hfz121_1 := blk_frozen BK165.out 1
                    have hfz121_2 := blk_frozen BK165.out 2
                    have hfz121_3 := blk_frozen BK165.out 3
                    have hfz121_4 := blk_frozen BK165.out 4
                    have hfz121_5 := blk_frozen BK165.out 5
                    have hfz121_6 := blk_frozen BK165.out 6
                    have hfz121_7 := blk_frozen BK165.out 7
                    go_wp2_with (first | ((with_reducible refine gate_callee (f := 27) rfl ?_); refine goesL_ (some 85) rfl rfl Try.func27 (by kernel_rfl) rfl #[.agg #[.int .i64 x166000_20, .int .i64 x166001_20, .int .i64 x166002_20, .int .i64 x166003_20, .int .i64 x166004_20, .int .i64 x166005_20, .int .i64 x166006_20, .int .u32 x166007_20]] rfl (by (try simp only [List.map_toArray, List.map_cons, List.map_nil]); first | done | rfl | (simp only [List.length_drop, List.length_take]; rfl)) ?_; (with_reducible refine (seedcornref24_Sets.calls x166000_20 x166001_20 x166002_20 x166003_20 x166004_20 x166005_20 x166006_20 x166007_20 t192 _ A113.out).mono ?_); rintro e w122 ⟨rfl, hb⟩; refine ⟨_, rfl, ?_⟩; have n0_ := Aside0.mk (Kd.R_below (by (with_reducible repeat (first | apply Kd.R_alloc | apply Kd.R_drewN | apply Kd.R_drew)); exact HO_5.out) hb); have n1_ := Aside0.mk (Kd.R_below (by (with_reducible repeat (first | apply Kd.R_alloc | apply Kd.R_drewN | apply Kd.R_drew)); exact HO_6.out) hb); have n2_ := Aside0.mk (Kd.R_below (by (with_reducible repeat (first | apply Kd.R_alloc | apply Kd.R_drewN | apply Kd.R_drew)); exact HO_7.out) hb); have n3_ := Aside0.mk (blk_below (g := gb165) (o := .cells #[.int .i64 x166000_20, .int .i64 x166001_20, .int .i64 x166002_20, .int .i64 x166003_20, .int .i64 x166004_20, .int .i64 x166005_20, .int .i64 x166006_20, .int .u32 x166007_20] 48 (0, 0)) (by (with_reducible repeat (first | refine blk_drewN ?_ _ | refine blk_drew ?_ | refine blk_alloc ?_ _)); exact BK165.out) hb); have n4_ := Aside0.mk (below_step (by repeat (first | (with_reducible first | exact HB.out | apply below_alloc | apply pw_below_drewN | apply below_drew1 | refine below_set ?_ GE165.out) | exact HB.out)) hb); clear HO_5; clear HO_6; clear HO_7; clear BK165; clear HB; have HO_5 := n0_; have HO_6 := n1_; have HO_7 := n2_; have BK165 := n3_; have HB := n4_; clear n0_ n1_ n2_ n3_ n4_; (try clear hb); (try clear hb2); (try clear hk); (try clear hi); have hcz123_0 : w122.cell? ⟨gb165, 0, none⟩ = some (.int .i64 x166000_20) := (blk_cell BK165.out 0).trans rfl; have hcz123_1 : w122.cell? ⟨gb165, 1, none⟩ = some (.int .i64 x166001_20) := (blk_cell BK165.out 1).trans rfl; have hcz123_2 : w122.cell? ⟨gb165, 2, none⟩ = some (.int .i64 x166002_20) := (blk_cell BK165.out 2).trans rfl; have hcz123_3 : w122.cell? ⟨gb165, 3, none⟩ = some (.int .i64 x166003_20) := (blk_cell BK165.out 3).trans rfl; have hcz123_4 : w122.cell? ⟨gb165, 4, none⟩ = some (.int .i64 x166004_20) := (blk_cell BK165.out 4).trans rfl; have hcz123_5 : w122.cell? ⟨gb165, 5, none⟩ = some (.int .i64 x166005_20) := (blk_cell BK165.out 5).trans rfl; have hcz123_6 : w122.cell? ⟨gb165, 6, none⟩ = some (.int .i64 x166006_20) := (blk_cell BK165.out 6).trans rfl; have hcz123_7 : w122.cell? ⟨gb165, 7, none⟩ = some (.int .u32 x166007_20) := (blk_cell BK165.out 7).trans rfl; have hfz123_0 := blk_frozen BK165.out 0; have hfz123_1 := blk_frozen BK165.out 1; have hfz123_2 := blk_frozen BK165.out 2; have hfz123_3 := blk_frozen BK165.out 3; have hfz123_4 := blk_frozen BK165.out 4; have hfz123_5 := blk_frozen BK165.out 5; have hfz123_6 := blk_frozen BK165.out 6; have hfz123_7 := blk_frozen BK165.out 7; have p117 : 0 ≤ (t192 : Int) := of_decide_eq_true (by first | (with_reducible assumption) | assumption); have q117 : (t192 : Int) < ((x5_1.length : Int) : Int) := of_decide_eq_true (by first | (with_reducible assumption) | assumption); obtain ⟨go117, co117, eo117, gb117, gl117, cl117, HG117⟩ := Kd.R_form HO_5.out (by omega); (first | cases eo117 | (injection eo117 with ea_ en_ ec_; (first | subst ea_ | (injection ea_ with ea_; subst ea_)); subst ec_; clear en_)); have GB117 := Aside0.mk gb117; have GG117 := Aside0.mk HG117; clear gb117 gl117 HG117; obtain ⟨hx117_0, hf117_0⟩ := Kd.R_celln false HO_5.out (t192 : Int) p117 q117; replace p117 := eq_true p117; replace q117 := eq_true q117; obtain ⟨hy124_, hz124_⟩ := Kd.R_celln false HO_5.out (t192 : Int) (of_decide_eq_true (by first | (with_reducible assumption) | assumption)) (of_decide_eq_true (by first | (with_reducible assumption) | assumption)); have HP124 := Kd.R_putg HO_5.out (t192 : Int) (x166000_20 == 1)) | ((with_reducible refine gate_store (t := 4) (p := 93) rfl ?_); refine store_event (t := 4) (p := 93) (v := ?vo_w125) (w1 := (w122.setCell ⟨go117, (t192 : Int).toNat, none⟩ (.bool (x166000_20 == 1)))) ?hg ?ho ?hn ?hr ?_; (case ho => rfl); (case hg => rfl); (case hn => rfl); (case hr => first | (go_simp; done) | (go_simp; rfl)); intro w125 hw; have hg : w122.grownBy w125 (some go117) := (by rw [hw]; exact HP124.2); have hp_ : Kd.R Kd.bool 4 w125 w.heap.size (fun _ => True) (.slice (some ⟨go117, 0, none⟩) x5_1.length co117) y193 := (by rw [hw, Ny193.out]; exact HP124.1); clear HP124; have n0_ := Aside0.mk (hp_); have n1_ := Aside0.mk (Kd.R_over' (v := (.slice (some ⟨go117, 0, none⟩) x5_1.length co117)) (by (with_reducible repeat (first | apply Kd.R_alloc | apply Kd.R_drewN | apply Kd.R_drew)); exact HO_6.out) (Kd.R_typed HO_5.out) (by decide) hg); have n2_ := Aside0.mk (Kd.R_over' (v := (.slice (some ⟨go117, 0, none⟩) x5_1.length co117)) (by (with_reducible repeat (first | apply Kd.R_alloc | apply Kd.R_drewN | apply Kd.R_drew)); exact HO_7.out) (Kd.R_typed HO_5.out) (by decide) hg); have n3_ := Aside0.mk (blk_grown (g := gb165) (o := .cells #[.int .i64 x166000_20, .int .i64 x166001_20, .int .i64 x166002_20, .int .i64 x166003_20, .int .i64 x166004_20, .int .i64 x166005_20, .int .i64 x166006_20, .int .u32 x166007_20] 48 (0, 0)) (by (with_reducible repeat (first | refine blk_drewN ?_ _ | refine blk_drew ?_ | refine blk_alloc ?_ _)); exact BK165.out) hg (Kd.R_ne HO_5.out BK165.out (by decide))); have n4_ := Aside0.mk ((by rw [hw]; exact below_set (HB.out) GB117.out : Below w.heap.size w w125)); clear HO_5; clear HO_6; clear HO_7; clear BK165; clear HB; have HO_5 := n0_; have HO_6 := n1_; have HO_7 := n2_; have BK165 := n3_; have HB := n4_; clear n0_ n1_ n2_ n3_ n4_; clear hg hw hp_; have hcz126_0 : w125.cell? ⟨gb165, 0, none⟩ = some (.int .i64 x166000_20) := (blk_cell BK165.out 0).trans rfl; have hcz126_1 : w125.cell? ⟨gb165, 1, none⟩ = some (.int .i64 x166001_20) := (blk_cell BK165.out 1).trans rfl; have hcz126_2 : w125.cell? ⟨gb165, 2, none⟩ = some (.int .i64 x166002_20) := (blk_cell BK165.out 2).trans rfl; have hcz126_3 : w125.cell? ⟨gb165, 3, none⟩ = some (.int .i64 x166003_20) := (blk_cell BK165.out 3).trans rfl; have hcz126_4 : w125.cell? ⟨gb165, 4, none⟩ = some (.int .i64 x166004_20) := (blk_cell BK165.out 4).trans rfl; have hcz126_5 : w125.cell? ⟨gb165, 5, none⟩ = some (.int .i64 x166005_20) := (blk_cell BK165.out 5).trans rfl; have hcz126_6 : w125.cell? ⟨gb165, 6, none⟩ = some (.int .i64 x166006_20) := (blk_cell BK165.out 6).trans rfl; have hcz126_7 : w125.cell? ⟨gb165, 7, none⟩ = some (.int .u32 x166007_20) := (blk_cell BK165.out 7).trans rfl; have hfz126_0 := blk_frozen BK165.out 0; have hfz126_1 := blk_frozen BK165.out 1; have hfz126_2 := blk_frozen BK165.out 2; have hfz126_3 := blk_frozen BK165.out 3; have hfz126_4 := blk_frozen BK165.out 4; have hfz126_5 := blk_frozen BK165.out 5; have hfz126_6 := blk_frozen BK165.out 6; have hfz126_7 := blk_frozen BK165.out 7; have p119 : 0 ≤ (t192 : Int) := of_decide_eq_true (by first | (with_reducible assumption) | assumption); have q119 : (t192 : Int) < ((x6_1.length : Int) : Int) := of_decide_eq_true (by first | (with_reducible assumption) | assumption); obtain ⟨go119, co119, eo119, gb119, gl119, cl119, HG119⟩ := Kd.R_form HO_6.out (by omega); (first | cases eo119 | (injection eo119 with ea_ en_ ec_; (first | subst ea_ | (injection ea_ with ea_; subst ea_)); subst ec_; clear en_)); have GB119 := Aside0.mk gb119; have GG119 := Aside0.mk HG119; clear gb119 gl119 HG119; obtain ⟨hx119_0, hf119_0⟩ := Kd.R_celln 0 HO_6.out (t192 : Int) p119 q119; replace p119 := eq_true p119; replace q119 := eq_true q119; obtain ⟨hy127_, hz127_⟩ := Kd.R_celln 0 HO_6.out (t192 : Int) (of_decide_eq_true (by first | (with_reducible assumption) | assumption)) (of_decide_eq_true (by first | (with_reducible assumption) | assumption)); have HP127 := Kd.R_putg HO_6.out (t192 : Int) x166007_20) | ((with_reducible refine gate_store (t := 46) (p := 98) rfl ?_); refine store_event (t := 46) (p := 98) (v := ?vo_w128) (w1 := (w125.setCell ⟨go119, (t192 : Int).toNat, none⟩ (.int .u32 x166007_20))) ?hg ?ho ?hn ?hr ?_; (case ho => rfl); (case hg => rfl); (case hn => rfl); (case hr => first | (go_simp; done) | (go_simp; rfl)); intro w128 hw; have hg : w125.grownBy w128 (some go119) := (by rw [hw]; exact HP127.2); have hp_ : Kd.R (Kd.int .u32) 46 w128 w.heap.size (fun _ => True) (.slice (some ⟨go119, 0, none⟩) x6_1.length co119) y194 := (by rw [hw, Ny194.out]; exact HP127.1); clear HP127; have n0_ := Aside0.mk (Kd.R_over' (v := (.slice (some ⟨go119, 0, none⟩) x6_1.length co119)) (by (with_reducible repeat (first | apply Kd.R_alloc | apply Kd.R_drewN | apply Kd.R_drew)); exact HO_5.out) (Kd.R_typed HO_6.out) (by decide) hg); have n1_ := Aside0.mk (hp_); have n2_ := Aside0.mk (Kd.R_over' (v := (.slice (some ⟨go119, 0, none⟩) x6_1.length co119)) (by (with_reducible repeat (first | apply Kd.R_alloc | apply Kd.R_drewN | apply Kd.R_drew)); exact HO_7.out) (Kd.R_typed HO_6.out) (by decide) hg); have n3_ := Aside0.mk (blk_grown (g := gb165) (o := .cells #[.int .i64 x166000_20, .int .i64 x166001_20, .int .i64 x166002_20, .int .i64 x166003_20, .int .i64 x166004_20, .int .i64 x166005_20, .int .i64 x166006_20, .int .u32 x166007_20] 48 (0, 0)) (by (with_reducible repeat (first | refine blk_drewN ?_ _ | refine blk_drew ?_ | refine blk_alloc ?_ _)); exact BK165.out) hg (Kd.R_ne HO_6.out BK165.out (by decide))); have n4_ := Aside0.mk ((by rw [hw]; exact below_set (HB.out) GB119.out : Below w.heap.size w w128)); clear HO_5; clear HO_6; clear HO_7; clear BK165; clear HB; have HO_5 := n0_; have HO_6 := n1_; have HO_7 := n2_; have BK165 := n3_; have HB := n4_; clear n0_ n1_ n2_ n3_ n4_; clear hg hw hp_; have hcz129_0 : w128.cell? ⟨gb165, 0, none⟩ = some (.int .i64 x166000_20) := (blk_cell BK165.out 0).trans rfl; have hcz129_1 : w128.cell? ⟨gb165, 1, none⟩ = some (.int .i64 x166001_20) := (blk_cell BK165.out 1).trans rfl; have hcz129_2 : w128.cell? ⟨gb165, 2, none⟩ = some (.int .i64 x166002_20) := (blk_cell BK165.out 2).trans rfl; have hcz129_3 : w128.cell? ⟨gb165, 3, none⟩ = some (.int .i64 x166003_20) := (blk_cell BK165.out 3).trans rfl; have hcz129_4 : w128.cell? ⟨gb165, 4, none⟩ = some (.int .i64 x166004_20) := (blk_cell BK165.out 4).trans rfl; have hcz129_5 : w128.cell? ⟨gb165, 5, none⟩ = some (.int .i64 x166005_20) := (blk_cell BK165.out 5).trans rfl; have hcz129_6 : w128.cell? ⟨gb165, 6, none⟩ = some (.int .i64 x166006_20) := (blk_cell BK165.out 6).trans rfl; have hcz129_7 : w128.cell? ⟨gb165, 7, none⟩ = some (.int .u32 x166007_20) := (blk_cell BK165.out 7).trans rfl; have hfz129_0 := blk_frozen BK165.out 0; have hfz129_1 := blk_frozen BK165.out 1; have hfz129_2 := blk_frozen BK165.out 2; have hfz129_3 := blk_frozen BK165.out 3; have hfz129_4 := blk_frozen BK165.out 4; have hfz129_5 := blk_frozen BK165.out 5; have hfz129_6 := blk_frozen BK165.out 6; have hfz129_7 := blk_frozen BK165.out 7) | ((with_reducible refine gate_builtin (b := .append) (xs := #[.tmp 99, .tmp 101]) rfl ?_); at_builtin; refine Kd.R_append k48 (w0 := w) w.heap.size rfl (.tmp 99) (.tmp 101) 43 48 (.agg #[(.int .i64 0), (.int .i64 0), (.int .i64 0), (.int .i64 0), (.int .i64 0), (.int .i64 0), (.int .i64 0), (.int .u32 0)]) 64 rfl Try.underlying43 info48 rfl (by decide) (by omega) u7 x7_1 (⟨x166000_20, x166001_20, x166002_20, x166003_20, x166004_20, x166005_20, x166006_20, x166007_20⟩ : S48) [.int .i64 x166000_20, .int .i64 x166001_20, .int .i64 x166002_20, .int .i64 x166003_20, .int .i64 x166004_20, .int .i64 x166005_20, .int .i64 x166006_20, .int .u32 x166007_20] (fun k_ => k_ ≠ gb165) (fun _ => False) rfl rfl ?aP (fun _ hk => hk.elim) ?aF ?aO ?aB ?aS ?aL ?_; (case aP => exact k48_mkM _ _ _ (⟨x166000_20, x166001_20, x166002_20, x166003_20, x166004_20, x166005_20, x166006_20, x166007_20⟩ : S48)); (case aB => exact (by repeat (first | (with_reducible first | exact HB.out | apply below_alloc | apply pw_below_drewN | apply below_drew1 | refine below_set ?_ GE165.out) | exact HB.out))); (case aF => exact (fun k_ hk => Kd.freshB (g := gb165) (o := .cells #[.int .i64 x166000_20, .int .i64 x166001_20, .int .i64 x166002_20, .int .i64 x166003_20, .int .i64 x166004_20, .int .i64 x166005_20, .int .i64 x166006_20, .int .u32 x166007_20] 48 (0, 0)) (by (with_reducible repeat (first | refine blk_drewN ?_ _ | refine blk_drew ?_ | refine blk_alloc ?_ _)); exact BK165.out) k_ hk)); (case aO => exact (by (with_reducible repeat (first | apply Kd.R_alloc | apply Kd.R_drewN | apply Kd.R_drew)); exact HO_7.out)); (case aS => exact (below_size (by repeat (first | (with_reducible first | exact HB.out | apply below_alloc | apply pw_below_drewN | apply below_drew1 | refine below_set ?_ GE165.out) | exact HB.out)))); (case aL => have := LMc120.out; omega); intro v196 w130 ho hb hg hat; rw [← Ny195.out] at ho; have n0_ := Aside0.mk (Kd.R_over' (by (with_reducible repeat (first | apply Kd.R_alloc | apply Kd.R_drewN | apply Kd.R_drew)); exact HO_5.out) (Kd.R_typed (by (with_reducible repeat (first | apply Kd.R_alloc | apply Kd.R_drewN | apply Kd.R_drew)); exact HO_7.out)) (by decide) hg); have n1_ := Aside0.mk (Kd.R_over' (by (with_reducible repeat (first | apply Kd.R_alloc | apply Kd.R_drewN | apply Kd.R_drew)); exact HO_6.out) (Kd.R_typed (by (with_reducible repeat (first | apply Kd.R_alloc | apply Kd.R_drewN | apply Kd.R_drew)); exact HO_7.out)) (by decide) hg); have n2_ := Aside0.mk (blk_grown (g := gb165) (o := .cells #[.int .i64 x166000_20, .int .i64 x166001_20, .int .i64 x166002_20, .int .i64 x166003_20, .int .i64 x166004_20, .int .i64 x166005_20, .int .i64 x166006_20, .int .u32 x166007_20] 48 (0, 0)) (by (with_reducible repeat (first | refine blk_drewN ?_ _ | refine blk_drew ?_ | refine blk_alloc ?_ _)); exact BK165.out) hg (Kd.R_away HO_7.out (fun _ hk => hk))); have n3_ := Aside0.mk (hb); have n4_ := Aside0.mk (ho); clear HO_5; clear HO_6; clear BK165; clear HB; clear HO_7; have HO_5 := n0_; have HO_6 := n1_; have BK165 := n2_; have HB := n3_; have HO197 := n4_; clear n0_ n1_ n2_ n3_ n4_; clear ho hb hg hat))
                    go_roundg kj34
                    case measure => have := HK1.out; have := HJ11.out; have := HJ20.out; have := HJ34.out; omega
                    case rel => exact ⟨(y193), (y194), (y195), (wrap64 (x8_1 + 1)), (by first | rfl | (simp; done) | (simp [*]; done)), H', ⟨by have := HK1.out; have := HJ11.out; have := HJ20.out; have := HJ34.out; omega⟩, ⟨by (with_reducible repeat (first | apply Kd.R_alloc | apply Kd.R_drewN | apply Kd.R_drew)); exact HO_5.out⟩, ⟨by (with_reducible repeat (first | apply Kd.R_alloc | apply Kd.R_drewN | apply Kd.R_drew)); exact HO_6.out⟩, ⟨by (with_reducible repeat (first | apply Kd.R_alloc | apply Kd.R_drewN | apply Kd.R_drew)); exact Kd.R_mono HO197.out (fun _ hk => trivial)⟩, ⟨by repeat (first | (with_reducible first | exact HB.out | apply below_alloc | apply pw_below_drewN | apply below_drew1 | refine below_set ?_ GE165.out) | exact HB.out)⟩⟩
                   ·
                    rw [if_neg c120] at H
                    exact absurd H (by simp)
                  ·
                   rw [if_neg c118] at H
                   exact absurd H (by simp)
                 ·
                  rw [if_neg c116] at H
                  exact absurd H (by simp)
                ·
                 rw [if_neg c115] at H
                 exact absurd H (by simp)
               ·
                rw [if_neg c114] at H
                have c114b0 : decide (0 ≤ t192) = false := decide_eq_false c114
                clear c114
                by_cases c131 : x7_1.length < 2199023255552
                ·
                 rw [if_pos c131] at H
                 have LMc131 := Aside0.mk c131
                 clear c131
                 obtain ⟨y198, hy198⟩ : ∃ y_ : List (S48), y_ = (x7_1 ++ [(⟨x166000_20, x166001_20, x166002_20, x166003_20, x166004_20, x166005_20, x166006_20, x166007_20⟩ : S48)]) := ⟨_, rfl⟩
                 replace H : (seedcornref30_Ins.l0 kj34 l0 x5_1 x6_1 y198 (wrap64 (x8_1 + 1))) = some r := by first | (rw [hy198]; with_reducible exact H) | (have H2_ := (Option.bind_some _ _).symm.trans H; rw [hy198]; with_reducible exact H2_) | (have H2_ := (Option.bind_some _ _).symm.trans H; with_reducible exact H2_) | with_reducible exact H | (rw [hy198]; exact H) | exact H
                 have Ny198 := Aside0.mk hy198
                 clear hy198
                 have H' := Aside0.mk H
                 clear H
                 have hcz132_0 : wc.cell? ⟨gb165, 0, none⟩ = some (.int .i64 x166000_20) := (blk_cell BK165.out 0).trans rfl
                 have hcz132_1 : wc.cell? ⟨gb165, 1, none⟩ = some (.int .i64 x166001_20) := (blk_cell BK165.out 1).trans rfl
                 have hcz132_2 : wc.cell? ⟨gb165, 2, none⟩ = some (.int .i64 x166002_20) := (blk_cell BK165.out 2).trans rfl
                 have hcz132_3 : wc.cell? ⟨gb165, 3, none⟩ = some (.int .i64 x166003_20) := (blk_cell BK165.out 3).trans rfl
                 have hcz132_4 : wc.cell? ⟨gb165, 4, none⟩ = some (.int .i64 x166004_20) := (blk_cell BK165.out 4).trans rfl
                 have hcz132_5 : wc.cell? ⟨gb165, 5, none⟩ = some (.int .i64 x166005_20) := (blk_cell BK165.out 5).trans rfl
                 have hcz132_6 : wc.cell? ⟨gb165, 6, none⟩ = some (.int .i64 x166006_20) := (blk_cell BK165.out 6).trans rfl
                 have hcz132_7 : wc.cell? ⟨gb165, 7, none⟩ = some (.int .u32 x166007_20) := (blk_cell BK165.out 7).trans rfl
                 have hfz132_0 := blk_frozen BK165.out 0
                 have hfz132_1 := blk_frozen BK165.out 1
                 have hfz132_2 := blk_frozen BK165.out 2
                 have hfz132_3 := blk_frozen BK165.out 3
                 have hfz132_4 := blk_frozen BK165.out 4
                 have hfz132_5 := blk_frozen BK165.out 5
                 have hfz132_6 := blk_frozen BK165.out 6
                 have hfz132_7 := blk_frozen BK165.out 7
                 go_wp2_with (first | ((with_reducible refine gate_callee (f := 27) rfl ?_); refine goesL_ (some 85) rfl rfl Try.func27 (by kernel_rfl) rfl #[.agg #[.int .i64 x166000_20, .int .i64 x166001_20, .int .i64 x166002_20, .int .i64 x166003_20, .int .i64 x166004_20, .int .i64 x166005_20, .int .i64 x166006_20, .int .u32 x166007_20]] rfl (by (try simp only [List.map_toArray, List.map_cons, List.map_nil]); first | done | rfl | (simp only [List.length_drop, List.length_take]; rfl)) ?_; (with_reducible refine (seedcornref24_Sets.calls x166000_20 x166001_20 x166002_20 x166003_20 x166004_20 x166005_20 x166006_20 x166007_20 t192 _ A113.out).mono ?_); rintro e w133 ⟨rfl, hb⟩; refine ⟨_, rfl, ?_⟩; have n0_ := Aside0.mk (Kd.R_below (by (with_reducible repeat (first | apply Kd.R_alloc | apply Kd.R_drewN | apply Kd.R_drew)); exact HO_5.out) hb); have n1_ := Aside0.mk (Kd.R_below (by (with_reducible repeat (first | apply Kd.R_alloc | apply Kd.R_drewN | apply Kd.R_drew)); exact HO_6.out) hb); have n2_ := Aside0.mk (Kd.R_below (by (with_reducible repeat (first | apply Kd.R_alloc | apply Kd.R_drewN | apply Kd.R_drew)); exact HO_7.out) hb); have n3_ := Aside0.mk (blk_below (g := gb165) (o := .cells #[.int .i64 x166000_20, .int .i64 x166001_20, .int .i64 x166002_20, .int .i64 x166003_20, .int .i64 x166004_20, .int .i64 x166005_20, .int .i64 x166006_20, .int .u32 x166007_20] 48 (0, 0)) (by (with_reducible repeat (first | refine blk_drewN ?_ _ | refine blk_drew ?_ | refine blk_alloc ?_ _)); exact BK165.out) hb); have n4_ := Aside0.mk (below_step (by repeat (first | (with_reducible first | exact HB.out | apply below_alloc | apply pw_below_drewN | apply below_drew1 | refine below_set ?_ GE165.out) | exact HB.out)) hb); clear HO_5; clear HO_6; clear HO_7; clear BK165; clear HB; have HO_5 := n0_; have HO_6 := n1_; have HO_7 := n2_; have BK165 := n3_; have HB := n4_; clear n0_ n1_ n2_ n3_ n4_; (try clear hb); (try clear hb2); (try clear hk); (try clear hi); have hcz134_0 : w133.cell? ⟨gb165, 0, none⟩ = some (.int .i64 x166000_20) := (blk_cell BK165.out 0).trans rfl; have hcz134_1 : w133.cell? ⟨gb165, 1, none⟩ = some (.int .i64 x166001_20) := (blk_cell BK165.out 1).trans rfl; have hcz134_2 : w133.cell? ⟨gb165, 2, none⟩ = some (.int .i64 x166002_20) := (blk_cell BK165.out 2).trans rfl; have hcz134_3 : w133.cell? ⟨gb165, 3, none⟩ = some (.int .i64 x166003_20) := (blk_cell BK165.out 3).trans rfl; have hcz134_4 : w133.cell? ⟨gb165, 4, none⟩ = some (.int .i64 x166004_20) := (blk_cell BK165.out 4).trans rfl; have hcz134_5 : w133.cell? ⟨gb165, 5, none⟩ = some (.int .i64 x166005_20) := (blk_cell BK165.out 5).trans rfl; have hcz134_6 : w133.cell? ⟨gb165, 6, none⟩ = some (.int .i64 x166006_20) := (blk_cell BK165.out 6).trans rfl; have hcz134_7 : w133.cell? ⟨gb165, 7, none⟩ = some (.int .u32 x166007_20) := (blk_cell BK165.out 7).trans rfl; have hfz134_0 := blk_frozen BK165.out 0; have hfz134_1 := blk_frozen BK165.out 1; have hfz134_2 := blk_frozen BK165.out 2; have hfz134_3 := blk_frozen BK165.out 3; have hfz134_4 := blk_frozen BK165.out 4; have hfz134_5 := blk_frozen BK165.out 5; have hfz134_6 := blk_frozen BK165.out 6; have hfz134_7 := blk_frozen BK165.out 7) | ((with_reducible refine gate_builtin (b := .append) (xs := #[.tmp 99, .tmp 101]) rfl ?_); at_builtin; refine Kd.R_append k48 (w0 := w) w.heap.size rfl (.tmp 99) (.tmp 101) 43 48 (.agg #[(.int .i64 0), (.int .i64 0), (.int .i64 0), (.int .i64 0), (.int .i64 0), (.int .i64 0), (.int .i64 0), (.int .u32 0)]) 64 rfl Try.underlying43 info48 rfl (by decide) (by omega) u7 x7_1 (⟨x166000_20, x166001_20, x166002_20, x166003_20, x166004_20, x166005_20, x166006_20, x166007_20⟩ : S48) [.int .i64 x166000_20, .int .i64 x166001_20, .int .i64 x166002_20, .int .i64 x166003_20, .int .i64 x166004_20, .int .i64 x166005_20, .int .i64 x166006_20, .int .u32 x166007_20] (fun k_ => k_ ≠ gb165) (fun _ => False) rfl rfl ?aP (fun _ hk => hk.elim) ?aF ?aO ?aB ?aS ?aL ?_; (case aP => exact k48_mkM _ _ _ (⟨x166000_20, x166001_20, x166002_20, x166003_20, x166004_20, x166005_20, x166006_20, x166007_20⟩ : S48)); (case aB => exact (by repeat (first | (with_reducible first | exact HB.out | apply below_alloc | apply pw_below_drewN | apply below_drew1 | refine below_set ?_ GE165.out) | exact HB.out))); (case aF => exact (fun k_ hk => Kd.freshB (g := gb165) (o := .cells #[.int .i64 x166000_20, .int .i64 x166001_20, .int .i64 x166002_20, .int .i64 x166003_20, .int .i64 x166004_20, .int .i64 x166005_20, .int .i64 x166006_20, .int .u32 x166007_20] 48 (0, 0)) (by (with_reducible repeat (first | refine blk_drewN ?_ _ | refine blk_drew ?_ | refine blk_alloc ?_ _)); exact BK165.out) k_ hk)); (case aO => exact (by (with_reducible repeat (first | apply Kd.R_alloc | apply Kd.R_drewN | apply Kd.R_drew)); exact HO_7.out)); (case aS => exact (below_size (by repeat (first | (with_reducible first | exact HB.out | apply below_alloc | apply pw_below_drewN | apply below_drew1 | refine below_set ?_ GE165.out) | exact HB.out)))); (case aL => have := LMc131.out; omega); intro v199 w135 ho hb hg hat; rw [← Ny198.out] at ho; have n0_ := Aside0.mk (Kd.R_over' (by (with_reducible repeat (first | apply Kd.R_alloc | apply Kd.R_drewN | apply Kd.R_drew)); exact HO_5.out) (Kd.R_typed (by (with_reducible repeat (first | apply Kd.R_alloc | apply Kd.R_drewN | apply Kd.R_drew)); exact HO_7.out)) (by decide) hg); have n1_ := Aside0.mk (Kd.R_over' (by (with_reducible repeat (first | apply Kd.R_alloc | apply Kd.R_drewN | apply Kd.R_drew)); exact HO_6.out) (Kd.R_typed (by (with_reducible repeat (first | apply Kd.R_alloc | apply Kd.R_drewN | apply Kd.R_drew)); exact HO_7.out)) (by decide) hg); have n2_ := Aside0.mk (blk_grown (g := gb165) (o := .cells #[.int .i64 x166000_20, .int .i64 x166001_20, .int .i64 x166002_20, .int .i64 x166003_20, .int .i64 x166004_20, .int .i64 x166005_20, .int .i64 x166006_20, .int .u32 x166007_20] 48 (0, 0)) (by (with_reducible repeat (first | refine blk_drewN ?_ _ | refine blk_drew ?_ | refine blk_alloc ?_ _)); exact BK165.out) hg (Kd.R_away HO_7.out (fun _ hk => hk))); have n3_ := Aside0.mk (hb); have n4_ := Aside0.mk (ho); clear HO_5; clear HO_6; clear BK165; clear HB; clear HO_7; have HO_5 := n0_; have HO_6 := n1_; have BK165 := n2_; have HB := n3_; have HO200 := n4_; clear n0_ n1_ n2_ n3_ n4_; clear ho hb hg hat))
                 go_roundg kj34
                 case measure => have := HK1.out; have := HJ11.out; have := HJ20.out; have := HJ34.out; omega
                 case rel => exact ⟨(x5_1), (x6_1), (y198), (wrap64 (x8_1 + 1)), (by first | rfl | (simp; done) | (simp [*]; done)), H', ⟨by have := HK1.out; have := HJ11.out; have := HJ20.out; have := HJ34.out; omega⟩, ⟨by (with_reducible repeat (first | apply Kd.R_alloc | apply Kd.R_drewN | apply Kd.R_drew)); exact HO_5.out⟩, ⟨by (with_reducible repeat (first | apply Kd.R_alloc | apply Kd.R_drewN | apply Kd.R_drew)); exact HO_6.out⟩, ⟨by (with_reducible repeat (first | apply Kd.R_alloc | apply Kd.R_drewN | apply Kd.R_drew)); exact Kd.R_mono HO200.out (fun _ hk => trivial)⟩, ⟨by repeat (first | (with_reducible first | exact HB.out | apply below_alloc | apply pw_below_drewN | apply below_drew1 | refine below_set ?_ GE165.out) | exact HB.out)⟩⟩
                ·
                 rw [if_neg c131] at H
                 exact absurd H (by simp)
       ·
        rw [if_neg c11] at H
        exact absurd H (by simp)
      ·
       rw [if_neg c10] at H
       have c10b0 : decide (x8_1 < (l0.length : Int)) = false := decide_eq_false c10
       clear c10
       obtain rfl := Option.some.inj H
       go_wp2
       go_ret
       exact ⟨_, by first | rfl | (simp [errW_none, errW_some] <;> rfl) | (simp [*, errW_none, errW_some] <;> rfl), by (with_reducible repeat (first | apply Kd.R_alloc | apply Kd.R_drewN | apply Kd.R_drew)); exact HO_7.out, by repeat (first | (with_reducible first | exact HB.out | apply below_alloc | apply pw_below_drewN | apply below_drew1) | exact HB.out)⟩
   ·
    rw [if_neg c5] at H
    exact absurd H (by simp)
  ·
   rw [if_neg c4] at H
   exact absurd H (by simp)
 ·
  rw [if_neg c3] at H
  exact absurd H (by simp)

end Go.Proofs.Ytggchfdjpfodfaa.G

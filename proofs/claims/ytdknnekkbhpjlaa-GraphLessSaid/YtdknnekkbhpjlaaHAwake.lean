/- The law's awake, walked: it tells true. No condition. -/
import Derived.Test.YtdknnekkbhpjlaaHCircle
import Derived.Test.YtdknnekkbhpjlaaGf15
set_option linter.unusedVariables false
set_option linter.unusedSimpArgs false
namespace Go.Proofs.Ytdknnekkbhpjlaa.H
open Go.RowKit Go.Proofs.YtdknnekkbhpjlaaW.PrintWords Go.Proofs.YtdknnekkbhpjlaaW.PrintLast Go.Proofs.YtdknnekkbhpjlaaW.PrintMore Go.Proofs.Ytdknnekkbhpjlaa.G

theorem lit_ints {w : World} {g : Nat} {cs : Array Value} (xs : List Int) (h : w.heap[g]? = some (.cells cs 3 (0, 0))) (hc : cs.toList = xs.map (Value.int .i64)) (hm : xs.length ≤ 1000) : (Kd.int .i64).C w (some ⟨g, 0, none⟩) xs.length xs := by
  refine ⟨rfl, by omega, fun _ => ⟨_, rfl, fun j p hj => ⟨[.int .i64 p], rfl, rfl, fun i u hi => ?_⟩⟩⟩
  obtain ⟨rfl, rfl⟩ : i = 0 ∧ u = .int .i64 p := by
    cases i with
    | zero => simp at hi; exact ⟨rfl, hi.symm⟩
    | succ i => simp at hi
  rw [add_plain, show j * (Kd.int .i64).sz + 0 = j from by show j * 1 + 0 = j; omega, blk_cell h j, ← Array.getElem?_toList, hc, List.getElem?_map, hj]
  rfl
theorem lit_rows {w : World} {g : Nat} {cs : Array Value} (rows : List (List Int)) (h : w.heap[g]? = some (.cells cs 25 (0, 0))) (hm : rows.length ≤ 1000)
    (hk : ∀ (j : Nat) (p : List Int), rows[j]? = some p → ∃ (A : Option Addr) (c : Nat), cs[j]? = some (Value.slice A p.length c) ∧ p.length ≤ c ∧ (Kd.int .i64).C w A p.length p) : Kd.C KI w (some ⟨g, 0, none⟩) rows.length rows := by
  refine ⟨rfl, by omega, fun _ => ⟨_, rfl, fun j p hj => ?_⟩⟩
  obtain ⟨A, c, h1, h2, h3⟩ := hk j p hj
  refine ⟨[.slice A p.length c], rfl, ⟨A, c, rfl, h2, h3⟩, fun i u hi => ?_⟩
  obtain ⟨rfl, rfl⟩ : i = 0 ∧ u = .slice A p.length c := by
    cases i with
    | zero => simp at hi; exact ⟨rfl, hi.symm⟩
    | succ i => simp at hi
  rw [add_plain, show j * KI.sz + 0 = j from by show j * 1 + 0 = j; omega, blk_cell h j, h1]
theorem blk_here {W : World} {g : Nat} (o : Obj) (h : g = W.heap.size) : (W.alloc o).heap[g]? = some o := by subst h; exact blk_new _ _
theorem lv1 : levelsP [[1, 2], [2], []] = ([[2], [1], [0]], 0) := by decide
theorem lv2 : levelsP [[1], [0]] = ([], 11) := by decide
theorem lv3 : levelsP [[1]] = ([], 1) := by decide
theorem ci1 : (circleP [[1], [0]]).length = 2 := by decide
theorem le1 : Lens [[1, 2], [2], []] := by decide
theorem le2 : Lens [[1], [0]] := by decide
theorem le3 : Lens [[1]] := by decide

theorem same_l0 {l : List Int} (hl : l.length ≤ 1000000) : ∀ (d i k : Nat), i + d = l.length → d + 1 ≤ k → seedcornref38_Same.l0 k l l (i : Int) = some true := by
  intro d
  induction d with
  | zero =>
    intro i k hd hk
    obtain ⟨m, rfl⟩ : ∃ m, k = m + 1 := ⟨k - 1, by omega⟩
    rw [seedcornref38_Same.l0, if_neg (by omega)]
  | succ d ih =>
    intro i k hd hk
    obtain ⟨m, rfl⟩ : ∃ m, k = m + 1 := ⟨k - 1, by omega⟩
    rw [seedcornref38_Same.l0, if_pos (by omega), if_pos (by omega), if_pos (by omega), if_pos rfl, wr64 (by omega)]
    exact ih (i + 1) m (by omega) (by omega)
theorem same_f {l : List Int} (hl : l.length ≤ 1000000) {k : Nat} (hk : l.length + 1 ≤ k) : seedcornref38_Same.f k l l = some true := by
  unfold seedcornref38_Same.f
  rw [if_pos rfl]
  exact same_l0 hl l.length 0 k (by omega) hk

set_option maxHeartbeats 4000000 in
set_option maxRecDepth 100000 in
theorem awake_calls (w : World) : Calls Try.prog 10 #[] w fun e w' => e = .returned (.bool true) ∧ Below w.heap.size w w' := by
  go_enter Try.func10, Try.ntmps10
  go_wp2_with (fail)
  have a0 := blk_alloc (blk_alloc (blk_new w (.cells #[.int .i64 1, .int .i64 2] 3)) (.cells #[.int .i64 2] 3)) (.cells #[.slice (some ⟨w.heap.size, 0, none⟩) 2 2, .slice (some ⟨w.heap.size + 1, 0, none⟩) 1 1, .slice none 0 0] 25)
  have a1 := blk_alloc (blk_here (W := w.alloc (.cells #[.int .i64 1, .int .i64 2] 3)) (g := w.heap.size + 1) (.cells #[.int .i64 2] 3) (by simp)) (.cells #[.slice (some ⟨w.heap.size, 0, none⟩) 2 2, .slice (some ⟨w.heap.size + 1, 0, none⟩) 1 1, .slice none 0 0] 25)
  have a2 := blk_here (W := (w.alloc (.cells #[.int .i64 1, .int .i64 2] 3)).alloc (.cells #[.int .i64 2] 3)) (g := w.heap.size + 1 + 1) (.cells #[.slice (some ⟨w.heap.size, 0, none⟩) 2 2, .slice (some ⟨w.heap.size + 1, 0, none⟩) 1 1, .slice none 0 0] 25) (by simp)
  have c0 := lit_ints [1, 2] a0 rfl (by decide)
  have c1 := lit_ints [2] a1 rfl (by decide)
  have c2 := lit_rows [[1, 2], [2], []] a2 (by decide) (fun j p hj => by
    rcases j with _ | _ | _ | j
    · obtain rfl := Option.some.inj hj; exact ⟨_, _, rfl, Nat.le_refl _, c0⟩
    · obtain rfl := Option.some.inj hj; exact ⟨_, _, rfl, Nat.le_refl _, c1⟩
    · obtain rfl := Option.some.inj hj; exact ⟨none, 0, rfl, Nat.le_refl _, Kd.C_nil _ _⟩
    · simp at hj)
  have HB := Aside0.mk (below_alloc (below_alloc (below_alloc (Below.refl w.heap.size w) (.cells #[.int .i64 1, .int .i64 2] 3)) (.cells #[.int .i64 2] 3)) (.cells #[.slice (some ⟨w.heap.size, 0, none⟩) 2 2, .slice (some ⟨w.heap.size + 1, 0, none⟩) 1 1, .slice none 0 0] 25))
  refine (levels_calls _ 3 [[1, 2], [2], []] _ c2 (by decide) le1).mono ?_
  rintro e w1 ⟨v1, rfl, hS1, hB1⟩
  rw [lv1] at hS1 ⊢
  have HB1 := Aside0.mk (below_then HB.out HB.out.size hB1)
  obtain ⟨g1, cap1, rfl, hg1, hg2, _⟩ := Kd.S_form hS1 (by decide)
  simp only [List.length_cons, List.length_nil, Nat.zero_add, Nat.reduceAdd] at hS1 ⊢
  have HS1 := Aside0.mk (Kd.S_reads' hS1).2.2
  clear hS1 hB1 HB c0 c1 c2 a0 a1 a2
  go_wp2_with (fail)
  have a0 := blk_alloc (blk_alloc (blk_new w1 (.cells #[.int .i64 1] 3)) (.cells #[.int .i64 0] 3)) (.cells #[.slice (some ⟨w1.heap.size, 0, none⟩) 1 1, .slice (some ⟨w1.heap.size + 1, 0, none⟩) 1 1] 25)
  have a1 := blk_alloc (blk_here (W := w1.alloc (.cells #[.int .i64 1] 3)) (g := w1.heap.size + 1) (.cells #[.int .i64 0] 3) (by simp)) (.cells #[.slice (some ⟨w1.heap.size, 0, none⟩) 1 1, .slice (some ⟨w1.heap.size + 1, 0, none⟩) 1 1] 25)
  have a2 := blk_here (W := (w1.alloc (.cells #[.int .i64 1] 3)).alloc (.cells #[.int .i64 0] 3)) (g := w1.heap.size + 1 + 1) (.cells #[.slice (some ⟨w1.heap.size, 0, none⟩) 1 1, .slice (some ⟨w1.heap.size + 1, 0, none⟩) 1 1] 25) (by simp)
  have c0 := lit_ints [1] a0 rfl (by decide)
  have c1 := lit_ints [0] a1 rfl (by decide)
  have c2 := lit_rows [[1], [0]] a2 (by decide) (fun j p hj => by
    rcases j with _ | _ | j
    · obtain rfl := Option.some.inj hj; exact ⟨_, _, rfl, Nat.le_refl _, c0⟩
    · obtain rfl := Option.some.inj hj; exact ⟨_, _, rfl, Nat.le_refl _, c1⟩
    · simp at hj)
  have HS2 := Aside0.mk (Kd.C_alloc (Kd.C_alloc (Kd.C_alloc HS1.out (.cells #[.int .i64 1] 3)) (.cells #[.int .i64 0] 3)) (.cells #[.slice (some ⟨w1.heap.size, 0, none⟩) 1 1, .slice (some ⟨w1.heap.size + 1, 0, none⟩) 1 1] 25))
  have HB2 := Aside0.mk (below_alloc (below_alloc (below_alloc HB1.out (.cells #[.int .i64 1] 3)) (.cells #[.int .i64 0] 3)) (.cells #[.slice (some ⟨w1.heap.size, 0, none⟩) 1 1, .slice (some ⟨w1.heap.size + 1, 0, none⟩) 1 1] 25))
  clear HS1 HB1
  refine (levels_calls _ 2 [[1], [0]] _ c2 (by decide) le2).mono ?_
  rintro e w2 ⟨v2, rfl, hS2, hB2⟩
  rw [lv2] at hS2 ⊢
  have HS3 := Aside0.mk (Kd.C_below HS2.out hB2)
  have HB3 := Aside0.mk (below_then HB2.out HB2.out.size hB2)
  clear hS2 hB2 HS2 HB2 c0 c1 c2 a0 a1 a2
  go_wp2_with (fail)
  have a0 := blk_alloc (blk_new w2 (.cells #[.int .i64 1] 3)) (.cells #[.slice (some ⟨w2.heap.size, 0, none⟩) 1 1] 25)
  have a1 := blk_here (W := w2.alloc (.cells #[.int .i64 1] 3)) (g := w2.heap.size + 1) (.cells #[.slice (some ⟨w2.heap.size, 0, none⟩) 1 1] 25) (by simp)
  have c0 := lit_ints [1] a0 rfl (by decide)
  have c1 := lit_rows [[1]] a1 (by decide) (fun j p hj => by
    rcases j with _ | j
    · obtain rfl := Option.some.inj hj; exact ⟨_, _, rfl, Nat.le_refl _, c0⟩
    · simp at hj)
  have HS4 := Aside0.mk (Kd.C_alloc (Kd.C_alloc HS3.out (.cells #[.int .i64 1] 3)) (.cells #[.slice (some ⟨w2.heap.size, 0, none⟩) 1 1] 25))
  have HB4 := Aside0.mk (below_alloc (below_alloc HB3.out (.cells #[.int .i64 1] 3)) (.cells #[.slice (some ⟨w2.heap.size, 0, none⟩) 1 1] 25))
  clear HS3 HB3
  refine (levels_calls _ 1 [[1]] _ c1 (by decide) le3).mono ?_
  rintro e w3 ⟨v3, rfl, hS3, hB3⟩
  rw [lv3] at hS3 ⊢
  have HS5 := Aside0.mk (Kd.C_below HS4.out hB3)
  have HB5 := Aside0.mk (below_then HB4.out HB4.out.size hB3)
  have hg3 : g1 < w3.heap.size := by
    obtain ⟨ad, A0, c0', e, x, _⟩ := at_L1 HS5.out 0 (by decide) (by decide)
    have := World.block_lt_of_cell? w3 _ x
    injection e with e
    subst e
    simpa [add_plain] using this
  clear hS3 hB3 HS4 HB4 c0 c1 a0 a1
  obtain ⟨ad, A01, c01, e, x0, hl0, hC0⟩ := at_L1 HS5.out 0 (by decide) (by decide)
  injection e with e
  subst e
  obtain ⟨ad, A02, c02, e, x2, hl2, hC2⟩ := at_L1 HS5.out 2 (by decide) (by decide)
  injection e with e
  subst e
  have y0 : w3.cell? ⟨g1, 0, none⟩ = some (.slice A01 1 c01) := x0
  have y2 : w3.cell? ⟨g1, 2, none⟩ = some (.slice A02 1 c02) := by rw [add_plain] at x2; exact x2
  clear x0 x2
  go_wp2_with (fail)
  have c0 := lit_ints [2] (blk_new w3 (.cells #[.int .i64 2] 3)) rfl (by decide)
  have hC0' : (Kd.int .i64).C w3 A01 [2].length [2] := hC0
  have hC2' : (Kd.int .i64).C w3 A02 [0].length [0] := hC2
  have HB6 := Aside0.mk (below_alloc HB5.out (.cells #[.int .i64 2] 3))
  refine (seedcornref38_Same.calls 5 A01 c01 [2] _ 1 [2] true _ (Kd.C_alloc hC0' _) hl0 c0 (by decide) (same_f (by decide) (by decide))).mono ?_
  rintro e w4 ⟨rfl, hd4⟩
  have hB4 := below_then (below_alloc (Below.refl w3.heap.size w3) (.cells #[.int .i64 2] 3)) (by simp) hd4.below
  have HB7 := Aside0.mk (below_then HB5.out HB5.out.size hB4)
  have hz4 := hB4.size
  have y2' : w4.cell? ⟨g1, 2, none⟩ = some (.slice A02 1 c02) := pw_cell_below hB4 y2
  have hC2'' := Kd.C_below hC2' hB4
  clear HS5 HB5 HB6 c0 hC0 hC0' hC2 hC2' hd4 hB4 y0 y2 hg1 hg2
  go_wp2_with (fail)
  have c0 := lit_ints [0] (blk_new w4 (.cells #[.int .i64 0] 3)) rfl (by decide)
  refine (seedcornref38_Same.calls 5 A02 c02 [0] _ 1 [0] true _ (Kd.C_alloc hC2'' _) hl2 c0 (by decide) (same_f (by decide) (by decide))).mono ?_
  rintro e w5 ⟨rfl, hd5⟩
  have HB8 := Aside0.mk (below_then HB7.out HB7.out.size (below_then (below_alloc (Below.refl w4.heap.size w4) (.cells #[.int .i64 0] 3)) (by simp) hd5.below))
  clear HB7 c0 hd5 hC2'' y2' hz4
  go_wp2_with (fail)
  have a0 := blk_alloc (blk_alloc (blk_new w5 (.cells #[.int .i64 1] 3)) (.cells #[.int .i64 0] 3)) (.cells #[.slice (some ⟨w5.heap.size, 0, none⟩) 1 1, .slice (some ⟨w5.heap.size + 1, 0, none⟩) 1 1] 25)
  have a1 := blk_alloc (blk_here (W := w5.alloc (.cells #[.int .i64 1] 3)) (g := w5.heap.size + 1) (.cells #[.int .i64 0] 3) (by simp)) (.cells #[.slice (some ⟨w5.heap.size, 0, none⟩) 1 1, .slice (some ⟨w5.heap.size + 1, 0, none⟩) 1 1] 25)
  have a2 := blk_here (W := (w5.alloc (.cells #[.int .i64 1] 3)).alloc (.cells #[.int .i64 0] 3)) (g := w5.heap.size + 1 + 1) (.cells #[.slice (some ⟨w5.heap.size, 0, none⟩) 1 1, .slice (some ⟨w5.heap.size + 1, 0, none⟩) 1 1] 25) (by simp)
  have c0 := lit_ints [1] a0 rfl (by decide)
  have c1 := lit_ints [0] a1 rfl (by decide)
  have c2 := lit_rows [[1], [0]] a2 (by decide) (fun j p hj => by
    rcases j with _ | _ | j
    · obtain rfl := Option.some.inj hj; exact ⟨_, _, rfl, Nat.le_refl _, c0⟩
    · obtain rfl := Option.some.inj hj; exact ⟨_, _, rfl, Nat.le_refl _, c1⟩
    · simp at hj)
  have HB9 := Aside0.mk (below_alloc (below_alloc (below_alloc HB8.out (.cells #[.int .i64 1] 3)) (.cells #[.int .i64 0] 3)) (.cells #[.slice (some ⟨w5.heap.size, 0, none⟩) 1 1, .slice (some ⟨w5.heap.size + 1, 0, none⟩) 1 1] 25))
  refine (circle_calls _ 2 [[1], [0]] _ c2 (by decide) le2).mono ?_
  rintro e w6 ⟨v6, rfl, hQ6, hB6⟩
  obtain ⟨A6, c6, rfl, _⟩ := Kd.Q_slice hQ6
  rw [ci1]
  have HB10 := Aside0.mk (below_then HB9.out HB9.out.size hB6)
  clear hQ6 hB6 HB8 HB9 c0 c1 c2 a0 a1 a2
  go_wp2_with (fail)
  go_ret
  exact ⟨rfl, HB10.out⟩
end Go.Proofs.Ytdknnekkbhpjlaa.H
namespace Go.Proofs.Ytdknnekkbhpjlaa.G
open Go.RowKit Go.Proofs.YtdknnekkbhpjlaaW.PrintWords Go.Proofs.YtdknnekkbhpjlaaW.PrintLast Go.Proofs.YtdknnekkbhpjlaaW.PrintMore
open H

def seedcornlaw38_awake.f : Option Bool := some true
theorem seedcornlaw38_awake.calls (r : Bool) (w : World) (h : seedcornlaw38_awake.f = some r) :
    Calls Try.prog 10 #[] w fun e w' => e = .returned (.bool r) ∧ Below w.heap.size w w' := by
  injection h with h
  subst h
  exact awake_calls w
end Go.Proofs.Ytdknnekkbhpjlaa.G

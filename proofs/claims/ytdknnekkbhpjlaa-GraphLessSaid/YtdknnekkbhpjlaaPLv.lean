/- What graph.Levels computes, as plain functions: rows by height. And the plain meaning of the printed right and things. No condition. -/
import Derived.Test.YtdknnekkbhpjlaaHHt
import Derived.Test.YtdknnekkbhpjlaaGf22
set_option linter.unusedVariables false
set_option linter.unusedSimpArgs false
namespace Go.Proofs.Ytdknnekkbhpjlaa.H
open Go.RowKit Go.Proofs.YtdknnekkbhpjlaaW.PrintWords Go.Proofs.YtdknnekkbhpjlaaW.PrintLast Go.Proofs.YtdknnekkbhpjlaaW.PrintMore Go.Proofs.Ytdknnekkbhpjlaa.G

def inB (n j : Int) : Bool := decide (0 ≤ j ∧ j < n)
def rightB (needs : List (List Int)) : Bool := needs.all fun l => l.all (inB needs.length)
theorem rightB_true {needs : List (List Int)} (h : rightB needs = true) : Right needs := by
  intro l hl j hj
  have h1 := List.all_eq_true.1 (List.all_eq_true.1 h l hl) j hj
  exact of_decide_eq_true h1
theorem R_slicen {α : Type} {d : Kd α} {e base : Nat} {ok : Nat → Prop} {w : World} {v : Value} {xs : List α} (h : d.R e w base ok v xs) : ∃ A n c, v = .slice A n c := by
  obtain ⟨A, c, h⟩ := Kd.R_slice h
  exact ⟨A, _, c, h⟩
/-- The rows' lengths fit. -/
def Lens (needs : List (List Int)) : Prop := needs.length ≤ 1000 ∧ ∀ l ∈ needs, l.length ≤ 1000
theorem rd_mem {l : List Int} {j : Nat} (h : j < l.length) : rd l (j : Int) ∈ l := by
  unfold rd
  rw [Int.toNat_natCast, List.getD_eq_getElem?_getD, List.getElem?_eq_getElem h]
  exact List.getElem_mem h
theorem nd_mem {needs : List (List Int)} {i : Nat} (h : i < needs.length) : nd needs i ∈ needs := by
  unfold nd
  rw [List.getD_eq_getElem?_getD, List.getElem?_eq_getElem h]
  exact List.getElem_mem h
theorem drop_nd {needs : List (List Int)} {i : Nat} (h : i < needs.length) : needs.drop i = nd needs i :: needs.drop (i + 1) := by
  unfold nd
  rw [List.getD_eq_getElem?_getD, List.getElem?_eq_getElem h, List.drop_eq_getElem_cons h]
  rfl
theorem drop_rd {l : List Int} {i : Nat} (h : i < l.length) : l.drop i = rd l (i : Int) :: l.drop (i + 1) := by
  unfold rd
  rw [Int.toNat_natCast, List.getD_eq_getElem?_getD, List.getElem?_eq_getElem h, List.drop_eq_getElem_cons h]
  rfl
theorem wr64 {x : Nat} (h : x ≤ 1000000000) : wrap64 ((x : Int) + 1) = ((x + 1 : Nat) : Int) := by unfold wrap64; omega

theorem right_l1 {needs : List (List Int)} (hL : Lens needs) (x9 : Nat) (h9 : x9 < needs.length) : ∀ (d j k : Nat), j + d = (nd needs x9).length → d + 1 ≤ k →
    graph_right.l1 k needs needs needs.length (x9 : Int) (nd needs x9) (nd needs x9).length (j : Int) = if ((nd needs x9).drop j).all (inB needs.length) = true then graph_right.l0 (k - (d + 1)) needs needs needs.length ((x9 + 1 : Nat) : Int) else some false := by
  intro d
  have hlen := hL.2 _ (nd_mem h9)
  have hn := hL.1
  induction d with
  | zero =>
    intro j k hd hk
    obtain ⟨m, rfl⟩ : ∃ m, k = m + 1 := ⟨k - 1, by omega⟩
    rw [graph_right.l1, if_neg (by omega), List.drop_of_length_le (by omega), wr64 (by omega)]
    rfl
  | succ d ih =>
    intro j k hd hk
    obtain ⟨m, rfl⟩ : ∃ m, k = m + 1 := ⟨k - 1, by omega⟩
    have hj : j < (nd needs x9).length := by omega
    rw [graph_right.l1, if_pos (by omega), if_pos (by omega), if_pos (by omega), drop_rd hj]
    have ih' := ih (j + 1) m (by omega) (by omega)
    generalize rd (nd needs x9) (j : Int) = x at *
    by_cases h1 : x < 0
    · rw [if_pos h1, if_neg (by simp [inB]; omega)]
    · rw [if_neg h1]
      by_cases h2 : x ≥ needs.length
      · rw [if_pos h2, if_neg (by simp [inB]; omega)]
      · have hx : inB needs.length x = true := decide_eq_true ⟨by omega, by omega⟩
        have e : (x :: (nd needs x9).drop (j + 1)).all (inB needs.length) = ((nd needs x9).drop (j + 1)).all (inB needs.length) := by rw [List.all_cons, hx, Bool.true_and]
        rw [if_neg h2, wr64 (by omega), ih', e, show m + 1 - (d + 1 + 1) = m - (d + 1) by omega]
theorem right_l0 {needs : List (List Int)} (hL : Lens needs) {C : Nat} (hC : 1002 ≤ C) : ∀ (d i k : Nat), i + d = needs.length → d * C + 1 ≤ k →
    graph_right.l0 k needs needs needs.length (i : Int) = some ((needs.drop i).all fun l => l.all (inB needs.length)) := by
  intro d
  induction d with
  | zero =>
    intro i k hd hk
    obtain ⟨m, rfl⟩ : ∃ m, k = m + 1 := ⟨k - 1, by omega⟩
    rw [graph_right.l0, if_neg (by omega), List.drop_of_length_le (by omega)]
    rfl
  | succ d ih =>
    intro i k hd hk
    obtain ⟨m, rfl⟩ : ∃ m, k = m + 1 := ⟨k - 1, by omega⟩
    have hi : i < needs.length := by omega
    have hl := hL.2 _ (nd_mem hi)
    have hm : (d + 1) * C = d * C + C := Nat.succ_mul _ _
    rw [graph_right.l0, if_pos (by omega), if_pos (by omega), if_pos (by omega), rd_nd]
    have h1 := right_l1 hL i hi (nd needs i).length 0 m (by omega) (by omega)
    rw [show ((0 : Nat) : Int) = 0 from rfl] at h1
    rw [h1, List.drop_zero, drop_nd hi, List.all_cons]
    split
    · next h => rw [ih (i + 1) (m - ((nd needs i).length + 1)) (by omega) (by omega), h, Bool.true_and]
    · next h => rw [Bool.eq_false_iff.2 h, Bool.false_and]
theorem right_f {needs : List (List Int)} (hL : Lens needs) {k : Nat} (hk : 2000000 ≤ k) : graph_right.f k needs = some (rightB needs) := by
  unfold graph_right.f
  have hn := hL.1
  obtain ⟨C, hC⟩ : ∃ C : Nat, C = 1002 := ⟨_, rfl⟩
  have hb : needs.length * C + 1 ≤ k := by
    have h1 := Nat.mul_le_mul_right C hn
    omega
  have h := right_l0 hL (C := C) (by omega) needs.length 0 k (by omega) hb
  exact h

theorem set_range {n q : Nat} (h : q < n) : ((List.range q).map (fun (i : Nat) => (i : Int)) ++ List.replicate (n - q) 0).set q (q : Int) = (List.range (q + 1)).map (fun (i : Nat) => (i : Int)) ++ List.replicate (n - (q + 1)) 0 := by
  rw [List.set_append_right _ _ (by simp), List.length_map, List.length_range, Nat.sub_self, show n - q = (n - (q + 1)) + 1 by omega, List.replicate_succ, List.set_cons_zero, List.range_succ]
  simp
theorem things_calls (A : Option Addr) (c : Nat) (needs : List (List Int)) (w : World) (hn : needs.length ≤ 100000) : Calls Try.prog 24 #[.slice A needs.length c] w fun e w' =>
    ∃ v, e = .returned v ∧ Kd.R (Kd.int .i64) 3 w' w.heap.size (fun _ => True) v ((List.range needs.length).map fun (i : Nat) => (i : Int)) ∧ Below w.heap.size w w' := by
  go_enter Try.func24, Try.ntmps24
  go_wp2_with ((with_reducible refine gate_dst (N := 7) rfl ?_); refine Kd.R_make (Kd.int .i64) w.heap.size 3 rfl (N := 7) rfl 25 _ _ rfl (needs.length : Int) rfl rfl Try.underlying25 (.int .i64 0) 8 info3 rfl (by decide) (by omega) 0 (ok := fun _ => True) (okp := fun _ => True) rfl (fun _ hk => hk) trivial (by omega) (by omega) (Below.refl _ _) (Nat.le_refl _) ?_)
  intro v w1 rk hB1 hg1 gk hgk hgk'
  obtain ⟨A1, n1, c1, rfl⟩ := R_slicen rk
  obtain rfl : n1 = needs.length := by obtain ⟨_, _, e⟩ := Kd.R_slice rk; injection e with _ e _; rw [e]; simp
  go_wp2_with (fail)
  go_loopw [10] (fun i wr => ∃ (q : Nat), q ≤ needs.length ∧ i = .int .i64 q ∧ Aside0 (Kd.R (Kd.int .i64) 3 wr w.heap.size (fun _ => True) (.slice A1 needs.length c1) ((List.range q).map (fun (i : Nat) => (i : Int)) ++ List.replicate (needs.length - q) 0)) ∧ Aside0 (Below w.heap.size w wr)) (fun i _ => needs.length - (intOf i).toNat)
  case atStart => exact ⟨0, Nat.zero_le _, rfl, ⟨by simpa using rk⟩, ⟨hB1⟩⟩
  case round =>
    clear hgk hgk' rk
    obtain ⟨q, hq, rfl, HR, HB⟩ := hrel
    obtain ⟨wq, rfl⟩ : ∃ wq : World, wq = wr := ⟨_, rfl⟩
    by_cases hlq : q < needs.length
    · obtain ⟨gq, cq, eq, hq1, hq2, cells, hq3⟩ := Kd.R_form HR.out (by simp; omega)
      injection eq with eq1 eq2 eq3
      subst eq1
      clear eq2 eq3
      obtain ⟨zq, zf⟩ := Kd.R_celln 0 HR.out (q : Int) (by omega) (by omega)
      simp only [Int.toNat_natCast] at zq zf
      have hp := Kd.R_putg HR.out (q : Int) (q : Int)
      rw [Int.toNat_natCast, set_range hlq] at hp
      have HB2 := Aside0.mk (HB.out.setCell (p := ⟨gq, q, none⟩) hq1 (.int .i64 q))
      have HR2 := Aside0.mk hp.1
      clear hp
      go_wp2_with (fail)
      go_roundw
      case rel => exact ⟨q + 1, hlq, by go_num, HR2, HB2⟩
      case measure => simp [intOf]; omega
    · obtain rfl : q = needs.length := by omega
      go_wp2_with (fail)
      go_ret
      exact ⟨_, rfl, by simpa using HR.out, HB.out⟩

/-- Empty rows are laid till there is row h. -/
def padTo (out : List (List Int)) (h : Nat) : List (List Int) := out ++ List.replicate (h + 1 - out.length) []
def lvStep (M : Mp) (out : List (List Int)) (i : Nat) : List (List Int) :=
  (padTo out ((M i).getD 0).toNat).set ((M i).getD 0).toNat (rd_L1 (padTo out ((M i).getD 0).toNat) ((M i).getD 0) ++ [(i : Int)])
def lvTo (M : Mp) : Nat → List (List Int)
  | 0 => []
  | n + 1 => lvStep M (lvTo M n) n
theorem padTo_length (out : List (List Int)) (h : Nat) : (padTo out h).length = max out.length (h + 1) := by simp [padTo]; omega
theorem lvTo_length {M : Mp} {c : Nat} (h : Lev c M) : ∀ n, (lvTo M n).length ≤ c + 1
  | 0 => Nat.zero_le _
  | n + 1 => by
    have ih := lvTo_length h n
    have := lev_getD h (n : Int)
    simp only [lvTo, lvStep, List.length_set, padTo_length]
    omega
theorem lvTo_row {M : Mp} : ∀ n, ∀ l ∈ lvTo M n, l.length ≤ n
  | 0, l, hl => by simp [lvTo] at hl
  | n + 1, l, hl => by
    have ih := lvTo_row (M := M) n
    have hp : ∀ l ∈ padTo (lvTo M n) ((M n).getD 0).toNat, l.length ≤ n := by
      intro l hl
      simp only [padTo, List.mem_append] at hl
      rcases hl with hl | hl
      · exact ih l hl
      · rw [List.eq_of_mem_replicate hl]; exact Nat.zero_le _
    simp only [lvTo, lvStep] at hl
    rcases List.mem_or_eq_of_mem_set hl with hl | rfl
    · have := hp l hl; omega
    · rw [List.length_append, List.length_singleton]
      have : (rd_L1 (padTo (lvTo M n) ((M n).getD 0).toNat) ((M n).getD 0)).length ≤ n := by
        unfold rd_L1
        rw [List.getD_eq_getElem?_getD]
        cases e : (padTo (lvTo M n) ((M n).getD 0).toNat)[((M n).getD 0).toNat]? with
        | none => simp
        | some l => exact hp l (List.mem_of_getElem? e)
      omega
end Go.Proofs.Ytdknnekkbhpjlaa.H

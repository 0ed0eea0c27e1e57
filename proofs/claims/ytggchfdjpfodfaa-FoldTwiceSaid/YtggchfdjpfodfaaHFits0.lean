/- within, and shorter roads for fits. No condition. -/
import Derived.Test.YtggchfdjpfodfaaHFold
import Derived.Test.YtggchfdjpfodfaaPFoldOfx1
set_option linter.unusedVariables false
set_option linter.unusedSimpArgs false
namespace Go.Proofs.Ytggchfdjpfodfaa.H
open Go.RowKit Go.Proofs.YtggchfdjpfodfaaW.PrintWords Go.Proofs.YtggchfdjpfodfaaW.PrintLast Go.Proofs.YtggchfdjpfodfaaW.PrintMore Go.Proofs.Ytggchfdjpfodfaa.PFoldOf
open Sp
attribute [local go_sem high] eqA48

/-- Is a number one of n? -/
def wB (i n : Int) : Bool := decide (0 ≤ i ∧ i < n)
theorem within_calls (i n : Int) (w : World) : Calls Try.prog 35 #[.int .i64 i, .int .i64 n] w fun e w' => e = .returned (.bool (wB i n)) ∧ w' = w := by
  by_cases h : 0 ≤ i
  · have hb : wB i n = decide (i < n) := by simp [wB, h]
    rw [hb]
    go_enter Try.func35, Try.ntmps35
    go_wp2
    go_ret
    exact ⟨rfl, rfl⟩
  · have hb : wB i n = false := by simp [wB, h]
    rw [hb]
    go_enter Try.func35, Try.ntmps35
    go_wp2
    go_ret
    exact ⟨rfl, rfl⟩

theorem ret_b {b b' : Bool} (h : b = b') : Ending.returned (.bool b) = .returned (.bool b') := by rw [h]
def arrB (ba sz words : Int) : Bool := decide (1 ≤ sz ∧ sz ≤ 4096 ∧ 0 ≤ ba ∧ ba ≤ words - sz)
theorem wB_true {i n : Int} (h : wB i n = true) : 0 ≤ i ∧ i < n := of_decide_eq_true h
theorem k_true {k : Int} (h : wB (k - 4) 12 = true) : 4 ≤ k ∧ k ≤ 15 := by have := wB_true h; omega
theorem k_false {k : Int} (h : wB (k - 4) 12 = false) : k < 4 ∨ 15 < k := by have := of_decide_eq_false h; omega
theorem arr_true {ba sz words : Int} (h : arrB ba sz words = true) : 1 ≤ sz ∧ sz ≤ 4096 ∧ 0 ≤ ba ∧ ba ≤ words - sz := of_decide_eq_true h
theorem arr_false {ba sz words : Int} (h : arrB ba sz words = false) : sz < 1 ∨ (1 ≤ sz ∧ 4096 < sz) ∨ (1 ≤ sz ∧ sz ≤ 4096 ∧ ba < 0) ∨ (1 ≤ sz ∧ sz ≤ 4096 ∧ 0 ≤ ba ∧ words - sz < ba) := by have := of_decide_eq_false h; omega


end Go.Proofs.Ytggchfdjpfodfaa.H

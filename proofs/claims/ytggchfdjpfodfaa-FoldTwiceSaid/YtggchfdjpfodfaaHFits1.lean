/- fits, walked, a part of its arms: it tells what fitsB says. Condition: the numbers are whole numbers of 64 bits. -/
import Derived.Test.YtggchfdjpfodfaaHFits0
import Derived.Test.YtggchfdjpfodfaaPFoldOfx1
set_option linter.unusedVariables false
set_option linter.unusedSimpArgs false
namespace Go.Proofs.Ytggchfdjpfodfaa.H
open Go.RowKit Go.Proofs.YtggchfdjpfodfaaW.PrintWords Go.Proofs.YtggchfdjpfodfaaW.PrintLast Go.Proofs.YtggchfdjpfodfaaW.PrintMore Go.Proofs.Ytggchfdjpfodfaa.PFoldOf
open Sp
attribute [local go_sem high] eqA48

set_option maxHeartbeats 2000000 in
set_option maxRecDepth 100000 in
theorem fits1 (d a c k ba sz nn f regs words : Int) (w : World) :
    Calls Try.prog 29 #[.agg #[.int .i64 1, .int .i64 d, .int .i64 a, .int .i64 c, .int .i64 k, .int .i64 ba, .int .i64 sz, .int .u32 nn], .int .i64 f, .int .i64 regs, .int .i64 words] w fun e w' => e = .returned (.bool (wB d regs && (a == 0 && c == 0 && k == 0 && ba == 0 && sz == 0))) ∧ Below w.heap.size w w' := by
  have hu48 := Try.underlying48
  cases h0 : wB d regs
  · skip
    go_enter Try.func29, Try.ntmps29
    all_goals go_wp2_with (first | (go_at_call 35; refine (within_calls _ _ _).mono ?_; rintro e w' ⟨rfl, rfl⟩) | go_in)
    all_goals go_ret
    all_goals refine ⟨ret_b (by simp [h0, Bool.and_assoc]), ?_⟩
    all_goals repeat (first | exact Below.refl _ _ | apply below_alloc | apply below_drew1)
  · skip
    obtain ⟨pd, qd⟩ := wB_true h0
    go_enter Try.func29, Try.ntmps29
    all_goals go_wp2_with (first | (go_at_call 35; refine (within_calls _ _ _).mono ?_; rintro e w' ⟨rfl, rfl⟩) | go_in)
    all_goals refine wp_loop_rounds 1 ?_
    all_goals rw [rounds_succ]
    all_goals go_wp2_with (first | (go_at_call 35; refine (within_calls _ _ _).mono ?_; rintro e w' ⟨rfl, rfl⟩) | go_in)
    all_goals go_ret
    all_goals refine ⟨ret_b (by simp [h0, Bool.and_assoc]), ?_⟩
    all_goals repeat (first | exact Below.refl _ _ | apply below_alloc | apply below_drew1)

set_option maxHeartbeats 2000000 in
set_option maxRecDepth 100000 in
theorem fits2 (d a c k ba sz nn f regs words : Int) (w : World) :
    Calls Try.prog 29 #[.agg #[.int .i64 2, .int .i64 d, .int .i64 a, .int .i64 c, .int .i64 k, .int .i64 ba, .int .i64 sz, .int .u32 nn], .int .i64 f, .int .i64 regs, .int .i64 words] w fun e w' => e = .returned (.bool (wB d regs && wB a regs && (c == 0 && k == 0 && ba == 0 && sz == 0 && nn == 0))) ∧ Below w.heap.size w w' := by
  have hu48 := Try.underlying48
  cases h0 : wB d regs
  · skip
    go_enter Try.func29, Try.ntmps29
    all_goals go_wp2_with (first | (go_at_call 35; refine (within_calls _ _ _).mono ?_; rintro e w' ⟨rfl, rfl⟩) | go_in)
    all_goals go_ret
    all_goals refine ⟨ret_b (by simp [h0, Bool.and_assoc]), ?_⟩
    all_goals repeat (first | exact Below.refl _ _ | apply below_alloc | apply below_drew1)
  · skip
    obtain ⟨pd, qd⟩ := wB_true h0
    cases h1 : wB a regs
    · skip
      go_enter Try.func29, Try.ntmps29
      all_goals go_wp2_with (first | (go_at_call 35; refine (within_calls _ _ _).mono ?_; rintro e w' ⟨rfl, rfl⟩) | go_in)
      all_goals refine wp_loop_rounds 1 ?_
      all_goals rw [rounds_succ]
      all_goals go_wp2_with (first | (go_at_call 35; refine (within_calls _ _ _).mono ?_; rintro e w' ⟨rfl, rfl⟩) | go_in)
      all_goals go_ret
      all_goals refine ⟨ret_b (by simp [h0, h1, Bool.and_assoc]), ?_⟩
      all_goals repeat (first | exact Below.refl _ _ | apply below_alloc | apply below_drew1)
    · skip
      obtain ⟨pa, qa⟩ := wB_true h1
      go_enter Try.func29, Try.ntmps29
      all_goals go_wp2_with (first | (go_at_call 35; refine (within_calls _ _ _).mono ?_; rintro e w' ⟨rfl, rfl⟩) | go_in)
      all_goals refine wp_loop_rounds 2 ?_
      all_goals rw [rounds_succ]
      all_goals go_wp2_with (first | (go_at_call 35; refine (within_calls _ _ _).mono ?_; rintro e w' ⟨rfl, rfl⟩) | go_in)
      all_goals rw [rounds_succ]
      all_goals go_wp2_with (first | (go_at_call 35; refine (within_calls _ _ _).mono ?_; rintro e w' ⟨rfl, rfl⟩) | go_in)
      all_goals go_ret
      all_goals refine ⟨ret_b (by simp [h0, h1, Bool.and_assoc]), ?_⟩
      all_goals repeat (first | exact Below.refl _ _ | apply below_alloc | apply below_drew1)

set_option maxHeartbeats 2000000 in
set_option maxRecDepth 100000 in
theorem fits4 (d a c k ba sz nn f regs words : Int) (w : World) :
    Calls Try.prog 29 #[.agg #[.int .i64 4, .int .i64 d, .int .i64 a, .int .i64 c, .int .i64 k, .int .i64 ba, .int .i64 sz, .int .u32 nn], .int .i64 f, .int .i64 regs, .int .i64 words] w fun e w' => e = .returned (.bool (wB d regs && wB ba words && (a == 0 && c == 0 && k == 0 && sz == 0 && nn == 0))) ∧ Below w.heap.size w w' := by
  have hu48 := Try.underlying48
  cases h0 : wB d regs
  · skip
    go_enter Try.func29, Try.ntmps29
    all_goals go_wp2_with (first | (go_at_call 35; refine (within_calls _ _ _).mono ?_; rintro e w' ⟨rfl, rfl⟩) | go_in)
    all_goals go_ret
    all_goals refine ⟨ret_b (by simp [h0, Bool.and_assoc]), ?_⟩
    all_goals repeat (first | exact Below.refl _ _ | apply below_alloc | apply below_drew1)
  · skip
    obtain ⟨pd, qd⟩ := wB_true h0
    cases hx : wB ba words
    · skip
      go_enter Try.func29, Try.ntmps29
      all_goals go_wp2_with (first | (go_at_call 35; refine (within_calls _ _ _).mono ?_; rintro e w' ⟨rfl, rfl⟩) | go_in)
      all_goals refine wp_loop_rounds 1 ?_
      all_goals rw [rounds_succ]
      all_goals go_wp2_with (first | (go_at_call 35; refine (within_calls _ _ _).mono ?_; rintro e w' ⟨rfl, rfl⟩) | go_in)
      all_goals go_ret
      all_goals refine ⟨ret_b (by simp [h0, hx, Bool.and_assoc]), ?_⟩
      all_goals repeat (first | exact Below.refl _ _ | apply below_alloc | apply below_drew1)
    · skip
      go_enter Try.func29, Try.ntmps29
      all_goals go_wp2_with (first | (go_at_call 35; refine (within_calls _ _ _).mono ?_; rintro e w' ⟨rfl, rfl⟩) | go_in)
      all_goals refine wp_loop_rounds 1 ?_
      all_goals rw [rounds_succ]
      all_goals go_wp2_with (first | (go_at_call 35; refine (within_calls _ _ _).mono ?_; rintro e w' ⟨rfl, rfl⟩) | go_in)
      all_goals go_ret
      all_goals refine ⟨ret_b (by simp [h0, hx, Bool.and_assoc]), ?_⟩
      all_goals repeat (first | exact Below.refl _ _ | apply below_alloc | apply below_drew1)

set_option maxHeartbeats 2000000 in
set_option maxRecDepth 100000 in
theorem fits5 (d a c k ba sz nn f regs words : Int) (w : World) :
    Calls Try.prog 29 #[.agg #[.int .i64 5, .int .i64 d, .int .i64 a, .int .i64 c, .int .i64 k, .int .i64 ba, .int .i64 sz, .int .u32 nn], .int .i64 f, .int .i64 regs, .int .i64 words] w fun e w' => e = .returned (.bool (wB a regs && wB ba words && (d == 0 && c == 0 && k == 0 && sz == 0 && nn == 0))) ∧ Below w.heap.size w w' := by
  have hu48 := Try.underlying48
  cases h0 : wB a regs
  · skip
    go_enter Try.func29, Try.ntmps29
    all_goals go_wp2_with (first | (go_at_call 35; refine (within_calls _ _ _).mono ?_; rintro e w' ⟨rfl, rfl⟩) | go_in)
    all_goals refine wp_loop_rounds 1 ?_
    all_goals rw [rounds_succ]
    all_goals go_wp2_with (first | (go_at_call 35; refine (within_calls _ _ _).mono ?_; rintro e w' ⟨rfl, rfl⟩) | go_in)
    all_goals go_ret
    all_goals refine ⟨ret_b (by simp [h0, Bool.and_assoc]), ?_⟩
    all_goals repeat (first | exact Below.refl _ _ | apply below_alloc | apply below_drew1)
  · skip
    obtain ⟨pa, qa⟩ := wB_true h0
    cases hx : wB ba words
    · skip
      go_enter Try.func29, Try.ntmps29
      all_goals go_wp2_with (first | (go_at_call 35; refine (within_calls _ _ _).mono ?_; rintro e w' ⟨rfl, rfl⟩) | go_in)
      all_goals refine wp_loop_rounds 2 ?_
      all_goals rw [rounds_succ]
      all_goals go_wp2_with (first | (go_at_call 35; refine (within_calls _ _ _).mono ?_; rintro e w' ⟨rfl, rfl⟩) | go_in)
      all_goals rw [rounds_succ]
      all_goals go_wp2_with (first | (go_at_call 35; refine (within_calls _ _ _).mono ?_; rintro e w' ⟨rfl, rfl⟩) | go_in)
      all_goals go_ret
      all_goals refine ⟨ret_b (by simp [h0, hx, Bool.and_assoc]), ?_⟩
      all_goals repeat (first | exact Below.refl _ _ | apply below_alloc | apply below_drew1)
    · skip
      go_enter Try.func29, Try.ntmps29
      all_goals go_wp2_with (first | (go_at_call 35; refine (within_calls _ _ _).mono ?_; rintro e w' ⟨rfl, rfl⟩) | go_in)
      all_goals refine wp_loop_rounds 2 ?_
      all_goals rw [rounds_succ]
      all_goals go_wp2_with (first | (go_at_call 35; refine (within_calls _ _ _).mono ?_; rintro e w' ⟨rfl, rfl⟩) | go_in)
      all_goals rw [rounds_succ]
      all_goals go_wp2_with (first | (go_at_call 35; refine (within_calls _ _ _).mono ?_; rintro e w' ⟨rfl, rfl⟩) | go_in)
      all_goals go_ret
      all_goals refine ⟨ret_b (by simp [h0, hx, Bool.and_assoc]), ?_⟩
      all_goals repeat (first | exact Below.refl _ _ | apply below_alloc | apply below_drew1)

set_option maxHeartbeats 2000000 in
set_option maxRecDepth 100000 in
theorem fits8 (d a c k ba sz nn f regs words : Int) (w : World) :
    Calls Try.prog 29 #[.agg #[.int .i64 8, .int .i64 d, .int .i64 a, .int .i64 c, .int .i64 k, .int .i64 ba, .int .i64 sz, .int .u32 nn], .int .i64 f, .int .i64 regs, .int .i64 words] w fun e w' => e = .returned (.bool (wB d regs && (a == 0 && c == 0 && k == 0 && ba == 0 && sz == 0 && nn == 0))) ∧ Below w.heap.size w w' := by
  have hu48 := Try.underlying48
  cases h0 : wB d regs
  · skip
    go_enter Try.func29, Try.ntmps29
    all_goals go_wp2_with (first | (go_at_call 35; refine (within_calls _ _ _).mono ?_; rintro e w' ⟨rfl, rfl⟩) | go_in)
    all_goals go_ret
    all_goals refine ⟨ret_b (by simp [h0, Bool.and_assoc]), ?_⟩
    all_goals repeat (first | exact Below.refl _ _ | apply below_alloc | apply below_drew1)
  · skip
    obtain ⟨pd, qd⟩ := wB_true h0
    go_enter Try.func29, Try.ntmps29
    all_goals go_wp2_with (first | (go_at_call 35; refine (within_calls _ _ _).mono ?_; rintro e w' ⟨rfl, rfl⟩) | go_in)
    all_goals refine wp_loop_rounds 1 ?_
    all_goals rw [rounds_succ]
    all_goals go_wp2_with (first | (go_at_call 35; refine (within_calls _ _ _).mono ?_; rintro e w' ⟨rfl, rfl⟩) | go_in)
    all_goals go_ret
    all_goals refine ⟨ret_b (by simp [h0, Bool.and_assoc]), ?_⟩
    all_goals repeat (first | exact Below.refl _ _ | apply below_alloc | apply below_drew1)


end Go.Proofs.Ytggchfdjpfodfaa.H

/- fits, walked, a part of its arms: it tells what fitsB says. Condition: the numbers are whole numbers of 64 bits.
   fits, walked, a part of its arms: it tells what fitsB says. Condition: the numbers are whole numbers of 64 bits.
   fits, walked, a part of its arms: it tells what fitsB says. Condition: the numbers are whole numbers of 64 bits.
   fits, walked, a part of its arms: it tells what fitsB says. Condition: the numbers are whole numbers of 64 bits.
   seedcornref24.fits: whether an instruction may be, in the function of a number, with so many registers and words: what it answers, for any instruction, at up to 1048576 words. -/
import Derived.Test.YtggchfdjpfodfaaKA
import Derived.Test.YtggchfdjpfodfaaGe1
set_option linter.unusedVariables false
set_option linter.unusedSimpArgs false
namespace Go.Proofs.Ytggchfdjpfodfaa.K
open Go.RowKit Go.Proofs.YtggchfdjpfodfaaW.PrintWords Go.Proofs.YtggchfdjpfodfaaW.PrintLast Go.Proofs.YtggchfdjpfodfaaW.PrintMore Go.Proofs.Ytggchfdjpfodfaa.G
open Sp
attribute [local go_sem high] eqA48

set_option maxHeartbeats 2000000 in
set_option maxRecDepth 100000 in
theorem fits1 (d a c k ba sz nn f regs words : Int) (w : World) :
    Calls Try.prog 29 #[.agg #[.int .i64 1, .int .i64 d, .int .i64 a, .int .i64 c, .int .i64 k, .int .i64 ba, .int .i64 sz, .int .u32 nn], .int .i64 f, .int .i64 regs, .int .i64 words] w fun e w' => e = .returned (.bool (wB d regs && (a == 0 && c == 0 && k == 0 && ba == 0 && sz == 0))) ∧ Below w.heap.size w w' := by
  have hu48 := Try.underlying48
  cases h0 : wB d regs
  · skip
    go_enter Try.func29, Try.ntmps29
    all_goals go_wp2_with (first | (go_at_call 35; refine (within_calls _ _ _).mono ?_; rintro e w' ⟨rfl, rfl⟩) | go_in)
    all_goals go_ret
    all_goals refine ⟨ret_b (by simp [h0, Bool.and_assoc]), ?_⟩
    all_goals repeat (first | exact Below.refl _ _ | apply below_alloc | apply below_drew1)
  · skip
    obtain ⟨pd, qd⟩ := wB_true h0
    go_enter Try.func29, Try.ntmps29
    all_goals go_wp2_with (first | (go_at_call 35; refine (within_calls _ _ _).mono ?_; rintro e w' ⟨rfl, rfl⟩) | go_in)
    all_goals refine wp_loop_rounds 1 ?_
    all_goals rw [rounds_succ]
    all_goals go_wp2_with (first | (go_at_call 35; refine (within_calls _ _ _).mono ?_; rintro e w' ⟨rfl, rfl⟩) | go_in)
    all_goals go_ret
    all_goals refine ⟨ret_b (by simp [h0, Bool.and_assoc]), ?_⟩
    all_goals repeat (first | exact Below.refl _ _ | apply below_alloc | apply below_drew1)

set_option maxHeartbeats 2000000 in
set_option maxRecDepth 100000 in
theorem fits2 (d a c k ba sz nn f regs words : Int) (w : World) :
    Calls Try.prog 29 #[.agg #[.int .i64 2, .int .i64 d, .int .i64 a, .int .i64 c, .int .i64 k, .int .i64 ba, .int .i64 sz, .int .u32 nn], .int .i64 f, .int .i64 regs, .int .i64 words] w fun e w' => e = .returned (.bool (wB d regs && wB a regs && (c == 0 && k == 0 && ba == 0 && sz == 0 && nn == 0))) ∧ Below w.heap.size w w' := by
  have hu48 := Try.underlying48
  cases h0 : wB d regs
  · skip
    go_enter Try.func29, Try.ntmps29
    all_goals go_wp2_with (first | (go_at_call 35; refine (within_calls _ _ _).mono ?_; rintro e w' ⟨rfl, rfl⟩) | go_in)
    all_goals go_ret
    all_goals refine ⟨ret_b (by simp [h0, Bool.and_assoc]), ?_⟩
    all_goals repeat (first | exact Below.refl _ _ | apply below_alloc | apply below_drew1)
  · skip
    obtain ⟨pd, qd⟩ := wB_true h0
    cases h1 : wB a regs
    · skip
      go_enter Try.func29, Try.ntmps29
      all_goals go_wp2_with (first | (go_at_call 35; refine (within_calls _ _ _).mono ?_; rintro e w' ⟨rfl, rfl⟩) | go_in)
      all_goals refine wp_loop_rounds 1 ?_
      all_goals rw [rounds_succ]
      all_goals go_wp2_with (first | (go_at_call 35; refine (within_calls _ _ _).mono ?_; rintro e w' ⟨rfl, rfl⟩) | go_in)
      all_goals go_ret
      all_goals refine ⟨ret_b (by simp [h0, h1, Bool.and_assoc]), ?_⟩
      all_goals repeat (first | exact Below.refl _ _ | apply below_alloc | apply below_drew1)
    · skip
      obtain ⟨pa, qa⟩ := wB_true h1
      go_enter Try.func29, Try.ntmps29
      all_goals go_wp2_with (first | (go_at_call 35; refine (within_calls _ _ _).mono ?_; rintro e w' ⟨rfl, rfl⟩) | go_in)
      all_goals refine wp_loop_rounds 2 ?_
      all_goals rw [rounds_succ]
      all_goals go_wp2_with (first | (go_at_call 35; refine (within_calls _ _ _).mono ?_; rintro e w' ⟨rfl, rfl⟩) | go_in)
      all_goals rw [rounds_succ]
      all_goals go_wp2_with (first | (go_at_call 35; refine (within_calls _ _ _).mono ?_; rintro e w' ⟨rfl, rfl⟩) | go_in)
      all_goals go_ret
      all_goals refine ⟨ret_b (by simp [h0, h1, Bool.and_assoc]), ?_⟩
      all_goals repeat (first | exact Below.refl _ _ | apply below_alloc | apply below_drew1)

set_option maxHeartbeats 2000000 in
set_option maxRecDepth 100000 in
theorem fits4 (d a c k ba sz nn f regs words : Int) (w : World) :
    Calls Try.prog 29 #[.agg #[.int .i64 4, .int .i64 d, .int .i64 a, .int .i64 c, .int .i64 k, .int .i64 ba, .int .i64 sz, .int .u32 nn], .int .i64 f, .int .i64 regs, .int .i64 words] w fun e w' => e = .returned (.bool (wB d regs && wB ba words && (a == 0 && c == 0 && k == 0 && sz == 0 && nn == 0))) ∧ Below w.heap.size w w' := by
  have hu48 := Try.underlying48
  cases h0 : wB d regs
  · skip
    go_enter Try.func29, Try.ntmps29
    all_goals go_wp2_with (first | (go_at_call 35; refine (within_calls _ _ _).mono ?_; rintro e w' ⟨rfl, rfl⟩) | go_in)
    all_goals go_ret
    all_goals refine ⟨ret_b (by simp [h0, Bool.and_assoc]), ?_⟩
    all_goals repeat (first | exact Below.refl _ _ | apply below_alloc | apply below_drew1)
  · skip
    obtain ⟨pd, qd⟩ := wB_true h0
    cases hx : wB ba words
    · skip
      go_enter Try.func29, Try.ntmps29
      all_goals go_wp2_with (first | (go_at_call 35; refine (within_calls _ _ _).mono ?_; rintro e w' ⟨rfl, rfl⟩) | go_in)
      all_goals refine wp_loop_rounds 1 ?_
      all_goals rw [rounds_succ]
      all_goals go_wp2_with (first | (go_at_call 35; refine (within_calls _ _ _).mono ?_; rintro e w' ⟨rfl, rfl⟩) | go_in)
      all_goals go_ret
      all_goals refine ⟨ret_b (by simp [h0, hx, Bool.and_assoc]), ?_⟩
      all_goals repeat (first | exact Below.refl _ _ | apply below_alloc | apply below_drew1)
    · skip
      go_enter Try.func29, Try.ntmps29
      all_goals go_wp2_with (first | (go_at_call 35; refine (within_calls _ _ _).mono ?_; rintro e w' ⟨rfl, rfl⟩) | go_in)
      all_goals refine wp_loop_rounds 1 ?_
      all_goals rw [rounds_succ]
      all_goals go_wp2_with (first | (go_at_call 35; refine (within_calls _ _ _).mono ?_; rintro e w' ⟨rfl, rfl⟩) | go_in)
      all_goals go_ret
      all_goals refine ⟨ret_b (by simp [h0, hx, Bool.and_assoc]), ?_⟩
      all_goals repeat (first | exact Below.refl _ _ | apply below_alloc | apply below_drew1)

set_option maxHeartbeats 2000000 in
set_option maxRecDepth 100000 in
theorem fits5 (d a c k ba sz nn f regs words : Int) (w : World) :
    Calls Try.prog 29 #[.agg #[.int .i64 5, .int .i64 d, .int .i64 a, .int .i64 c, .int .i64 k, .int .i64 ba, .int .i64 sz, .int .u32 nn], .int .i64 f, .int .i64 regs, .int .i64 words] w fun e w' => e = .returned (.bool (wB a regs && wB ba words && (d == 0 && c == 0 && k == 0 && sz == 0 && nn == 0))) ∧ Below w.heap.size w w' := by
  have hu48 := Try.underlying48
  cases h0 : wB a regs
  · skip
    go_enter Try.func29, Try.ntmps29
    all_goals go_wp2_with (first | (go_at_call 35; refine (within_calls _ _ _).mono ?_; rintro e w' ⟨rfl, rfl⟩) | go_in)
    all_goals refine wp_loop_rounds 1 ?_
    all_goals rw [rounds_succ]
    all_goals go_wp2_with (first | (go_at_call 35; refine (within_calls _ _ _).mono ?_; rintro e w' ⟨rfl, rfl⟩) | go_in)
    all_goals go_ret
    all_goals refine ⟨ret_b (by simp [h0, Bool.and_assoc]), ?_⟩
    all_goals repeat (first | exact Below.refl _ _ | apply below_alloc | apply below_drew1)
  · skip
    obtain ⟨pa, qa⟩ := wB_true h0
    cases hx : wB ba words
    · skip
      go_enter Try.func29, Try.ntmps29
      all_goals go_wp2_with (first | (go_at_call 35; refine (within_calls _ _ _).mono ?_; rintro e w' ⟨rfl, rfl⟩) | go_in)
      all_goals refine wp_loop_rounds 2 ?_
      all_goals rw [rounds_succ]
      all_goals go_wp2_with (first | (go_at_call 35; refine (within_calls _ _ _).mono ?_; rintro e w' ⟨rfl, rfl⟩) | go_in)
      all_goals rw [rounds_succ]
      all_goals go_wp2_with (first | (go_at_call 35; refine (within_calls _ _ _).mono ?_; rintro e w' ⟨rfl, rfl⟩) | go_in)
      all_goals go_ret
      all_goals refine ⟨ret_b (by simp [h0, hx, Bool.and_assoc]), ?_⟩
      all_goals repeat (first | exact Below.refl _ _ | apply below_alloc | apply below_drew1)
    · skip
      go_enter Try.func29, Try.ntmps29
      all_goals go_wp2_with (first | (go_at_call 35; refine (within_calls _ _ _).mono ?_; rintro e w' ⟨rfl, rfl⟩) | go_in)
      all_goals refine wp_loop_rounds 2 ?_
      all_goals rw [rounds_succ]
      all_goals go_wp2_with (first | (go_at_call 35; refine (within_calls _ _ _).mono ?_; rintro e w' ⟨rfl, rfl⟩) | go_in)
      all_goals rw [rounds_succ]
      all_goals go_wp2_with (first | (go_at_call 35; refine (within_calls _ _ _).mono ?_; rintro e w' ⟨rfl, rfl⟩) | go_in)
      all_goals go_ret
      all_goals refine ⟨ret_b (by simp [h0, hx, Bool.and_assoc]), ?_⟩
      all_goals repeat (first | exact Below.refl _ _ | apply below_alloc | apply below_drew1)

set_option maxHeartbeats 2000000 in
set_option maxRecDepth 100000 in
theorem fits8 (d a c k ba sz nn f regs words : Int) (w : World) :
    Calls Try.prog 29 #[.agg #[.int .i64 8, .int .i64 d, .int .i64 a, .int .i64 c, .int .i64 k, .int .i64 ba, .int .i64 sz, .int .u32 nn], .int .i64 f, .int .i64 regs, .int .i64 words] w fun e w' => e = .returned (.bool (wB d regs && (a == 0 && c == 0 && k == 0 && ba == 0 && sz == 0 && nn == 0))) ∧ Below w.heap.size w w' := by
  have hu48 := Try.underlying48
  cases h0 : wB d regs
  · skip
    go_enter Try.func29, Try.ntmps29
    all_goals go_wp2_with (first | (go_at_call 35; refine (within_calls _ _ _).mono ?_; rintro e w' ⟨rfl, rfl⟩) | go_in)
    all_goals go_ret
    all_goals refine ⟨ret_b (by simp [h0, Bool.and_assoc]), ?_⟩
    all_goals repeat (first | exact Below.refl _ _ | apply below_alloc | apply below_drew1)
  · skip
    obtain ⟨pd, qd⟩ := wB_true h0
    go_enter Try.func29, Try.ntmps29
    all_goals go_wp2_with (first | (go_at_call 35; refine (within_calls _ _ _).mono ?_; rintro e w' ⟨rfl, rfl⟩) | go_in)
    all_goals refine wp_loop_rounds 1 ?_
    all_goals rw [rounds_succ]
    all_goals go_wp2_with (first | (go_at_call 35; refine (within_calls _ _ _).mono ?_; rintro e w' ⟨rfl, rfl⟩) | go_in)
    all_goals go_ret
    all_goals refine ⟨ret_b (by simp [h0, Bool.and_assoc]), ?_⟩
    all_goals repeat (first | exact Below.refl _ _ | apply below_alloc | apply below_drew1)


end Go.Proofs.Ytggchfdjpfodfaa.K
set_option linter.unusedVariables false
set_option linter.unusedSimpArgs false
namespace Go.Proofs.Ytggchfdjpfodfaa.K
open Go.RowKit Go.Proofs.YtggchfdjpfodfaaW.PrintWords Go.Proofs.YtggchfdjpfodfaaW.PrintLast Go.Proofs.YtggchfdjpfodfaaW.PrintMore Go.Proofs.Ytggchfdjpfodfaa.G
open Sp
attribute [local go_sem high] eqA48

set_option maxHeartbeats 2000000 in
set_option maxRecDepth 100000 in
theorem fits3 (d a c k ba sz nn f regs words : Int) (w : World) :
    Calls Try.prog 29 #[.agg #[.int .i64 3, .int .i64 d, .int .i64 a, .int .i64 c, .int .i64 k, .int .i64 ba, .int .i64 sz, .int .u32 nn], .int .i64 f, .int .i64 regs, .int .i64 words] w fun e w' => e = .returned (.bool (wB d regs && wB a regs && wB c regs && wB (k - 4) 12 && (ba == 0 && sz == 0 && nn == 0))) ∧ Below w.heap.size w w' := by
  have hu48 := Try.underlying48
  cases h0 : wB d regs
  · skip
    go_enter Try.func29, Try.ntmps29
    all_goals go_wp2_with (first | (go_at_call 35; refine (within_calls _ _ _).mono ?_; rintro e w' ⟨rfl, rfl⟩) | go_in)
    all_goals go_ret
    all_goals refine ⟨ret_b (by simp [h0, Bool.and_assoc]), ?_⟩
    all_goals repeat (first | exact Below.refl _ _ | apply below_alloc | apply below_drew1)
  · skip
    obtain ⟨pd, qd⟩ := wB_true h0
    cases h1 : wB a regs
    · skip
      go_enter Try.func29, Try.ntmps29
      all_goals go_wp2_with (first | (go_at_call 35; refine (within_calls _ _ _).mono ?_; rintro e w' ⟨rfl, rfl⟩) | go_in)
      all_goals refine wp_loop_rounds 1 ?_
      all_goals rw [rounds_succ]
      all_goals go_wp2_with (first | (go_at_call 35; refine (within_calls _ _ _).mono ?_; rintro e w' ⟨rfl, rfl⟩) | go_in)
      all_goals go_ret
      all_goals refine ⟨ret_b (by simp [h0, h1, Bool.and_assoc]), ?_⟩
      all_goals repeat (first | exact Below.refl _ _ | apply below_alloc | apply below_drew1)
    · skip
      obtain ⟨pa, qa⟩ := wB_true h1
      cases h2 : wB c regs
      · skip
        go_enter Try.func29, Try.ntmps29
        all_goals go_wp2_with (first | (go_at_call 35; refine (within_calls _ _ _).mono ?_; rintro e w' ⟨rfl, rfl⟩) | go_in)
        all_goals refine wp_loop_rounds 2 ?_
        all_goals rw [rounds_succ]
        all_goals go_wp2_with (first | (go_at_call 35; refine (within_calls _ _ _).mono ?_; rintro e w' ⟨rfl, rfl⟩) | go_in)
        all_goals rw [rounds_succ]
        all_goals go_wp2_with (first | (go_at_call 35; refine (within_calls _ _ _).mono ?_; rintro e w' ⟨rfl, rfl⟩) | go_in)
        all_goals go_ret
        all_goals refine ⟨ret_b (by simp [h0, h1, h2, Bool.and_assoc]), ?_⟩
        all_goals repeat (first | exact Below.refl _ _ | apply below_alloc | apply below_drew1)
      · skip
        obtain ⟨pc, qc⟩ := wB_true h2
        cases hx : wB (k - 4) 12
        · rcases k_false hx with hk | hk
          · skip
            go_enter Try.func29, Try.ntmps29
            all_goals go_wp2_with (first | (go_at_call 35; refine (within_calls _ _ _).mono ?_; rintro e w' ⟨rfl, rfl⟩) | go_in)
            all_goals refine wp_loop_rounds 3 ?_
            all_goals rw [rounds_succ]
            all_goals go_wp2_with (first | (go_at_call 35; refine (within_calls _ _ _).mono ?_; rintro e w' ⟨rfl, rfl⟩) | go_in)
            all_goals rw [rounds_succ]
            all_goals go_wp2_with (first | (go_at_call 35; refine (within_calls _ _ _).mono ?_; rintro e w' ⟨rfl, rfl⟩) | go_in)
            all_goals rw [rounds_succ]
            all_goals go_wp2_with (first | (go_at_call 35; refine (within_calls _ _ _).mono ?_; rintro e w' ⟨rfl, rfl⟩) | go_in)
            all_goals go_ret
            all_goals refine ⟨ret_b (by simp [h0, h1, h2, hx, Bool.and_assoc]), ?_⟩
            all_goals repeat (first | exact Below.refl _ _ | apply below_alloc | apply below_drew1)
          · skip
            go_enter Try.func29, Try.ntmps29
            all_goals go_wp2_with (first | (go_at_call 35; refine (within_calls _ _ _).mono ?_; rintro e w' ⟨rfl, rfl⟩) | go_in)
            all_goals refine wp_loop_rounds 3 ?_
            all_goals rw [rounds_succ]
            all_goals go_wp2_with (first | (go_at_call 35; refine (within_calls _ _ _).mono ?_; rintro e w' ⟨rfl, rfl⟩) | go_in)
            all_goals rw [rounds_succ]
            all_goals go_wp2_with (first | (go_at_call 35; refine (within_calls _ _ _).mono ?_; rintro e w' ⟨rfl, rfl⟩) | go_in)
            all_goals rw [rounds_succ]
            all_goals go_wp2_with (first | (go_at_call 35; refine (within_calls _ _ _).mono ?_; rintro e w' ⟨rfl, rfl⟩) | go_in)
            all_goals go_ret
            all_goals refine ⟨ret_b (by simp [h0, h1, h2, hx, Bool.and_assoc]), ?_⟩
            all_goals repeat (first | exact Below.refl _ _ | apply below_alloc | apply below_drew1)
        · obtain ⟨hk, hk1⟩ := k_true hx
          go_enter Try.func29, Try.ntmps29
          all_goals go_wp2_with (first | (go_at_call 35; refine (within_calls _ _ _).mono ?_; rintro e w' ⟨rfl, rfl⟩) | go_in)
          all_goals refine wp_loop_rounds 3 ?_
          all_goals rw [rounds_succ]
          all_goals go_wp2_with (first | (go_at_call 35; refine (within_calls _ _ _).mono ?_; rintro e w' ⟨rfl, rfl⟩) | go_in)
          all_goals rw [rounds_succ]
          all_goals go_wp2_with (first | (go_at_call 35; refine (within_calls _ _ _).mono ?_; rintro e w' ⟨rfl, rfl⟩) | go_in)
          all_goals rw [rounds_succ]
          all_goals go_wp2_with (first | (go_at_call 35; refine (within_calls _ _ _).mono ?_; rintro e w' ⟨rfl, rfl⟩) | go_in)
          all_goals go_ret
          all_goals refine ⟨ret_b (by simp [h0, h1, h2, hx, Bool.and_assoc]), ?_⟩
          all_goals repeat (first | exact Below.refl _ _ | apply below_alloc | apply below_drew1)

set_option maxHeartbeats 2000000 in
set_option maxRecDepth 100000 in
theorem fits9 (d a c k ba sz nn f regs words : Int) (w : World) :
    Calls Try.prog 29 #[.agg #[.int .i64 9, .int .i64 d, .int .i64 a, .int .i64 c, .int .i64 k, .int .i64 ba, .int .i64 sz, .int .u32 nn], .int .i64 f, .int .i64 regs, .int .i64 words] w fun e w' => e = .returned (.bool (wB a regs && (d == 0 && c == 0 && k == 0 && ba == 0 && sz == 0 && nn == 0))) ∧ Below w.heap.size w w' := by
  have hu48 := Try.underlying48
  cases h0 : wB a regs
  · skip
    go_enter Try.func29, Try.ntmps29
    all_goals go_wp2_with (first | (go_at_call 35; refine (within_calls _ _ _).mono ?_; rintro e w' ⟨rfl, rfl⟩) | go_in)
    all_goals refine wp_loop_rounds 1 ?_
    all_goals rw [rounds_succ]
    all_goals go_wp2_with (first | (go_at_call 35; refine (within_calls _ _ _).mono ?_; rintro e w' ⟨rfl, rfl⟩) | go_in)
    all_goals go_ret
    all_goals refine ⟨ret_b (by simp [h0, Bool.and_assoc]), ?_⟩
    all_goals repeat (first | exact Below.refl _ _ | apply below_alloc | apply below_drew1)
  · skip
    obtain ⟨pa, qa⟩ := wB_true h0
    go_enter Try.func29, Try.ntmps29
    all_goals go_wp2_with (first | (go_at_call 35; refine (within_calls _ _ _).mono ?_; rintro e w' ⟨rfl, rfl⟩) | go_in)
    all_goals refine wp_loop_rounds 2 ?_
    all_goals rw [rounds_succ]
    all_goals go_wp2_with (first | (go_at_call 35; refine (within_calls _ _ _).mono ?_; rintro e w' ⟨rfl, rfl⟩) | go_in)
    all_goals rw [rounds_succ]
    all_goals go_wp2_with (first | (go_at_call 35; refine (within_calls _ _ _).mono ?_; rintro e w' ⟨rfl, rfl⟩) | go_in)
    all_goals go_ret
    all_goals refine ⟨ret_b (by simp [h0, Bool.and_assoc]), ?_⟩
    all_goals repeat (first | exact Below.refl _ _ | apply below_alloc | apply below_drew1)

set_option maxHeartbeats 2000000 in
set_option maxRecDepth 100000 in
theorem fits10 (d a c k ba sz nn f regs words : Int) (w : World) :
    Calls Try.prog 29 #[.agg #[.int .i64 10, .int .i64 d, .int .i64 a, .int .i64 c, .int .i64 k, .int .i64 ba, .int .i64 sz, .int .u32 nn], .int .i64 f, .int .i64 regs, .int .i64 words] w fun e w' => e = .returned (.bool (wB ba f && (d == 0 && a == 0 && c == 0 && k == 0 && sz == 0 && nn == 0))) ∧ Below w.heap.size w w' := by
  have hu48 := Try.underlying48
  cases hx : wB ba f
  · skip
    go_enter Try.func29, Try.ntmps29
    all_goals go_wp2_with (first | (go_at_call 35; refine (within_calls _ _ _).mono ?_; rintro e w' ⟨rfl, rfl⟩) | go_in)
    all_goals refine wp_loop_rounds 1 ?_
    all_goals rw [rounds_succ]
    all_goals go_wp2_with (first | (go_at_call 35; refine (within_calls _ _ _).mono ?_; rintro e w' ⟨rfl, rfl⟩) | go_in)
    all_goals go_ret
    all_goals refine ⟨ret_b (by simp [hx, Bool.and_assoc]), ?_⟩
    all_goals repeat (first | exact Below.refl _ _ | apply below_alloc | apply below_drew1)
  · skip
    go_enter Try.func29, Try.ntmps29
    all_goals go_wp2_with (first | (go_at_call 35; refine (within_calls _ _ _).mono ?_; rintro e w' ⟨rfl, rfl⟩) | go_in)
    all_goals refine wp_loop_rounds 1 ?_
    all_goals rw [rounds_succ]
    all_goals go_wp2_with (first | (go_at_call 35; refine (within_calls _ _ _).mono ?_; rintro e w' ⟨rfl, rfl⟩) | go_in)
    all_goals go_ret
    all_goals refine ⟨ret_b (by simp [hx, Bool.and_assoc]), ?_⟩
    all_goals repeat (first | exact Below.refl _ _ | apply below_alloc | apply below_drew1)

end Go.Proofs.Ytggchfdjpfodfaa.K
set_option linter.unusedVariables false
set_option linter.unusedSimpArgs false
namespace Go.Proofs.Ytggchfdjpfodfaa.K
open Go.RowKit Go.Proofs.YtggchfdjpfodfaaW.PrintWords Go.Proofs.YtggchfdjpfodfaaW.PrintLast Go.Proofs.YtggchfdjpfodfaaW.PrintMore Go.Proofs.Ytggchfdjpfodfaa.G
open Sp
attribute [local go_sem high] eqA48

set_option maxHeartbeats 2000000 in
set_option maxRecDepth 100000 in
theorem fits6 (d a c k ba sz nn f regs words : Int) (w : World) (hw : 0 ≤ words ∧ words ≤ 1048576) (hsz : -9223372036854775808 ≤ sz ∧ sz ≤ 9223372036854775807) :
    Calls Try.prog 29 #[.agg #[.int .i64 6, .int .i64 d, .int .i64 a, .int .i64 c, .int .i64 k, .int .i64 ba, .int .i64 sz, .int .u32 nn], .int .i64 f, .int .i64 regs, .int .i64 words] w fun e w' => e = .returned (.bool (wB d regs && wB a regs && arrB ba sz words && (c == 0 && k == 0 && nn == 0))) ∧ Below w.heap.size w w' := by
  have hu48 := Try.underlying48
  obtain ⟨hw0, hw1⟩ := hw
  obtain ⟨hs0, hs1⟩ := hsz
  cases h0 : wB d regs
  · skip
    go_enter Try.func29, Try.ntmps29
    all_goals go_wp2_with (first | (go_at_call 35; refine (within_calls _ _ _).mono ?_; rintro e w' ⟨rfl, rfl⟩) | go_in)
    all_goals go_ret
    all_goals refine ⟨ret_b (by simp [h0, Bool.and_assoc]), ?_⟩
    all_goals repeat (first | exact Below.refl _ _ | apply below_alloc | apply below_drew1)
  · skip
    obtain ⟨pd, qd⟩ := wB_true h0
    cases h1 : wB a regs
    · skip
      go_enter Try.func29, Try.ntmps29
      all_goals go_wp2_with (first | (go_at_call 35; refine (within_calls _ _ _).mono ?_; rintro e w' ⟨rfl, rfl⟩) | go_in)
      all_goals refine wp_loop_rounds 1 ?_
      all_goals rw [rounds_succ]
      all_goals go_wp2_with (first | (go_at_call 35; refine (within_calls _ _ _).mono ?_; rintro e w' ⟨rfl, rfl⟩) | go_in)
      all_goals go_ret
      all_goals refine ⟨ret_b (by simp [h0, h1, Bool.and_assoc]), ?_⟩
      all_goals repeat (first | exact Below.refl _ _ | apply below_alloc | apply below_drew1)
    · skip
      obtain ⟨pa, qa⟩ := wB_true h1
      cases hx : arrB ba sz words
      · rcases arr_false hx with hk | ⟨hk, hk1⟩ | ⟨hk, hk1, hk2⟩ | ⟨hk, hk1, hk2, hk3⟩
        · skip
          go_enter Try.func29, Try.ntmps29
          all_goals go_wp2_with (first | (go_at_call 35; refine (within_calls _ _ _).mono ?_; rintro e w' ⟨rfl, rfl⟩) | go_in)
          all_goals refine wp_loop_rounds 2 ?_
          all_goals rw [rounds_succ]
          all_goals go_wp2_with (first | (go_at_call 35; refine (within_calls _ _ _).mono ?_; rintro e w' ⟨rfl, rfl⟩) | go_in)
          all_goals rw [rounds_succ]
          all_goals go_wp2_with (first | (go_at_call 35; refine (within_calls _ _ _).mono ?_; rintro e w' ⟨rfl, rfl⟩) | go_in)
          all_goals go_region
          all_goals go_wp2_with (first | (go_at_call 35; refine (within_calls _ _ _).mono ?_; rintro e w' ⟨rfl, rfl⟩) | go_in)
          all_goals go_ret
          all_goals refine ⟨ret_b (by simp [h0, h1, hx, Bool.and_assoc]), ?_⟩
          all_goals repeat (first | exact Below.refl _ _ | apply below_alloc | apply below_drew1)
        · skip
          go_enter Try.func29, Try.ntmps29
          all_goals go_wp2_with (first | (go_at_call 35; refine (within_calls _ _ _).mono ?_; rintro e w' ⟨rfl, rfl⟩) | go_in)
          all_goals refine wp_loop_rounds 2 ?_
          all_goals rw [rounds_succ]
          all_goals go_wp2_with (first | (go_at_call 35; refine (within_calls _ _ _).mono ?_; rintro e w' ⟨rfl, rfl⟩) | go_in)
          all_goals rw [rounds_succ]
          all_goals go_wp2_with (first | (go_at_call 35; refine (within_calls _ _ _).mono ?_; rintro e w' ⟨rfl, rfl⟩) | go_in)
          all_goals go_region
          all_goals go_wp2_with (first | (go_at_call 35; refine (within_calls _ _ _).mono ?_; rintro e w' ⟨rfl, rfl⟩) | go_in)
          all_goals go_ret
          all_goals refine ⟨ret_b (by simp [h0, h1, hx, Bool.and_assoc]), ?_⟩
          all_goals repeat (first | exact Below.refl _ _ | apply below_alloc | apply below_drew1)
        · skip
          go_enter Try.func29, Try.ntmps29
          all_goals go_wp2_with (first | (go_at_call 35; refine (within_calls _ _ _).mono ?_; rintro e w' ⟨rfl, rfl⟩) | go_in)
          all_goals refine wp_loop_rounds 2 ?_
          all_goals rw [rounds_succ]
          all_goals go_wp2_with (first | (go_at_call 35; refine (within_calls _ _ _).mono ?_; rintro e w' ⟨rfl, rfl⟩) | go_in)
          all_goals rw [rounds_succ]
          all_goals go_wp2_with (first | (go_at_call 35; refine (within_calls _ _ _).mono ?_; rintro e w' ⟨rfl, rfl⟩) | go_in)
          all_goals go_region
          all_goals go_wp2_with (first | (go_at_call 35; refine (within_calls _ _ _).mono ?_; rintro e w' ⟨rfl, rfl⟩) | go_in)
          all_goals go_ret
          all_goals refine ⟨ret_b (by simp [h0, h1, hx, Bool.and_assoc]), ?_⟩
          all_goals repeat (first | exact Below.refl _ _ | apply below_alloc | apply below_drew1)
        · skip
          go_enter Try.func29, Try.ntmps29
          all_goals go_wp2_with (first | (go_at_call 35; refine (within_calls _ _ _).mono ?_; rintro e w' ⟨rfl, rfl⟩) | go_in)
          all_goals refine wp_loop_rounds 2 ?_
          all_goals rw [rounds_succ]
          all_goals go_wp2_with (first | (go_at_call 35; refine (within_calls _ _ _).mono ?_; rintro e w' ⟨rfl, rfl⟩) | go_in)
          all_goals rw [rounds_succ]
          all_goals go_wp2_with (first | (go_at_call 35; refine (within_calls _ _ _).mono ?_; rintro e w' ⟨rfl, rfl⟩) | go_in)
          all_goals go_region
          all_goals go_wp2_with (first | (go_at_call 35; refine (within_calls _ _ _).mono ?_; rintro e w' ⟨rfl, rfl⟩) | go_in)
          all_goals go_ret
          all_goals refine ⟨ret_b (by simp [h0, h1, hx, Bool.and_assoc]), ?_⟩
          all_goals repeat (first | exact Below.refl _ _ | apply below_alloc | apply below_drew1)
      · obtain ⟨hk, hk1, hk2, hk3⟩ := arr_true hx
        go_enter Try.func29, Try.ntmps29
        all_goals go_wp2_with (first | (go_at_call 35; refine (within_calls _ _ _).mono ?_; rintro e w' ⟨rfl, rfl⟩) | go_in)
        all_goals refine wp_loop_rounds 2 ?_
        all_goals rw [rounds_succ]
        all_goals go_wp2_with (first | (go_at_call 35; refine (within_calls _ _ _).mono ?_; rintro e w' ⟨rfl, rfl⟩) | go_in)
        all_goals rw [rounds_succ]
        all_goals go_wp2_with (first | (go_at_call 35; refine (within_calls _ _ _).mono ?_; rintro e w' ⟨rfl, rfl⟩) | go_in)
        all_goals go_region
        all_goals go_wp2_with (first | (go_at_call 35; refine (within_calls _ _ _).mono ?_; rintro e w' ⟨rfl, rfl⟩) | go_in)
        all_goals go_ret
        all_goals refine ⟨ret_b (by simp [h0, h1, hx, Bool.and_assoc]), ?_⟩
        all_goals repeat (first | exact Below.refl _ _ | apply below_alloc | apply below_drew1)


end Go.Proofs.Ytggchfdjpfodfaa.K
set_option linter.unusedVariables false
set_option linter.unusedSimpArgs false
namespace Go.Proofs.Ytggchfdjpfodfaa.K
open Go.RowKit Go.Proofs.YtggchfdjpfodfaaW.PrintWords Go.Proofs.YtggchfdjpfodfaaW.PrintLast Go.Proofs.YtggchfdjpfodfaaW.PrintMore Go.Proofs.Ytggchfdjpfodfaa.G
open Sp
attribute [local go_sem high] eqA48

set_option maxHeartbeats 2000000 in
set_option maxRecDepth 100000 in
theorem fits7 (d a c k ba sz nn f regs words : Int) (w : World) (hw : 0 ≤ words ∧ words ≤ 1048576) (hsz : -9223372036854775808 ≤ sz ∧ sz ≤ 9223372036854775807) :
    Calls Try.prog 29 #[.agg #[.int .i64 7, .int .i64 d, .int .i64 a, .int .i64 c, .int .i64 k, .int .i64 ba, .int .i64 sz, .int .u32 nn], .int .i64 f, .int .i64 regs, .int .i64 words] w fun e w' => e = .returned (.bool (wB a regs && wB c regs && arrB ba sz words && (d == 0 && k == 0 && nn == 0))) ∧ Below w.heap.size w w' := by
  have hu48 := Try.underlying48
  obtain ⟨hw0, hw1⟩ := hw
  obtain ⟨hs0, hs1⟩ := hsz
  cases h0 : wB a regs
  · skip
    go_enter Try.func29, Try.ntmps29
    all_goals go_wp2_with (first | (go_at_call 35; refine (within_calls _ _ _).mono ?_; rintro e w' ⟨rfl, rfl⟩) | go_in)
    all_goals refine wp_loop_rounds 1 ?_
    all_goals rw [rounds_succ]
    all_goals go_wp2_with (first | (go_at_call 35; refine (within_calls _ _ _).mono ?_; rintro e w' ⟨rfl, rfl⟩) | go_in)
    all_goals go_ret
    all_goals refine ⟨ret_b (by simp [h0, Bool.and_assoc]), ?_⟩
    all_goals repeat (first | exact Below.refl _ _ | apply below_alloc | apply below_drew1)
  · skip
    obtain ⟨pa, qa⟩ := wB_true h0
    cases h1 : wB c regs
    · skip
      go_enter Try.func29, Try.ntmps29
      all_goals go_wp2_with (first | (go_at_call 35; refine (within_calls _ _ _).mono ?_; rintro e w' ⟨rfl, rfl⟩) | go_in)
      all_goals refine wp_loop_rounds 2 ?_
      all_goals rw [rounds_succ]
      all_goals go_wp2_with (first | (go_at_call 35; refine (within_calls _ _ _).mono ?_; rintro e w' ⟨rfl, rfl⟩) | go_in)
      all_goals rw [rounds_succ]
      all_goals go_wp2_with (first | (go_at_call 35; refine (within_calls _ _ _).mono ?_; rintro e w' ⟨rfl, rfl⟩) | go_in)
      all_goals go_ret
      all_goals refine ⟨ret_b (by simp [h0, h1, Bool.and_assoc]), ?_⟩
      all_goals repeat (first | exact Below.refl _ _ | apply below_alloc | apply below_drew1)
    · skip
      obtain ⟨pc, qc⟩ := wB_true h1
      cases hx : arrB ba sz words
      · rcases arr_false hx with hk | ⟨hk, hk1⟩ | ⟨hk, hk1, hk2⟩ | ⟨hk, hk1, hk2, hk3⟩
        · skip
          go_enter Try.func29, Try.ntmps29
          all_goals go_wp2_with (first | (go_at_call 35; refine (within_calls _ _ _).mono ?_; rintro e w' ⟨rfl, rfl⟩) | go_in)
          all_goals refine wp_loop_rounds 3 ?_
          all_goals rw [rounds_succ]
          all_goals go_wp2_with (first | (go_at_call 35; refine (within_calls _ _ _).mono ?_; rintro e w' ⟨rfl, rfl⟩) | go_in)
          all_goals rw [rounds_succ]
          all_goals go_wp2_with (first | (go_at_call 35; refine (within_calls _ _ _).mono ?_; rintro e w' ⟨rfl, rfl⟩) | go_in)
          all_goals rw [rounds_succ]
          all_goals go_wp2_with (first | (go_at_call 35; refine (within_calls _ _ _).mono ?_; rintro e w' ⟨rfl, rfl⟩) | go_in)
          all_goals go_region
          all_goals go_wp2_with (first | (go_at_call 35; refine (within_calls _ _ _).mono ?_; rintro e w' ⟨rfl, rfl⟩) | go_in)
          all_goals go_ret
          all_goals refine ⟨ret_b (by simp [h0, h1, hx, Bool.and_assoc]), ?_⟩
          all_goals repeat (first | exact Below.refl _ _ | apply below_alloc | apply below_drew1)
        · skip
          go_enter Try.func29, Try.ntmps29
          all_goals go_wp2_with (first | (go_at_call 35; refine (within_calls _ _ _).mono ?_; rintro e w' ⟨rfl, rfl⟩) | go_in)
          all_goals refine wp_loop_rounds 3 ?_
          all_goals rw [rounds_succ]
          all_goals go_wp2_with (first | (go_at_call 35; refine (within_calls _ _ _).mono ?_; rintro e w' ⟨rfl, rfl⟩) | go_in)
          all_goals rw [rounds_succ]
          all_goals go_wp2_with (first | (go_at_call 35; refine (within_calls _ _ _).mono ?_; rintro e w' ⟨rfl, rfl⟩) | go_in)
          all_goals rw [rounds_succ]
          all_goals go_wp2_with (first | (go_at_call 35; refine (within_calls _ _ _).mono ?_; rintro e w' ⟨rfl, rfl⟩) | go_in)
          all_goals go_region
          all_goals go_wp2_with (first | (go_at_call 35; refine (within_calls _ _ _).mono ?_; rintro e w' ⟨rfl, rfl⟩) | go_in)
          all_goals go_ret
          all_goals refine ⟨ret_b (by simp [h0, h1, hx, Bool.and_assoc]), ?_⟩
          all_goals repeat (first | exact Below.refl _ _ | apply below_alloc | apply below_drew1)
        · skip
          go_enter Try.func29, Try.ntmps29
          all_goals go_wp2_with (first | (go_at_call 35; refine (within_calls _ _ _).mono ?_; rintro e w' ⟨rfl, rfl⟩) | go_in)
          all_goals refine wp_loop_rounds 3 ?_
          all_goals rw [rounds_succ]
          all_goals go_wp2_with (first | (go_at_call 35; refine (within_calls _ _ _).mono ?_; rintro e w' ⟨rfl, rfl⟩) | go_in)
          all_goals rw [rounds_succ]
          all_goals go_wp2_with (first | (go_at_call 35; refine (within_calls _ _ _).mono ?_; rintro e w' ⟨rfl, rfl⟩) | go_in)
          all_goals rw [rounds_succ]
          all_goals go_wp2_with (first | (go_at_call 35; refine (within_calls _ _ _).mono ?_; rintro e w' ⟨rfl, rfl⟩) | go_in)
          all_goals go_region
          all_goals go_wp2_with (first | (go_at_call 35; refine (within_calls _ _ _).mono ?_; rintro e w' ⟨rfl, rfl⟩) | go_in)
          all_goals go_ret
          all_goals refine ⟨ret_b (by simp [h0, h1, hx, Bool.and_assoc]), ?_⟩
          all_goals repeat (first | exact Below.refl _ _ | apply below_alloc | apply below_drew1)
        · skip
          go_enter Try.func29, Try.ntmps29
          all_goals go_wp2_with (first | (go_at_call 35; refine (within_calls _ _ _).mono ?_; rintro e w' ⟨rfl, rfl⟩) | go_in)
          all_goals refine wp_loop_rounds 3 ?_
          all_goals rw [rounds_succ]
          all_goals go_wp2_with (first | (go_at_call 35; refine (within_calls _ _ _).mono ?_; rintro e w' ⟨rfl, rfl⟩) | go_in)
          all_goals rw [rounds_succ]
          all_goals go_wp2_with (first | (go_at_call 35; refine (within_calls _ _ _).mono ?_; rintro e w' ⟨rfl, rfl⟩) | go_in)
          all_goals rw [rounds_succ]
          all_goals go_wp2_with (first | (go_at_call 35; refine (within_calls _ _ _).mono ?_; rintro e w' ⟨rfl, rfl⟩) | go_in)
          all_goals go_region
          all_goals go_wp2_with (first | (go_at_call 35; refine (within_calls _ _ _).mono ?_; rintro e w' ⟨rfl, rfl⟩) | go_in)
          all_goals go_ret
          all_goals refine ⟨ret_b (by simp [h0, h1, hx, Bool.and_assoc]), ?_⟩
          all_goals repeat (first | exact Below.refl _ _ | apply below_alloc | apply below_drew1)
      · obtain ⟨hk, hk1, hk2, hk3⟩ := arr_true hx
        go_enter Try.func29, Try.ntmps29
        all_goals go_wp2_with (first | (go_at_call 35; refine (within_calls _ _ _).mono ?_; rintro e w' ⟨rfl, rfl⟩) | go_in)
        all_goals refine wp_loop_rounds 3 ?_
        all_goals rw [rounds_succ]
        all_goals go_wp2_with (first | (go_at_call 35; refine (within_calls _ _ _).mono ?_; rintro e w' ⟨rfl, rfl⟩) | go_in)
        all_goals rw [rounds_succ]
        all_goals go_wp2_with (first | (go_at_call 35; refine (within_calls _ _ _).mono ?_; rintro e w' ⟨rfl, rfl⟩) | go_in)
        all_goals rw [rounds_succ]
        all_goals go_wp2_with (first | (go_at_call 35; refine (within_calls _ _ _).mono ?_; rintro e w' ⟨rfl, rfl⟩) | go_in)
        all_goals go_region
        all_goals go_wp2_with (first | (go_at_call 35; refine (within_calls _ _ _).mono ?_; rintro e w' ⟨rfl, rfl⟩) | go_in)
        all_goals go_ret
        all_goals refine ⟨ret_b (by simp [h0, h1, hx, Bool.and_assoc]), ?_⟩
        all_goals repeat (first | exact Below.refl _ _ | apply below_alloc | apply below_drew1)


end Go.Proofs.Ytggchfdjpfodfaa.K
set_option linter.unusedVariables false
set_option linter.unusedSimpArgs false
namespace Go.Proofs.Ytggchfdjpfodfaa.K
open Go.RowKit Go.Proofs.YtggchfdjpfodfaaW.PrintWords Go.Proofs.YtggchfdjpfodfaaW.PrintLast Go.Proofs.YtggchfdjpfodfaaW.PrintMore Go.Proofs.Ytggchfdjpfodfaa.G
open Sp
attribute [local go_sem high] eqA48

/-- May an instruction be? -/
def fitsB (op d a c k ba sz nn f regs words : Int) : Bool := if op = 1 then wB d regs && (a == 0 && c == 0 && k == 0 && ba == 0 && sz == 0) else if op = 2 then wB d regs && wB a regs && (c == 0 && k == 0 && ba == 0 && sz == 0 && nn == 0) else if op = 3 then wB d regs && wB a regs && wB c regs && wB (k - 4) 12 && (ba == 0 && sz == 0 && nn == 0) else if op = 4 then wB d regs && wB ba words && (a == 0 && c == 0 && k == 0 && sz == 0 && nn == 0) else if op = 5 then wB a regs && wB ba words && (d == 0 && c == 0 && k == 0 && sz == 0 && nn == 0) else if op = 6 then wB d regs && wB a regs && arrB ba sz words && (c == 0 && k == 0 && nn == 0) else if op = 7 then wB a regs && wB c regs && arrB ba sz words && (d == 0 && k == 0 && nn == 0) else if op = 8 then wB d regs && (a == 0 && c == 0 && k == 0 && ba == 0 && sz == 0 && nn == 0) else if op = 9 then wB a regs && (d == 0 && c == 0 && k == 0 && ba == 0 && sz == 0 && nn == 0) else if op = 10 then wB ba f && (d == 0 && a == 0 && c == 0 && k == 0 && sz == 0 && nn == 0) else false
set_option maxHeartbeats 2000000 in
set_option maxRecDepth 100000 in
theorem fits_calls (op d a c k ba sz nn f regs words : Int) (w : World) (hw : 0 ≤ words ∧ words ≤ 1048576) (hsz : -9223372036854775808 ≤ sz ∧ sz ≤ 9223372036854775807) :
    Calls Try.prog 29 #[.agg #[.int .i64 op, .int .i64 d, .int .i64 a, .int .i64 c, .int .i64 k, .int .i64 ba, .int .i64 sz, .int .u32 nn], .int .i64 f, .int .i64 regs, .int .i64 words] w fun e w' => e = .returned (.bool (fitsB op d a c k ba sz nn f regs words)) ∧ Below w.heap.size w w' := by
  by_cases hr : 1 ≤ op ∧ op ≤ 10
  · obtain rfl | rfl | rfl | rfl | rfl | rfl | rfl | rfl | rfl | rfl : op = 1 ∨ op = 2 ∨ op = 3 ∨ op = 4 ∨ op = 5 ∨ op = 6 ∨ op = 7 ∨ op = 8 ∨ op = 9 ∨ op = 10 := by omega
    · exact fits1 _ _ _ _ _ _ _ _ _ _ w
    · exact fits2 _ _ _ _ _ _ _ _ _ _ w
    · exact fits3 _ _ _ _ _ _ _ _ _ _ w
    · exact fits4 _ _ _ _ _ _ _ _ _ _ w
    · exact fits5 _ _ _ _ _ _ _ _ _ _ w
    · exact fits6 _ _ _ _ _ _ _ _ _ _ w hw hsz
    · exact fits7 _ _ _ _ _ _ _ _ _ _ w hw hsz
    · exact fits8 _ _ _ _ _ _ _ _ _ _ w
    · exact fits9 _ _ _ _ _ _ _ _ _ _ w
    · exact fits10 _ _ _ _ _ _ _ _ _ _ w
  · have hb : fitsB op d a c k ba sz nn f regs words = false := by
      unfold fitsB
      rw [if_neg (by omega), if_neg (by omega), if_neg (by omega), if_neg (by omega), if_neg (by omega), if_neg (by omega), if_neg (by omega), if_neg (by omega), if_neg (by omega), if_neg (by omega)]
    rw [hb]
    have hu48 := Try.underlying48
    rcases (by omega : op < 1 ∨ (1 ≤ op ∧ 10 < op)) with h | ⟨h, h1⟩
    all_goals
      go_enter Try.func29, Try.ntmps29
      go_wp2_with (fail)
      go_ret
      exact ⟨rfl, below_alloc (Below.refl _ _) _⟩

end Go.Proofs.Ytggchfdjpfodfaa.K

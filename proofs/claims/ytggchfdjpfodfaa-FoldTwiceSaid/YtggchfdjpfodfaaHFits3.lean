/- fits, walked, a part of its arms: it tells what fitsB says. Condition: the numbers are whole numbers of 64 bits. -/
import Derived.Test.YtggchfdjpfodfaaHFits0
import Derived.Test.YtggchfdjpfodfaaPFoldOfx1
set_option linter.unusedVariables false
set_option linter.unusedSimpArgs false
namespace Go.Proofs.Ytggchfdjpfodfaa.H
open Go.RowKit Go.Proofs.YtggchfdjpfodfaaW.PrintWords Go.Proofs.YtggchfdjpfodfaaW.PrintLast Go.Proofs.YtggchfdjpfodfaaW.PrintMore Go.Proofs.Ytggchfdjpfodfaa.PFoldOf
open Sp
attribute [local go_sem high] eqA48

set_option maxHeartbeats 2000000 in
set_option maxRecDepth 100000 in
theorem fits6 (d a c k ba sz nn f regs words : Int) (w : World) (hw : 0 ≤ words ∧ words ≤ 1048576) (hsz : -9223372036854775808 ≤ sz ∧ sz ≤ 9223372036854775807) :
    Calls Try.prog 29 #[.agg #[.int .i64 6, .int .i64 d, .int .i64 a, .int .i64 c, .int .i64 k, .int .i64 ba, .int .i64 sz, .int .u32 nn], .int .i64 f, .int .i64 regs, .int .i64 words] w fun e w' => e = .returned (.bool (wB d regs && wB a regs && arrB ba sz words && (c == 0 && k == 0 && nn == 0))) ∧ Below w.heap.size w w' := by
  have hu48 := Try.underlying48
  obtain ⟨hw0, hw1⟩ := hw
  obtain ⟨hs0, hs1⟩ := hsz
  cases h0 : wB d regs
  · skip
    go_enter Try.func29, Try.ntmps29
    all_goals go_wp2_with (first | (go_at_call 35; refine (within_calls _ _ _).mono ?_; rintro e w' ⟨rfl, rfl⟩) | go_in)
    all_goals go_ret
    all_goals refine ⟨ret_b (by simp [h0, Bool.and_assoc]), ?_⟩
    all_goals repeat (first | exact Below.refl _ _ | apply below_alloc | apply below_drew1)
  · skip
    obtain ⟨pd, qd⟩ := wB_true h0
    cases h1 : wB a regs
    · skip
      go_enter Try.func29, Try.ntmps29
      all_goals go_wp2_with (first | (go_at_call 35; refine (within_calls _ _ _).mono ?_; rintro e w' ⟨rfl, rfl⟩) | go_in)
      all_goals refine wp_loop_rounds 1 ?_
      all_goals rw [rounds_succ]
      all_goals go_wp2_with (first | (go_at_call 35; refine (within_calls _ _ _).mono ?_; rintro e w' ⟨rfl, rfl⟩) | go_in)
      all_goals go_ret
      all_goals refine ⟨ret_b (by simp [h0, h1, Bool.and_assoc]), ?_⟩
      all_goals repeat (first | exact Below.refl _ _ | apply below_alloc | apply below_drew1)
    · skip
      obtain ⟨pa, qa⟩ := wB_true h1
      cases hx : arrB ba sz words
      · rcases arr_false hx with hk | ⟨hk, hk1⟩ | ⟨hk, hk1, hk2⟩ | ⟨hk, hk1, hk2, hk3⟩
        · skip
          go_enter Try.func29, Try.ntmps29
          all_goals go_wp2_with (first | (go_at_call 35; refine (within_calls _ _ _).mono ?_; rintro e w' ⟨rfl, rfl⟩) | go_in)
          all_goals refine wp_loop_rounds 2 ?_
          all_goals rw [rounds_succ]
          all_goals go_wp2_with (first | (go_at_call 35; refine (within_calls _ _ _).mono ?_; rintro e w' ⟨rfl, rfl⟩) | go_in)
          all_goals rw [rounds_succ]
          all_goals go_wp2_with (first | (go_at_call 35; refine (within_calls _ _ _).mono ?_; rintro e w' ⟨rfl, rfl⟩) | go_in)
          all_goals go_region
          all_goals go_wp2_with (first | (go_at_call 35; refine (within_calls _ _ _).mono ?_; rintro e w' ⟨rfl, rfl⟩) | go_in)
          all_goals go_ret
          all_goals refine ⟨ret_b (by simp [h0, h1, hx, Bool.and_assoc]), ?_⟩
          all_goals repeat (first | exact Below.refl _ _ | apply below_alloc | apply below_drew1)
        · skip
          go_enter Try.func29, Try.ntmps29
          all_goals go_wp2_with (first | (go_at_call 35; refine (within_calls _ _ _).mono ?_; rintro e w' ⟨rfl, rfl⟩) | go_in)
          all_goals refine wp_loop_rounds 2 ?_
          all_goals rw [rounds_succ]
          all_goals go_wp2_with (first | (go_at_call 35; refine (within_calls _ _ _).mono ?_; rintro e w' ⟨rfl, rfl⟩) | go_in)
          all_goals rw [rounds_succ]
          all_goals go_wp2_with (first | (go_at_call 35; refine (within_calls _ _ _).mono ?_; rintro e w' ⟨rfl, rfl⟩) | go_in)
          all_goals go_region
          all_goals go_wp2_with (first | (go_at_call 35; refine (within_calls _ _ _).mono ?_; rintro e w' ⟨rfl, rfl⟩) | go_in)
          all_goals go_ret
          all_goals refine ⟨ret_b (by simp [h0, h1, hx, Bool.and_assoc]), ?_⟩
          all_goals repeat (first | exact Below.refl _ _ | apply below_alloc | apply below_drew1)
        · skip
          go_enter Try.func29, Try.ntmps29
          all_goals go_wp2_with (first | (go_at_call 35; refine (within_calls _ _ _).mono ?_; rintro e w' ⟨rfl, rfl⟩) | go_in)
          all_goals refine wp_loop_rounds 2 ?_
          all_goals rw [rounds_succ]
          all_goals go_wp2_with (first | (go_at_call 35; refine (within_calls _ _ _).mono ?_; rintro e w' ⟨rfl, rfl⟩) | go_in)
          all_goals rw [rounds_succ]
          all_goals go_wp2_with (first | (go_at_call 35; refine (within_calls _ _ _).mono ?_; rintro e w' ⟨rfl, rfl⟩) | go_in)
          all_goals go_region
          all_goals go_wp2_with (first | (go_at_call 35; refine (within_calls _ _ _).mono ?_; rintro e w' ⟨rfl, rfl⟩) | go_in)
          all_goals go_ret
          all_goals refine ⟨ret_b (by simp [h0, h1, hx, Bool.and_assoc]), ?_⟩
          all_goals repeat (first | exact Below.refl _ _ | apply below_alloc | apply below_drew1)
        · skip
          go_enter Try.func29, Try.ntmps29
          all_goals go_wp2_with (first | (go_at_call 35; refine (within_calls _ _ _).mono ?_; rintro e w' ⟨rfl, rfl⟩) | go_in)
          all_goals refine wp_loop_rounds 2 ?_
          all_goals rw [rounds_succ]
          all_goals go_wp2_with (first | (go_at_call 35; refine (within_calls _ _ _).mono ?_; rintro e w' ⟨rfl, rfl⟩) | go_in)
          all_goals rw [rounds_succ]
          all_goals go_wp2_with (first | (go_at_call 35; refine (within_calls _ _ _).mono ?_; rintro e w' ⟨rfl, rfl⟩) | go_in)
          all_goals go_region
          all_goals go_wp2_with (first | (go_at_call 35; refine (within_calls _ _ _).mono ?_; rintro e w' ⟨rfl, rfl⟩) | go_in)
          all_goals go_ret
          all_goals refine ⟨ret_b (by simp [h0, h1, hx, Bool.and_assoc]), ?_⟩
          all_goals repeat (first | exact Below.refl _ _ | apply below_alloc | apply below_drew1)
      · obtain ⟨hk, hk1, hk2, hk3⟩ := arr_true hx
        go_enter Try.func29, Try.ntmps29
        all_goals go_wp2_with (first | (go_at_call 35; refine (within_calls _ _ _).mono ?_; rintro e w' ⟨rfl, rfl⟩) | go_in)
        all_goals refine wp_loop_rounds 2 ?_
        all_goals rw [rounds_succ]
        all_goals go_wp2_with (first | (go_at_call 35; refine (within_calls _ _ _).mono ?_; rintro e w' ⟨rfl, rfl⟩) | go_in)
        all_goals rw [rounds_succ]
        all_goals go_wp2_with (first | (go_at_call 35; refine (within_calls _ _ _).mono ?_; rintro e w' ⟨rfl, rfl⟩) | go_in)
        all_goals go_region
        all_goals go_wp2_with (first | (go_at_call 35; refine (within_calls _ _ _).mono ?_; rintro e w' ⟨rfl, rfl⟩) | go_in)
        all_goals go_ret
        all_goals refine ⟨ret_b (by simp [h0, h1, hx, Bool.and_assoc]), ?_⟩
        all_goals repeat (first | exact Below.refl _ _ | apply below_alloc | apply below_drew1)


end Go.Proofs.Ytggchfdjpfodfaa.H

/- known.value, walked: it returns what valueP says and leaves the map's blocks as they were. Condition: the map is the call's own. -/
import Derived.Test.YtggchfdjpfodfaaHApp
import Derived.Test.YtggchfdjpfodfaaIM
set_option linter.unusedVariables false
set_option linter.unusedSimpArgs false
namespace Go.Proofs.Ytggchfdjpfodfaa.H
open Go.RowKit Go.Proofs.YtggchfdjpfodfaaW.PrintWords Go.Proofs.YtggchfdjpfodfaaW.PrintLast Go.Proofs.YtggchfdjpfodfaaW.PrintMore Go.Proofs.Ytggchfdjpfodfaa.PFoldOf
open Sp

abbrev KM := IM.Is Try.prog 3 46 .u32
theorem zero46 (w : World) : (zeroValue 46).run Try.prog w = .ok (.int .u32 0) w := by kernel_rfl
theorem ret_ib {k : IntKind} {a a' : Int} {b b' : Bool} (h : a = a') (g : b = b') : Ending.returned (.tuple #[.int k a, .bool b]) = .returned (.tuple #[.int k a', .bool b']) := by rw [h, g]

set_option maxHeartbeats 1000000 in
set_option maxRecDepth 100000 in
theorem value_calls (b n : Nat) (M : Int → Option Int) (op d a c k ba sz nn : Int) (w : World) (hm : KM w b n M) (hM : Words M) (ha : (Lit.int .i64 a).wf = true) (hc : (Lit.int .i64 c).wf = true) :
    Calls Try.prog 25 #[.map (some b), .agg #[.int .i64 op, .int .i64 d, .int .i64 a, .int .i64 c, .int .i64 k, .int .i64 ba, .int .i64 sz, .int .u32 nn]] w fun e w' =>
      e = .returned (.tuple #[.int .u32 (valueP M op a c k nn).1, .bool (valueP M op a c k nn).2]) ∧ Below w.heap.size w w' := by
  have hu48 := Try.underlying48
  have ga := hM.getD a
  have gc := hM.getD c
  go_enter Try.func25, Try.ntmps25
  go_wp2_with (first | (at_lookup; refine IM.look rfl _ _ 62 rfl Try.underlying62 Try.underlying3 Try.underlying46 (zero46 _) rfl (hm.alloc _) a rfl ha ?_) | (at_lookup; refine IM.look rfl _ _ 62 rfl Try.underlying62 Try.underlying3 Try.underlying46 (zero46 _) rfl (hm.alloc _) c rfl hc ?_) | (go_at_call 17; refine (apply_calls _ _ _ _ ga gc).mono ?_; rintro e w' ⟨rfl, rfl⟩))
  all_goals go_ret2
  all_goals refine ⟨ret_ib ?_ ?_, (Below.refl _ _).alloc (Nat.le_refl _) _⟩
  all_goals simp only [beq_iff_eq, beq_eq_false_iff_ne, ne_eq] at *
  all_goals simp [valueP, *]
end Go.Proofs.Ytggchfdjpfodfaa.H

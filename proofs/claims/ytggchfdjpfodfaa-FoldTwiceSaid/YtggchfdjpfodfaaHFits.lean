/- seedcornref24.fits: whether an instruction may be, in the function of a number, with so many registers and words: what it answers, for any instruction, at up to 1048576 words. -/
import Derived.Test.YtggchfdjpfodfaaHFits1
import Derived.Test.YtggchfdjpfodfaaHFits2
import Derived.Test.YtggchfdjpfodfaaHFits3
import Derived.Test.YtggchfdjpfodfaaHFits4
set_option linter.unusedVariables false
set_option linter.unusedSimpArgs false
namespace Go.Proofs.Ytggchfdjpfodfaa.H
open Go.RowKit Go.Proofs.YtggchfdjpfodfaaW.PrintWords Go.Proofs.YtggchfdjpfodfaaW.PrintLast Go.Proofs.YtggchfdjpfodfaaW.PrintMore Go.Proofs.Ytggchfdjpfodfaa.PFoldOf
open Sp
attribute [local go_sem high] eqA48

/-- May an instruction be? -/
def fitsB (op d a c k ba sz nn f regs words : Int) : Bool := if op = 1 then wB d regs && (a == 0 && c == 0 && k == 0 && ba == 0 && sz == 0) else if op = 2 then wB d regs && wB a regs && (c == 0 && k == 0 && ba == 0 && sz == 0 && nn == 0) else if op = 3 then wB d regs && wB a regs && wB c regs && wB (k - 4) 12 && (ba == 0 && sz == 0 && nn == 0) else if op = 4 then wB d regs && wB ba words && (a == 0 && c == 0 && k == 0 && sz == 0 && nn == 0) else if op = 5 then wB a regs && wB ba words && (d == 0 && c == 0 && k == 0 && sz == 0 && nn == 0) else if op = 6 then wB d regs && wB a regs && arrB ba sz words && (c == 0 && k == 0 && nn == 0) else if op = 7 then wB a regs && wB c regs && arrB ba sz words && (d == 0 && k == 0 && nn == 0) else if op = 8 then wB d regs && (a == 0 && c == 0 && k == 0 && ba == 0 && sz == 0 && nn == 0) else if op = 9 then wB a regs && (d == 0 && c == 0 && k == 0 && ba == 0 && sz == 0 && nn == 0) else if op = 10 then wB ba f && (d == 0 && a == 0 && c == 0 && k == 0 && sz == 0 && nn == 0) else false
set_option maxHeartbeats 2000000 in
set_option maxRecDepth 100000 in
theorem fits_calls (op d a c k ba sz nn f regs words : Int) (w : World) (hw : 0 ≤ words ∧ words ≤ 1048576) (hsz : -9223372036854775808 ≤ sz ∧ sz ≤ 9223372036854775807) :
    Calls Try.prog 29 #[.agg #[.int .i64 op, .int .i64 d, .int .i64 a, .int .i64 c, .int .i64 k, .int .i64 ba, .int .i64 sz, .int .u32 nn], .int .i64 f, .int .i64 regs, .int .i64 words] w fun e w' => e = .returned (.bool (fitsB op d a c k ba sz nn f regs words)) ∧ Below w.heap.size w w' := by
  by_cases hr : 1 ≤ op ∧ op ≤ 10
  · obtain rfl | rfl | rfl | rfl | rfl | rfl | rfl | rfl | rfl | rfl : op = 1 ∨ op = 2 ∨ op = 3 ∨ op = 4 ∨ op = 5 ∨ op = 6 ∨ op = 7 ∨ op = 8 ∨ op = 9 ∨ op = 10 := by omega
    · exact fits1 _ _ _ _ _ _ _ _ _ _ w
    · exact fits2 _ _ _ _ _ _ _ _ _ _ w
    · exact fits3 _ _ _ _ _ _ _ _ _ _ w
    · exact fits4 _ _ _ _ _ _ _ _ _ _ w
    · exact fits5 _ _ _ _ _ _ _ _ _ _ w
    · exact fits6 _ _ _ _ _ _ _ _ _ _ w hw hsz
    · exact fits7 _ _ _ _ _ _ _ _ _ _ w hw hsz
    · exact fits8 _ _ _ _ _ _ _ _ _ _ w
    · exact fits9 _ _ _ _ _ _ _ _ _ _ w
    · exact fits10 _ _ _ _ _ _ _ _ _ _ w
  · have hb : fitsB op d a c k ba sz nn f regs words = false := by
      unfold fitsB
      rw [if_neg (by omega), if_neg (by omega), if_neg (by omega), if_neg (by omega), if_neg (by omega), if_neg (by omega), if_neg (by omega), if_neg (by omega), if_neg (by omega), if_neg (by omega)]
    rw [hb]
    have hu48 := Try.underlying48
    rcases (by omega : op < 1 ∨ (1 ≤ op ∧ 10 < op)) with h | ⟨h, h1⟩
    all_goals
      go_enter Try.func29, Try.ntmps29
      go_wp2_with (fail)
      go_ret
      exact ⟨rfl, below_alloc (Below.refl _ _) _⟩

end Go.Proofs.Ytggchfdjpfodfaa.H

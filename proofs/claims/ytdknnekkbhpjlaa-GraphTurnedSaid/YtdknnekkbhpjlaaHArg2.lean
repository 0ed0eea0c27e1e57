/- Bytes in rows as an argument: what a value of the type reads as. No condition. -/
import Derived.Test.YtdknnekkbhpjlaaOP
import Derived.Test.YtdknnekkbhpjlaaHArg
set_option linter.unusedVariables false
set_option linter.unusedSimpArgs false
namespace Go.Proofs.Ytdknnekkbhpjlaa.H
open Go.RowKit Go.Proofs.YtdknnekkbhpjlaaW.PrintWords Go.Proofs.YtdknnekkbhpjlaaW.PrintLast Go.Proofs.YtdknnekkbhpjlaaW.PrintMore Go.Proofs.Ytdknnekkbhpjlaa.G
open OP

theorem op22 : Opn Try.prog (Kd.slice 26 (Kd.slice 5 (Kd.int .u8))) 22 (fun x => ∀ z ∈ x, ∀ b ∈ z, 0 ≤ b ∧ b ≤ 255) :=
  (op_slice Try.underlying22 (by kernel_rfl) (B := 24) (by kernel_rfl) (op_slice Try.underlying26 (by kernel_rfl) (B := 1) (by kernel_rfl) (op_int Try.underlying5 (by kernel_rfl)))).mono (fun _ h z hz b hb => (h.1 z hz).1 b hb)
end Go.Proofs.Ytdknnekkbhpjlaa.H

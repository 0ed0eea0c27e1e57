/- Needs as an argument: what a value of the type reads as. No condition. -/
import Derived.Test.YtdknnekkbhpjlaaOP
import Derived.Test.YtdknnekkbhpjlaaPRf
set_option linter.unusedVariables false
set_option linter.unusedSimpArgs false
namespace Go.Proofs.Ytdknnekkbhpjlaa.H
open Go.RowKit Go.Proofs.YtdknnekkbhpjlaaW.PrintWords Go.Proofs.YtdknnekkbhpjlaaW.PrintLast Go.Proofs.YtdknnekkbhpjlaaW.PrintMore Go.Proofs.Ytdknnekkbhpjlaa.G
open OP

theorem op24 : Opn Try.prog (Kd.slice 25 KI) 24 Rows0 :=
  (op_slice Try.underlying24 (by kernel_rfl) (B := 24) (by kernel_rfl) (op_slice Try.underlying25 (by kernel_rfl) (B := 8) (by kernel_rfl) (op_int Try.underlying3 (by kernel_rfl)))).mono (fun _ h l hl => by have := (h.1 l hl).2.1; omega)
theorem cells_slice {A : Option Addr} {n c : Nat} {v : Value} (h : (Value.slice A n c).cells.toList = [v]) : Value.slice A n c = v := by
  simpa [Value.cells] using h
end Go.Proofs.Ytdknnekkbhpjlaa.H

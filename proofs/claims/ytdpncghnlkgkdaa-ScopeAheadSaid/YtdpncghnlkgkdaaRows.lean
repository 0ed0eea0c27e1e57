/-
  NARROWER THAN 'FOR EVERY INPUT', by the rows' own cells (each row's printed sentence says how): ScopeUnknown: loops · ScopeRenames: loops · ScopeChecks: loops · ScopeTrue: loops · ScopeAhead: loops · ScopeTwice: loops.
  DERIVED. THE GIVEN ROWS OF THIS SEAT. 6 by the template 'for every input the law returns true; each argument reads behind the call as it read before'; 0 by the template 'total and deterministic' (their statements: YtdpncghnlkgkdaaTotals.lean).
  GIVEN WITH THE SEED: the statements are not yours to turn. If you find one false, say at which input.
  Laid BY PROGRAM, IN A SANDBOX (cutbox-rows.mjs): the forced cells as the released guide's own fill.sh prints them over the translation 20631251781641f0… (all of the seat's roots in one cut). By AI agents, Wed Nov 11 2026. No macro, syntax, notation, axiom, sorry.
-/
import Derived.Test.YtdpncghnlkgkdaaChecked
import GoSem.Claim
import GoSem.ClaimJoined
import GoSem.ClaimMapViews
import Derived.JoinedTies
import Derived.KernelRfl
namespace Go.Proofs.Ytdpncghnlkgkdaa
/- THE CELL 'sum', in the pinned program and in every row, IS THE sha256 OF THE DUMP (.gsa) THAT YtdpncghnlkgkdaaProg.lean LOADS. Nothing in Lean hashes anything: it is a label: what it is worth is what the hold of that sum in a sandbox is worth. -/
noncomputable def Try.pinned : Pinned := { name := "ytdpncghnlkgkdaa", sum := "20631251781641f06c0611d3224252e72530e873a286de97a3d456b542869bdb", checked := Try.checked }
namespace Rows
def none {H : Type} : Left H := { results := [], args := [] }

/-- 'seedcornlaw16.ScopeUnknown': WHATEVER THE INPUT: true; the input reads as it did. -/
def scopeUnknownSpec : ChangeSpec := { name := "scopeUnknown", fn := fun _ => fun
  | [d1, d2, d3] => { results := [.lit (.bool true)], args := [d1, d2, d3] }
  | _ => none }
def scopeUnknownRow : OpenClaim := { program := "ytdpncghnlkgkdaa", sum := "20631251781641f06c0611d3224252e72530e873a286de97a3d456b542869bdb", func := "seedcorn/seedcornlaw16.ScopeUnknown", spec := "scopeUnknown", unfollowed := true, recurses := true, loops := true, apart := false }
def ScopeUnknownSaid : Prop := scopeUnknownRow.holds Try.pinned (OpenSpec.ofChange scopeUnknownSpec)

/-- ITS FALSE NEIGHBOUR: 'it returns false'. Refute it at one input. -/
def scopeUnknownWrong : ChangeSpec := { name := "scopeUnknown", fn := fun _ => fun
  | [d1, d2, d3] => { results := [.lit (.bool false)], args := [d1, d2, d3] }
  | _ => none }
def ScopeUnknownWrongFalsely : Prop := scopeUnknownRow.holds Try.pinned (OpenSpec.ofChange scopeUnknownWrong)

/-- 'seedcornlaw16.ScopeRenames': WHATEVER THE INPUT: true; the input reads as it did. -/
def scopeRenamesSpec : ChangeSpec := { name := "scopeRenames", fn := fun _ => fun
  | [d1, d2, d3] => { results := [.lit (.bool true)], args := [d1, d2, d3] }
  | _ => none }
def scopeRenamesRow : OpenClaim := { program := "ytdpncghnlkgkdaa", sum := "20631251781641f06c0611d3224252e72530e873a286de97a3d456b542869bdb", func := "seedcorn/seedcornlaw16.ScopeRenames", spec := "scopeRenames", unfollowed := true, recurses := true, loops := true, apart := false }
def ScopeRenamesSaid : Prop := scopeRenamesRow.holds Try.pinned (OpenSpec.ofChange scopeRenamesSpec)

/-- ITS FALSE NEIGHBOUR: 'it returns false'. Refute it at one input. -/
def scopeRenamesWrong : ChangeSpec := { name := "scopeRenames", fn := fun _ => fun
  | [d1, d2, d3] => { results := [.lit (.bool false)], args := [d1, d2, d3] }
  | _ => none }
def ScopeRenamesWrongFalsely : Prop := scopeRenamesRow.holds Try.pinned (OpenSpec.ofChange scopeRenamesWrong)

/-- 'seedcornlaw16.ScopeChecks': WHATEVER THE INPUT: true; the input reads as it did. -/
def scopeChecksSpec : ChangeSpec := { name := "scopeChecks", fn := fun _ => fun
  | [d] => { results := [.lit (.bool true)], args := [d] }
  | _ => none }
def scopeChecksRow : OpenClaim := { program := "ytdpncghnlkgkdaa", sum := "20631251781641f06c0611d3224252e72530e873a286de97a3d456b542869bdb", func := "seedcorn/seedcornlaw16.ScopeChecks", spec := "scopeChecks", unfollowed := true, recurses := true, loops := true, apart := false }
def ScopeChecksSaid : Prop := scopeChecksRow.holds Try.pinned (OpenSpec.ofChange scopeChecksSpec)

/-- ITS FALSE NEIGHBOUR: 'it returns false'. Refute it at one input. -/
def scopeChecksWrong : ChangeSpec := { name := "scopeChecks", fn := fun _ => fun
  | [d] => { results := [.lit (.bool false)], args := [d] }
  | _ => none }
def ScopeChecksWrongFalsely : Prop := scopeChecksRow.holds Try.pinned (OpenSpec.ofChange scopeChecksWrong)

/-- 'seedcornlaw16.ScopeTrue': WHATEVER THE INPUT: true; the input reads as it did. -/
def scopeTrueSpec : ChangeSpec := { name := "scopeTrue", fn := fun _ => fun
  | [d] => { results := [.lit (.bool true)], args := [d] }
  | _ => none }
def scopeTrueRow : OpenClaim := { program := "ytdpncghnlkgkdaa", sum := "20631251781641f06c0611d3224252e72530e873a286de97a3d456b542869bdb", func := "seedcorn/seedcornlaw16.ScopeTrue", spec := "scopeTrue", unfollowed := true, recurses := true, loops := true, apart := false }
def ScopeTrueSaid : Prop := scopeTrueRow.holds Try.pinned (OpenSpec.ofChange scopeTrueSpec)

/-- ITS FALSE NEIGHBOUR: 'it returns false'. Refute it at one input. -/
def scopeTrueWrong : ChangeSpec := { name := "scopeTrue", fn := fun _ => fun
  | [d] => { results := [.lit (.bool false)], args := [d] }
  | _ => none }
def ScopeTrueWrongFalsely : Prop := scopeTrueRow.holds Try.pinned (OpenSpec.ofChange scopeTrueWrong)

/-- 'seedcornlaw16.ScopeAhead': WHATEVER THE INPUT: true; the input reads as it did. -/
def scopeAheadSpec : ChangeSpec := { name := "scopeAhead", fn := fun _ => fun
  | [d] => { results := [.lit (.bool true)], args := [d] }
  | _ => none }
def scopeAheadRow : OpenClaim := { program := "ytdpncghnlkgkdaa", sum := "20631251781641f06c0611d3224252e72530e873a286de97a3d456b542869bdb", func := "seedcorn/seedcornlaw16.ScopeAhead", spec := "scopeAhead", unfollowed := true, recurses := true, loops := true, apart := false }
def ScopeAheadSaid : Prop := scopeAheadRow.holds Try.pinned (OpenSpec.ofChange scopeAheadSpec)

/-- ITS FALSE NEIGHBOUR: 'it returns false'. Refute it at one input. -/
def scopeAheadWrong : ChangeSpec := { name := "scopeAhead", fn := fun _ => fun
  | [d] => { results := [.lit (.bool false)], args := [d] }
  | _ => none }
def ScopeAheadWrongFalsely : Prop := scopeAheadRow.holds Try.pinned (OpenSpec.ofChange scopeAheadWrong)

/-- 'seedcornlaw16.ScopeTwice': WHATEVER THE INPUT: true; the input reads as it did. -/
def scopeTwiceSpec : ChangeSpec := { name := "scopeTwice", fn := fun _ => fun
  | [d1, d2] => { results := [.lit (.bool true)], args := [d1, d2] }
  | _ => none }
def scopeTwiceRow : OpenClaim := { program := "ytdpncghnlkgkdaa", sum := "20631251781641f06c0611d3224252e72530e873a286de97a3d456b542869bdb", func := "seedcorn/seedcornlaw16.ScopeTwice", spec := "scopeTwice", unfollowed := true, recurses := true, loops := true, apart := false }
def ScopeTwiceSaid : Prop := scopeTwiceRow.holds Try.pinned (OpenSpec.ofChange scopeTwiceSpec)

/-- ITS FALSE NEIGHBOUR: 'it returns false'. Refute it at one input. -/
def scopeTwiceWrong : ChangeSpec := { name := "scopeTwice", fn := fun _ => fun
  | [d1, d2] => { results := [.lit (.bool false)], args := [d1, d2] }
  | _ => none }
def ScopeTwiceWrongFalsely : Prop := scopeTwiceRow.holds Try.pinned (OpenSpec.ofChange scopeTwiceWrong)

/- THE SECOND FORM. 'bulk': how many values and letters a reading holds, each counted each time it is reached (what is shared counts as often as it is met; a slice's spare places count too). A statement '..UptoSaid' is the law's where the arguments, and the package variables that the reading takes, are together of bulk at most 1048576: NARROWER than '..Said'. Prove '..Said' where nothing that the law and all that it calls make is longer than what came in: it says more and counts as full. Else prove '..UptoSaid'. A law counts once. -/
mutual
def uptoBulk {H : Type} : DataW H → Nat
  | .lit (.string bytes) => bytes.length + 1
  | .lit _ => 1
  | .nil => 1
  | .ptr d => uptoBulk d + 1
  | .slice elems spare => uptoBulkAll elems + uptoBulkAll spare + 1
  | .agg parts => uptoBulkAll parts + 1
  | .iface _ d => uptoBulk d + 1
  | .map entries => uptoBulkEntries entries + 1
  | .held _ => 1
def uptoBulkAll {H : Type} : List (DataW H) → Nat
  | [] => 0
  | d :: r => uptoBulk d + uptoBulkAll r
def uptoBulkEntries {H : Type} : List (Lit × DataW H) → Nat
  | [] => 0
  | x :: r => uptoBulkEntry x + uptoBulkEntries r
def uptoBulkEntry {H : Type} : Lit × DataW H → Nat
  | (.string bytes, d) => bytes.length + uptoBulk d + 1
  | (_, d) => uptoBulk d + 1
 end
def uptoSmall : (H : Type) → List (DataW H) → Bool := fun _ ds => decide (uptoBulkAll ds ≤ 1048576)
def OpenSpec.upto (s : _root_.Go.ChangeSpec) : _root_.Go.OpenSpec := { _root_.Go.OpenSpec.ofChange s with cond := some uptoSmall }

/-- 'seedcornlaw16.ScopeUnknown', WHERE WHAT IT READS IS OF BULK AT MOST 1048576: true; the input reads as it did. -/
def scopeUnknownUptoRow : OpenClaim := { program := "ytdpncghnlkgkdaa", sum := "20631251781641f06c0611d3224252e72530e873a286de97a3d456b542869bdb", func := "seedcorn/seedcornlaw16.ScopeUnknown", spec := "scopeUnknown", unfollowed := true, recurses := true, loops := true, apart := false, narrowed := true }
def ScopeUnknownUptoSaid : Prop := scopeUnknownUptoRow.holds Try.pinned (OpenSpec.upto scopeUnknownSpec)

/-- 'seedcornlaw16.ScopeRenames', WHERE WHAT IT READS IS OF BULK AT MOST 1048576: true; the input reads as it did. -/
def scopeRenamesUptoRow : OpenClaim := { program := "ytdpncghnlkgkdaa", sum := "20631251781641f06c0611d3224252e72530e873a286de97a3d456b542869bdb", func := "seedcorn/seedcornlaw16.ScopeRenames", spec := "scopeRenames", unfollowed := true, recurses := true, loops := true, apart := false, narrowed := true }
def ScopeRenamesUptoSaid : Prop := scopeRenamesUptoRow.holds Try.pinned (OpenSpec.upto scopeRenamesSpec)

/-- 'seedcornlaw16.ScopeChecks', WHERE WHAT IT READS IS OF BULK AT MOST 1048576: true; the input reads as it did. -/
def scopeChecksUptoRow : OpenClaim := { program := "ytdpncghnlkgkdaa", sum := "20631251781641f06c0611d3224252e72530e873a286de97a3d456b542869bdb", func := "seedcorn/seedcornlaw16.ScopeChecks", spec := "scopeChecks", unfollowed := true, recurses := true, loops := true, apart := false, narrowed := true }
def ScopeChecksUptoSaid : Prop := scopeChecksUptoRow.holds Try.pinned (OpenSpec.upto scopeChecksSpec)

/-- 'seedcornlaw16.ScopeTrue', WHERE WHAT IT READS IS OF BULK AT MOST 1048576: true; the input reads as it did. -/
def scopeTrueUptoRow : OpenClaim := { program := "ytdpncghnlkgkdaa", sum := "20631251781641f06c0611d3224252e72530e873a286de97a3d456b542869bdb", func := "seedcorn/seedcornlaw16.ScopeTrue", spec := "scopeTrue", unfollowed := true, recurses := true, loops := true, apart := false, narrowed := true }
def ScopeTrueUptoSaid : Prop := scopeTrueUptoRow.holds Try.pinned (OpenSpec.upto scopeTrueSpec)

/-- 'seedcornlaw16.ScopeAhead', WHERE WHAT IT READS IS OF BULK AT MOST 1048576: true; the input reads as it did. -/
def scopeAheadUptoRow : OpenClaim := { program := "ytdpncghnlkgkdaa", sum := "20631251781641f06c0611d3224252e72530e873a286de97a3d456b542869bdb", func := "seedcorn/seedcornlaw16.ScopeAhead", spec := "scopeAhead", unfollowed := true, recurses := true, loops := true, apart := false, narrowed := true }
def ScopeAheadUptoSaid : Prop := scopeAheadUptoRow.holds Try.pinned (OpenSpec.upto scopeAheadSpec)

/-- 'seedcornlaw16.ScopeTwice', WHERE WHAT IT READS IS OF BULK AT MOST 1048576: true; the input reads as it did. -/
def scopeTwiceUptoRow : OpenClaim := { program := "ytdpncghnlkgkdaa", sum := "20631251781641f06c0611d3224252e72530e873a286de97a3d456b542869bdb", func := "seedcorn/seedcornlaw16.ScopeTwice", spec := "scopeTwice", unfollowed := true, recurses := true, loops := true, apart := false, narrowed := true }
def ScopeTwiceUptoSaid : Prop := scopeTwiceUptoRow.holds Try.pinned (OpenSpec.upto scopeTwiceSpec)

end Rows
end Go.Proofs.Ytdpncghnlkgkdaa

/-
  The law ScopeAhead returns true for every input, and its arguments read behind the call as before.
  Conditions: none beyond the statement's own.
-/
import Derived.Test.YtdpncghnlkgkdaaRows
import Derived.Test.YtdpncghnlkgkdaaMF
import Derived.WalkKit
import Derived.ProofKit
import Derived.OpenShut
import Derived.ShutString
import Derived.ChangeOld
import Derived.Below
import Derived.SizedLaws
namespace Go.Proofs.Ytdpncghnlkgkdaa.scopeAhead
open Go.ChangeShapes Go.WideShapes Go.ChangeAt Go.RowKit
open Go.ChangeMaps (open_string shut_string)
open Go.Proofs.YtdpncghnlkgkdaaW Go.Proofs.YtdpncghnlkgkdaaW.PrintWords Go.Proofs.YtdpncghnlkgkdaaW.PrintLast Go.Proofs.Ytdpncghnlkgkdaa.G
set_option linter.unusedVariables false
set_option linter.unusedSimpArgs false
theorem own : ownKnob Try.prog.godebug = none := by kernel_rfl
theorem laidOut : laidOutB Try.prog = true := by kernel_rfl
set_option maxRecDepth 100000 in
theorem lifted (os : Os) (started : os.Started) (H : Type) (enc : TypeId × Value → H) :
    ReturnsInHanded {} Try.checked os 7 .any (Rows.scopeAheadSpec.pre6 enc Try.prog Try.f7 Rows.scopeAheadRow.domain false) (Rows.scopeAheadSpec.post enc Try.prog Try.f7 false true false false) := by
  refine returnsInHanded_of_change_sized (C := Try.checked) own started (by kernel_rfl) Try.func7
    (ChangeSpec.witness6 (enc := enc) (C := Try.checked) false ⟨#[], #[.agg #[.slice none 0 0, .slice none 0 0, .slice none 0 0]], []⟩ 8 (by kernel_rfl) (by kernel_rfl) (by kernel_rfl) (by kernel_rfl)) ?_
  intro W base args ds gs before hval0 hW hcnd hsz0 _
  have hsz : (DataW.weightsEach Try.prog (Try.f7.params.toList ++ Rows.scopeAheadSpec.plain.varTypes Try.prog) (ds ++ gs)).all (· ≤ reachBytes) = true := hsz0
  have hval : ∀ (j : Nat) t v, Try.f7.params[j]? = some t → args[j]? = some v → Value.okWide Try.prog W .any base t v := hval0
  have hW' := hW
  obtain ⟨p, q, hA0, hV, rfl, hfz, hnd⟩ := hW
  have hA : DataW.TrodAll enc Try.prog W 0 (fun _ => true) true Try.f7.params.toList args.toList ds p := hA0
  rw [Try.params7] at hA hval hsz
  obtain ⟨v0, vs0, d0, ds0, p0, q0, hargs, rfl, rfl, h0, r0⟩ := trodAll_cons hA
  obtain ⟨rfl, rfl, rfl⟩ := trodAll_nil r0
  obtain rfl : args = #[v0] := by cases args; simp_all
  obtain ⟨rfl, rfl⟩ := trodVars_none hV
  obtain ⟨cs0, rfl, _⟩ := okWide_struct Try.underlying26 (hval 0 26 v0 rfl rfl)
  have k0 := h0
  have lt0 : ∀ x ∈ p0, x.block < W.heap.size := by obtain ⟨m, hm⟩ := k0; exact DataW.trod_lt m _ _ _ hm
  obtain ⟨P0, hp0, _⟩ := Go.Proofs.Ytdpncghnlkgkdaa.OP.op_arg Go.Proofs.Ytdpncghnlkgkdaa.H.op26 h0 hsz (j := 0) rfl rfl
  obtain ⟨A0_0, c0_0, A0_1, c0_1, A0_2, c0_2, e0, hc0_0, hr0_0, hc0_1, hr0_1, hc0_2, hr0_2⟩ := Go.Proofs.Ytdpncghnlkgkdaa.G.k26_open hp0
  obtain rfl : cs0 = #[.slice A0_0 P0.f0.length c0_0, .slice A0_1 P0.f1.length c0_1, .slice A0_2 P0.f2.length c0_2] := by
    have e : cs0.toList = [.slice A0_0 P0.f0.length c0_0, .slice A0_1 P0.f1.length c0_1, .slice A0_2 P0.f2.length c0_2] := e0
    rw [← Array.toArray_toList (xs := cs0), e]
  clear hA0 hval0 hsz0 hsz
  refine (Go.Proofs.Ytdpncghnlkgkdaa.H.ahead_calls A0_0 c0_0 P0.f0 A0_1 c0_1 P0.f1 A0_2 c0_2 P0.f2 W hr0_0 hc0_0 hr0_1 hc0_1 hr0_2 hc0_2).mono fun e W' ⟨he, bel⟩ => ?_
  subst he
  exact ⟨_, rfl, _, _, _, [], _, [], hW', trodAll_mk1 (shut_bool Try.underlying4 _), (trodAll_cons_mk (Below.trod laidOut (by kernel_rfl) (of_decide_eq_true (by kernel_rfl)) k0 bel lt0) trodAll_mk0), rfl, bel.frame _, fun h => by cases h⟩
theorem over : Rows.scopeAheadRow.holds Try.pinned (OpenSpec.ofChange Rows.scopeAheadSpec) :=
  OpenClaim.holds_of_wide 7 Try.f7 rfl rfl rfl rfl rfl rfl rfl ⟨rfl, rfl, rfl, rfl, rfl⟩ rfl rfl rfl rfl rfl (by kernel_rfl) Try.func7 (by kernel_rfl)
    (of_decide_eq_true (by kernel_rfl)) (by unfold Func.isWrapper; first | (rw [if_pos (by decide +kernel)]; kernel_rfl) | (rw [if_neg (by decide +kernel)]; exact ⟨rfl, rfl⟩))
    (fun os started H enc _ => lifted os started H enc)
theorem proved : Rows.ScopeAheadSaid := over
#print axioms proved
end Go.Proofs.Ytdpncghnlkgkdaa.scopeAhead
namespace Go.Proofs.Ytdpncghnlkgkdaa
/-- The row, under a short name, for the claim. -/
theorem scopeAhead_holds : Rows.ScopeAheadSaid := scopeAhead.proved
end Go.Proofs.Ytdpncghnlkgkdaa


/- The row of the law TraceParts, out of its pure statement (text YtfapfpkijeaapaaPureTraceParts) and the printed walk. Written by a program of this session (wip/mkrow.py). -/
import Derived.Test.YtfapfpkijeaapaaRows
import Derived.Test.YtfapfpkijeaapaaP10
import Derived.Test.YtfapfpkijeaapaaOpen
import Derived.Test.YtfapfpkijeaapaaPureTraceParts
import Derived.WalkKit
import Derived.ProofKit
import Derived.OpenShut
import Derived.ShutString
import Derived.ChangeOld
import Derived.Below
import Derived.SizedLaws
namespace Go.Proofs.Ytfapfpkijeaapaa.traceParts
open Go.ChangeShapes Go.WideShapes Go.ChangeAt Go.RowKit Go.Proofs.YtfapfpkijeaapaaW.PrintWords Go.Proofs.Ytfapfpkijeaapaa.P
open Go.ChangeMaps (open_string shut_string)
set_option linter.unusedVariables false
set_option linter.unusedSimpArgs false
theorem own : ownKnob Try.prog.godebug = none := by kernel_rfl
theorem laidOut : laidOutB Try.prog = true := by kernel_rfl
set_option maxRecDepth 100000 in
theorem lifted (os : Os) (started : os.Started) (H : Type) (enc : TypeId × Value → H) :
    ReturnsInHanded {} Try.checked os 3 .any (Rows.tracePartsSpec.pre6 enc Try.prog Try.f3 Rows.tracePartsRow.domain false) (Rows.tracePartsSpec.post enc Try.prog Try.f3 false true false false) := by
  refine returnsInHanded_of_change_sized (C := Try.checked) own started (by kernel_rfl) Try.func3
    (ChangeSpec.witness6 (enc := enc) (C := Try.checked) false ⟨#[], #[.agg #[.slice none 0 0, .int .u8 0, .int .i64 0, .int .i64 0]], []⟩ 8 (by kernel_rfl) (by kernel_rfl) (by kernel_rfl) (by kernel_rfl)) ?_
  intro W base args ds gs before hval0 hW hcnd hsz0 _
  have hval : ∀ (j : Nat) t v, Try.f3.params[j]? = some t → args[j]? = some v → Value.okWide Try.prog W .any base t v := hval0
  have hW' := hW
  obtain ⟨p, q, hA0, hV, rfl, hfz, hnd⟩ := hW
  have hA : DataW.TrodAll enc Try.prog W 0 (fun _ => true) true Try.f3.params.toList args.toList ds p := hA0
  rw [Try.params3] at hA hval
  obtain ⟨v0, vs0, d0, ds0, p0, q0, hargs, rfl, rfl, h0, r0⟩ := trodAll_cons hA
  obtain ⟨rfl, rfl, rfl⟩ := trodAll_nil r0
  obtain rfl : args = #[v0] := by cases args; simp_all
  obtain ⟨rfl, rfl⟩ := trodVars_none hV
  have k0 := h0
  have lt0 : ∀ x ∈ p0, x.block < W.heap.size := by obtain ⟨m, hm⟩ := k0; exact DataW.trod_lt m _ _ _ hm
  obtain ⟨cs0, rfl, hsz0⟩ := okWide_struct Try.underlying24 (hval 0 24 v0 rfl rfl)
  obtain ⟨x0, K0, w0⟩ : ∃ x : S24, k24.K W x cs0.toList ∧ Open.wf24 x := by
    obtain ⟨m, hm⟩ := h0
    exact Open.op24 H enc W m _ _ (by simpa [Value.cells] using hm)
  obtain ⟨A0_0, c0_0, E0, hc0_0, hr0_0⟩ := k24_open K0
  obtain rfl : cs0 = #[.slice A0_0 x0.f0.length c0_0, .int .u8 x0.f1, .int .i64 x0.f2, .int .i64 x0.f3] := by apply Array.toList_inj.1; simpa using E0
  clear hA0 hval0 hsz0
  obtain ⟨k, h⟩ := Pure.TraceParts_pure x0 w0
  refine (law27_TraceParts.calls k _ _ x0.f0 x0.f1 x0.f2 x0.f3 true W hr0_0 hc0_0 h).mono ?_
  rintro e W' ⟨rfl, hd⟩
  have bel : Below W.heap.size W W' := hd
  exact ⟨_, rfl, _, _, _, [], _, [], hW', trodAll_mk1 (shut_bool Try.underlying4 _), (trodAll_cons_mk (Below.trod laidOut (by kernel_rfl) (of_decide_eq_true (by kernel_rfl)) k0 bel lt0) trodAll_mk0), rfl, bel.frame _, fun h => by cases h⟩
theorem over : Rows.tracePartsRow.holds Try.pinned (OpenSpec.ofChange Rows.tracePartsSpec) :=
  OpenClaim.holds_of_wide 3 Try.f3 rfl rfl rfl rfl rfl rfl rfl ⟨rfl, rfl, rfl, rfl, rfl⟩ rfl rfl rfl rfl rfl (by kernel_rfl) Try.func3 (by kernel_rfl)
    (of_decide_eq_true (by kernel_rfl)) (by unfold Func.isWrapper; first | (rw [if_pos (by decide +kernel)]; kernel_rfl) | (rw [if_neg (by decide +kernel)]; exact ⟨rfl, rfl⟩))
    (fun os started H enc _ => lifted os started H enc)
theorem proved : Rows.TracePartsSaid := over
#print axioms proved
end Go.Proofs.Ytfapfpkijeaapaa.traceParts
namespace Go.Proofs.Ytfapfpkijeaapaa
/-- The row, under a short name, for the claim. -/
theorem traceParts_holds : Rows.TracePartsSaid := traceParts.proved
end Go.Proofs.Ytfapfpkijeaapaa

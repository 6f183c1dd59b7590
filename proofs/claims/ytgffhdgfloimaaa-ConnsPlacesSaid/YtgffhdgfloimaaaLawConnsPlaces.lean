/- The row of the law ConnsPlaces, out of its pure statement (text YtgffhdgfloimaaaPureConnsPlaces) and the printed walk. Written by a program of this session (wip/mkrow.py). -/
import Derived.Test.YtgffhdgfloimaaaRows
import Derived.Test.YtgffhdgfloimaaaP5
import Derived.Test.YtgffhdgfloimaaaOpen
import Derived.Test.YtgffhdgfloimaaaPureConnsPlaces
import Derived.WalkKit
import Derived.ProofKit
import Derived.OpenShut
import Derived.ShutString
import Derived.ChangeOld
import Derived.Below
import Derived.SizedLaws
namespace Go.Proofs.Ytgffhdgfloimaaa.connsPlaces
open Go.ChangeShapes Go.WideShapes Go.ChangeAt Go.RowKit Go.Proofs.YtgffhdgfloimaaaW.PrintWords Go.Proofs.Ytgffhdgfloimaaa.P
open Go.ChangeMaps (open_string shut_string)
set_option linter.unusedVariables false
set_option linter.unusedSimpArgs false
theorem own : ownKnob Try.prog.godebug = none := by kernel_rfl
theorem laidOut : laidOutB Try.prog = true := by kernel_rfl
set_option maxRecDepth 100000 in
theorem lifted (os : Os) (started : os.Started) (H : Type) (enc : TypeId × Value → H) :
    ReturnsInHanded {} Try.checked os 3 .any (Rows.connsPlacesSpec.pre6 enc Try.prog Try.f3 Rows.connsPlacesRow.domain false) (Rows.connsPlacesSpec.post enc Try.prog Try.f3 false true false false) := by
  refine returnsInHanded_of_change_sized (C := Try.checked) own started (by kernel_rfl) Try.func3
    (ChangeSpec.witness6 (enc := enc) (C := Try.checked) false ⟨#[], #[.slice none 0 0, .int .u8 0], []⟩ 8 (by kernel_rfl) (by kernel_rfl) (by kernel_rfl) (by kernel_rfl)) ?_
  intro W base args ds gs before hval0 hW hcnd hsz0 _
  have hval : ∀ (j : Nat) t v, Try.f3.params[j]? = some t → args[j]? = some v → Value.okWide Try.prog W .any base t v := hval0
  have hW' := hW
  obtain ⟨p, q, hA0, hV, rfl, hfz, hnd⟩ := hW
  have hA : DataW.TrodAll enc Try.prog W 0 (fun _ => true) true Try.f3.params.toList args.toList ds p := hA0
  rw [Try.params3] at hA hval
  obtain ⟨v0, vs0, d0, ds0, p0, q0, hargs, rfl, rfl, h0, r0⟩ := trodAll_cons hA
  obtain ⟨v1, vs1, d1, ds1, p1, q1, rfl, rfl, rfl, h1, r1⟩ := trodAll_cons r0
  obtain ⟨rfl, rfl, rfl⟩ := trodAll_nil r1
  obtain rfl : args = #[v0, v1] := by cases args; simp_all
  obtain ⟨rfl, rfl⟩ := trodVars_none hV
  have k0 := h0
  have lt0 : ∀ x ∈ p0, x.block < W.heap.size := by obtain ⟨m, hm⟩ := k0; exact DataW.trod_lt m _ _ _ hm
  obtain ⟨A0, len0, c0, rfl⟩ := okWide_slice Try.underlying22 (hval 0 22 v0 rfl rfl)
  obtain ⟨x0, rfl, hc0, hr0, w0⟩ : ∃ (x : List (Int)), len0 = x.length ∧ x.length ≤ c0 ∧ ((Kd.int .i16)).C W A0 x.length x ∧ (x.length ≤ maxLen ∧ ∀ y_ ∈ x, (Lit.int .i16 y_).wf = true) := by
    obtain ⟨m, hm⟩ := h0
    obtain ⟨y, ⟨A_, c_, e1, e2, e3⟩, e4⟩ := Open.op22 H enc W m _ _ hm
    simp only [Value.cells, List.cons.injEq, Value.slice.injEq, and_true] at e1
    obtain ⟨rfl, rfl, rfl⟩ := e1
    exact ⟨y, rfl, e2, e3, e4⟩
  obtain ⟨x1, rfl, rfl, rfl, w1⟩ := open_int Try.underlying5 (hval 1 5 v1 rfl rfl) h1
  clear hA0 hval0 hsz0
  obtain ⟨k, h⟩ := Pure.ConnsPlaces_pure x0 x1 w0 w1
  refine (law22_ConnsPlaces.calls k _ _ x0 x1 true W hr0 hc0 h).mono ?_
  rintro e W' ⟨rfl, hd⟩
  have bel : Below W.heap.size W W' := hd
  exact ⟨_, rfl, _, _, _, [], _, [], hW', trodAll_mk1 (shut_bool Try.underlying4 _), (trodAll_cons_mk (Below.trod laidOut (by kernel_rfl) (of_decide_eq_true (by kernel_rfl)) k0 bel lt0) (trodAll_cons_mk (shut_int Try.underlying5 w1) trodAll_mk0)), rfl, bel.frame _, fun h => by cases h⟩
theorem over : Rows.connsPlacesRow.holds Try.pinned (OpenSpec.ofChange Rows.connsPlacesSpec) :=
  OpenClaim.holds_of_wide 3 Try.f3 rfl rfl rfl rfl rfl rfl rfl ⟨rfl, rfl, rfl, rfl, rfl⟩ rfl rfl rfl rfl rfl (by kernel_rfl) Try.func3 (by kernel_rfl)
    (of_decide_eq_true (by kernel_rfl)) (by unfold Func.isWrapper; first | (rw [if_pos (by decide +kernel)]; kernel_rfl) | (rw [if_neg (by decide +kernel)]; exact ⟨rfl, rfl⟩))
    (fun os started H enc _ => lifted os started H enc)
theorem proved : Rows.ConnsPlacesSaid := over
#print axioms proved
end Go.Proofs.Ytgffhdgfloimaaa.connsPlaces
namespace Go.Proofs.Ytgffhdgfloimaaa
/-- The row, under a short name, for the claim. -/
theorem connsPlaces_holds : Rows.ConnsPlacesSaid := connsPlaces.proved
end Go.Proofs.Ytgffhdgfloimaaa

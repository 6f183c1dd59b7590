/- The row of the law PendTells, out of its pure statement (text YtnmloapejbnejaaPurePendTells) and the printed walk. Written by a program of this session (wip/mkrow.py). -/
import Derived.Test.YtnmloapejbnejaaRows
import Derived.Test.YtnmloapejbnejaaP8
import Derived.Test.YtnmloapejbnejaaOpen
import Derived.Test.YtnmloapejbnejaaPurePendTells
import Derived.WalkKit
import Derived.ProofKit
import Derived.OpenShut
import Derived.ShutString
import Derived.ChangeOld
import Derived.Below
import Derived.SizedLaws
namespace Go.Proofs.Ytnmloapejbnejaa.pendTells
open Go.ChangeShapes Go.WideShapes Go.ChangeAt Go.RowKit Go.Proofs.YtnmloapejbnejaaW.PrintWords Go.Proofs.Ytnmloapejbnejaa.P
open Go.ChangeMaps (open_string shut_string)
set_option linter.unusedVariables false
set_option linter.unusedSimpArgs false
theorem own : ownKnob Try.prog.godebug = none := by kernel_rfl
theorem laidOut : laidOutB Try.prog = true := by kernel_rfl
theorem okWide_array {P : Program} {w : World} {r : Reach} {base : Nat} {t e : TypeId} {v : Value} {n : Nat} (ht : P.underlying t = some (.array n e)) (h : Value.okWide P w r base t v) : ∃ cs, v = .agg cs ∧ cs.size = P.cellsOf t := by
  simp only [Value.okWide, ht] at h
  obtain ⟨cs, h1, h2, _⟩ := h
  exact ⟨cs, h1, h2⟩
set_option maxRecDepth 100000 in
theorem lifted (os : Os) (started : os.Started) (H : Type) (enc : TypeId × Value → H) :
    ReturnsInHanded {} Try.checked os 5 .any (Rows.pendTellsSpec.pre6 enc Try.prog Try.f5 Rows.pendTellsRow.domain false) (Rows.pendTellsSpec.post enc Try.prog Try.f5 false true false false) := by
  refine returnsInHanded_of_change_sized (C := Try.checked) own started (by kernel_rfl) Try.func5
    (ChangeSpec.witness6 (enc := enc) (C := Try.checked) false ⟨#[], #[.slice none 0 0, .agg #[.int .i64 0, .int .i64 0, .int .i64 0, .int .i64 0, .int .i64 0, .int .i64 0, .int .i64 0, .int .i64 0, .int .i64 0, .int .i64 0, .slice none 0 0, .int .i64 0], .agg #[.int .i64 0, .int .i64 0]], []⟩ 8 (by kernel_rfl) (by kernel_rfl) (by kernel_rfl) (by kernel_rfl)) ?_
  intro W base args ds gs before hval0 hW hcnd hsz0 _
  have hval : ∀ (j : Nat) t v, Try.f5.params[j]? = some t → args[j]? = some v → Value.okWide Try.prog W .any base t v := hval0
  have hW' := hW
  obtain ⟨p, q, hA0, hV, rfl, hfz, hnd⟩ := hW
  have hA : DataW.TrodAll enc Try.prog W 0 (fun _ => true) true Try.f5.params.toList args.toList ds p := hA0
  rw [Try.params5] at hA hval
  obtain ⟨v0, vs0, d0, ds0, p0, q0, hargs, rfl, rfl, h0, r0⟩ := trodAll_cons hA
  obtain ⟨v1, vs1, d1, ds1, p1, q1, rfl, rfl, rfl, h1, r1⟩ := trodAll_cons r0
  obtain ⟨v2, vs2, d2, ds2, p2, q2, rfl, rfl, rfl, h2, r2⟩ := trodAll_cons r1
  obtain ⟨rfl, rfl, rfl⟩ := trodAll_nil r2
  obtain rfl : args = #[v0, v1, v2] := by cases args; simp_all
  obtain ⟨rfl, rfl⟩ := trodVars_none hV
  have k0 := h0
  have lt0 : ∀ x ∈ p0, x.block < W.heap.size := by obtain ⟨m, hm⟩ := k0; exact DataW.trod_lt m _ _ _ hm
  obtain ⟨A0, len0, c0, rfl⟩ := okWide_slice Try.underlying22 (hval 0 22 v0 rfl rfl)
  obtain ⟨x0, rfl, hc0, hr0, w0⟩ : ∃ (x : List (S32)), len0 = x.length ∧ x.length ≤ c0 ∧ (k32).C W A0 x.length x ∧ (x.length ≤ maxLen ∧ ∀ y_ ∈ x, Open.wf32 y_) := by
    obtain ⟨m, hm⟩ := h0
    obtain ⟨y, ⟨A_, c_, e1, e2, e3⟩, e4⟩ := Open.op22 H enc W m _ _ hm
    simp only [Value.cells, List.cons.injEq, Value.slice.injEq, and_true] at e1
    obtain ⟨rfl, rfl, rfl⟩ := e1
    exact ⟨y, rfl, e2, e3, e4⟩
  have k1 := h1
  have lt1 : ∀ x ∈ p1, x.block < W.heap.size := by obtain ⟨m, hm⟩ := k1; exact DataW.trod_lt m _ _ _ hm
  obtain ⟨cs1, rfl, hsz1⟩ := okWide_struct Try.underlying32 (hval 1 32 v1 rfl rfl)
  obtain ⟨x1, K1, w1⟩ : ∃ x : S32, k32.K W x cs1.toList ∧ Open.wf32 x := by
    obtain ⟨m, hm⟩ := h1
    exact Open.op32 H enc W m _ _ (by simpa [Value.cells] using hm)
  obtain ⟨A1_10, c1_10, E1, hc1_10, hr1_10⟩ := k32_open K1
  obtain rfl : cs1 = #[.int .i64 x1.f0, .int .i64 x1.f1, .int .i64 x1.f2, .int .i64 x1.f3, .int .i64 x1.f4, .int .i64 x1.f5.f0, .int .i64 x1.f5.f1, .int .i64 x1.f5.f2, .int .i64 x1.f5.f3, .int .i64 x1.f5.f4, .slice A1_10 x1.f5.f5.length c1_10, .int .i64 x1.f6] := by apply Array.toList_inj.1; simpa using E1
  have k2 := h2
  have lt2 : ∀ x ∈ p2, x.block < W.heap.size := by obtain ⟨m, hm⟩ := k2; exact DataW.trod_lt m _ _ _ hm
  obtain ⟨cs2, rfl, hsz2⟩ := okWide_array Try.underlying42 (hval 2 42 v2 rfl rfl)
  obtain ⟨x2, K2, w2⟩ : ∃ x : S42, k42.K W x cs2.toList ∧ Open.wf42 x := by
    obtain ⟨m, hm⟩ := h2
    exact Open.op42 H enc W m _ _ (by simpa [Value.cells] using hm)
  have E2 := k42_open K2
  obtain rfl : cs2 = #[.int .i64 x2.f0, .int .i64 x2.f1] := by apply Array.toList_inj.1; simpa using E2
  clear hA0 hval0 hsz0
  obtain ⟨k, h⟩ := Pure.PendTells_pure x0 x1 x2 w0 w1 w2
  refine (law20_PendTells.calls k _ _ x0 x1.f0 x1.f1 x1.f2 x1.f3 x1.f4 x1.f5.f0 x1.f5.f1 x1.f5.f2 x1.f5.f3 x1.f5.f4 _ _ x1.f5.f5 x1.f6 x2.f0 x2.f1 true W hr0 hc0 hr1_10 hc1_10 h).mono ?_
  rintro e W' ⟨rfl, hd⟩
  have bel : Below W.heap.size W W' := hd
  exact ⟨_, rfl, _, _, _, [], _, [], hW', trodAll_mk1 (shut_bool Try.underlying4 _), (trodAll_cons_mk (Below.trod laidOut (by kernel_rfl) (of_decide_eq_true (by kernel_rfl)) k0 bel lt0) (trodAll_cons_mk (Below.trod laidOut (by kernel_rfl) (of_decide_eq_true (by kernel_rfl)) k1 bel lt1) (trodAll_cons_mk (Below.trod laidOut (by kernel_rfl) (of_decide_eq_true (by kernel_rfl)) k2 bel lt2) trodAll_mk0))), rfl, bel.frame _, fun h => by cases h⟩
theorem over : Rows.pendTellsRow.holds Try.pinned (OpenSpec.ofChange Rows.pendTellsSpec) :=
  OpenClaim.holds_of_wide 5 Try.f5 rfl rfl rfl rfl rfl rfl rfl ⟨rfl, rfl, rfl, rfl, rfl⟩ rfl rfl rfl rfl rfl (by kernel_rfl) Try.func5 (by kernel_rfl)
    (of_decide_eq_true (by kernel_rfl)) (by unfold Func.isWrapper; first | (rw [if_pos (by decide +kernel)]; kernel_rfl) | (rw [if_neg (by decide +kernel)]; exact ⟨rfl, rfl⟩))
    (fun os started H enc _ => lifted os started H enc)
theorem proved : Rows.PendTellsSaid := over
#print axioms proved
end Go.Proofs.Ytnmloapejbnejaa.pendTells
namespace Go.Proofs.Ytnmloapejbnejaa
/-- The row, under a short name, for the claim. -/
theorem pendTells_holds : Rows.PendTellsSaid := pendTells.proved
end Go.Proofs.Ytnmloapejbnejaa

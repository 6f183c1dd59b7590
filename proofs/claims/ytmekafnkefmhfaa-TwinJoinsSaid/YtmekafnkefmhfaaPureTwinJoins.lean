/- TwinJoins: the bytes of numbers, and of more, one behind the other, are those of all. No condition beyond the ranges of the arguments' kinds. -/
import Derived.Test.YtmekafnkefmhfaaP0
import Derived.Test.YtmekafnkefmhfaaP1
import Derived.Test.YtmekafnkefmhfaaOpen
import Derived.Test.YtmekafnkefmhfaaTwinLaws
namespace Go.Proofs.Ytmekafnkefmhfaa.Pure
open Go.RowKit Go.Proofs.YtmekafnkefmhfaaW.PrintWords Go.Proofs.YtmekafnkefmhfaaW.PrintLast Go.Proofs.YtmekafnkefmhfaaW.PrintMore Go.Proofs.Ytmekafnkefmhfaa.P Go.Proofs.Ytmekafnkefmhfaa Go.Proofs.Ytmekafnkefmhfaa.Base
set_option linter.unusedVariables false
set_option linter.unusedSimpArgs false

def TwinJoinsPure : Prop := ∀ (x0 : List (Int)) (x1 : List (Int)), (x0.length ≤ maxLen ∧ ∀ y_ ∈ x0, (Lit.int .i64 y_).wf = true) → (x1.length ≤ maxLen ∧ ∀ y_ ∈ x1, (Lit.int .i64 y_).wf = true) → ∃ k, law01_TwinJoins.f k x0 x1 = some true
theorem awake01j : law01_awake.f = some true := by decide +kernel
theorem TwinJoins_pure : TwinJoinsPure := by
  rintro a b ⟨_, ha⟩ ⟨_, hb⟩
  apply Ev.rounds
  have hq : Ev (fun k => law01_TwinJoins.j0 k a b true) true := Ev.step (f := fun _ => some true) (fun k => by simp only [law01_TwinJoins.j0, if_true, awake01j, Option.bind_some]) (Ev.now _)
  by_cases h1 : a.length > 200
  · exact Ev.congr (fun k => by unfold law01_TwinJoins.f; rw [if_pos (by omega)]) hq
  · by_cases h2 : b.length > 200
    · exact Ev.congr (fun k => by unfold law01_TwinJoins.f; rw [if_neg (by omega), decide_eq_true (by omega : (b.length : Int) > 200)]) hq
    · refine Ev.congr (f := fun k => law01_TwinJoins.j0 k a b false) (fun k => by unfold law01_TwinJoins.f; rw [if_neg (by omega), decide_eq_false (by omega : ¬ (b.length : Int) > 200)]) ?_
      refine Ev.step (fun k => by simp only [law01_TwinJoins.j0, Bool.false_eq_true, if_false]; rfl) ?_
      have ea := twin_PutAll_is a (by omega) (fun x hx => bounds_i64 (ha x hx))
      have eb := twin_PutAll_is b (by omega) (fun x hx => bounds_i64 (hb x hx))
      have eab := twin_PutAll_is (a ++ b) (by rw [List.length_append]; omega) (fun x hx => by
        rcases List.mem_append.1 hx with hx | hx
        · exact bounds_i64 (ha x hx)
        · exact bounds_i64 (hb x hx))
      have la := putAll_len a
      have lb := putAll_len b
      refine Ev.bind ea (Ev.bind eb ?_)
      refine Ev.congr (f := fun k => (twin_PutAll.f k (a ++ b)).bind fun bt133 => _) (fun k => by simp only [Option.bind_some, List.nil_append, List.length_nil, Nat.zero_add]; rw [if_pos (by omega), if_pos (by omega)]) ?_
      refine Ev.bind eab ?_
      refine Ev.congr (f := fun _ => some true) (fun k => ?_) (Ev.now _)
      rw [awake01j]
      have hc := allN_cat a b
      by_cases oa : allN a
      · by_cases ob : allN b
        · have oab := hc.2 ⟨oa, ob⟩
          simp only [oa, ob, oab, if_true, Option.bind_some, beq_self_eq_true, putAll_cat, B_cat, B_size]
          rw [if_pos (by omega)]
        · have oab : ¬ allN (a ++ b) := fun h => ob (hc.1 h).2
          simp [oa, ob, oab]
      · have oab : ¬ allN (a ++ b) := fun h => oa (hc.1 h).1
        simp [oa, oab]
end Go.Proofs.Ytmekafnkefmhfaa.Pure

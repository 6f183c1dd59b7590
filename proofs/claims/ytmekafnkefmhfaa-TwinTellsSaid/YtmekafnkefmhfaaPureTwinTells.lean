/- TwinTells: the bytes of any number, and the number at any place of any text (300 bytes at most), are the document's; so are those of all. No condition beyond the ranges of the arguments' kinds. -/
import Derived.Test.YtmekafnkefmhfaaP0
import Derived.Test.YtmekafnkefmhfaaP1
import Derived.Test.YtmekafnkefmhfaaP2
import Derived.Test.YtmekafnkefmhfaaOpen
import Derived.Test.YtmekafnkefmhfaaTwinLaws
import Derived.Test.YtmekafnkefmhfaaRefAll
namespace Go.Proofs.Ytmekafnkefmhfaa.Pure
open Go.RowKit Go.Proofs.YtmekafnkefmhfaaW.PrintWords Go.Proofs.YtmekafnkefmhfaaW.PrintLast Go.Proofs.YtmekafnkefmhfaaW.PrintMore Go.Proofs.Ytmekafnkefmhfaa.P Go.Proofs.Ytmekafnkefmhfaa Go.Proofs.Ytmekafnkefmhfaa.Base
set_option linter.unusedVariables false
set_option linter.unusedSimpArgs false

def TwinTellsPure : Prop := ∀ (x0 : S28), Open.wf28 x0 → ∃ k, law01_TwinTells.f k x0.f0 x0.f1 x0.f2 x0.f3 = some true
theorem awake01t : law01_awake.f = some true := by decide +kernel
theorem TwinTells_pure : TwinTellsPure := by
  rintro ⟨n, s, at_, l⟩ ⟨hn, hs, hat, _, hl⟩
  obtain ⟨s, rfl⟩ := ofB s
  replace hn := bounds_i64 hn
  replace hl : ∀ y ∈ l, -9223372036854775808 ≤ y ∧ y ≤ 9223372036854775807 := fun y hy => bounds_i64 (hl y hy)
  show ∃ k, law01_TwinTells.f k n (B s) at_ l = some true
  apply Ev.rounds
  have hq : Ev (fun k => law01_TwinTells.j0 k n (B s) at_ l true) true := Ev.step (f := fun _ => some true) (fun k => by simp only [law01_TwinTells.j0, if_true, awake01t, Option.bind_some]) (Ev.now _)
  by_cases h1 : s.length > 300
  · exact Ev.congr (fun k => by unfold law01_TwinTells.f; rw [B_size, if_pos (by omega)]) hq
  · by_cases h2 : l.length > 200
    · exact Ev.congr (fun k => by unfold law01_TwinTells.f; rw [B_size, if_neg (by omega), decide_eq_true (by omega : (l.length : Int) > 200)]) hq
    · refine Ev.congr (f := fun k => law01_TwinTells.j0 k n (B s) at_ l false) (fun k => by unfold law01_TwinTells.f; rw [B_size, if_neg (by omega), decide_eq_false (by omega : ¬ (l.length : Int) > 200)]) ?_
      refine Ev.step (f := fun k => law01_TwinTells.j1 k (B s) l false) (fun k => ?_) ?_
      · simp only [law01_TwinTells.j0, Bool.false_eq_true, if_false]
        rw [twin_Put_is n hn.1 hn.2, refPut_is, twin_Get_any s (by omega), ref01_Get_is s (by omega)]
        simp
      · refine Ev.step (fun k => by simp only [law01_TwinTells.j1, Bool.false_eq_true, if_false]; rfl) ?_
        refine Ev.bind (twin_PutAll_is l (by omega) hl) (Ev.bind (ref01_PutAll_is l (by omega)) (Ev.bind (twin_GetAll_is s (by omega)) (Ev.bind (ref01_GetAll_is s (by omega)) ?_)))
        refine Ev.congr (f := fun k => (ref01_Ints.f k (if s.length % 2 = 0 then (getAll s, true) else ([], false)).1 (if s.length % 2 = 0 then (getAll s, true) else ([], false)).1).bind fun t179 => (if t179 = true then (some true) else (some false))) (fun k => by rw [awake01t]; simp) ?_
        have hlen := getAll_len s.length s (Nat.le_refl _)
        refine Ev.bind (ref01_Ints_is _ _ ?_) ?_
        · split
          · show (getAll s).length ≤ _; omega
          · simp
        · simpa using Ev.now _
end Go.Proofs.Ytmekafnkefmhfaa.Pure

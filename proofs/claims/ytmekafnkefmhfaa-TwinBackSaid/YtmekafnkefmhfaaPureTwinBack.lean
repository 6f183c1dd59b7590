/- TwinBack: numbers that have bytes come back of them; bytes come back of their numbers. No condition beyond the ranges of the arguments' kinds. -/
import Derived.Test.YtmekafnkefmhfaaP0
import Derived.Test.YtmekafnkefmhfaaP1
import Derived.Test.YtmekafnkefmhfaaP3
import Derived.Test.YtmekafnkefmhfaaOpen
import Derived.Test.YtmekafnkefmhfaaTwinLaws
import Derived.Test.YtmekafnkefmhfaaRefAll
namespace Go.Proofs.Ytmekafnkefmhfaa.Pure
open Go.RowKit Go.Proofs.YtmekafnkefmhfaaW.PrintWords Go.Proofs.YtmekafnkefmhfaaW.PrintLast Go.Proofs.YtmekafnkefmhfaaW.PrintMore Go.Proofs.Ytmekafnkefmhfaa.P Go.Proofs.Ytmekafnkefmhfaa Go.Proofs.Ytmekafnkefmhfaa.Base
set_option linter.unusedVariables false
set_option linter.unusedSimpArgs false

def TwinBackPure : Prop := ∀ (x0 : List (Int)) (x1 : ByteArray), (x0.length ≤ maxLen ∧ ∀ y_ ∈ x0, (Lit.int .i64 y_).wf = true) → x1.size ≤ maxLen → ∃ k, law01_TwinBack.f k x0 x1 = some true
theorem awake01b : law01_awake.f = some true := by decide +kernel
theorem TwinBack_pure : TwinBackPure := by
  rintro l s ⟨_, hl⟩ _
  obtain ⟨s, rfl⟩ := ofB s
  replace hl : ∀ y ∈ l, -9223372036854775808 ≤ y ∧ y ≤ 9223372036854775807 := fun y hy => bounds_i64 (hl y hy)
  apply Ev.rounds
  have hq : Ev (fun k => law01_TwinBack.j0 k l (B s) true) true := Ev.step (f := fun _ => some true) (fun k => by simp only [law01_TwinBack.j0, if_true, awake01b, Option.bind_some]) (Ev.now _)
  by_cases h1 : s.length > 300
  · exact Ev.congr (fun k => by unfold law01_TwinBack.f; rw [B_size, if_pos (by omega)]) hq
  · by_cases h2 : l.length > 200
    · exact Ev.congr (fun k => by unfold law01_TwinBack.f; rw [B_size, if_neg (by omega), decide_eq_true (by omega : (l.length : Int) > 200)]) hq
    · refine Ev.congr (f := fun k => law01_TwinBack.j0 k l (B s) false) (fun k => by unfold law01_TwinBack.f; rw [B_size, if_neg (by omega), decide_eq_false (by omega : ¬ (l.length : Int) > 200)]) ?_
      refine Ev.step (fun k => by simp only [law01_TwinBack.j0, Bool.false_eq_true, if_false]; rfl) ?_
      have hpl := putAll_len l
      -- the second half
      have hj : Ev (fun k => law01_TwinBack.j1 k (B s) false) true := by
        refine Ev.step (fun k => by simp only [law01_TwinBack.j1, Bool.false_eq_true, if_false]; rfl) ?_
        refine Ev.bind (twin_GetAll_is s (by omega)) ?_
        by_cases he : s.length % 2 = 0
        · obtain ⟨g1, g2⟩ := putAll_getAll s.length s (Nat.le_refl _) he
          have hlen := getAll_len s.length s (Nat.le_refl _)
          simp only [he, if_true]
          refine Ev.bind (twin_PutAll_is (getAll s) (by omega) (fun a ha => by have := g2 a ha; unfold okN at this; omega)) ?_
          rw [if_pos g2, g1]
          refine Ev.congr (f := fun _ => some true) (fun k => ?_) (Ev.now _)
          rw [awake01b, B_size]
          have e : (((s.length : Int) % 2) == 0) = true := by simp; omega
          simp [e]
        · simp only [he, if_false]
          refine Ev.bind (twin_PutAll_is [] (by simp) (fun a ha => by simp at ha)) ?_
          refine Ev.congr (f := fun _ => some true) (fun k => ?_) (Ev.now _)
          rw [awake01b, B_size]
          have e : (((s.length : Int) % 2) == 0) = false := by simp; omega
          simp [e]
      refine Ev.bind (twin_PutAll_is l (by omega) hl) ?_
      by_cases ol : allN l
      · simp only [ol, if_true]
        refine Ev.bind (twin_GetAll_is (putAll l) (by omega)) ?_
        rw [if_pos (by omega), getAll_putAll l ol]
        simp only [if_true]
        refine Ev.bind (ref01_Ints_is l l (by omega)) ?_
        refine Ev.congr (fun k => ?_) hj
        rw [decide_eq_true rfl, if_pos rfl, B_size, w_id (by omega) (by omega), if_pos (by omega)]
      · simp only [ol, if_false]
        refine Ev.bind (twin_GetAll_is [] (by simp)) ?_
        refine Ev.congr (fun k => ?_) hj
        simp [B_list]
end Go.Proofs.Ytmekafnkefmhfaa.Pure

/- PendTells: what any requests that may be (80 at most) are with any one more, without one, at any tick, and of any connection, is the document's. No condition beyond the ranges of the arguments' kinds. -/
import Derived.Test.YtnmloapejbnejaaP8
import Derived.Test.YtnmloapejbnejaaP8
import Derived.Test.YtnmloapejbnejaaP8
import Derived.Test.YtnmloapejbnejaaOpen
import Derived.Test.YtnmloapejbnejaaPend2
namespace Go.Proofs.Ytnmloapejbnejaa.Pure
open Go.RowKit Go.Proofs.YtnmloapejbnejaaW.PrintWords Go.Proofs.YtnmloapejbnejaaW.PrintLast Go.Proofs.YtnmloapejbnejaaW.PrintMore Go.Proofs.Ytnmloapejbnejaa.P Go.Proofs.Ytnmloapejbnejaa Go.Proofs.Ytnmloapejbnejaa.Base
set_option linter.unusedVariables false
set_option linter.unusedSimpArgs false

def PendTellsPure : Prop := ∀ (x0 : List (S32)) (x1 : S32) (x2 : S42), (x0.length ≤ maxLen ∧ ∀ y_ ∈ x0, Open.wf32 y_) → Open.wf32 x1 → Open.wf42 x2 → ∃ k, law20_PendTells.f k x0 x1.f0 x1.f1 x1.f2 x1.f3 x1.f4 x1.f5.f0 x1.f5.f1 x1.f5.f2 x1.f5.f3 x1.f5.f4 x1.f5.f5 x1.f6 x2.f0 x2.f1 = some true
theorem awake20 : Ev (fun k => law20_awake.f k) true := Ev.of law20_awake.mono (k := 8) (by decide +kernel)
theorem tells_end (l : List Pd) (hl : l.length ≤ 80) (hi : ∀ p ∈ l, inI p.f0) (hv : ∀ p ∈ l, p.f5.f5.length ≤ lim) (p : Pd) (hpv : p.f5.f5.length ≤ lim) (n0 n1 : Int) :
    Ev (fun k => law20_PendTells.l0 k l (l.length : Int) p.f0 p.f1 p.f2 p.f3 p.f4 p.f5.f0 p.f5.f1 p.f5.f2 p.f5.f3 p.f5.f4 p.f5.f5 p.f6 n0 n1) true := by
  have hlim : l.length ≤ lim := by unfold lim; omega
  obtain ⟨b, h1, h2⟩ := pend_Right_is l hlim hi
  obtain ⟨c, h3, h4⟩ := ref20_Right_is l hlim
  have hbc : b = c := by
    cases b <;> cases c
    · rfl
    · exact absurd (h2.2 (h4.1 rfl)) (by simp)
    · exact absurd (h4.2 (h2.1 rfl)) (by simp)
    · rfl
  subst hbc
  refine Ev.step (fun k => by simp only [law20_PendTells.l0]; rw [if_neg (by omega)]) ?_
  refine Ev.bind h1 (Ev.bind h3 ?_)
  refine Ev.congr (fun k => if_neg (by simp)) ?_
  refine Ev.bind h3 ?_
  cases b with
  | false => exact Ev.congr (fun k => if_neg (by simp)) (Ev.bind awake20 (Ev.now _))
  | true =>
    refine Ev.congr (fun k => if_pos rfl) ?_
    refine Ev.bind (pend_Add_is l hlim p n0) (Ev.bind (ref20_Add_is l hlim p n0) (Ev.bind (pend_Due_is l hlim n1) (Ev.bind (ref20_Due_is l hlim n1) (Ev.bind awake20 ?_))))
    have hA : (addS l p n0).1.length ≤ lim ∧ ∀ q ∈ (addS l p n0).1, q.f5.f5.length ≤ lim := by
      unfold addS
      split
      · exact ⟨hlim, hv⟩
      · split
        · exact ⟨hlim, hv⟩
        · refine ⟨by show (l ++ [p]).length ≤ lim; rw [List.length_append]; show l.length + 1 ≤ lim; unfold lim; omega, fun q hq => ?_⟩
          rcases List.mem_append.1 hq with hq | hq
          · exact hv q hq
          · rw [List.mem_singleton] at hq; rw [hq]; exact hpv
    have hf : ∀ f : Pd → Bool, (l.filter f).length ≤ lim ∧ ∀ q ∈ l.filter f, q.f5.f5.length ≤ lim := fun f => ⟨Nat.le_trans (List.length_filter_le _ _) hlim, fun q hq => hv q (List.mem_filter.1 hq).1⟩
    refine Ev.congr (fun k => if_pos rfl) ?_
    refine Ev.bind (psame_is _ hA.1 hA.2) (Ev.congr (fun k => if_pos rfl) (Ev.congr (fun k => if_pos rfl) ?_))
    refine Ev.bind (psame_is _ (hf _).1 (hf _).2) (Ev.congr (fun k => if_pos rfl) ?_)
    refine Ev.bind (psame_is _ (hf _).1 (hf _).2) (Ev.congr (fun k => if_pos rfl) ?_)
    refine Ev.bind (pend_Find_is l hlim n0) (Ev.bind (ref20_Find_is l hlim n0) (Ev.congr (fun k => if_pos rfl) ?_))
    refine Ev.congr (fun k => by rw [pend_Drop_is l hlim n0, Option.bind_some]) ?_
    refine Ev.bind (ref20_Drop_is l hlim n0) ?_
    refine Ev.bind (psame_is _ (Nat.le_trans (dropS_len l n0) hlim) (fun q hq => hv q (dropS_mem hq))) (Ev.congr (fun k => if_pos rfl) ?_)
    refine Ev.bind (pend_Leave_is l hlim n0) (Ev.bind (ref20_Leave_is l hlim n0) ?_)
    refine Ev.bind (psame_is _ (hf _).1 (hf _).2) (Ev.congr (fun k => if_pos rfl) ?_)
    refine Ev.bind (pend_Outers_is l hlim) (Ev.bind (ref20_Outers_is l hlim) ?_)
    exact Ev.bind (ints_is _ (by rw [List.length_map]; exact hlim)) (Ev.now _)
theorem tells_loop (l : List Pd) (hl : l.length ≤ 80) (hi : ∀ p ∈ l, inI p.f0) (p : Pd) (hpv : p.f5.f5.length ≤ lim) (n0 n1 : Int) (d : Nat) : ∀ i : Nat, i ≤ l.length → l.length - i = d → (∀ q ∈ l.take i, q.f5.f5.length ≤ lim) →
    Ev (fun k => law20_PendTells.l0 k l (i : Int) p.f0 p.f1 p.f2 p.f3 p.f4 p.f5.f0 p.f5.f1 p.f5.f2 p.f5.f3 p.f5.f4 p.f5.f5 p.f6 n0 n1) true := by
  induction d with
  | zero =>
    intro i hil hd hv
    have hil' : i = l.length := by omega
    rw [hil'] at hv ⊢
    rw [List.take_length] at hv
    exact tells_end l hl hi hv p hpv n0 n1
  | succ d ih =>
    intro i hil hd hv
    have hlt : i < l.length := by omega
    by_cases c : (l[i]).f5.f5.length > 100
    · refine Ev.step (fun k => by simp only [law20_PendTells.l0]; rw [if_pos (by omega), if_pos (by omega), rdP l i hlt, if_pos (by omega)]) ?_
      exact Ev.bind awake20 (Ev.now _)
    · have et : l.take (i + 1) = l.take i ++ [l[i]] := by rw [List.take_add_one, List.getElem?_eq_getElem hlt]; rfl
      refine Ev.step (fun k => ?_) (ih (i + 1) (by omega) (by omega) (fun q hq => by
        rw [et] at hq
        rcases List.mem_append.1 hq with hq | hq
        · exact hv q hq
        · rw [List.mem_singleton] at hq; rw [hq]; unfold lim; omega))
      simp only [law20_PendTells.l0]
      rw [if_pos (by omega), if_pos (by omega), rdP l i hlt, if_neg (by omega), w_id (by omega) (by omega)]
      rfl
theorem PendTells_pure : PendTellsPure := by
  rintro l p n ⟨_, hw⟩ _ _
  have hi : ∀ q ∈ l, inI q.f0 := fun q hq => bounds_i64 (hw q hq).1
  apply Ev.rounds
  have hq : Ev (fun k => law20_PendTells.j0 k l true p.f0 p.f1 p.f2 p.f3 p.f4 p.f5.f0 p.f5.f1 p.f5.f2 p.f5.f3 p.f5.f4 p.f5.f5 p.f6 n.f0 n.f1) true := Ev.step (f := fun k => (law20_awake.f k).bind fun t => some t) (fun k => by simp only [law20_PendTells.j0, if_true]) (Ev.bind awake20 (Ev.now _))
  unfold law20_PendTells.f
  by_cases h : l.length > 80
  · exact Ev.congr (fun k => if_pos (by omega)) hq
  · refine Ev.congr (fun k => if_neg (by omega)) ?_
    by_cases h2 : p.f5.f5.length > 100
    · exact Ev.congr (fun k => by rw [decide_eq_true (by omega)]) hq
    · refine Ev.congr (f := fun k => law20_PendTells.j0 k l false p.f0 p.f1 p.f2 p.f3 p.f4 p.f5.f0 p.f5.f1 p.f5.f2 p.f5.f3 p.f5.f4 p.f5.f5 p.f6 n.f0 n.f1) (fun k => by rw [decide_eq_false (by omega)]) ?_
      refine Ev.step (f := fun k => law20_PendTells.l0 k l ((0 : Nat) : Int) p.f0 p.f1 p.f2 p.f3 p.f4 p.f5.f0 p.f5.f1 p.f5.f2 p.f5.f3 p.f5.f4 p.f5.f5 p.f6 n.f0 n.f1) (fun k => by simp only [law20_PendTells.j0, Bool.false_eq_true, if_false]; rfl) ?_
      exact tells_loop l (by omega) hi p (by unfold lim; omega) n.f0 n.f1 l.length 0 (by omega) (by omega) (fun q hq => by simp at hq)
end Go.Proofs.Ytnmloapejbnejaa.Pure

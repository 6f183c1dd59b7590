/- ScriptJoins: the bytes of events, and of more, one behind the other, are those of all; without the document's answer. No condition beyond the ranges of the arguments' kinds. -/
import Derived.Test.YtcdklefgnecjmaaP0
import Derived.Test.YtcdklefgnecjmaaP4
import Derived.Test.YtcdklefgnecjmaaP7
import Derived.Test.YtcdklefgnecjmaaOpen
import Derived.Test.YtcdklefgnecjmaaScript
namespace Go.Proofs.Ytcdklefgnecjmaa.Pure
open Go.RowKit Go.Proofs.YtcdklefgnecjmaaW.PrintWords Go.Proofs.YtcdklefgnecjmaaW.PrintLast Go.Proofs.YtcdklefgnecjmaaW.PrintMore Go.Proofs.Ytcdklefgnecjmaa.P Go.Proofs.Ytcdklefgnecjmaa Go.Proofs.Ytcdklefgnecjmaa.Base
set_option linter.unusedVariables false
set_option linter.unusedSimpArgs false

def ScriptJoinsPure : Prop := ∀ (x0 : List (S27)) (x1 : List (S27)), (x0.length ≤ maxLen ∧ ∀ y_ ∈ x0, Open.wf27 y_) → (x1.length ≤ maxLen ∧ ∀ y_ ∈ x1, Open.wf27 y_) → ∃ k, law26_ScriptJoins.f k x0 x1 = some true
theorem awake26 : Ev (fun k => law26_awake.f k) true := Ev.of law26_awake.mono (k := 12) (by decide +kernel)
theorem in_of {l : List E} (h : ∀ y_ ∈ l, Open.wf27 y_) : ∀ e ∈ l, inE e := fun e he => by
  obtain ⟨h0, h1, h2, _⟩ := h e he
  exact ⟨bounds_i64 h0, bounds_i64 h1, bounds_i64 h2⟩
theorem scan_len (s : List UInt8) : (scan s s.length 0 []).1.length ≤ s.length := by
  have := scan_good s s.length 0 [] (by omega) (by omega) rfl (fun a ha => by simp at ha) (fun a ha => by simp at ha)
  rcases this with ⟨_, _, h, _, _⟩ | ⟨_, h, _, _⟩
  · have h8 := evsB_many (scan s s.length 0 []).1
    rw [h] at h8; omega
  · rw [h]; simp
theorem ScriptJoins_pure : ScriptJoinsPure := by
  rintro a b ⟨hla, hwa⟩ ⟨hlb, hwb⟩
  have hia := in_of hwa
  have hib := in_of hwb
  apply Ev.rounds
  have hq : Ev (fun k => law26_ScriptJoins.j0 k a b true) true := Ev.step (f := fun k => (law26_awake.f k).bind fun t => some t) (fun k => by simp only [law26_ScriptJoins.j0, if_true]) (Ev.bind awake26 (Ev.now _))
  obtain ⟨x, h1, h2⟩ := few_is a 20 (by omega)
  obtain ⟨y, h3, h4⟩ := few_is b 20 (by omega)
  unfold law26_ScriptJoins.f
  refine Ev.bind h1 ?_
  cases x with
  | false => exact Ev.congr (fun k => if_neg (by simp)) hq
  | true =>
    obtain ⟨g1, g2⟩ := h2 rfl
    refine Ev.congr (fun k => if_pos rfl) ?_
    refine Ev.bind h3 ?_
    cases y with
    | false => exact hq
    | true =>
      obtain ⟨g3, g4⟩ := h4 rfl
      have ha := few_small a g2
      have hb := few_small b g4
      have hia' : ∀ e ∈ a ++ b, inE e := fun e he => by rcases List.mem_append.1 he with he | he; exact hia e he; exact hib e he
      show Ev (fun k => law26_ScriptJoins.j0 k a b false) true
      refine Ev.step (fun k => by simp only [law26_ScriptJoins.j0, Bool.false_eq_true, if_false]; rfl) ?_
      refine Ev.bind (script_Put_is a hia (by omega)) (Ev.bind (script_Put_is b hib (by omega)) ?_)
      refine Ev.congr (f := fun k => (script_Put.f k (a ++ b)).bind fun bt253 => ((law26_awake.f k).bind fun t255 => (if t255 = true then (if (if allE a then (B (evsB a), true) else (B [], false)).2 = true then (if (bt253.2 == (if allE b then (B (evsB b), true) else (B [], false)).2) = true then (if bt253.2 = true then (if (if allE a then (B (evsB a), true) else (B [], false)).1.size + (if allE b then (B (evsB b), true) else (B [], false)).1.size ≤ 9223372036854775807 then (some (bt253.1.toList == ((if allE a then (B (evsB a), true) else (B [], false)).1 ++ (if allE b then (B (evsB b), true) else (B [], false)).1).toList)) else (none)) else (some true)) else (none)) else (if (bt253.2 == false) = true then (if bt253.2 = true then (if (if allE a then (B (evsB a), true) else (B [], false)).1.size + (if allE b then (B (evsB b), true) else (B [], false)).1.size ≤ 9223372036854775807 then (some (bt253.1.toList == ((if allE a then (B (evsB a), true) else (B [], false)).1 ++ (if allE b then (B (evsB b), true) else (B [], false)).1).toList)) else (none)) else (some true)) else (none))) else (none)))) (fun k => ?_) ?_
      · rw [Option.bind_some, List.nil_append, if_pos (by simp only [List.length_nil]; omega), Option.bind_some, if_pos (by omega)]
      · refine Ev.bind (script_Put_is (a ++ b) hia' (by rw [evsB_app, List.length_append]; omega)) (Ev.bind awake26 (Ev.congr (fun k => ?_) (Ev.now _)))
        rw [if_pos rfl]
        by_cases ca : allE a
        · by_cases cb : allE b
          · rw [if_pos ca, if_pos cb, if_pos ((allE_app a b).2 ⟨ca, cb⟩)]
            rw [if_pos rfl, if_pos rfl, if_pos (by rfl), B_size, B_size, if_pos (by omega), B_cat, evsB_app]
            simp
          · rw [if_pos ca, if_neg cb, if_neg (fun h => cb ((allE_app a b).1 h).2)]
            rfl
        · rw [if_neg ca, if_neg (fun h => ca ((allE_app a b).1 h).1)]
          rfl
end Go.Proofs.Ytcdklefgnecjmaa.Pure

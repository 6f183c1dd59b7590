/- ScriptBack: events that may be written come back; bytes that are events' are theirs; without the document's answer. No condition beyond the ranges of the arguments' kinds. -/
import Derived.Test.YtcdklefgnecjmaaP0
import Derived.Test.YtcdklefgnecjmaaP4
import Derived.Test.YtcdklefgnecjmaaP6
import Derived.Test.YtcdklefgnecjmaaOpen
import Derived.Test.YtcdklefgnecjmaaScript
namespace Go.Proofs.Ytcdklefgnecjmaa.Pure
open Go.RowKit Go.Proofs.YtcdklefgnecjmaaW.PrintWords Go.Proofs.YtcdklefgnecjmaaW.PrintLast Go.Proofs.YtcdklefgnecjmaaW.PrintMore Go.Proofs.Ytcdklefgnecjmaa.P Go.Proofs.Ytcdklefgnecjmaa Go.Proofs.Ytcdklefgnecjmaa.Base
set_option linter.unusedVariables false
set_option linter.unusedSimpArgs false

def ScriptBackPure : Prop := ∀ (x0 : List (S27)) (x1 : ByteArray), (x0.length ≤ maxLen ∧ ∀ y_ ∈ x0, Open.wf27 y_) → x1.size ≤ maxLen → ∃ k, law26_ScriptBack.f k x0 x1 = some true
theorem awake26 : Ev (fun k => law26_awake.f k) true := Ev.of law26_awake.mono (k := 12) (by decide +kernel)
theorem in_of {l : List E} (h : ∀ y_ ∈ l, Open.wf27 y_) : ∀ e ∈ l, inE e := fun e he => by
  obtain ⟨h0, h1, h2, _⟩ := h e he
  exact ⟨bounds_i64 h0, bounds_i64 h1, bounds_i64 h2⟩
theorem scan_len (s : List UInt8) : (scan s s.length 0 []).1.length ≤ s.length := by
  have := scan_good s s.length 0 [] (by omega) (by omega) rfl (fun a ha => by simp at ha) (fun a ha => by simp at ha)
  rcases this with ⟨_, _, h, _, _⟩ | ⟨_, h, _, _⟩
  · have h8 := evsB_many (scan s s.length 0 []).1
    rw [h] at h8; omega
  · rw [h]; simp
theorem back1 (s : List UInt8) (hs : s.length ≤ 2000) : Ev (fun k => law26_ScriptBack.j1 k (B s) false) true := by
  have hG := scan_good s s.length 0 [] (by omega) (by omega) rfl (fun a ha => by simp at ha) (fun a ha => by simp at ha)
  refine Ev.step (fun k => by simp only [law26_ScriptBack.j1, Bool.false_eq_true, if_false]; rfl) ?_
  refine Ev.bind (script_Get_is s (by omega)) ?_
  rcases hG with ⟨h0, h1, h2, h3, h4⟩ | ⟨h0, h1, h2, h3⟩
  · refine Ev.congr (fun k => if_pos h0) ?_
    have hP := script_Put_is (scan s s.length 0 []).1 h4 (by rw [h2]; omega)
    rw [if_pos h3, h2] at hP
    refine Ev.bind hP (Ev.bind awake26 (Ev.congr (fun k => ?_) (Ev.now _)))
    rw [if_pos rfl, if_pos rfl, if_pos rfl, h1]
    rfl
  · refine Ev.congr (fun k => if_neg (by rw [h0]; decide)) ?_
    refine Ev.bind awake26 (Ev.congr (fun k => ?_) (Ev.now _))
    rw [if_pos rfl, h1, if_pos (by rfl), if_pos h2, B_size, decide_eq_true h3]
theorem ScriptBack_pure : ScriptBackPure := by
  rintro l s ⟨hl, hw⟩ hs
  obtain ⟨s, rfl⟩ := ofB s
  have hi := in_of hw
  apply Ev.rounds
  have hq : Ev (fun k => law26_ScriptBack.j0 k l (B s) true) true := Ev.step (f := fun k => (law26_awake.f k).bind fun t => some t) (fun k => by simp only [law26_ScriptBack.j0, if_true]) (Ev.bind awake26 (Ev.now _))
  obtain ⟨b, h1, h2⟩ := few_is l 40 (by omega)
  unfold law26_ScriptBack.f
  refine Ev.bind h1 ?_
  cases b with
  | false => exact Ev.congr (fun k => if_neg (by simp)) hq
  | true =>
    obtain ⟨g1, g2⟩ := h2 rfl
    by_cases c : s.length > 2000
    · exact Ev.congr (fun k => by rw [if_pos rfl, B_size, decide_eq_true (by omega)]) hq
    · refine Ev.congr (f := fun k => law26_ScriptBack.j0 k l (B s) false) (fun k => by rw [if_pos rfl, B_size, decide_eq_false (by omega)]) ?_
      have hb := back1 s (by omega)
      have hsm := few_small l g2
      refine Ev.step (fun k => by simp only [law26_ScriptBack.j0, Bool.false_eq_true, if_false]; rfl) ?_
      have hP := script_Put_is l hi (by omega)
      by_cases ha : allE l
      · rw [if_pos ha] at hP
        refine Ev.bind hP ?_
        have hG := script_Get_is (evsB l) (by omega)
        have hS : scan (evsB l) (evsB l).length 0 [] = (l, 0, 0) := scan_back l [] _ [] ha (Nat.le_refl _)
        rw [hS] at hG
        refine Ev.bind hG ?_
        refine Ev.congr (f := fun k => (ref26_Same.f k l l).bind fun t => if t = true then law26_ScriptBack.j1 k (B s) false else law26_ScriptBack.j1 k (B s) true) (fun k => ?_) ?_
        · rw [if_pos rfl, if_pos rfl]
        · exact Ev.bind (same_is l (by omega)) (Ev.congr (fun k => if_pos rfl) hb)
      · rw [if_neg ha] at hP
        refine Ev.bind hP ?_
        refine Ev.bind (script_Get_is [] (by decide)) ?_
        refine Ev.congr (fun k => ?_) hb
        rw [if_neg (by simp)]
        show law26_ScriptBack.j1 k (B s) ((B []).toList != []) = _
        rw [B_list]
        rfl
end Go.Proofs.Ytcdklefgnecjmaa.Pure

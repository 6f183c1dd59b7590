/- ScriptTells: the bytes of any events (40 of 600 bytes at most), and the events of any bytes (2000 at most), or where they break off, are the document's. No condition beyond the ranges of the arguments' kinds. -/
import Derived.Test.YtcdklefgnecjmaaP0
import Derived.Test.YtcdklefgnecjmaaP4
import Derived.Test.YtcdklefgnecjmaaP6
import Derived.Test.YtcdklefgnecjmaaOpen
import Derived.Test.YtcdklefgnecjmaaScript
namespace Go.Proofs.Ytcdklefgnecjmaa.Pure
open Go.RowKit Go.Proofs.YtcdklefgnecjmaaW.PrintWords Go.Proofs.YtcdklefgnecjmaaW.PrintLast Go.Proofs.YtcdklefgnecjmaaW.PrintMore Go.Proofs.Ytcdklefgnecjmaa.P Go.Proofs.Ytcdklefgnecjmaa Go.Proofs.Ytcdklefgnecjmaa.Base
set_option linter.unusedVariables false
set_option linter.unusedSimpArgs false

def ScriptTellsPure : Prop := ∀ (x0 : List (S27)) (x1 : ByteArray), (x0.length ≤ maxLen ∧ ∀ y_ ∈ x0, Open.wf27 y_) → x1.size ≤ maxLen → ∃ k, law26_ScriptTells.f k x0 x1 = some true
theorem awake26 : Ev (fun k => law26_awake.f k) true := Ev.of law26_awake.mono (k := 12) (by decide +kernel)
theorem in_of {l : List E} (h : ∀ y_ ∈ l, Open.wf27 y_) : ∀ e ∈ l, inE e := fun e he => by
  obtain ⟨h0, h1, h2, _⟩ := h e he
  exact ⟨bounds_i64 h0, bounds_i64 h1, bounds_i64 h2⟩
theorem scan_len (s : List UInt8) : (scan s s.length 0 []).1.length ≤ s.length := by
  have := scan_good s s.length 0 [] (by omega) (by omega) rfl (fun a ha => by simp at ha) (fun a ha => by simp at ha)
  rcases this with ⟨_, _, h, _, _⟩ | ⟨_, h, _, _⟩
  · have h8 := evsB_many (scan s s.length 0 []).1
    rw [h] at h8; omega
  · rw [h]; simp
theorem tells_loop (l : List E) (s : List UInt8) (hi : ∀ e ∈ l, inE e) (hT : (evsB l).length ≤ 100000) (hl : l.length ≤ 40) (hs : s.length ≤ 2000) (d : Nat) : ∀ i : Nat, i ≤ l.length → l.length - i = d → Ev (fun k => law26_ScriptTells.l0 k l (B s) (i : Int)) true := by
  induction d with
  | zero =>
    intro i hil hd
    refine Ev.step (fun k => by simp only [law26_ScriptTells.l0]; rw [if_neg (by omega)]) ?_
    refine Ev.bind (script_Put_is l hi (by omega)) (Ev.bind (ref26_Put_is l (by omega)) (Ev.bind (script_Get_is s (by omega)) (Ev.bind (ref26_Get_is s (by omega)) (Ev.bind awake26 ?_))))
    have hn := scan_len s
    refine Ev.congr (f := fun k => (ref26_Same.f k (scan s s.length 0 []).1 (scan s s.length 0 []).1).bind fun t => if t = true then some true else none) (fun k => ?_) ?_
    · rw [if_pos rfl, if_pos rfl, if_pos (by simp), if_pos rfl]
      simp only [beq_self_eq_true]
    · exact Ev.bind (same_is _ (by omega)) (Ev.congr (fun k => if_pos rfl) (Ev.now _))
  | succ d ih =>
    intro i hil hd
    have hlt : i < l.length := by omega
    refine Ev.step (f := fun k => law26_ScriptTells.l0 k l (B s) ((i + 1 : Nat) : Int)) (fun k => ?_) (ih _ (by omega) (by omega))
    simp only [law26_ScriptTells.l0]
    rw [if_pos (by omega), if_pos (by omega), rdE_get l i hlt, script_Right_is _ (hi _ (List.getElem_mem hlt)), Option.bind_some, ref26_Right_is, Option.bind_some, if_neg (by simp), w_id (by omega) (by omega)]
    rfl
theorem ScriptTells_pure : ScriptTellsPure := by
  rintro l s ⟨hl, hw⟩ hs
  obtain ⟨s, rfl⟩ := ofB s
  have hi := in_of hw
  apply Ev.rounds
  have hq : Ev (fun k => law26_ScriptTells.j0 k l (B s) true) true := Ev.step (f := fun k => (law26_awake.f k).bind fun t => some t) (fun k => by simp only [law26_ScriptTells.j0, if_true]) (Ev.bind awake26 (Ev.now _))
  obtain ⟨b, h1, h2⟩ := few_is l 40 (by omega)
  unfold law26_ScriptTells.f
  refine Ev.bind h1 ?_
  cases b with
  | false => exact Ev.congr (fun k => if_neg (by simp)) hq
  | true =>
    obtain ⟨g1, g2⟩ := h2 rfl
    by_cases c : s.length > 2000
    · exact Ev.congr (fun k => by rw [if_pos rfl, B_size, decide_eq_true (by omega)]) hq
    · refine Ev.congr (f := fun k => law26_ScriptTells.j0 k l (B s) false) (fun k => by rw [if_pos rfl, B_size, decide_eq_false (by omega)]) ?_
      refine Ev.step (f := fun k => law26_ScriptTells.l0 k l (B s) ((0 : Nat) : Int)) (fun k => by simp only [law26_ScriptTells.j0, Bool.false_eq_true, if_false]; rfl) ?_
      have hsm := few_small l g2
      exact tells_loop l s hi (by omega) (by omega) (by omega) l.length 0 (by omega) (by omega)
end Go.Proofs.Ytcdklefgnecjmaa.Pure

/- MbapBack: a frame that may be comes back; bytes that are a frame's are its; the first six tell how many there are. No condition beyond the ranges of the arguments' kinds. -/
import Derived.Test.YtonhlaodpbjfcaaP0
import Derived.Test.YtonhlaodpbjfcaaP2
import Derived.Test.YtonhlaodpbjfcaaP6
import Derived.Test.YtonhlaodpbjfcaaOpen
import Derived.Test.YtonhlaodpbjfcaaMbapPut
namespace Go.Proofs.Ytonhlaodpbjfcaa.Pure
open Go.RowKit Go.Proofs.YtonhlaodpbjfcaaW.PrintWords Go.Proofs.YtonhlaodpbjfcaaW.PrintLast Go.Proofs.YtonhlaodpbjfcaaW.PrintMore Go.Proofs.Ytonhlaodpbjfcaa.P Go.Proofs.Ytonhlaodpbjfcaa Go.Proofs.Ytonhlaodpbjfcaa.Base
set_option linter.unusedVariables false
set_option linter.unusedSimpArgs false

def MbapBackPure : Prop := ∀ (x0 : S23) (x1 : ByteArray), Open.wf23 x0 → x1.size ≤ maxLen → ∃ k, law08_MbapBack.f k x0.f0 x0.f1 x0.f2 x1 = some true
theorem awake08b : Ev (fun k => law08_awake.f k) true := Ev.of law08_awake.mono (k := 6) (by decide +kernel)
/-- Bytes that are a frame's are its; others are told as the empty frame. -/
theorem second (s : List UInt8) (hs : s.length ≤ 500) : (∃ i u p, Base.get s = (i, u, B p, 0) ∧ okF i u p ∧ putF i u p = s) ∨ Base.get s = (0, 0, B [], 5) := by
  by_cases h : (need s).2 = 0 ∧ (need s).1 ≠ 0 ∧ (need s).1 = s.length
  · obtain ⟨g1, g2'⟩ := put_get h.1 h.2.1 h.2.2
    exact Or.inl ⟨_, _, _, by unfold Base.get; rw [if_pos h], g1, g2'⟩
  · exact Or.inr (by unfold Base.get; rw [if_neg h])
theorem MbapBack_pure : MbapBackPure := by
  rintro ⟨i, u, p⟩ s ⟨hi, hu, _⟩ _
  obtain ⟨p, rfl⟩ := ofB p
  obtain ⟨s, rfl⟩ := ofB s
  replace hi := bounds_i64 hi
  replace hu := bounds_i64 hu
  show ∃ k, law08_MbapBack.f k i u (B p) (B s) = some true
  apply Ev.rounds
  have hq : Ev (fun k => law08_MbapBack.j0 k (B s) true i u (B p)) true := Ev.step (f := fun k => (law08_awake.f k).bind fun t => some t) (fun k => by simp only [law08_MbapBack.j0, if_true]) (Ev.bind awake08b (Ev.now _))
  by_cases h1 : p.length > 500
  · exact Ev.congr (fun k => by unfold law08_MbapBack.f; rw [B_size, if_pos (by omega)]) hq
  · by_cases h2 : s.length > 500
    · exact Ev.congr (fun k => by unfold law08_MbapBack.f; rw [B_size, B_size, if_neg (by omega), decide_eq_true (by omega : (s.length : Int) > 500)]) hq
    · refine Ev.congr (f := fun k => law08_MbapBack.j0 k (B s) false i u (B p)) (fun k => by unfold law08_MbapBack.f; rw [B_size, B_size, if_neg (by omega), decide_eq_false (by omega : ¬ (s.length : Int) > 500)]) ?_
      refine Ev.step (fun k => by simp only [law08_MbapBack.j0, Bool.false_eq_true, if_false]; rfl) ?_
      refine Ev.bind (mbap_Put_is i u p hi hu) ?_
      rw [mbap_Right_is i u p hi hu]
      by_cases ok : okF i u p
      · obtain ⟨gp, np⟩ := get_put ok
        have hl := putF_len i u p
        have ok' := ok
        obtain ⟨o1, o2, o3, o4, o5, o6⟩ := ok'
        simp only [ok, if_true, decide_true]
        rw [mbap_Get_is _ (by omega), gp]
        refine Ev.congr (f := fun k => law08_MbapBack.j1 k (B s) (B (putF i u p)) true false) (fun k => ?_) ?_
        · simp only [Option.bind_some, bne_self_eq_false, Bool.false_eq_true, if_false, if_true, beq_self_eq_true, Bool.not_true, Bool.or_self]
          rw [B_size, if_neg (by omega), decide_eq_false (by omega)]
        · refine Ev.step (f := fun k => law08_MbapBack.j2 k (B s) (B (putF i u p)) true false) (fun k => ?_) ?_
          · simp only [law08_MbapBack.j1, Bool.false_eq_true, if_false, if_true]
            rw [if_pos (by decide), B_size, if_pos (by omega), B_cut, List.drop_zero, mbap_Need_is _ (by rw [List.length_take]; omega), need_first (by omega), np]
            simp
          · refine Ev.step (fun k => by simp only [law08_MbapBack.j2, Bool.false_eq_true, if_false]; rw [mbap_Get_is s (by omega), Option.bind_some]) ?_
            rcases second s (by omega) with ⟨i', u', p', e1, e2, e3⟩ | e1
            · rw [e1]
              have e2' := e2
              obtain ⟨q1, q2, q3, q4, q5, q6⟩ := e2'
              refine Ev.bind (mbap_Put_is i' u' p' (by omega) (by omega)) (Ev.bind awake08b ?_)
              simp only [e2, if_true, e3]
              exact Ev.now _
            · rw [e1]
              refine Ev.bind (mbap_Put_is 0 0 [] (by omega) (by omega)) (Ev.bind awake08b ?_)
              simpa [B_list] using Ev.now _
      · simp only [ok, if_false, decide_false]
        have g0 : Base.get [] = (0, 0, B [], 5) := by decide +kernel
        rw [mbap_Get_is [] (by simp), g0]
        refine Ev.congr (f := fun k => law08_MbapBack.j1 k (B s) (B []) false false) (fun k => by simp) ?_
        refine Ev.step (fun k => by simp only [law08_MbapBack.j1, Bool.false_eq_true, if_false]; rw [mbap_Get_is s (by omega), Option.bind_some]) ?_
        rcases second s (by omega) with ⟨i', u', p', e1, e2, e3⟩ | e1
        · rw [e1]
          have e2' := e2
          obtain ⟨q1, q2, q3, q4, q5, q6⟩ := e2'
          refine Ev.bind (mbap_Put_is i' u' p' (by omega) (by omega)) (Ev.bind awake08b ?_)
          simp only [e2, if_true, e3, B_list]
          exact Ev.now _
        · rw [e1]
          refine Ev.bind (mbap_Put_is 0 0 [] (by omega) (by omega)) (Ev.bind awake08b ?_)
          simpa [B_list] using Ev.now _
end Go.Proofs.Ytonhlaodpbjfcaa.Pure

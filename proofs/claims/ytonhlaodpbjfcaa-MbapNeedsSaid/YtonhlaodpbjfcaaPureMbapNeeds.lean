/- MbapNeeds: the first six bytes alone tell how many a frame needs. No condition beyond the ranges of the arguments' kinds. -/
import Derived.Test.YtonhlaodpbjfcaaP7
import Derived.Test.YtonhlaodpbjfcaaP7
import Derived.Test.YtonhlaodpbjfcaaP7
import Derived.Test.YtonhlaodpbjfcaaOpen
import Derived.Test.YtonhlaodpbjfcaaMbapPut
namespace Go.Proofs.Ytonhlaodpbjfcaa.Pure
open Go.RowKit Go.Proofs.YtonhlaodpbjfcaaW.PrintWords Go.Proofs.YtonhlaodpbjfcaaW.PrintLast Go.Proofs.YtonhlaodpbjfcaaW.PrintMore Go.Proofs.Ytonhlaodpbjfcaa.P Go.Proofs.Ytonhlaodpbjfcaa Go.Proofs.Ytonhlaodpbjfcaa.Base
set_option linter.unusedVariables false
set_option linter.unusedSimpArgs false

def MbapNeedsPure : Prop := ∀ (x0 : ByteArray) (x1 : ByteArray), x0.size ≤ maxLen → x1.size ≤ maxLen → ∃ k, law08_MbapNeeds.f k x0 x1 = some true
theorem awake08n : Ev (fun k => law08_awake.f k) true := Ev.of law08_awake.mono (k := 6) (by decide +kernel)
theorem MbapNeeds_pure : MbapNeedsPure := by
  rintro s more _ _
  obtain ⟨s, rfl⟩ := ofB s
  obtain ⟨m, rfl⟩ := ofB more
  apply Ev.rounds
  have hq : Ev (fun k => law08_MbapNeeds.j0 k (B s) (B m) true) true := Ev.step (f := fun k => (law08_awake.f k).bind fun t => some t) (fun k => by simp only [law08_MbapNeeds.j0, if_true]) (Ev.bind awake08n (Ev.now _))
  by_cases h1 : s.length > 500
  · exact Ev.congr (fun k => by unfold law08_MbapNeeds.f; rw [B_size, if_pos (by omega)]) hq
  · by_cases h2 : m.length > 500
    · exact Ev.congr (fun k => by unfold law08_MbapNeeds.f; rw [B_size, B_size, if_neg (by omega), decide_eq_true (by omega : (m.length : Int) > 500)]) hq
    · refine Ev.congr (f := fun k => law08_MbapNeeds.j0 k (B s) (B m) false) (fun k => by unfold law08_MbapNeeds.f; rw [B_size, B_size, if_neg (by omega), decide_eq_false (by omega : ¬ (m.length : Int) > 500)]) ?_
      by_cases h6 : s.length < 6
      · refine Ev.step (f := fun k => (law08_awake.f k).bind fun t219 => if t219 = true then some true else none) (fun k => ?_) (Ev.bind awake08n (by simpa using Ev.now _))
        simp only [law08_MbapNeeds.j0, Bool.false_eq_true, if_false]
        rw [mbap_Need_is s (by omega), Option.bind_some, B_size, B_size, if_pos (by omega), B_cat, mbap_Need_is (s ++ m) (by rw [List.length_append]; omega), Option.bind_some, if_pos (by omega)]
        have : need s = (0, 0) := by unfold need; rw [if_pos h6]
        rw [this]
        rfl
      · have hcat : need (s ++ m) = need s := by
          rw [← need_first (l := s ++ m) (by rw [List.length_append]; omega), ← need_first (l := s) (by omega), List.take_append_of_le_length (by omega)]
        refine Ev.step (f := fun k => (law08_awake.f k).bind fun t219 => if t219 = true then some true else none) (fun k => ?_) (Ev.bind awake08n (by simpa using Ev.now _))
        simp only [law08_MbapNeeds.j0, Bool.false_eq_true, if_false]
        rw [mbap_Need_is s (by omega), Option.bind_some, B_size, B_size, if_pos (by omega), B_cat, mbap_Need_is (s ++ m) (by rw [List.length_append]; omega), Option.bind_some, if_neg (by omega), hcat]
        congr 1
        funext t
        congr 1
        rw [if_pos rfl, if_pos rfl]
        by_cases hb : badHead s
        · have : need s = (0, 5) := by unfold need; rw [if_neg h6, if_pos hb]
          rw [this]
          rfl
        · have hn : need s = (((g2 s 4 + 6 : Nat) : Int), 0) := by unfold need; rw [if_neg h6, if_neg hb]
          have : 2 ≤ g2 s 4 ∧ g2 s 4 ≤ 254 := by unfold badHead at hb; omega
          rw [hn, if_pos rfl, if_pos (by show ((g2 s 4 + 6 : Nat) : Int) ≥ 8; omega), if_pos (by show ((g2 s 4 + 6 : Nat) : Int) ≤ 260; omega)]
end Go.Proofs.Ytonhlaodpbjfcaa.Pure

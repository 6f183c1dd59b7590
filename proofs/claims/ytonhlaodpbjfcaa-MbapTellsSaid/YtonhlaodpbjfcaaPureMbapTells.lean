/- MbapTells: whether any frame (of 500 bytes at most) may be, its bytes, and the frame of any bytes (500 at most), and how many it needs, are the document's. No condition beyond the ranges of the arguments' kinds. -/
import Derived.Test.YtonhlaodpbjfcaaP5
import Derived.Test.YtonhlaodpbjfcaaP5
import Derived.Test.YtonhlaodpbjfcaaP5
import Derived.Test.YtonhlaodpbjfcaaOpen
import Derived.Test.YtonhlaodpbjfcaaMbapPut
namespace Go.Proofs.Ytonhlaodpbjfcaa.Pure
open Go.RowKit Go.Proofs.YtonhlaodpbjfcaaW.PrintWords Go.Proofs.YtonhlaodpbjfcaaW.PrintLast Go.Proofs.YtonhlaodpbjfcaaW.PrintMore Go.Proofs.Ytonhlaodpbjfcaa.P Go.Proofs.Ytonhlaodpbjfcaa Go.Proofs.Ytonhlaodpbjfcaa.Base
set_option linter.unusedVariables false
set_option linter.unusedSimpArgs false

def MbapTellsPure : Prop := ∀ (x0 : S23) (x1 : ByteArray), Open.wf23 x0 → x1.size ≤ maxLen → ∃ k, law08_MbapTells.f k x0.f0 x0.f1 x0.f2 x1 = some true
theorem awake08t : Ev (fun k => law08_awake.f k) true := Ev.of law08_awake.mono (k := 6) (by decide +kernel)
theorem MbapTells_pure : MbapTellsPure := by
  rintro ⟨i, u, p⟩ s ⟨hi, hu, _⟩ _
  obtain ⟨p, rfl⟩ := ofB p
  obtain ⟨s, rfl⟩ := ofB s
  replace hi := bounds_i64 hi
  replace hu := bounds_i64 hu
  show ∃ k, law08_MbapTells.f k i u (B p) (B s) = some true
  apply Ev.rounds
  have hq : Ev (fun k => law08_MbapTells.j0 k (B s) true i u (B p)) true := Ev.step (f := fun k => (law08_awake.f k).bind fun t => some t) (fun k => by simp only [law08_MbapTells.j0, if_true]) (Ev.bind awake08t (Ev.now _))
  by_cases h1 : p.length > 500
  · exact Ev.congr (fun k => by unfold law08_MbapTells.f; rw [B_size, if_pos (by omega)]) hq
  · by_cases h2 : s.length > 500
    · exact Ev.congr (fun k => by unfold law08_MbapTells.f; rw [B_size, B_size, if_neg (by omega), decide_eq_true (by omega : (s.length : Int) > 500)]) hq
    · refine Ev.congr (f := fun k => law08_MbapTells.j0 k (B s) false i u (B p)) (fun k => by unfold law08_MbapTells.f; rw [B_size, B_size, if_neg (by omega), decide_eq_false (by omega : ¬ (s.length : Int) > 500)]) ?_
      refine Ev.step (fun k => by simp only [law08_MbapTells.j0, Bool.false_eq_true, if_false]; rfl) ?_
      refine Ev.bind (mbap_Put_is i u p hi hu) ?_
      rw [ref08_Put_is, mbap_Need_is s (by omega), ref08_Need_is s (by omega), mbap_Get_is s (by omega), ref08_Get_is s (by omega), mbap_Right_is i u p hi hu, ref08_Right_is]
      refine Ev.congr (f := fun k => (law08_awake.f k).bind fun t183 => if t183 = true then some true else none) (fun k => by simp) (Ev.bind awake08t (by simpa using Ev.now _))
end Go.Proofs.Ytonhlaodpbjfcaa.Pure

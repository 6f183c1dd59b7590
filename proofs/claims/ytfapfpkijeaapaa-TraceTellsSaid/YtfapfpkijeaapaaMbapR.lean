/- What the reference's mbap Get computes, on lists of bytes. -/
import Derived.Test.YtfapfpkijeaapaaP0
import Derived.Test.YtfapfpkijeaapaaP12
import Derived.Test.YtfapfpkijeaapaaMbapN
namespace Go.Proofs.Ytfapfpkijeaapaa.Base
open Go.RowKit Go.Proofs.YtfapfpkijeaapaaW.PrintWords Go.Proofs.YtfapfpkijeaapaaW.PrintLast Go.Proofs.YtfapfpkijeaapaaW.PrintMore Go.Proofs.Ytfapfpkijeaapaa.P
set_option linter.unusedVariables false
set_option linter.unusedSimpArgs false

theorem ref08_Get_is (l : List UInt8) (h : l.length ≤ 4611686018427387904) : ref08_Get.f (B l) = some (get l) := by
  unfold ref08_Get.f get
  rw [ref08_Need_is l h, ref01_At_is l h 0, B_size]
  simp only [Option.bind_some]
  by_cases c1 : (need l).2 = 0
  · by_cases c2 : (need l).1 = 0
    · rw [if_pos c1, if_pos c2, if_neg (by omega)]; rfl
    · rw [if_pos c1, if_neg c2]
      by_cases c3 : (need l).1 = (l.length : Int)
      · obtain ⟨g1, -, g3, g4, -⟩ := need_ge c1 c2
        rw [if_pos c3, if_pos (And.intro c1 (And.intro c2 c3)), if_pos (by omega), if_pos (by omega), B_bt', B_cut, wbyte]
        have e0 : tGet l 0 = (((g2 l 0 : Nat) : Int), true) := by unfold tGet; rw [if_pos (by omega)]; rfl
        rw [e0, List.take_length]
        rfl
      · rw [if_neg c3, if_neg (fun hh => c3 hh.2.2)]; rfl
  · rw [if_neg c1, if_neg (fun hh => c1 hh.1)]; rfl
end Go.Proofs.Ytfapfpkijeaapaa.Base

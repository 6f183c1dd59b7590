/- What a frame needs, by the reference. -/
import Derived.Test.YtfapfpkijeaapaaP0
import Derived.Test.YtfapfpkijeaapaaP12
import Derived.Test.YtfapfpkijeaapaaMbap
import Derived.Test.YtfapfpkijeaapaaRefGet
namespace Go.Proofs.Ytfapfpkijeaapaa.Base
open Go.RowKit Go.Proofs.YtfapfpkijeaapaaW.PrintWords Go.Proofs.YtfapfpkijeaapaaW.PrintLast Go.Proofs.YtfapfpkijeaapaaW.PrintMore Go.Proofs.Ytfapfpkijeaapaa.P
set_option linter.unusedVariables false
set_option linter.unusedSimpArgs false

theorem ref08_Need_is (l : List UInt8) (h : l.length ≤ 4611686018427387904) : ref08_Need.f (B l) = some (need l) := by
  unfold ref08_Need.f need
  rw [B_size, ref01_At_is l h, ref01_At_is l h]
  simp only [Option.bind_some]
  have h2 := g2_lt l 2
  have h4 := g2_lt l 4
  by_cases h6 : l.length < 6
  · rw [if_pos (by omega), if_pos h6]
  · rw [if_neg (by omega), if_neg h6]
    have e4 : tGet l 4 = (((g2 l 4 : Nat) : Int), true) := by unfold tGet; rw [if_pos (by omega)]; rfl
    have e2 : tGet l 2 = (((g2 l 2 : Nat) : Int), true) := by unfold tGet; rw [if_pos (by omega)]; rfl
    rw [e4, e2]
    by_cases c1 : g2 l 2 = 0
    · rw [if_pos (by omega)]
      by_cases c2 : g2 l 4 < 2
      · rw [if_pos (by omega), if_pos (by unfold badHead; omega)]
      · rw [if_neg (by omega)]
        by_cases c3 : g2 l 4 > 254
        · rw [if_pos (by omega), if_pos (by unfold badHead; omega)]
        · rw [if_neg (by omega), if_neg (by unfold badHead; omega), w_id (by omega) (by omega)]
          simp
          omega
    · rw [if_neg (by omega), if_pos (by unfold badHead; omega)]
end Go.Proofs.Ytfapfpkijeaapaa.Base

/- What the reference's ref01.Get and At compute, on lists of bytes. -/
import Derived.Test.YtfapfpkijeaapaaP0
import Derived.Test.YtfapfpkijeaapaaP12
import Derived.Test.YtfapfpkijeaapaaTwo
namespace Go.Proofs.Ytfapfpkijeaapaa.Base
open Go.RowKit Go.Proofs.YtfapfpkijeaapaaW.PrintWords Go.Proofs.YtfapfpkijeaapaaW.PrintLast Go.Proofs.YtfapfpkijeaapaaW.PrintMore Go.Proofs.Ytfapfpkijeaapaa.P
set_option linter.unusedVariables false
set_option linter.unusedSimpArgs false

theorem ref01_Get_is (l : List UInt8) (h : l.length ≤ 4611686018427387904) (i : Int) : ref01_Get.f (B l) i = some (tGet l i) := by
  unfold ref01_Get.f tGet
  rw [B_size]
  by_cases h0 : i < 0
  · rw [if_pos h0, if_neg (by omega)]
  · rw [if_neg h0]
    by_cases h1 : i ≥ (l.length : Int)
    · rw [if_pos h1, if_neg (by omega)]
    · rw [if_neg h1]
      have e1 : wrap64 ((l.length : Int) - i) = (l.length : Int) - i := w_id (by omega) (by omega)
      rw [e1]
      by_cases h2 : (l.length : Int) - i < 2
      · rw [if_pos h2, if_neg (by omega)]
      · have e2 : wrap64 (i + 1) = i + 1 := w_id (by omega) (by omega)
        rw [if_neg h2, if_pos (by omega), if_pos (by omega), e2, if_pos (by omega), if_pos (by omega), if_pos (by omega)]
        rw [B_bt', B_bt', wbyte, wbyte]
        have hb := b1_lt l i.toNat
        have hb2 := b1_lt l (i + 1).toNat
        have e3 : wrap64 (256 * (b1 l i.toNat : Int)) = 256 * (b1 l i.toNat : Int) := w_id (by omega) (by omega)
        rw [e3, w_id (by omega) (by omega)]
        rw [show (i + 1).toNat = i.toNat + 1 by omega]
        unfold g2
        simp
theorem ref01_At_is (l : List UInt8) (h : l.length ≤ 4611686018427387904) (i : Int) : ref01_At.f (B l) i = some (tGet l i).1 := by
  unfold ref01_At.f
  rw [ref01_Get_is l h]
  rfl
end Go.Proofs.Ytfapfpkijeaapaa.Base

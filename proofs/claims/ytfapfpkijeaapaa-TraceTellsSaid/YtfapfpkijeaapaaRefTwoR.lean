/- A number's two bytes by the reference. -/
import Derived.Test.YtfapfpkijeaapaaP0
import Derived.Test.YtfapfpkijeaapaaP7
import Derived.Test.YtfapfpkijeaapaaTwo
namespace Go.Proofs.Ytfapfpkijeaapaa.Base
open Go.RowKit Go.Proofs.YtfapfpkijeaapaaW.PrintWords Go.Proofs.YtfapfpkijeaapaaW.PrintLast Go.Proofs.YtfapfpkijeaapaaW.PrintMore Go.Proofs.Ytfapfpkijeaapaa.P
set_option linter.unusedVariables false
set_option linter.unusedSimpArgs false

theorem ref01_Put_is (a : Int) : ref01_Put.f a = some (if 0 ≤ a ∧ a ≤ 65535 then (B (two a.toNat), true) else (B [], false)) := by
  unfold ref01_Put.f
  by_cases h0 : a < 0
  · rw [if_pos h0, if_neg (by omega)]; rfl
  · by_cases h1 : a > 65535
    · rw [if_neg h0, if_pos h1, if_neg (by omega)]; rfl
    · rw [if_neg h0, if_neg h1, if_pos (by omega), B_nums]
      congr 3
      obtain ⟨n, rfl⟩ := Int.eq_ofNat_of_zero_le (by omega : 0 ≤ a)
      have e1 : wrap64 (Int.tdiv (n : Int) 256) % 256 = ((n / 256 : Nat) : Int) := by rw [Int.tdiv_eq_ediv_of_nonneg (by omega), w_id (by omega) (by omega)]; omega
      have e2 : Int.tmod (n : Int) 256 % 256 = ((n % 256 : Nat) : Int) := by rw [Int.tmod_eq_emod_of_nonneg (by omega)]; omega
      simp only [List.map_cons, List.map_nil, e1, e2, Int.toNat_natCast, two]
end Go.Proofs.Ytfapfpkijeaapaa.Base

/- BucketTells: the full level of any rate, and what a tick, and a use, make of any level, are the document's. No condition beyond the ranges of the arguments' kinds. -/
import Derived.Test.YtccppdpekelcpaaP2
import Derived.Test.YtccppdpekelcpaaOpen
import Derived.OpenShut
namespace Go.Proofs.Ytccppdpekelcpaa.Pure
open Go.RowKit Go.Proofs.YtccppdpekelcpaaW.PrintWords Go.Proofs.YtccppdpekelcpaaW.PrintLast Go.Proofs.YtccppdpekelcpaaW.PrintMore Go.Proofs.Ytccppdpekelcpaa.P Go.Proofs.Ytccppdpekelcpaa
set_option linter.unusedVariables false
set_option linter.unusedSimpArgs false

def BucketTellsPure : Prop := ∀ (x0 : S23) (x1 : Int), Open.wf23 x0 → (Lit.int .i64 x1).wf = true → ∃ k, law18_BucketTells.f k x0.f0 x0.f1 x0.f2 x1 = some true
theorem wf_i64 {x : Int} (h : (Lit.int .i64 x).wf = true) : -9223372036854775808 ≤ x ∧ x ≤ 9223372036854775807 := bounds_i64 h
theorem mul_le {p b : Int} (h1 : 1 ≤ p) (h2 : p ≤ 1048576) (h3 : 1 ≤ b) (h4 : b ≤ 1048576) : 1 ≤ p * b ∧ p * b ≤ 1099511627776 := by
  constructor
  · exact Int.mul_le_mul h1 h3 (by omega) (by omega)
  · exact Int.mul_le_mul h2 h4 (by omega) (by omega)
theorem awake18 : law18_awake.f = some true := by decide +kernel
theorem BucketTells_pure : BucketTellsPure := by
  rintro ⟨n, p, b⟩ x ⟨hn, hp, hb⟩ hx
  replace hx := wf_i64 hx
  refine ⟨1, ?_⟩
  unfold law18_BucketTells.f ref18_Right.f
  simp only [law18_BucketTells.j0, awake18]
  by_cases h1 : n ≥ 1
  · by_cases h2 : n ≤ 1048576
    · by_cases h3 : p ≥ 1
      · by_cases h4 : p ≤ 1048576
        · by_cases h5 : b ≥ 1
          · by_cases h6 : b ≤ 1048576
            · have hm := mul_le h3 h4 h5 h6
              have e1 : wrap64 (p * b) = p * b := by unfold wrap64; omega
              have e2 : wrap64 (b * p) = p * b := by rw [Int.mul_comm]; exact e1
              by_cases h7 : x < 0
              · simp [h1, h2, h3, h4, h5, h6, h7]
              · by_cases h8 : x > p * b
                · simp [h1, h2, h3, h4, h5, h6, h7, ref18_Full.f, e2, h8]
                · have e3 : wrap64 (x - p) = x - p := by unfold wrap64; omega
                  have e4 : wrap64 (x + n) = x + n := by unfold wrap64; omega
                  simp only [h1, h2, h3, h4, h5, h6, h7, h8, ref18_Full.f, ref18_Take.f, ref18_Tick.f, bucket_Full.f, bucket_Take.f, bucket_Tick.f, e1, e2, e3, e4, Option.bind_some, if_true, if_false, decide_true, decide_false, Bool.false_eq_true, mn]
                  by_cases h9 : x < p
                  · by_cases h10 : x + n > p * b
                    · simp [h9, h10, show ¬ (p ≤ x) by omega, show ¬ (x + n ≤ p * b) by omega]
                    · simp [h9, h10, show ¬ (p ≤ x) by omega, show (x + n ≤ p * b) by omega]
                  · by_cases h10 : x + n > p * b
                    · simp [h9, h10, show p ≤ x by omega, show ¬ (x + n ≤ p * b) by omega]
                    · simp [h9, h10, show p ≤ x by omega, show (x + n ≤ p * b) by omega]
            · simp [h1, h2, h3, h4, h5, h6]
          · simp [h1, h2, h3, h4, h5]
        · simp [h1, h2, h3, h4]
      · simp [h1, h2, h3]
    · simp [h1, h2]
  · simp [h1]

end Go.Proofs.Ytccppdpekelcpaa.Pure

/- BucketFills: behind as many ticks as a level needs, it is full, and stays so. No condition beyond the ranges of the arguments' kinds. -/
import Derived.Test.YtccppdpekelcpaaP4
import Derived.Test.YtccppdpekelcpaaOpen
import Derived.OpenShut
namespace Go.Proofs.Ytccppdpekelcpaa.Pure
open Go.RowKit Go.Proofs.YtccppdpekelcpaaW.PrintWords Go.Proofs.YtccppdpekelcpaaW.PrintLast Go.Proofs.YtccppdpekelcpaaW.PrintMore Go.Proofs.Ytccppdpekelcpaa.P Go.Proofs.Ytccppdpekelcpaa
set_option linter.unusedVariables false
set_option linter.unusedSimpArgs false

def BucketFillsPure : Prop := ∀ (x0 : S23) (x1 : Int), Open.wf23 x0 → (Lit.int .i64 x1).wf = true → ∃ k, law18_BucketFills.f k x0.f0 x0.f1 x0.f2 x1 = some true
theorem prod_le {a b A B : Int} (h0 : 0 ≤ a) (h1 : a ≤ A) (h2 : 0 ≤ b) (h3 : b ≤ B) : 0 ≤ a * b ∧ a * b ≤ A * B :=
  ⟨Int.mul_nonneg h0 h2, Int.mul_le_mul h1 h3 h2 (by omega)⟩
theorem awake18f : law18_awake.f = some true := by decide +kernel
theorem w_id {x : Int} (h1 : -9223372036854775808 ≤ x) (h2 : x ≤ 9223372036854775807) : wrap64 x = x := by unfold wrap64; omega
section
variable {n p b : Int} (hn1 : 1 ≤ n) (hn2 : n ≤ 1048576) (hp1 : 1 ≤ p) (hp2 : p ≤ 1048576) (hb1 : 1 ≤ b) (hb2 : b ≤ 1048576)
include hn1 hn2 hp1 hp2 hb1 hb2
omit hn1 hn2 in
theorem full_is : bucket_Full.f n p b = some (p * b) := by
  have := prod_le (a := p) (b := b) (A := 1048576) (B := 1048576) (by omega) hp2 (by omega) hb2
  unfold bucket_Full.f
  rw [w_id (by omega) (by omega)]
theorem tick_is {x : Int} (h0 : 0 ≤ x) (h1 : x ≤ p * b) : bucket_Tick.f x n p b = some (if x + n > p * b then p * b else x + n) := by
  have := prod_le (a := p) (b := b) (A := 1048576) (B := 1048576) (by omega) hp2 (by omega) hb2
  unfold bucket_Tick.f
  rw [full_is hp1 hp2 hb1 hb2, w_id (by omega) (by omega)]
  simp only [Option.bind_some]
  split <;> rfl
theorem fills_loop (N : Int) (hN : N ≤ 302) (d : Nat) : ∀ (k : Nat) (y i : Int), 0 ≤ i → N - i = d → d + 1 ≤ k → 0 ≤ y → y ≤ p * b → p * b - y ≤ d * n → (d = 0 ∨ ((d : Int) - 1) * n < p * b - y) →
    law18_BucketFills.l0 k y N i n p b = some true := by
  have hpb := prod_le (a := p) (b := b) (A := 1048576) (B := 1048576) (by omega) hp2 (by omega) hb2
  have hF := full_is (n := n) hp1 hp2 hb1 hb2
  induction d with
  | zero =>
    intro k y i h0 hd hk hy0 hy1 hle _
    obtain ⟨k, rfl⟩ : ∃ m, k = m + 1 := ⟨k - 1, by omega⟩
    have hy : y = p * b := by simp at hle; omega
    subst hy
    simp only [law18_BucketFills.l0]
    rw [if_neg (by omega), awake18f]
    simp only [Option.bind_some, if_true]
    rw [hF, tick_is hn1 hn2 hp1 hp2 hb1 hb2 hy0 hy1]
    simp only [Option.bind_some, if_true]
    rw [if_pos (by omega)]
    simp
  | succ d ih =>
    intro k y i h0 hd hk hy0 hy1 hle hlt
    obtain ⟨k, rfl⟩ : ∃ m, k = m + 1 := ⟨k - 1, by omega⟩
    have hlt' : (d : Int) * n < p * b - y := by
      rcases hlt with h | h
      · omega
      · have : ((d + 1 : Nat) : Int) - 1 = d := by omega
        rw [this] at h
        exact h
    have hdn : 0 ≤ (d : Int) * n := Int.mul_nonneg (by omega) (by omega)
    have e1 : ((d + 1 : Nat) : Int) * n = d * n + n := by
      rw [show ((d + 1 : Nat) : Int) = (d : Int) + 1 by omega, Int.add_mul, Int.one_mul]
    rw [e1] at hle
    have hi : wrap64 (i + 1) = i + 1 := w_id (by omega) (by omega)
    simp only [law18_BucketFills.l0]
    rw [if_pos (by omega), hF, tick_is hn1 hn2 hp1 hp2 hb1 hb2 hy0 hy1]
    simp only [Option.bind_some]
    rw [if_neg (by omega), hi]
    have e2 : ((d : Int) - 1) * n = d * n - n := by rw [Int.sub_mul, Int.one_mul]
    by_cases hc : y + n > p * b
    · rw [if_pos hc]
      refine ih k (p * b) (i + 1) (by omega) (by omega) (by omega) (by omega) (by omega) (by omega) ?_
      left
      rcases Nat.eq_zero_or_pos d with hz | hz
      · exact hz
      · exfalso
        have : 1 * n ≤ (d : Int) * n := Int.mul_le_mul_of_nonneg_right (by omega) (by omega)
        omega
    · rw [if_neg hc]
      exact ih k (y + n) (i + 1) (by omega) (by omega) (by omega) (by omega) (by omega) (by omega) (Or.inr (by rw [e2]; omega))
end
theorem BucketFills_pure : BucketFillsPure := by
  rintro ⟨n, p, b⟩ x ⟨hn, hp, hb⟩ hx
  have hx' := bounds_i64 hx
  by_cases h : n ≥ 1 ∧ n ≤ 1048576 ∧ p ≥ 1 ∧ p ≤ 1048576 ∧ b ≥ 1 ∧ b ≤ 1048576
  · obtain ⟨h1, h2, h3, h4, h5, h6⟩ := h
    have hpb := prod_le (a := p) (b := b) (A := 1048576) (B := 1048576) (by omega) h4 (by omega) h6
    have hF := full_is (n := n) h3 h4 h5 h6
    refine ⟨400, ?_⟩
    unfold law18_BucketFills.f ref18_Right.f
    simp only [law18_BucketFills.j0, awake18f]
    simp only [h1, h2, h3, h4, h5, h6, decide_true, if_true, Option.bind_some]
    by_cases h7 : x < 0
    · simp only [h7, if_true]
    · rw [if_neg h7, hF]
      simp only [Option.bind_some]
      by_cases h8 : x > p * b
      · simp only [h8, if_true]
      · rw [if_neg h8, if_neg (by omega)]
        have hq0 : 0 ≤ p * b / n := Int.ediv_nonneg (by omega) (by omega)
        have hq1 : p * b / n ≤ p * b := Int.ediv_le_self _ (by omega)
        have et : wrap64 (Int.tdiv (p * b) n) = p * b / n := by rw [Int.tdiv_eq_ediv_of_nonneg (by omega)]; exact w_id (by omega) (by omega)
        rw [et]
        by_cases h9 : p * b / n > 300
        · simp only [h9, decide_true, if_true]
        · simp only [h9, decide_false, Bool.false_eq_true, if_false]
          rw [if_neg (by omega)]
          have w1 : wrap64 (p * b - x) = p * b - x := w_id (by omega) (by omega)
          have w2 : wrap64 (p * b - x + n) = p * b - x + n := w_id (by omega) (by omega)
          have w3 : wrap64 (p * b - x + n - 1) = p * b - x + n - 1 := w_id (by omega) (by omega)
          rw [w1, w2, w3, Int.tdiv_eq_ediv_of_nonneg (by omega)]
          have hlt : p * b < 301 * n := by
            have := Int.lt_ediv_add_one_mul_self (p * b) (show 0 < n by omega)
            have h10 : (p * b / n + 1) * n ≤ 301 * n := Int.mul_le_mul_of_nonneg_right (by omega) (by omega)
            omega
          generalize hq : (p * b - x + n - 1) / n = q
          have g0 : 0 ≤ q := by rw [← hq]; exact Int.ediv_nonneg (by omega) (by omega)
          have g1 : q * n ≤ p * b - x + n - 1 := by rw [← hq]; exact Int.ediv_mul_le _ (by omega)
          have g2 : p * b - x + n - 1 < (q + 1) * n := by rw [← hq]; exact Int.lt_ediv_add_one_mul_self _ (by omega)
          have g3 : (q + 1) * n = q * n + n := by rw [Int.add_mul, Int.one_mul]
          have g4 : q ≤ 302 := by
            apply Decidable.byContradiction
            intro hc
            have : 303 * n ≤ q * n := Int.mul_le_mul_of_nonneg_right (by omega) (by omega)
            omega
          rw [w_id (by omega) (by omega)]
          have hd : ((q.toNat : Nat) : Int) = q := by omega
          have e2 : (q - 1) * n = q * n - n := by rw [Int.sub_mul, Int.one_mul]
          exact fills_loop h1 h2 h3 h4 h5 h6 q g4 q.toNat _ x 0 (by omega) (by omega) (by omega) (by omega) (by omega) (by rw [hd]; omega) (Or.inr (by rw [hd, e2]; omega))
  · refine ⟨1, ?_⟩
    unfold law18_BucketFills.f ref18_Right.f
    simp only [law18_BucketFills.j0, awake18f]
    by_cases h1 : n ≥ 1
    · by_cases h2 : n ≤ 1048576
      · by_cases h3 : p ≥ 1
        · by_cases h4 : p ≤ 1048576
          · by_cases h5 : b ≥ 1
            · have h6 : ¬ b ≤ 1048576 := fun h6 => h ⟨h1, h2, h3, h4, h5, h6⟩
              simp [h1, h2, h3, h4, h5, h6]
            · simp [h1, h2, h3, h4, h5]
          · simp [h1, h2, h3, h4]
        · simp [h1, h2, h3]
      · simp [h1, h2]
    · simp [h1]

end Go.Proofs.Ytccppdpekelcpaa.Pure

/- BucketBound: of any ticks and tries of use (200 at most, from full on) there are, between any two, at most as many uses as Burst, and those that the ticks between bring; the level stays from 0 to full. No condition beyond the ranges of the arguments' kinds. -/
import Derived.Test.YtccppdpekelcpaaP3
import Derived.Test.YtccppdpekelcpaaOpen
import Derived.OpenShut
namespace Go.Proofs.Ytccppdpekelcpaa.Pure
open Go.RowKit Go.Proofs.YtccppdpekelcpaaW.PrintWords Go.Proofs.YtccppdpekelcpaaW.PrintLast Go.Proofs.YtccppdpekelcpaaW.PrintMore Go.Proofs.Ytccppdpekelcpaa.P Go.Proofs.Ytccppdpekelcpaa
set_option linter.unusedVariables false
set_option linter.unusedSimpArgs false

def BucketBoundPure : Prop := ∀ (x0 : S23) (x1 : List (Bool)) (x2 : Int), Open.wf23 x0 → (x1.length ≤ maxLen ∧ ∀ y_ ∈ x1, True) → (Lit.int .u8 x2).wf = true → ∃ k, law18_BucketBound.f k x0.f0 x0.f1 x0.f2 x1 x2 = some true
theorem prod_le {a b A B : Int} (h0 : 0 ≤ a) (h1 : a ≤ A) (h2 : 0 ≤ b) (h3 : b ≤ B) : 0 ≤ a * b ∧ a * b ≤ A * B :=
  ⟨Int.mul_nonneg h0 h2, Int.mul_le_mul h1 h3 h2 (by omega)⟩
theorem awake18b : law18_awake.f = some true := by decide +kernel
theorem w_id {x : Int} (h1 : -9223372036854775808 ≤ x) (h2 : x ≤ 9223372036854775807) : wrap64 x = x := by unfold wrap64; omega
section
variable {n p b : Int} (hn1 : 1 ≤ n) (hn2 : n ≤ 1048576) (hp1 : 1 ≤ p) (hp2 : p ≤ 1048576) (hb1 : 1 ≤ b) (hb2 : b ≤ 1048576)
include hn1 hn2 hp1 hp2 hb1 hb2
omit hn1 hn2 in
theorem full_is : bucket_Full.f n p b = some (p * b) := by
  have := prod_le (a := p) (b := b) (A := 1048576) (B := 1048576) (by omega) hp2 (by omega) hb2
  unfold bucket_Full.f
  rw [w_id (by omega) (by omega)]
theorem tick_is {x : Int} (h0 : 0 ≤ x) (h1 : x ≤ p * b) : bucket_Tick.f x n p b = some (if x + n > p * b then p * b else x + n) := by
  have := prod_le (a := p) (b := b) (A := 1048576) (B := 1048576) (by omega) hp2 (by omega) hb2
  unfold bucket_Tick.f
  rw [full_is hp1 hp2 hb1 hb2, w_id (by omega) (by omega)]
  simp only [Option.bind_some]
  split <;> rfl
omit hn1 hn2 in
theorem take_is {x : Int} (h0 : 0 ≤ x) (h1 : x ≤ p * b) : bucket_Take.f x n p b = some (if x ≥ p then (x - p, true) else (x, false)) := by
  have := prod_le (a := p) (b := b) (A := 1048576) (B := 1048576) (by omega) hp2 (by omega) hb2
  unfold bucket_Take.f
  rw [w_id (by omega) (by omega)]
  by_cases h : x ≥ p
  · rw [if_pos (by omega), if_pos h]
  · rw [if_neg (by omega), if_neg h]
theorem bound_loop (l : List Bool) (from_ : Int) (hl : l.length ≤ 200) (hf0 : 0 ≤ from_) (hf1 : from_ ≤ 255) (d : Nat) : ∀ (k : Nat) (x uses ticks i : Int), 0 ≤ i → i ≤ l.length → (l.length : Int) - i = d → 2 * d + 1 ≤ k →
    0 ≤ x → x ≤ p * b → 0 ≤ uses → uses ≤ i → 0 ≤ ticks → ticks ≤ i → uses * p + x ≤ b * p + ticks * n → (i ≤ from_ → uses = 0) →
    law18_BucketBound.l0 k l from_ x uses ticks i n p b = some true := by
  have hpb := prod_le (a := p) (b := b) (A := 1048576) (B := 1048576) (by omega) hp2 (by omega) hb2
  have hcomm : b * p = p * b := Int.mul_comm _ _
  have ew : wrap64 from_ = from_ := w_id (by omega) (by omega)
  have hF := full_is (n := n) hp1 hp2 hb1 hb2
  induction d with
  | zero =>
    intro k x uses ticks i h0 h1 hd hk _ _ _ _ _ _ _ _
    obtain ⟨k, rfl⟩ : ∃ m, k = m + 1 := ⟨k - 1, by omega⟩
    simp only [law18_BucketBound.l0]
    rw [if_neg (by omega), awake18b]
    rfl
  | succ d ih =>
    intro k x uses ticks i h0 h1 hd hk hx0 hx1 hu0 hu1 ht0 ht1 hinv hfrom
    obtain ⟨k, rfl⟩ : ∃ m, k = m + 1 := ⟨k - 1, by omega⟩
    have hlt : i < (l.length : Int) := by omega
    have hi : wrap64 (i + 1) = i + 1 := w_id (by omega) (by omega)
    have b1 := prod_le (a := uses) (b := p) (A := 200) (B := 1048576) hu0 (by omega) (by omega) hp2
    have b2 := prod_le (a := ticks) (b := n) (A := 200) (B := 1048576) ht0 (by omega) (by omega) hn2
    have ebp : wrap64 (b * p) = b * p := w_id (by omega) (by omega)
    have eup : wrap64 (uses * p) = uses * p := w_id (by omega) (by omega)
    have etn : wrap64 (ticks * n) = ticks * n := w_id (by omega) (by omega)
    have esum : wrap64 (b * p + ticks * n) = b * p + ticks * n := w_id (by omega) (by omega)
    simp only [law18_BucketBound.l0]
    rw [if_pos hlt, if_pos h0, ew]
    by_cases hact : rdOf false l i = true
    · rw [if_pos hact, tick_is hn1 hn2 hp1 hp2 hb1 hb2 hx0 hx1]
      simp only [Option.bind_some]
      generalize hy : (if x + n > p * b then p * b else x + n) = y
      have hy0 : 0 ≤ y := by rw [← hy]; split <;> omega
      have hy1 : y ≤ p * b := by rw [← hy]; split <;> omega
      have hy2 : y ≤ x + n := by rw [← hy]; split <;> omega
      by_cases hfi : i ≥ from_
      · have e1 : wrap64 (ticks + 1) = ticks + 1 := w_id (by omega) (by omega)
        have e2 : (ticks + 1) * n = ticks * n + n := by rw [Int.add_mul, Int.one_mul]
        have e3 : wrap64 ((ticks + 1) * n) = ticks * n + n := by rw [e2]; exact w_id (by omega) (by omega)
        have e4 : wrap64 (b * p + (ticks * n + n)) = b * p + (ticks * n + n) := w_id (by omega) (by omega)
        rw [if_pos hfi, if_neg (by omega), hF]
        simp only [Option.bind_some]
        rw [if_neg (by omega), eup, ebp, e1, e3, e4, if_neg (by omega), hi]
        exact ih k y uses (ticks + 1) (i + 1) (by omega) (by omega) (by omega) (by omega) hy0 hy1 hu0 (by omega) (by omega) (by omega) (by omega) (fun h => hfrom (by omega))
      · have hu : uses = 0 := hfrom (by omega)
        subst hu
        rw [if_neg hfi, if_neg (by omega), hF]
        simp only [Option.bind_some]
        rw [if_neg (by omega), eup, ebp, etn, esum, if_neg (by omega), hi]
        exact ih k y 0 ticks (i + 1) (by omega) (by omega) (by omega) (by omega) hy0 hy1 (by omega) (by omega) (by omega) (by omega) (by omega) (fun _ => rfl)
    · rw [if_neg hact, take_is hp1 hp2 hb1 hb2 hx0 hx1]
      simp only [Option.bind_some]
      have eu1 : (uses + 1) * p = uses * p + p := by rw [Int.add_mul, Int.one_mul]
      have eu2 : wrap64 (uses + 1) = uses + 1 := w_id (by omega) (by omega)
      have eu3 : wrap64 (uses * p + p) = uses * p + p := w_id (by omega) (by omega)
      obtain ⟨k, rfl⟩ : ∃ m, k = m + 1 := ⟨k - 1, by omega⟩
      by_cases htk : x ≥ p
      · simp only [if_pos htk, htk, decide_true, Bool.true_bne, Bool.not_true, Bool.false_eq_true, if_false, if_true]
        by_cases hfi : i ≥ from_
        · simp only [law18_BucketBound.j2, hfi, decide_true, if_true]
          rw [if_neg (by omega), hF]
          simp only [Option.bind_some]
          rw [if_neg (by omega), eu2, eu1, eu3, ebp, etn, esum, if_neg (by omega), hi]
          exact ih k (x - p) (uses + 1) ticks (i + 1) (by omega) (by omega) (by omega) (by omega) (by omega) (by omega) (by omega) (by omega) (by omega) (by omega) (by omega) (fun h => by omega)
        · simp only [law18_BucketBound.j2, hfi, decide_false, Bool.false_eq_true, if_false]
          rw [if_neg (by omega), hF]
          simp only [Option.bind_some]
          rw [if_neg (by omega), eup, ebp, etn, esum, if_neg (by omega), hi]
          exact ih k (x - p) uses ticks (i + 1) (by omega) (by omega) (by omega) (by omega) (by omega) (by omega) (by omega) (by omega) (by omega) (by omega) (by omega) (fun _ => hfrom (by omega))
      · simp only [if_neg htk, htk, decide_false, Bool.bne_false, Bool.false_eq_true, if_false]
        simp only [law18_BucketBound.j2, Bool.false_eq_true, if_false]
        rw [if_neg (by omega), hF]
        simp only [Option.bind_some]
        rw [if_neg (by omega), eup, ebp, etn, esum, if_neg (by omega), hi]
        exact ih k x uses ticks (i + 1) (by omega) (by omega) (by omega) (by omega) (by omega) (by omega) (by omega) (by omega) (by omega) (by omega) (by omega) (fun h => hfrom (by omega))
end
theorem BucketBound_pure : BucketBoundPure := by
  rintro ⟨n, p, b⟩ l from_ ⟨hn, hp, hb⟩ ⟨hl, _⟩ hf
  have hf' := bounds_u8 hf
  refine ⟨2 * l.length + 2, ?_⟩
  unfold law18_BucketBound.f ref18_Right.f
  simp only [law18_BucketBound.j0, awake18b]
  by_cases h : n ≥ 1 ∧ n ≤ 1048576 ∧ p ≥ 1 ∧ p ≤ 1048576 ∧ b ≥ 1 ∧ b ≤ 1048576
  · obtain ⟨h1, h2, h3, h4, h5, h6⟩ := h
    simp only [h1, h2, h3, h4, h5, h6, decide_true, if_true, Option.bind_some]
    by_cases h7 : (l.length : Int) > 200
    · simp only [h7, decide_true, if_true]
    · simp only [h7, decide_false, Bool.false_eq_true, if_false]
      rw [full_is h3 h4 h5 h6]
      simp only [Option.bind_some]
      have := prod_le (a := p) (b := b) (A := 1048576) (B := 1048576) (by omega) h4 (by omega) h6
      exact bound_loop h1 h2 h3 h4 h5 h6 l from_ (by omega) (by omega) (by omega) l.length _ (p * b) 0 0 0 (by omega) (by omega) (by omega) (by omega) (by omega) (by omega) (by omega) (by omega) (by omega) (by omega) (by rw [Int.mul_comm b p]; omega) (fun _ => rfl)
  · by_cases h1 : n ≥ 1
    · by_cases h2 : n ≤ 1048576
      · by_cases h3 : p ≥ 1
        · by_cases h4 : p ≤ 1048576
          · by_cases h5 : b ≥ 1
            · have h6 : ¬ b ≤ 1048576 := fun h6 => h ⟨h1, h2, h3, h4, h5, h6⟩
              simp [h1, h2, h3, h4, h5, h6]
            · simp [h1, h2, h3, h4, h5]
          · simp [h1, h2, h3, h4]
        · simp [h1, h2, h3]
      · simp [h1, h2]
    · simp [h1]

end Go.Proofs.Ytccppdpekelcpaa.Pure

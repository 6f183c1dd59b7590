/- Records by the reference. -/
import Derived.Test.YtfapfpkijeaapaaP0
import Derived.Test.YtfapfpkijeaapaaP7
import Derived.Test.YtfapfpkijeaapaaP8
import Derived.Test.YtfapfpkijeaapaaAudit1
import Derived.Test.YtfapfpkijeaapaaRefTwoR
import Derived.Test.YtfapfpkijeaapaaRefGet
namespace Go.Proofs.Ytfapfpkijeaapaa.Base
open Go.RowKit Go.Proofs.YtfapfpkijeaapaaW.PrintWords Go.Proofs.YtfapfpkijeaapaaW.PrintLast Go.Proofs.YtfapfpkijeaapaaW.PrintMore Go.Proofs.Ytfapfpkijeaapaa.P Go.Proofs.Ytfapfpkijeaapaa
set_option linter.unusedVariables false
set_option linter.unusedSimpArgs false

theorem among_is (a lo hi : Int) : ref23_among.f a lo hi = some (decide (inR lo a hi)) := by
  unfold ref23_among.f inR
  by_cases c : a ≥ lo
  · rw [if_pos c]; exact congrArg some (decide_eq_decide.2 ⟨fun h => ⟨c, h⟩, fun h => h.2⟩)
  · rw [if_neg c]; exact congrArg some (Eq.symm (decide_eq_false (fun h => c h.1)))
theorem ref23_Right_is (r : R) : ref23_Right.f r.f0 r.f1 r.f2 r.f3 r.f4 r.f5 r.f6 r.f7 r.f8 = some (decide (okR r)) := by
  unfold ref23_Right.f
  have step : ∀ (p q : Prop) [Decidable p] [Decidable q] (o : Option Bool), o = some (decide q) → ((some (decide p)).bind fun t => if t = true then o else some false) = some (decide (p ∧ q)) := by
    intro p q _ _ o ho
    rw [Option.bind_some, ho]
    by_cases hp : p
    · rw [decide_eq_true hp, if_pos rfl]; exact congrArg some (decide_eq_decide.2 ⟨fun h => ⟨hp, h⟩, fun h => h.2⟩)
    · rw [decide_eq_false hp, if_neg (by simp)]; exact congrArg some (Eq.symm (decide_eq_false (fun h => hp h.1)))
  rw [among_is, among_is, among_is, among_is, among_is, among_is, among_is, among_is, among_is]
  refine step _ _ _ (step _ _ _ (step _ _ _ (step _ _ _ (step _ _ _ (step _ _ _ (step _ _ _ (step _ _ _ ?_)))))))
  rw [Option.bind_some]
theorem Of_is (a : Int) (h0 : 0 ≤ a) (h1 : a ≤ 65535) : ref01_Of.f a = some (B (two a.toNat)) := by
  unfold ref01_Of.f
  rw [ref01_Put_is, if_pos ⟨h0, h1⟩, Option.bind_some]
theorem six_is (a : Int) (h0 : 0 ≤ a) (h1 : a ≤ 1099511627776) : ref23_six.f a = some (B ((beI a 6).map tob)) := by
  obtain ⟨m, rfl⟩ := Int.eq_ofNat_of_zero_le h0
  have e1 : wrap64 (Int.tdiv (m : Int) 65536) = ((m / 65536 : Nat) : Int) := by rw [Int.tdiv_eq_ediv_of_nonneg (by omega), w_id (by omega) (by omega)]; omega
  have e2 : wrap64 (Int.tdiv ((m / 65536 : Nat) : Int) 65536) = ((m / 65536 / 65536 : Nat) : Int) := by rw [Int.tdiv_eq_ediv_of_nonneg (by omega), w_id (by omega) (by omega)]; omega
  have e3 : Int.tmod ((m / 65536 : Nat) : Int) 65536 = ((m / 65536 % 65536 : Nat) : Int) := by rw [Int.tmod_eq_emod_of_nonneg (by omega)]; omega
  have e4 : Int.tmod (m : Int) 65536 = ((m % 65536 : Nat) : Int) := by rw [Int.tmod_eq_emod_of_nonneg (by omega)]; omega
  have l2 : ∀ n, (two n).length = 2 := fun n => rfl
  unfold ref23_six.f
  rw [e1, e2, e3, e4, Of_is _ (by omega) (by omega), Option.bind_some, Of_is _ (by omega) (by omega), Option.bind_some, B_size, B_size, l2, l2, if_pos (by decide), Of_is _ (by omega) (by omega), Option.bind_some, B_size, l2, if_pos (by decide), B_cat, B_cat]
  simp only [Int.toNat_natCast]
  have q5 : (2 : Int) ^ (8 * 5) = 1099511627776 := by decide
  have q4 : (2 : Int) ^ (8 * 4) = 4294967296 := by decide
  have q3 : (2 : Int) ^ (8 * 3) = 16777216 := by decide
  have q2 : (2 : Int) ^ (8 * 2) = 65536 := by decide
  have q1 : (2 : Int) ^ (8 * 1) = 256 := by decide
  have q0 : (2 : Int) ^ (8 * 0) = 1 := by decide
  have a5 := tob_eq ((m : Int) / 1099511627776 % 256) (m / 65536 / 65536 / 256) (by omega)
  have a4 := tob_eq ((m : Int) / 4294967296 % 256) (m / 65536 / 65536 % 256) (by omega)
  have a3 := tob_eq ((m : Int) / 16777216 % 256) (m / 65536 % 65536 / 256) (by omega)
  have a2 := tob_eq ((m : Int) / 65536 % 256) (m / 65536 % 65536 % 256) (by omega)
  have a1 := tob_eq ((m : Int) / 256 % 256) (m % 65536 / 256) (by omega)
  have a0 := tob_eq ((m : Int) / 1 % 256) (m % 65536 % 256) (by omega)
  simp only [beI, List.map_cons, List.map_nil, q5, q4, q3, q2, q1, q0, a5, a4, a3, a2, a1, a0]
  rfl
theorem ref23_Put_is (r : R) : ref23_Put.f r.f0 r.f1 r.f2 r.f3 r.f4 r.f5 r.f6 r.f7 r.f8 = some (if okR r then (B (recB r), true) else (B [], false)) := by
  unfold ref23_Put.f
  rw [ref23_Right_is, Option.bind_some]
  by_cases ok : okR r
  · rw [decide_eq_true ok, if_pos rfl, if_pos ok]
    obtain ⟨h0, h1, _, _, _, _, _, _, h8⟩ := ok
    have l6 : ∀ n, ((beI n 6).map tob).length = 6 := fun n => by rw [List.length_map, beI_len]
    have l2 : ∀ n, (two n).length = 2 := fun n => rfl
    rw [six_is _ h0.1 h0.2, Option.bind_some, six_is _ h1.1 h1.2, Option.bind_some, B_size, B_size, l6, l6, if_pos (by decide), Option.bind_some, B_nums, B_size, List.length_map]
    rw [if_pos (by show 6 + 6 + 6 ≤ _; decide), Of_is _ h8.1 h8.2, Option.bind_some, B_size, l2, if_pos (by show 6 + 6 + 6 + 2 ≤ _; decide), B_cat, B_cat, B_cat]
    have e : two r.f8.toNat = (beI r.f8 2).map tob := by
      obtain ⟨m, hm⟩ := Int.eq_ofNat_of_zero_le h8.1
      have h8' := h8.2
      rw [hm] at h8' ⊢
      have q1 : (2 : Int) ^ (8 * 1) = 256 := by decide
      have q0 : (2 : Int) ^ (8 * 0) = 1 := by decide
      have a1 := tob_eq ((m : Int) / 256 % 256) (m / 256) (by omega)
      have a0 := tob_eq ((m : Int) / 1 % 256) (m % 256) (by omega)
      simp only [beI, List.map_cons, List.map_nil, q1, q0, a1, a0, Int.toNat_natCast]
      rfl
    rw [e]
    unfold recB recI
    simp only [List.map_append]
    rfl
  · rw [decide_eq_false ok, if_neg (by simp), if_neg ok]
    rfl
end Go.Proofs.Ytfapfpkijeaapaa.Base

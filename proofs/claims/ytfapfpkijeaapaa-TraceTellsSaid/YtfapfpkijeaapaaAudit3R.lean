/- The records of bytes by the reference. -/
import Derived.Test.YtfapfpkijeaapaaP0
import Derived.Test.YtfapfpkijeaapaaP15
import Derived.Test.YtfapfpkijeaapaaAudit3
import Derived.Test.YtfapfpkijeaapaaAudit2R
namespace Go.Proofs.Ytfapfpkijeaapaa.Base
open Go.RowKit Go.Proofs.YtfapfpkijeaapaaW.PrintWords Go.Proofs.YtfapfpkijeaapaaW.PrintLast Go.Proofs.YtfapfpkijeaapaaW.PrintMore Go.Proofs.Ytfapfpkijeaapaa.P Go.Proofs.Ytfapfpkijeaapaa
set_option linter.unusedVariables false
set_option linter.unusedSimpArgs false

theorem rAll_loop (s : List UInt8) (m : Nat) (hs : s.length = 20 * m) (hm : m ≤ 10000) : ∀ (n j : Nat) (acc : List R), j + n = m → acc.length ≤ j → Ev (fun k => ref23_All.l0 k (B s) acc ((20 * j : Nat) : Int)) (allS n (s.drop (20 * j)) acc) := by
  intro n
  induction n with
  | zero =>
    intro j acc hj ha
    unfold allS
    rw [if_pos (List.drop_eq_nil_of_le (by omega))]
    refine Ev.step (f := fun _ => some (acc, true)) (fun k => ?_) (Ev.now _)
    simp only [ref23_All.l0]
    rw [B_size, if_neg (by omega)]
  | succ n ih =>
    intro j acc hj ha
    have hr := resG20 (s.drop (20 * j)) (by rw [List.length_drop]; omega)
    unfold allS
    have e20 : wrap64 (((20 * j : Nat) : Int) + 20) = ((20 * (j + 1) : Nat) : Int) := by rw [w_id (by omega) (by omega)]; omega
    have hG : ref23_Get.f (B ((s.drop (20 * j)).take 20)) = _ := ref23_Get_is _ (by rw [List.length_take]; omega)
    rw [hr] at hG
    have f1 : ((20 * j : Nat) : Int) < (s.length : Int) := by clear e20 hr hG ih; omega
    have f2 : (0 : Int) ≤ ((20 * j : Nat) : Int) := by clear e20 hr hG ih; omega
    have f3 : ((20 * j : Nat) : Int) ≤ ((20 * (j + 1) : Nat) : Int) := by clear e20 hr hG ih; omega
    have f4 : ((20 * (j + 1) : Nat) : Int) ≤ (s.length : Int) := by clear e20 hr hG ih; omega
    have f5 : 20 * (j + 1) - 20 * j = 20 := by clear e20 hr hG ih; omega
    have f6 : acc.length < 1954687338268 := by clear e20 hr hG ih; omega
    by_cases ok : okR (recG ((s.drop (20 * j)).take 20))
    · rw [if_pos ok]
      rw [if_pos ok] at hG
      have h := ih (j + 1) (acc ++ [recG ((s.drop (20 * j)).take 20)]) (by omega) (by rw [List.length_append]; show acc.length + 1 ≤ _; omega)
      rw [List.drop_drop, show 20 * j + 20 = 20 * (j + 1) by omega]
      refine Ev.step (fun k => ?_) h
      simp only [ref23_All.l0]
      rw [B_size, if_pos f1, if_pos f2, e20, if_pos f3, if_pos f4, Int.toNat_natCast, Int.toNat_natCast, B_cut, List.drop_take, f5, hG, Option.bind_some, if_pos (show (tupR (recG ((s.drop (20 * j)).take 20)) true).2.2.2.2.2.2.2.2.2 = true from rfl), if_pos f6]
      rfl
    · rw [if_neg ok]
      rw [if_neg ok] at hG
      refine Ev.step (f := fun _ => some ([], false)) (fun k => ?_) (Ev.now _)
      simp only [ref23_All.l0]
      rw [B_size, if_pos f1, if_pos f2, e20, if_pos f3, if_pos f4, Int.toNat_natCast, Int.toNat_natCast, B_cut, List.drop_take, f5, hG, Option.bind_some, if_neg (by simp)]
theorem ref23_All_is (s : List UInt8) (hs : s.length ≤ 100000) : Ev (fun k => ref23_All.f k (B s)) (allS (s.length / 20) s []) := by
  by_cases c : s.length % 20 = 0
  · have h := rAll_loop s (s.length / 20) (by omega) (by omega) (s.length / 20) 0 [] (by omega) (by simp)
    refine Ev.congr (fun k => ?_) h
    unfold ref23_All.f
    rw [B_size, if_pos (by omega)]
    rfl
  · rw [allS_bad _ s [] c rfl]
    refine Ev.congr (fun k => ?_) (Ev.now _)
    unfold ref23_All.f
    rw [B_size, if_neg (by omega)]
end Go.Proofs.Ytfapfpkijeaapaa.Base

/- A record of bytes by the reference. -/
import Derived.Test.YtfapfpkijeaapaaP0
import Derived.Test.YtfapfpkijeaapaaP13
import Derived.Test.YtfapfpkijeaapaaP14
import Derived.Test.YtfapfpkijeaapaaAudit2
import Derived.Test.YtfapfpkijeaapaaRefGet
import Derived.Test.YtfapfpkijeaapaaAudit1R
namespace Go.Proofs.Ytfapfpkijeaapaa.Base
open Go.RowKit Go.Proofs.YtfapfpkijeaapaaW.PrintWords Go.Proofs.YtfapfpkijeaapaaW.PrintLast Go.Proofs.YtfapfpkijeaapaaW.PrintMore Go.Proofs.Ytfapfpkijeaapaa.P Go.Proofs.Ytfapfpkijeaapaa
set_option linter.unusedVariables false
set_option linter.unusedSimpArgs false

theorem less_is (c : Nat) (h : c < 256) : ref23_less.f (c : Int) = some (ls c) := by
  unfold ref23_less.f ls
  by_cases e : c = 255
  · rw [if_pos (by omega), if_pos e]
  · rw [if_neg (by omega), if_neg e, w_id (by omega) (by omega)]
theorem at_is (s : List UInt8) (hs : s.length ≤ 1099511627776) (i : Nat) (h : i + 2 ≤ s.length) : ref01_At.f (B s) (i : Int) = some ((g2 s i : Nat) : Int) := by
  rw [ref01_At_is s (by omega)]
  unfold tGet
  rw [if_pos (by omega), Int.toNat_natCast]
theorem number_is (s : List UInt8) (hs : s.length ≤ 1099511627776) (i : Nat) (h : i + 6 ≤ s.length) : ref23_number.f (B s) (i : Int) = some ((valA 0 (cut s i 6) : Nat) : Int) := by
  unfold ref23_number.f
  have a0 := g2_lt s i
  have a2 := g2_lt s (i + 2)
  have a4 := g2_lt s (i + 4)
  have e2 : wrap64 ((i : Int) + 2) = ((i + 2 : Nat) : Int) := by rw [w_id (by omega) (by omega)]; omega
  have e4 : wrap64 ((i : Int) + 4) = ((i + 4 : Nat) : Int) := by rw [w_id (by omega) (by omega)]; omega
  rw [e2, e4, at_is s hs _ (by omega), Option.bind_some, at_is s hs _ (by omega), Option.bind_some, at_is s hs _ (by omega), Option.bind_some]
  clear e2 e4
  rw [w_id (x := ((g2 s i : Nat) : Int) * 65536) (by omega) (by omega), w_id (x := ((g2 s i : Nat) : Int) * 65536 + ((g2 s (i + 2) : Nat) : Int)) (by omega) (by omega), w_id (x := (((g2 s i : Nat) : Int) * 65536 + ((g2 s (i + 2) : Nat) : Int)) * 65536) (by omega) (by omega), w_id (by omega) (by omega)]
  have ec : valA 0 (cut s i 6) = (g2 s i * 65536 + g2 s (i + 2)) * 65536 + g2 s (i + 4) := by
    unfold cut
    rw [List.drop_eq_getElem_cons (show i < s.length by omega), List.drop_eq_getElem_cons (show i + 1 < s.length by omega), List.drop_eq_getElem_cons (show i + 1 + 1 < s.length by omega), List.drop_eq_getElem_cons (show i + 1 + 1 + 1 < s.length by omega), List.drop_eq_getElem_cons (show i + 1 + 1 + 1 + 1 < s.length by omega), List.drop_eq_getElem_cons (show i + 1 + 1 + 1 + 1 + 1 < s.length by omega)]
    simp only [List.take_succ_cons, List.take_zero, valA]
    have g : ∀ j (hj : j < s.length), (s[j]).toNat = b1 s j := fun j hj => by unfold b1; rw [List.getElem?_eq_getElem hj]; rfl
    rw [g, g, g, g, g, g]
    unfold g2
    simp only [Nat.add_assoc, Nat.reduceAdd]
    omega
  rw [ec]
  refine congrArg some ?_
  omega
theorem ref23_Get_is (s : List UInt8) (hs : s.length ≤ 1099511627776) : ref23_Get.f (B s) = some (resG s) := by
  unfold ref23_Get.f resG
  by_cases h : s.length = 20
  · have b : ∀ i, bt (B s) ((i : Nat) : Int) = ((b1 s i : Nat) : Int) := fun i => by rw [B_bt', Int.toNat_natCast]
    have n0 : ref23_number.f (B s) 0 = _ := number_is s hs 0 (by omega)
    have n6 : ref23_number.f (B s) 6 = _ := number_is s hs 6 (by omega)
    have n18 : ref01_At.f (B s) 18 = _ := at_is s hs 18 (by omega)
    have c12 : bt (B s) 12 = _ := b 12
    have c13 : bt (B s) 13 = _ := b 13
    have c14 : bt (B s) 14 = _ := b 14
    have c15 : bt (B s) 15 = _ := b 15
    have c16 : bt (B s) 16 = _ := b 16
    have c17 : bt (B s) 17 = _ := b 17
    rw [B_size, if_pos (by omega), n0, Option.bind_some, n6, Option.bind_some, if_pos (by omega), if_pos (by omega), c13, less_is _ (b1_lt s 13), Option.bind_some, if_pos (by omega), if_pos (by omega), if_pos (by omega), if_pos (by omega), c17, less_is _ (b1_lt s 17), Option.bind_some, n18, Option.bind_some, c12, c14, c15, c16, wbyte, wbyte, wbyte, wbyte]
    have e := ref23_Right_is (recH s)
    replace e : ref23_Right.f ((valA 0 (cut s 0 6) : Nat) : Int) ((valA 0 (cut s 6 6) : Nat) : Int) ((b1 s 12 : Nat) : Int) (ls (b1 s 13)) ((b1 s 14 : Nat) : Int) ((b1 s 15 : Nat) : Int) ((b1 s 16 : Nat) : Int) (ls (b1 s 17)) ((g2 s 18 : Nat) : Int) = _ := e
    rw [e, Option.bind_some]
    obtain ⟨q1, q2⟩ := recGH s
    by_cases ok : okR (recG s)
    · rw [decide_eq_true (q1.1 ok), if_pos rfl, if_pos (show s.length = 20 ∧ okR (recG s) from ⟨h, ok⟩), q2 ok]
      rfl
    · rw [decide_eq_false (fun q => ok (q1.2 q)), if_neg (by simp), if_neg (show ¬ (s.length = 20 ∧ okR (recG s)) from fun q => ok q.2)]
  · rw [B_size, if_neg (by omega), if_neg (show ¬ (s.length = 20 ∧ okR (recG s)) from fun q => h q.1)]
end Go.Proofs.Ytfapfpkijeaapaa.Base

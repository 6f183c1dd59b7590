/- What audit.get computes: the number of a string's bytes, and that its calls compute it. -/
import Derived.Test.YtfapfpkijeaapaaP0
namespace Go.Proofs.Ytfapfpkijeaapaa.P
open Go.RowKit Go.Proofs.YtfapfpkijeaapaaW.PrintWords Go.Proofs.YtfapfpkijeaapaaW.PrintLast Go.Proofs.YtfapfpkijeaapaaW.PrintMore
attribute [local go_sem] max2_int min2_int max_two min_two max_three min_three max_four min_four   -- for this text's walks alone
set_option linter.unusedVariables false
set_option linter.unusedSimpArgs false

def audit_get.l0 : Nat → ByteArray → Int → Int → Option Int
  | 0, _, _, _ => none
  | k + 1, x0, x3, x9 => if x9 < (x0.size : Int) then (if 0 ≤ x9 then audit_get.l0 k x0 (Go.bits .or .i64 (wrap64 (x3 * 256)) (wrap64 (rd (bytesOf x0) x9))) (wrap64 (x9 + 1)) else none) else some x3
def audit_get.f (k : Nat) (a0 : ByteArray) : Option Int := if (a0.size : Int) ≤ 9223372036854775807 then audit_get.l0 k a0 0 0 else none
theorem audit_get.mono_l : ∀ k, (∀ y0 y1 y2, LeO (audit_get.l0 k y0 y1 y2) (audit_get.l0 (k + 1) y0 y1 y2))
  | 0 => fun _ _ _ r h => by simp [audit_get.l0] at h
  | k + 1 => by
    have ih0 := audit_get.mono_l k
    intro y0 y1 y2
    unfold audit_get.l0
    exact LeO.ite (LeO.ite (ih0 _ _ _) (LeO.none _)) (LeO.refl _)
theorem audit_get.mono : ∀ a0 k, LeO (audit_get.f k a0) (audit_get.f (k + 1) a0) := fun a0 k => LeO.ite (audit_get.mono_l k _ _ _) (LeO.none _)
set_option maxHeartbeats 8000000 in
set_option maxRecDepth 100000 in
theorem audit_get.calls (k : Nat) (a0 : ByteArray) (r : Int) (w : World) (h : audit_get.f k a0 = some r) :
    Calls Try.prog 44 #[.string a0] w fun e w' => e = .returned (.int .i64 r) ∧ Below w.heap.size w w' := by
  unfold audit_get.f at h
  by_cases hsz : (a0.size : Int) ≤ 9223372036854775807
  · rw [if_pos hsz] at h
    have kb := fun W => print_bytes (P := Try.prog) 9 57 5 Try.underlying9 Try.underlying57 Try.underlying5 a0 W
    have H' := Aside0.mk h
    clear h
    go_enter Try.func44, Try.ntmps44
    go_wp2
    go_loopg [3, 9] k (fun kq v3 v9 w' => ∃ (x3 x9 : Int), v3 = .int .i64 x3 ∧ v9 = .int .i64 x9 ∧ Aside0 (audit_get.l0 kq a0 x3 x9 = some r) ∧ Aside0 (kq ≤ k) ∧ Aside0 (ReadsInt w' .u8 (some ⟨w.heap.size, 0, none⟩) a0.size (bytesOf a0)) ∧ Aside0 (Below w.heap.size w w'))
    case atStart => exact ⟨0, 0, rfl, rfl, H', ⟨Nat.le_refl _⟩, ⟨bytes_reads w 5 a0 (by omega)⟩, ⟨bytes_below (Below.refl _ _) (Nat.le_refl _) 5 a0⟩⟩
    case round =>
      clear H' kb
      obtain ⟨x3, x9, rfl, rfl, HA, HK1, HR, HB⟩ := hrel
      cases gk with
      | zero => exact absurd HA.out (by simp [audit_get.l0])
      | succ k1 =>
        have H := HA.out
        clear HA
        simp only [audit_get.l0] at H
        by_cases c1 : x9 < (a0.size : Int)
        · rw [if_pos c1] at H
          by_cases c2 : 0 ≤ x9
          · rw [if_pos c2] at H
            have H' := Aside0.mk H
            clear H
            obtain ⟨ad, e, hx⟩ := HR.out.at_ x9 c2 c1
            cases e
            simp only [add_plain, Nat.zero_add] at hx
            have c1b : decide (x9 < (a0.size : Int)) = true := decide_eq_true c1
            replace c1 := eq_true c1
            replace c2 := eq_true c2
            go_wp2

            go_roundg k1
            case measure => have := HK1.out; omega
            case rel => exact ⟨_, _, rfl, rfl, H', ⟨by have := HK1.out; omega⟩, HR, HB⟩
          · rw [if_neg c2] at H
            exact absurd H (by simp)
        · rw [if_neg c1] at H
          simp only [Option.some.injEq] at H
          subst H
          have c1b : decide (x9 < (a0.size : Int)) = false := decide_eq_false c1
          go_wp2
          go_ret
          exact ⟨rfl, HB.out⟩
  · rw [if_neg hsz] at h
    exact absurd h (by simp)
end Go.Proofs.Ytfapfpkijeaapaa.P

/- What twin.Get and the reference's like compute, on lists of bytes. -/
import Derived.Test.YtgffhdgfloimaaaP0
import Derived.Test.YtgffhdgfloimaaaP3
import Derived.Test.YtgffhdgfloimaaaP6
import Derived.Test.YtgffhdgfloimaaaBase
namespace Go.Proofs.Ytgffhdgfloimaaa.Base
open Go.RowKit Go.Proofs.YtgffhdgfloimaaaW.PrintWords Go.Proofs.YtgffhdgfloimaaaW.PrintLast Go.Proofs.YtgffhdgfloimaaaW.PrintMore Go.Proofs.Ytgffhdgfloimaaa.P
set_option linter.unusedVariables false
set_option linter.unusedSimpArgs false

/-- A byte of a list (0 behind its end). -/
def b1 (l : List UInt8) (i : Nat) : Nat := (l[i]?.getD 0).toNat
/-- Two bytes' number. -/
def g2 (l : List UInt8) (i : Nat) : Nat := 256 * b1 l i + b1 l (i + 1)
theorem b1_lt (l : List UInt8) (i : Nat) : b1 l i < 256 := byte_lt _
theorem g2_lt (l : List UInt8) (i : Nat) : g2 l i < 65536 := by have := b1_lt l i; have := b1_lt l (i + 1); unfold g2; omega
theorem B_bt' (l : List UInt8) (i : Int) : bt (B l) i = (b1 l i.toNat : Int) := B_bt l i
/-- The number at a place, and is it there. -/
def tGet (l : List UInt8) (i : Int) : Int × Bool := if 0 ≤ i ∧ i + 2 ≤ l.length then ((g2 l i.toNat : Nat), true) else (0, false)
theorem wbyte (l : List UInt8) (i : Nat) : wrap64 ((b1 l i : Nat) : Int) = (b1 l i : Nat) := by have := b1_lt l i; exact w_id (by omega) (by omega)
theorem twin_Get_is (l : List UInt8) (h : l.length ≤ 4611686018427387904) (i : Int) (h1 : i ≤ 4611686018427387904) : twin_Get.f (B l) i = some (tGet l i) := by
  unfold twin_Get.f tGet
  rw [B_size]
  by_cases h0 : i < 0
  · rw [if_pos h0, if_neg (by omega)]
  · rw [if_neg h0]
    have e1 : wrap64 ((l.length : Int) - 2) = (l.length : Int) - 2 := w_id (by omega) (by omega)
    rw [e1]
    by_cases h2 : i > (l.length : Int) - 2
    · rw [if_pos h2, if_neg (by omega)]
    · have e2 : wrap64 (i + 1) = i + 1 := w_id (by omega) (by omega)
      rw [if_neg h2, if_pos (by omega), if_pos (by omega), e2, if_pos (by omega), if_pos (by omega), if_pos (by omega)]
      rw [B_bt', B_bt', wbyte, wbyte]
      have hb := b1_lt l i.toNat
      have e3 : wrap64 ((b1 l i.toNat : Int) * 256) = (b1 l i.toNat : Int) * 256 := w_id (by omega) (by omega)
      rw [e3, or_join _ _ hb (b1_lt _ _)]
      rw [show (i + 1).toNat = i.toNat + 1 by omega]
      rfl
theorem ref01_Get_is (l : List UInt8) (h : l.length ≤ 4611686018427387904) (i : Int) : ref01_Get.f (B l) i = some (tGet l i) := by
  unfold ref01_Get.f tGet
  rw [B_size]
  by_cases h0 : i < 0
  · rw [if_pos h0, if_neg (by omega)]
  · rw [if_neg h0]
    by_cases h1 : i ≥ (l.length : Int)
    · rw [if_pos h1, if_neg (by omega)]
    · rw [if_neg h1]
      have e1 : wrap64 ((l.length : Int) - i) = (l.length : Int) - i := w_id (by omega) (by omega)
      rw [e1]
      by_cases h2 : (l.length : Int) - i < 2
      · rw [if_pos h2, if_neg (by omega)]
      · have e2 : wrap64 (i + 1) = i + 1 := w_id (by omega) (by omega)
        rw [if_neg h2, if_pos (by omega), if_pos (by omega), e2, if_pos (by omega), if_pos (by omega), if_pos (by omega)]
        rw [B_bt', B_bt', wbyte, wbyte]
        have hb := b1_lt l i.toNat
        have hb2 := b1_lt l (i + 1).toNat
        have e3 : wrap64 (256 * (b1 l i.toNat : Int)) = 256 * (b1 l i.toNat : Int) := w_id (by omega) (by omega)
        rw [e3, w_id (by omega) (by omega)]
        rw [show (i + 1).toNat = i.toNat + 1 by omega]
        unfold g2
        simp
theorem ref01_At_is (l : List UInt8) (h : l.length ≤ 4611686018427387904) (i : Int) : ref01_At.f (B l) i = some (tGet l i).1 := by
  unfold ref01_At.f
  rw [ref01_Get_is l h]
  rfl
/-- A number's two bytes. -/
def two (n : Nat) : List UInt8 := [UInt8.ofNat (n / 256), UInt8.ofNat (n % 256)]
theorem two_val (n : Nat) (h : n < 65536) : (UInt8.ofNat (n / 256)).toNat = n / 256 ∧ (UInt8.ofNat (n % 256)).toNat = n % 256 := by
  rw [UInt8.toNat_ofNat', UInt8.toNat_ofNat']
  omega
end Go.Proofs.Ytgffhdgfloimaaa.Base

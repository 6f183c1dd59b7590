/- Two bytes' number, on lists of bytes. -/
import Derived.Test.YtfapfpkijeaapaaP0
import Derived.Test.YtfapfpkijeaapaaBase
namespace Go.Proofs.Ytfapfpkijeaapaa.Base
open Go.RowKit Go.Proofs.YtfapfpkijeaapaaW.PrintWords Go.Proofs.YtfapfpkijeaapaaW.PrintLast Go.Proofs.YtfapfpkijeaapaaW.PrintMore Go.Proofs.Ytfapfpkijeaapaa.P
set_option linter.unusedVariables false
set_option linter.unusedSimpArgs false

/-- A byte of a list (0 behind its end). -/
def b1 (l : List UInt8) (i : Nat) : Nat := (l[i]?.getD 0).toNat
/-- Two bytes' number. -/
def g2 (l : List UInt8) (i : Nat) : Nat := 256 * b1 l i + b1 l (i + 1)
theorem b1_lt (l : List UInt8) (i : Nat) : b1 l i < 256 := byte_lt _
theorem g2_lt (l : List UInt8) (i : Nat) : g2 l i < 65536 := by have := b1_lt l i; have := b1_lt l (i + 1); unfold g2; omega
theorem B_bt' (l : List UInt8) (i : Int) : bt (B l) i = (b1 l i.toNat : Int) := B_bt l i
/-- The number at a place, and is it there. -/
def tGet (l : List UInt8) (i : Int) : Int × Bool := if 0 ≤ i ∧ i + 2 ≤ l.length then ((g2 l i.toNat : Nat), true) else (0, false)
theorem wbyte (l : List UInt8) (i : Nat) : wrap64 ((b1 l i : Nat) : Int) = (b1 l i : Nat) := by have := b1_lt l i; exact w_id (by omega) (by omega)
/-- A number's two bytes. -/
def two (n : Nat) : List UInt8 := [UInt8.ofNat (n / 256), UInt8.ofNat (n % 256)]
theorem two_val (n : Nat) (h : n < 65536) : (UInt8.ofNat (n / 256)).toNat = n / 256 ∧ (UInt8.ofNat (n % 256)).toNat = n % 256 := by
  rw [UInt8.toNat_ofNat', UInt8.toNat_ofNat']
  omega
end Go.Proofs.Ytfapfpkijeaapaa.Base

/-
  No cell of these rows narrows 'for every input' (looked for: loops, veiled, ifaces, maps, wideKeys, modest, calm, conditions, laid).
  DERIVED. THE GIVEN ROWS OF THIS SEAT. 3 by the template 'for every input the law returns true; each argument reads behind the call as it read before'; 0 by the template 'total and deterministic' (their statements: YtnmloapejbnejaaTotals.lean).
  GIVEN WITH THE SEED: the statements are not yours to turn. If you find one false, say at which input.
  Laid BY PROGRAM, IN A SANDBOX (cutbox-rows.mjs): the forced cells as the released guide's own fill.sh prints them over the translation 73581655f3c93229… (all of the seat's roots in one cut). By AI agents, Wed Nov 11 2026. No macro, syntax, notation, axiom, sorry.
-/
import Derived.Test.YtnmloapejbnejaaChecked
import GoSem.Claim
import GoSem.ClaimJoined
import GoSem.ClaimMapViews
import Derived.JoinedTies
import Derived.KernelRfl
namespace Go.Proofs.Ytnmloapejbnejaa
/- THE CELL 'sum', in the pinned program and in every row, IS THE sha256 OF THE DUMP (.gsa) THAT YtnmloapejbnejaaProg.lean LOADS. Nothing in Lean hashes anything: it is a label: what it is worth is what the hold of that sum in a sandbox is worth. -/
noncomputable def Try.pinned : Pinned := { name := "ytnmloapejbnejaa", sum := "73581655f3c932297837b4d5743cb2bf2c5b6930b6aad779c91f763ffa6b17db", checked := Try.checked }
namespace Rows
def none {H : Type} : Left H := { results := [], args := [] }

/-- 'gatewardenlaw20.PendParts': WHATEVER THE INPUT: true; the input reads as it did. -/
def pendPartsSpec : ChangeSpec := { name := "pendParts", fn := fun _ => fun
  | [d1, d2, d3] => { results := [.lit (.bool true)], args := [d1, d2, d3] }
  | _ => none }
def pendPartsRow : OpenClaim := { program := "ytnmloapejbnejaa", sum := "73581655f3c932297837b4d5743cb2bf2c5b6930b6aad779c91f763ffa6b17db", func := "gatewarden/gatewardenlaw20.PendParts", spec := "pendParts", unfollowed := true, recurses := true, apart := false }
def PendPartsSaid : Prop := pendPartsRow.holds Try.pinned (OpenSpec.ofChange pendPartsSpec)

/-- ITS FALSE NEIGHBOUR: 'it returns false'. Refute it at one input. -/
def pendPartsWrong : ChangeSpec := { name := "pendParts", fn := fun _ => fun
  | [d1, d2, d3] => { results := [.lit (.bool false)], args := [d1, d2, d3] }
  | _ => none }
def PendPartsWrongFalsely : Prop := pendPartsRow.holds Try.pinned (OpenSpec.ofChange pendPartsWrong)

/-- 'gatewardenlaw20.PendBound': WHATEVER THE INPUT: true; the input reads as it did. -/
def pendBoundSpec : ChangeSpec := { name := "pendBound", fn := fun _ => fun
  | [d1, d2] => { results := [.lit (.bool true)], args := [d1, d2] }
  | _ => none }
def pendBoundRow : OpenClaim := { program := "ytnmloapejbnejaa", sum := "73581655f3c932297837b4d5743cb2bf2c5b6930b6aad779c91f763ffa6b17db", func := "gatewarden/gatewardenlaw20.PendBound", spec := "pendBound", unfollowed := true, recurses := true, apart := false }
def PendBoundSaid : Prop := pendBoundRow.holds Try.pinned (OpenSpec.ofChange pendBoundSpec)

/-- ITS FALSE NEIGHBOUR: 'it returns false'. Refute it at one input. -/
def pendBoundWrong : ChangeSpec := { name := "pendBound", fn := fun _ => fun
  | [d1, d2] => { results := [.lit (.bool false)], args := [d1, d2] }
  | _ => none }
def PendBoundWrongFalsely : Prop := pendBoundRow.holds Try.pinned (OpenSpec.ofChange pendBoundWrong)

/-- 'gatewardenlaw20.PendTells': WHATEVER THE INPUT: true; the input reads as it did. -/
def pendTellsSpec : ChangeSpec := { name := "pendTells", fn := fun _ => fun
  | [d1, d2, d3] => { results := [.lit (.bool true)], args := [d1, d2, d3] }
  | _ => none }
def pendTellsRow : OpenClaim := { program := "ytnmloapejbnejaa", sum := "73581655f3c932297837b4d5743cb2bf2c5b6930b6aad779c91f763ffa6b17db", func := "gatewarden/gatewardenlaw20.PendTells", spec := "pendTells", unfollowed := true, recurses := true, apart := false }
def PendTellsSaid : Prop := pendTellsRow.holds Try.pinned (OpenSpec.ofChange pendTellsSpec)

/-- ITS FALSE NEIGHBOUR: 'it returns false'. Refute it at one input. -/
def pendTellsWrong : ChangeSpec := { name := "pendTells", fn := fun _ => fun
  | [d1, d2, d3] => { results := [.lit (.bool false)], args := [d1, d2, d3] }
  | _ => none }
def PendTellsWrongFalsely : Prop := pendTellsRow.holds Try.pinned (OpenSpec.ofChange pendTellsWrong)

/- THE SECOND FORM. 'bulk': how many values and letters a reading holds, each counted each time it is reached (what is shared counts as often as it is met; a slice's spare places count too). A statement '..UptoSaid' is the law's where the arguments, and the package variables that the reading takes, are together of bulk at most 1048576: NARROWER than '..Said'. Prove '..Said' where nothing that the law and all that it calls make is longer than what came in: it says more and counts as full. Else prove '..UptoSaid'. A law counts once. -/
mutual
def uptoBulk {H : Type} : DataW H → Nat
  | .lit (.string bytes) => bytes.length + 1
  | .lit _ => 1
  | .nil => 1
  | .ptr d => uptoBulk d + 1
  | .slice elems spare => uptoBulkAll elems + uptoBulkAll spare + 1
  | .agg parts => uptoBulkAll parts + 1
  | .iface _ d => uptoBulk d + 1
  | .map entries => uptoBulkEntries entries + 1
  | .held _ => 1
def uptoBulkAll {H : Type} : List (DataW H) → Nat
  | [] => 0
  | d :: r => uptoBulk d + uptoBulkAll r
def uptoBulkEntries {H : Type} : List (Lit × DataW H) → Nat
  | [] => 0
  | x :: r => uptoBulkEntry x + uptoBulkEntries r
def uptoBulkEntry {H : Type} : Lit × DataW H → Nat
  | (.string bytes, d) => bytes.length + uptoBulk d + 1
  | (_, d) => uptoBulk d + 1
 end
def uptoSmall : (H : Type) → List (DataW H) → Bool := fun _ ds => decide (uptoBulkAll ds ≤ 1048576)
def OpenSpec.upto (s : _root_.Go.ChangeSpec) : _root_.Go.OpenSpec := { _root_.Go.OpenSpec.ofChange s with cond := some uptoSmall }

/-- 'gatewardenlaw20.PendParts', WHERE WHAT IT READS IS OF BULK AT MOST 1048576: true; the input reads as it did. -/
def pendPartsUptoRow : OpenClaim := { program := "ytnmloapejbnejaa", sum := "73581655f3c932297837b4d5743cb2bf2c5b6930b6aad779c91f763ffa6b17db", func := "gatewarden/gatewardenlaw20.PendParts", spec := "pendParts", unfollowed := true, recurses := true, apart := false, narrowed := true }
def PendPartsUptoSaid : Prop := pendPartsUptoRow.holds Try.pinned (OpenSpec.upto pendPartsSpec)

/-- 'gatewardenlaw20.PendBound', WHERE WHAT IT READS IS OF BULK AT MOST 1048576: true; the input reads as it did. -/
def pendBoundUptoRow : OpenClaim := { program := "ytnmloapejbnejaa", sum := "73581655f3c932297837b4d5743cb2bf2c5b6930b6aad779c91f763ffa6b17db", func := "gatewarden/gatewardenlaw20.PendBound", spec := "pendBound", unfollowed := true, recurses := true, apart := false, narrowed := true }
def PendBoundUptoSaid : Prop := pendBoundUptoRow.holds Try.pinned (OpenSpec.upto pendBoundSpec)

/-- 'gatewardenlaw20.PendTells', WHERE WHAT IT READS IS OF BULK AT MOST 1048576: true; the input reads as it did. -/
def pendTellsUptoRow : OpenClaim := { program := "ytnmloapejbnejaa", sum := "73581655f3c932297837b4d5743cb2bf2c5b6930b6aad779c91f763ffa6b17db", func := "gatewarden/gatewardenlaw20.PendTells", spec := "pendTells", unfollowed := true, recurses := true, apart := false, narrowed := true }
def PendTellsUptoSaid : Prop := pendTellsUptoRow.holds Try.pinned (OpenSpec.upto pendTellsSpec)

end Rows
end Go.Proofs.Ytnmloapejbnejaa

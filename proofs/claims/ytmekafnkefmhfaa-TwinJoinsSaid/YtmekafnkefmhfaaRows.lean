/-
  No cell of these rows narrows 'for every input' (looked for: loops, veiled, ifaces, maps, wideKeys, modest, calm, conditions, laid).
  DERIVED. THE GIVEN ROWS OF THIS SEAT. 3 by the template 'for every input the law returns true; each argument reads behind the call as it read before'; 0 by the template 'total and deterministic' (their statements: YtmekafnkefmhfaaTotals.lean).
  GIVEN WITH THE SEED: the statements are not yours to turn. If you find one false, say at which input.
  Laid BY PROGRAM, IN A SANDBOX (cutbox-rows.mjs): the forced cells as the released guide's own fill.sh prints them over the translation dfdf8df4ef33094d… (all of the seat's roots in one cut). By AI agents, Wed Nov 11 2026. No macro, syntax, notation, axiom, sorry.
-/
import Derived.Test.YtmekafnkefmhfaaChecked
import GoSem.Claim
import GoSem.ClaimJoined
import GoSem.ClaimMapViews
import Derived.JoinedTies
import Derived.KernelRfl
namespace Go.Proofs.Ytmekafnkefmhfaa
/- THE CELL 'sum', in the pinned program and in every row, IS THE sha256 OF THE DUMP (.gsa) THAT YtmekafnkefmhfaaProg.lean LOADS. Nothing in Lean hashes anything: it is a label: what it is worth is what the hold of that sum in a sandbox is worth. -/
noncomputable def Try.pinned : Pinned := { name := "ytmekafnkefmhfaa", sum := "dfdf8df4ef33094d79c04d90485c462a6783b8300b08fceb91d7876ba948f170", checked := Try.checked }
namespace Rows
def none {H : Type} : Left H := { results := [], args := [] }

/-- 'gatewardenlaw01.TwinJoins': WHATEVER THE INPUT: true; the input reads as it did. -/
def twinJoinsSpec : ChangeSpec := { name := "twinJoins", fn := fun _ => fun
  | [d1, d2] => { results := [.lit (.bool true)], args := [d1, d2] }
  | _ => none }
def twinJoinsRow : OpenClaim := { program := "ytmekafnkefmhfaa", sum := "dfdf8df4ef33094d79c04d90485c462a6783b8300b08fceb91d7876ba948f170", func := "gatewarden/gatewardenlaw01.TwinJoins", spec := "twinJoins", apart := false }
def TwinJoinsSaid : Prop := twinJoinsRow.holds Try.pinned (OpenSpec.ofChange twinJoinsSpec)

/-- ITS FALSE NEIGHBOUR: 'it returns false'. Refute it at one input. -/
def twinJoinsWrong : ChangeSpec := { name := "twinJoins", fn := fun _ => fun
  | [d1, d2] => { results := [.lit (.bool false)], args := [d1, d2] }
  | _ => none }
def TwinJoinsWrongFalsely : Prop := twinJoinsRow.holds Try.pinned (OpenSpec.ofChange twinJoinsWrong)

/-- 'gatewardenlaw01.TwinTells': WHATEVER THE INPUT: true; the input reads as it did. -/
def twinTellsSpec : ChangeSpec := { name := "twinTells", fn := fun _ => fun
  | [d] => { results := [.lit (.bool true)], args := [d] }
  | _ => none }
def twinTellsRow : OpenClaim := { program := "ytmekafnkefmhfaa", sum := "dfdf8df4ef33094d79c04d90485c462a6783b8300b08fceb91d7876ba948f170", func := "gatewarden/gatewardenlaw01.TwinTells", spec := "twinTells", apart := false }
def TwinTellsSaid : Prop := twinTellsRow.holds Try.pinned (OpenSpec.ofChange twinTellsSpec)

/-- ITS FALSE NEIGHBOUR: 'it returns false'. Refute it at one input. -/
def twinTellsWrong : ChangeSpec := { name := "twinTells", fn := fun _ => fun
  | [d] => { results := [.lit (.bool false)], args := [d] }
  | _ => none }
def TwinTellsWrongFalsely : Prop := twinTellsRow.holds Try.pinned (OpenSpec.ofChange twinTellsWrong)

/-- 'gatewardenlaw01.TwinBack': WHATEVER THE INPUT: true; the input reads as it did. -/
def twinBackSpec : ChangeSpec := { name := "twinBack", fn := fun _ => fun
  | [d1, d2] => { results := [.lit (.bool true)], args := [d1, d2] }
  | _ => none }
def twinBackRow : OpenClaim := { program := "ytmekafnkefmhfaa", sum := "dfdf8df4ef33094d79c04d90485c462a6783b8300b08fceb91d7876ba948f170", func := "gatewarden/gatewardenlaw01.TwinBack", spec := "twinBack", apart := false }
def TwinBackSaid : Prop := twinBackRow.holds Try.pinned (OpenSpec.ofChange twinBackSpec)

/-- ITS FALSE NEIGHBOUR: 'it returns false'. Refute it at one input. -/
def twinBackWrong : ChangeSpec := { name := "twinBack", fn := fun _ => fun
  | [d1, d2] => { results := [.lit (.bool false)], args := [d1, d2] }
  | _ => none }
def TwinBackWrongFalsely : Prop := twinBackRow.holds Try.pinned (OpenSpec.ofChange twinBackWrong)

/- THE SECOND FORM. 'bulk': how many values and letters a reading holds, each counted each time it is reached (what is shared counts as often as it is met; a slice's spare places count too). A statement '..UptoSaid' is the law's where the arguments, and the package variables that the reading takes, are together of bulk at most 1048576: NARROWER than '..Said'. Prove '..Said' where nothing that the law and all that it calls make is longer than what came in: it says more and counts as full. Else prove '..UptoSaid'. A law counts once. -/
mutual
def uptoBulk {H : Type} : DataW H → Nat
  | .lit (.string bytes) => bytes.length + 1
  | .lit _ => 1
  | .nil => 1
  | .ptr d => uptoBulk d + 1
  | .slice elems spare => uptoBulkAll elems + uptoBulkAll spare + 1
  | .agg parts => uptoBulkAll parts + 1
  | .iface _ d => uptoBulk d + 1
  | .map entries => uptoBulkEntries entries + 1
  | .held _ => 1
def uptoBulkAll {H : Type} : List (DataW H) → Nat
  | [] => 0
  | d :: r => uptoBulk d + uptoBulkAll r
def uptoBulkEntries {H : Type} : List (Lit × DataW H) → Nat
  | [] => 0
  | x :: r => uptoBulkEntry x + uptoBulkEntries r
def uptoBulkEntry {H : Type} : Lit × DataW H → Nat
  | (.string bytes, d) => bytes.length + uptoBulk d + 1
  | (_, d) => uptoBulk d + 1
 end
def uptoSmall : (H : Type) → List (DataW H) → Bool := fun _ ds => decide (uptoBulkAll ds ≤ 1048576)
def OpenSpec.upto (s : _root_.Go.ChangeSpec) : _root_.Go.OpenSpec := { _root_.Go.OpenSpec.ofChange s with cond := some uptoSmall }

/-- 'gatewardenlaw01.TwinJoins', WHERE WHAT IT READS IS OF BULK AT MOST 1048576: true; the input reads as it did. -/
def twinJoinsUptoRow : OpenClaim := { program := "ytmekafnkefmhfaa", sum := "dfdf8df4ef33094d79c04d90485c462a6783b8300b08fceb91d7876ba948f170", func := "gatewarden/gatewardenlaw01.TwinJoins", spec := "twinJoins", apart := false, narrowed := true }
def TwinJoinsUptoSaid : Prop := twinJoinsUptoRow.holds Try.pinned (OpenSpec.upto twinJoinsSpec)

/-- 'gatewardenlaw01.TwinTells', WHERE WHAT IT READS IS OF BULK AT MOST 1048576: true; the input reads as it did. -/
def twinTellsUptoRow : OpenClaim := { program := "ytmekafnkefmhfaa", sum := "dfdf8df4ef33094d79c04d90485c462a6783b8300b08fceb91d7876ba948f170", func := "gatewarden/gatewardenlaw01.TwinTells", spec := "twinTells", apart := false, narrowed := true }
def TwinTellsUptoSaid : Prop := twinTellsUptoRow.holds Try.pinned (OpenSpec.upto twinTellsSpec)

/-- 'gatewardenlaw01.TwinBack', WHERE WHAT IT READS IS OF BULK AT MOST 1048576: true; the input reads as it did. -/
def twinBackUptoRow : OpenClaim := { program := "ytmekafnkefmhfaa", sum := "dfdf8df4ef33094d79c04d90485c462a6783b8300b08fceb91d7876ba948f170", func := "gatewarden/gatewardenlaw01.TwinBack", spec := "twinBack", apart := false, narrowed := true }
def TwinBackUptoSaid : Prop := twinBackUptoRow.holds Try.pinned (OpenSpec.upto twinBackSpec)

end Rows
end Go.Proofs.Ytmekafnkefmhfaa

/- A list of frames is the same as itself. -/
import Derived.Test.YtfapfpkijeaapaaP0
import Derived.Test.YtfapfpkijeaapaaP11
import Derived.Test.YtfapfpkijeaapaaStream
namespace Go.Proofs.Ytfapfpkijeaapaa.Base
open Go.RowKit Go.Proofs.YtfapfpkijeaapaaW.PrintWords Go.Proofs.YtfapfpkijeaapaaW.PrintLast Go.Proofs.YtfapfpkijeaapaaW.PrintMore Go.Proofs.Ytfapfpkijeaapaa.P
set_option linter.unusedVariables false
set_option linter.unusedSimpArgs false

/-- A list of frames is the same as itself. -/
theorem frames_loop (l : List Fr) (hl : l.length < 4611686018427387904) (d : Nat) : ∀ i : Nat, i ≤ l.length → l.length - i = d → Ev (fun k => ref08_Frames.l0 k l l (i : Int)) true := by
  induction d with
  | zero => exact fun i hi hd => Ev.step (f := fun _ => some true) (fun k => by simp only [ref08_Frames.l0]; rw [if_neg (by omega)]) (Ev.now _)
  | succ d ih =>
    intro i hi hd
    refine Ev.step (f := fun k => ref08_Frames.l0 k l l ((i + 1 : Nat) : Int)) (fun k => ?_) (ih (i + 1) (by omega) (by omega))
    simp only [ref08_Frames.l0]
    rw [if_pos (by omega), if_pos (by omega), if_pos (by omega), if_neg (by simp), w_id (by omega) (by omega)]
    rfl
theorem frames_same (l : List Fr) (hl : l.length < 4611686018427387904) : Ev (fun k => ref08_Frames.f k l l) true := by
  unfold ref08_Frames.f
  refine Ev.congr (fun k => ?_) (frames_loop l hl l.length 0 (by omega) (by omega))
  simp
end Go.Proofs.Ytfapfpkijeaapaa.Base

/- AuditTells: whether any record may be, its bytes, and the record, and the records, of any bytes (1000 at most), are the document's. No condition beyond the ranges of the arguments' kinds. -/
import Derived.Test.YtimljcnmochmnaaP0
import Derived.Test.YtimljcnmochmnaaP4
import Derived.Test.YtimljcnmochmnaaP9
import Derived.Test.YtimljcnmochmnaaOpen
import Derived.Test.YtimljcnmochmnaaAudit3
namespace Go.Proofs.Ytimljcnmochmnaa.Pure
open Go.RowKit Go.Proofs.YtimljcnmochmnaaW.PrintWords Go.Proofs.YtimljcnmochmnaaW.PrintLast Go.Proofs.YtimljcnmochmnaaW.PrintMore Go.Proofs.Ytimljcnmochmnaa.P Go.Proofs.Ytimljcnmochmnaa Go.Proofs.Ytimljcnmochmnaa.Base
set_option linter.unusedVariables false
set_option linter.unusedSimpArgs false

def AuditTellsPure : Prop := ∀ (x0 : S23) (x1 : ByteArray), Open.wf23 x0 → x1.size ≤ maxLen → ∃ k, law23_AuditTells.f k x0.f0 x0.f1 x0.f2 x0.f3 x0.f4 x0.f5 x0.f6 x0.f7 x0.f8 x1 = some true
theorem awake23 : Ev (fun k => law23_awake.f k) true := Ev.of law23_awake.mono (k := 30) (by decide +kernel)
theorem AuditTells_pure : AuditTellsPure := by
  intro r s _ _
  obtain ⟨s, rfl⟩ := ofB s
  apply Ev.rounds
  unfold law23_AuditTells.f
  by_cases c : s.length > 1000
  · exact Ev.congr (fun k => if_pos (by rw [B_size]; omega)) (Ev.bind awake23 (Ev.now _))
  · refine Ev.congr (fun k => if_neg (by rw [B_size]; omega)) ?_
    have hl := allS_len (s.length / 20) s []
    rw [List.length_nil] at hl
    refine Ev.bind (audit_Put_is r) ?_
    refine Ev.congr (fun k => by rw [ref23_Put_is, Option.bind_some]) ?_
    refine Ev.bind (audit_Get_is s (by omega)) ?_
    refine Ev.congr (fun k => by rw [ref23_Get_is s (by omega), Option.bind_some]) ?_
    refine Ev.bind (audit_All_is s (by omega)) (Ev.bind (ref23_All_is s (by omega)) (Ev.bind awake23 ?_))
    refine Ev.congr (fun k => if_pos rfl) ?_
    refine Ev.bind (audit_Right_is r) ?_
    refine Ev.congr (fun k => by rw [ref23_Right_is, Option.bind_some]) ?_
    refine Ev.congr (fun k => if_pos (by simp only [beq_self_eq_true])) ?_
    refine Ev.congr (fun k => if_pos rfl) ?_
    refine Ev.congr (fun k => if_pos (by simp only [beq_self_eq_true])) ?_
    refine Ev.congr (fun k => if_pos (by simp only [beq_self_eq_true, Bool.and_true, Bool.and_self])) ?_
    refine Ev.congr (fun k => if_pos (by simp only [beq_self_eq_true])) ?_
    refine Ev.bind (same_is _ (by omega)) ?_
    refine Ev.congr (fun k => ?_) (Ev.now _)
    rw [if_pos rfl]
    simp only [beq_self_eq_true]
end Go.Proofs.Ytimljcnmochmnaa.Pure

/- What trace's functions compute, on lists. -/
import Derived.Test.YtfapfpkijeaapaaP0
import Derived.Test.YtfapfpkijeaapaaP4
import Derived.Test.YtfapfpkijeaapaaP6
import Derived.Test.YtfapfpkijeaapaaP9
import Derived.Test.YtfapfpkijeaapaaOpen
import Derived.Test.YtfapfpkijeaapaaAudit3
import Derived.Test.YtfapfpkijeaapaaHandRec
import Derived.Test.YtfapfpkijeaapaaHandTrace
namespace Go.Proofs.Ytfapfpkijeaapaa.Base
open Go.RowKit Go.Proofs.YtfapfpkijeaapaaW.PrintWords Go.Proofs.YtfapfpkijeaapaaW.PrintLast Go.Proofs.YtfapfpkijeaapaaW.PrintMore Go.Proofs.Ytfapfpkijeaapaa.P Go.Proofs.Ytfapfpkijeaapaa
set_option linter.unusedVariables false
set_option linter.unusedSimpArgs false

abbrev Ot := S40
/-- Few outputs, of few bytes. -/
def Few (l : List Ot) : Prop := l.length ≤ 60 ∧ ∀ x ∈ l, x.f2.size ≤ 300
theorem rdO (l : List Ot) (i : Nat) (h : i < l.length) : rd_T40 l (i : Int) = l[i] := by
  unfold rd_T40
  rw [Int.toNat_natCast, List.getD_eq_getElem?_getD, List.getElem?_eq_getElem h]
  rfl
theorem few_loop (l : List Ot) (hl : l.length ≤ 60) (d : Nat) : ∀ i : Nat, i + d = l.length → Ev (fun k => law27_few.l0 k l (i : Int)) false ∨ (Ev (fun k => law27_few.l0 k l (i : Int)) true ∧ ∀ c ∈ l.drop i, c.f2.size ≤ 300) := by
  induction d with
  | zero =>
    intro i hi
    refine .inr ⟨Ev.step (fun k => by simp only [law27_few.l0]; rw [if_neg (by omega)]) (Ev.now true), ?_⟩
    rw [List.drop_eq_nil_of_le (by omega)]
    exact fun c hc => absurd hc (by simp)
  | succ d ih =>
    intro i hi
    have h : i < l.length := by omega
    have ew : wrap64 ((i : Int) + 1) = ((i + 1 : Nat) : Int) := by rw [w_id (by omega) (by omega)]; rfl
    have e : ∀ k, law27_few.l0 (k + 1) l (i : Int) = (if ((l[i].f2).size : Int) > 300 then (some false) else (law27_few.l0 k l ((i + 1 : Nat) : Int))) := by
      intro k
      simp only [law27_few.l0]
      rw [if_pos (by omega), if_pos (by omega), rdO l i h, ew]
    by_cases c1 : ((l[i].f2).size : Int) > 300
    · exact .inl (Ev.step (fun k => by rw [e, if_pos c1]) (Ev.now false))
    · rcases ih (i + 1) (by omega) with ih | ⟨ih, hr⟩
      · exact .inl (Ev.step (fun k => by rw [e, if_neg c1]) ih)
      · refine .inr ⟨Ev.step (fun k => by rw [e, if_neg c1]) ih, fun c hc => ?_⟩
        rw [List.drop_eq_getElem_cons h] at hc
        rcases List.mem_cons.1 hc with rfl | hc
        · omega
        · exact hr c hc
theorem few_is (l : List Ot) : Ev (fun k => law27_few.f k l) false ∨ (Ev (fun k => law27_few.f k l) true ∧ Few l) := by
  by_cases c : (l.length : Int) > 60
  · exact .inl (Ev.congr (fun k => by unfold law27_few.f; rw [if_pos c]) (Ev.now false))
  · rcases few_loop l (by omega) l.length 0 (by omega) with h | ⟨h, hs⟩
    · exact .inl (Ev.congr (fun k => by unfold law27_few.f; rw [if_neg c]; rfl) h)
    · exact .inr ⟨Ev.congr (fun k => by unfold law27_few.f; rw [if_neg c]; rfl) h, by omega, by rwa [List.drop_zero] at hs⟩
theorem few_ok {l : List Ot} (h : Few l) : okO l = true := by
  unfold okO
  simp only [Bool.and_eq_true, decide_eq_true_eq, List.all_eq_true]
  exact ⟨by have := h.1; omega, fun x hx => by have := h.2 x hx; omega⟩
theorem few_sub {l m : List Ot} (h : Few l) (hm : m.Sublist l) : Few m := ⟨Nat.le_trans hm.length_le h.1, fun x hx => h.2 x (hm.subset hx)⟩
theorem catO_app (a b : List Ot) : catO (a ++ b) = catO a ++ catO b := by unfold catO; rw [List.flatMap_append]
theorem catO_len (l : List Ot) (h : ∀ x ∈ l, x.f2.size ≤ 300) : (catO l).length ≤ 300 * l.length := by
  induction l with
  | nil => exact Nat.zero_le _
  | cons x l ih =>
    have h1 := h x List.mem_cons_self
    have e : catO (x :: l) = x.f2.data.toList ++ catO l := rfl
    have e2 : x.f2.data.toList.length = x.f2.size := Array.length_toList
    have ih' := ih (fun y hy => h y (List.mem_cons_of_mem _ hy))
    rw [e, List.length_append, List.length_cons]
    omega
theorem few_cat {l : List Ot} (h : Few l) (p : Ot → Bool) : (catO (l.filter p)).length ≤ 18000 := by
  have h2 := few_sub h List.filter_sublist (m := l.filter p)
  have := catO_len _ h2.2
  have := h2.1
  omega
theorem trace_Bytes_is {l : List Ot} (h : Few l) (a b : Int) : trace_Bytes.f l a b = some (B (catO (l.filter fun o => o.f0 == a && o.f1 == b))) := by
  unfold trace_Bytes.f
  rw [if_pos (few_ok h)]
  rfl
theorem trace_Closes_is {l : List Ot} (h : Few l) (a : Int) : trace_Closes.f l a = some ((l.filter fun o => o.f0 == 4 || o.f0 == 3 && o.f1 == a).length : Int) := by
  unfold trace_Closes.f
  rw [if_pos (few_ok h)]
/-- The records' bytes. -/
def recO (l : List Ot) : List UInt8 := catO (l.filter fun o => o.f0 == 5)
def recsO (l : List Ot) : List R × Bool := allS ((recO l).length / 20) (recO l) []
theorem trace_Records_is {l : List Ot} (h : Few l) : Ev (fun k => trace_Records.f k l) (recsO l) := by
  have h1 := few_cat h (fun o => o.f0 == 5)
  unfold trace_Records.f recsO
  refine Ev.congr (fun k => if_pos (few_ok h)) ?_
  exact audit_All_is (recO l) (Nat.le_trans h1 (by decide))
theorem awake27 : Ev (fun k => law27_awake.f k) true := Ev.of law27_awake.mono (k := 40) (by decide +kernel)
end Go.Proofs.Ytfapfpkijeaapaa.Base

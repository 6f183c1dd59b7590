/- AuditBack: records (30 at most) that may be come back, one behind the other; bytes that have records are theirs; without the document's answer. No condition beyond the ranges of the arguments' kinds. -/
import Derived.Test.YtimljcnmochmnaaP0
import Derived.Test.YtimljcnmochmnaaP4
import Derived.Test.YtimljcnmochmnaaP10
import Derived.Test.YtimljcnmochmnaaOpen
import Derived.Test.YtimljcnmochmnaaAudit3
namespace Go.Proofs.Ytimljcnmochmnaa.Pure
open Go.RowKit Go.Proofs.YtimljcnmochmnaaW.PrintWords Go.Proofs.YtimljcnmochmnaaW.PrintLast Go.Proofs.YtimljcnmochmnaaW.PrintMore Go.Proofs.Ytimljcnmochmnaa.P Go.Proofs.Ytimljcnmochmnaa Go.Proofs.Ytimljcnmochmnaa.Base
set_option linter.unusedVariables false
set_option linter.unusedSimpArgs false

def AuditBackPure : Prop := ∀ (x0 : List (S23)) (x1 : ByteArray), (x0.length ≤ maxLen ∧ ∀ y_ ∈ x0, Open.wf23 y_) → x1.size ≤ maxLen → ∃ k, law23_AuditBack.f k x0 x1 = some true
theorem awake23 : Ev (fun k => law23_awake.f k) true := Ev.of law23_awake.mono (k := 30) (by decide +kernel)
theorem rdR_get (l : List R) (i : Nat) (h : i < l.length) : rd_T23 l (i : Int) = l[i] := by
  unfold rd_T23; rw [Int.toNat_natCast, List.getD_eq_getElem?_getD, List.getElem?_eq_getElem h]; rfl
/-- A record's bytes; none of what may not be. -/
def pB (r : R) : List UInt8 := if okR r then recB r else []
theorem pB_len (r : R) : (pB r).length ≤ 20 := by
  unfold pB
  split
  · rw [recB_len]; exact Nat.le_refl _
  · exact Nat.zero_le _
theorem Put_pB (r : R) : Ev (fun k => audit_Put.f k r.f0 r.f1 r.f2 r.f3 r.f4 r.f5 r.f6 r.f7 r.f8) (B (pB r), decide (okR r)) := by
  have h := audit_Put_is r
  unfold pB
  by_cases ok : okR r
  · rw [if_pos ok] at h; rw [if_pos ok, decide_eq_true ok]; exact h
  · rw [if_neg ok] at h; rw [if_neg ok, decide_eq_false ok]; exact h
theorem pB_all (l : List R) (h : allR l) : l.flatMap pB = recs l := by
  induction l with
  | nil => rfl
  | cons r l ih =>
    obtain ⟨h1, h2⟩ := (allR_cons r l).1 h
    unfold recs at ih ⊢
    rw [List.flatMap_cons, List.flatMap_cons, ih h2]
    unfold pB
    rw [if_pos h1]
theorem loop1 (s : List UInt8) (on : Bool) (n : List R) (hn : n.length ≤ 1000) (hg : GoodR s (n, on)) (d : Nat) : ∀ (i : Nat) (u : List UInt8), i ≤ n.length → n.length - i = d → u.length ≤ 20 * i → u ++ recs (n.drop i) = recs n → Ev (fun k => law23_AuditBack.l1 k (B s) n on (B u) (i : Int)) true := by
  induction d with
  | zero =>
    intro i u hi hd hu he
    rw [List.drop_eq_nil_of_le (by omega)] at he
    have he' : u = recs n := by rw [← he]; show u = u ++ []; rw [List.append_nil]
    refine Ev.step (fun k => by simp only [law23_AuditBack.l1]; rw [if_neg (by omega)]) ?_
    refine Ev.bind awake23 ?_
    refine Ev.congr (fun k => ?_) (Ev.now _)
    rw [if_pos rfl]
    rcases hg with ⟨h0, h1, _⟩ | ⟨h0, h1⟩
    · replace h0 : on = true := h0
      replace h1 : recs n = s := h1
      rw [if_pos h0, he', h1, if_pos rfl]
    · replace h0 : on = false := h0
      replace h1 : n = [] := h1
      rw [h0, h1, if_neg (by simp)]
      rfl
  | succ d ih =>
    intro i u hi hd hu he
    have hlt : i < n.length := by omega
    have hall : allR n := by
      rcases hg with ⟨_, _, h⟩ | ⟨_, h1⟩
      · exact h
      · replace h1 : n = [] := h1
        rw [h1]; exact fun r hr => by simp at hr
    have edrop : n.drop i = n[i] :: n.drop (i + 1) := List.drop_eq_getElem_cons hlt
    have ok := hall _ (List.getElem_mem hlt)
    have hp : pB n[i] = recB n[i] := by unfold pB; rw [if_pos ok]
    have hl := pB_len n[i]
    refine Ev.step (fun k => by simp only [law23_AuditBack.l1]; rw [if_pos (by omega), if_pos (by omega), rdR_get n i hlt, w_id (by omega) (by omega)]) ?_
    refine Ev.bind (Put_pB n[i]) ?_
    have h := ih (i + 1) (u ++ pB n[i]) (by omega) (by omega) (by rw [List.length_append]; omega) (by
      rw [edrop] at he
      rw [List.append_assoc, hp]
      unfold recs at he ⊢
      rw [List.flatMap_cons] at he
      exact he)
    refine Ev.congr (fun k => ?_) h
    rw [if_pos (by rw [B_size, B_size]; omega), B_cat]
    rfl
theorem back2 (s : List UInt8) (hs : s.length ≤ 1000) : Ev (fun k => law23_AuditBack.j2 k (B s) false) true := by
  have hG := allS_good s (s.length / 20) s [] rfl rfl (fun r hr => by simp at hr)
  have hl := allS_len (s.length / 20) s []
  rw [List.length_nil] at hl
  refine Ev.step (fun k => by simp only [law23_AuditBack.j2, Bool.false_eq_true, if_false]; rfl) ?_
  refine Ev.bind (audit_All_is s (by omega)) ?_
  exact loop1 s _ _ (by omega) hG _ 0 [] (by omega) rfl (by simp) rfl
theorem loop0 (l : List R) (s : List UInt8) (hl : l.length ≤ 30) (hs : s.length ≤ 1000) (d : Nat) : ∀ (i : Nat) (t : List UInt8) (all : Bool), i ≤ l.length → l.length - i = d → t.length ≤ 20 * i → (all = true → t = recs (l.take i) ∧ allR (l.take i)) → Ev (fun k => law23_AuditBack.l0 k l (B s) (B t) all (i : Int)) true := by
  have hb := back2 s hs
  induction d with
  | zero =>
    intro i t all hi hd ht he
    refine Ev.step (fun k => by simp only [law23_AuditBack.l0]; rw [if_neg (by omega)]) ?_
    refine Ev.bind (audit_All_is t (by omega)) ?_
    cases all with
    | false => exact Ev.congr (fun k => if_neg (by simp)) hb
    | true =>
      obtain ⟨h1, h2⟩ := he rfl
      rw [List.take_of_length_le (by omega)] at h1 h2
      have hA : allS (t.length / 20) t [] = (l, true) := by
        rw [h1, recs_len, show 20 * l.length / 20 = l.length by omega]
        exact allS_back l [] h2
      rw [hA]
      refine Ev.congr (fun k => if_pos rfl) (Ev.congr (fun k => if_pos rfl) ?_)
      refine Ev.bind (same_is l (by omega)) ?_
      refine Ev.congr (fun k => if_pos rfl) ?_
      refine Ev.congr (fun k => ?_) hb
      rw [B_size, h1, recs_len, w_id (by omega) (by omega)]
      have e : (((20 * l.length : Nat) : Int) != 20 * (l.length : Int)) = false := bne_eq_false_iff_eq.mpr (by omega)
      rw [e]
  | succ d ih =>
    intro i t all hi hd ht he
    have hlt : i < l.length := by omega
    have hpl := pB_len l[i]
    refine Ev.step (fun k => by simp only [law23_AuditBack.l0]; rw [if_pos (by omega), if_pos (by omega), rdR_get l i hlt, w_id (by omega) (by omega)]) ?_
    refine Ev.bind (Put_pB l[i]) (Ev.bind (audit_Right_is l[i]) ?_)
    refine Ev.congr (fun k => if_neg (by simp)) ?_
    refine Ev.congr (fun k => if_pos (by rw [B_size, B_size]; omega)) ?_
    have et : l.take (i + 1) = l.take i ++ [l[i]] := by rw [List.take_add_one, List.getElem?_eq_getElem hlt]; rfl
    cases all with
    | false =>
      refine Ev.congr (fun k => if_neg (by simp)) ?_
      refine Ev.congr (fun k => by rw [B_cat]) ?_
      exact ih (i + 1) (t ++ pB l[i]) false (by omega) (by omega) (by rw [List.length_append]; omega) (fun h => by cases h)
    | true =>
      obtain ⟨h1, h2⟩ := he rfl
      refine Ev.congr (fun k => if_pos rfl) ?_
      refine Ev.congr (fun k => by rw [B_cat]) ?_
      refine ih (i + 1) (t ++ pB l[i]) (decide (okR l[i])) (by omega) (by omega) (by rw [List.length_append]; omega) (fun h => ?_)
      have ok : okR l[i] := of_decide_eq_true h
      rw [et, recs_app, ← h1]
      refine ⟨?_, (allR_app _ _).2 ⟨h2, fun r hr => by rw [List.mem_singleton] at hr; rw [hr]; exact ok⟩⟩
      unfold pB recs
      rw [if_pos ok, List.flatMap_cons, List.flatMap_nil, List.append_nil]
theorem AuditBack_pure : AuditBackPure := by
  intro l s _ _
  obtain ⟨s, rfl⟩ := ofB s
  apply Ev.rounds
  have hq : Ev (fun k => law23_AuditBack.j0 k l (B s) true) true := Ev.step (f := fun k => (law23_awake.f k).bind fun t => some t) (fun k => by simp only [law23_AuditBack.j0, if_true]) (Ev.bind awake23 (Ev.now _))
  unfold law23_AuditBack.f
  by_cases c : l.length > 30
  · exact Ev.congr (fun k => if_pos (by omega)) hq
  · refine Ev.congr (fun k => if_neg (by omega)) ?_
    by_cases c2 : s.length > 1000
    · exact Ev.congr (fun k => by rw [B_size, decide_eq_true (by omega)]) hq
    · refine Ev.congr (f := fun k => law23_AuditBack.j0 k l (B s) false) (fun k => by rw [B_size, decide_eq_false (by omega)]) ?_
      refine Ev.step (f := fun k => law23_AuditBack.l0 k l (B s) (B []) true ((0 : Nat) : Int)) (fun k => by simp only [law23_AuditBack.j0, Bool.false_eq_true, if_false]; rfl) ?_
      exact loop0 l s (by omega) (by omega) l.length 0 [] true (by omega) (by omega) (by simp) (fun _ => ⟨by simp [recs], fun r hr => by simp at hr⟩)
end Go.Proofs.Ytimljcnmochmnaa.Pure

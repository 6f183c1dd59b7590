/- PendParts: what is due, and what isn't, are all, and none is both; what leaves a connection, and what is of it, likewise; without the document's answer. No condition beyond the ranges of the arguments' kinds. -/
import Derived.Test.YtnmloapejbnejaaP3
import Derived.Test.YtnmloapejbnejaaP3
import Derived.Test.YtnmloapejbnejaaP3
import Derived.Test.YtnmloapejbnejaaOpen
import Derived.Test.YtnmloapejbnejaaPend2
namespace Go.Proofs.Ytnmloapejbnejaa.Pure
open Go.RowKit Go.Proofs.YtnmloapejbnejaaW.PrintWords Go.Proofs.YtnmloapejbnejaaW.PrintLast Go.Proofs.YtnmloapejbnejaaW.PrintMore Go.Proofs.Ytnmloapejbnejaa.P Go.Proofs.Ytnmloapejbnejaa Go.Proofs.Ytnmloapejbnejaa.Base
set_option linter.unusedVariables false
set_option linter.unusedSimpArgs false

def PendPartsPure : Prop := ∀ (x0 : List (S32)) (x1 : Int) (x2 : Int), (x0.length ≤ maxLen ∧ ∀ y_ ∈ x0, Open.wf32 y_) → (Lit.int .i64 x1).wf = true → (Lit.int .i64 x2).wf = true → ∃ k, law20_PendParts.f k x0 x1 x2 = some true
theorem awake20 : Ev (fun k => law20_awake.f k) true := Ev.of law20_awake.mono (k := 8) (by decide +kernel)
theorem filter_two (l : List Pd) (f : Pd → Bool) : (l.filter f).length + (l.filter (fun p => !f p)).length = l.length := by
  induction l with
  | nil => rfl
  | cons p l ih =>
    by_cases h : f p = true
    · rw [List.filter_cons_of_pos h, List.filter_cons_of_neg (by simpa using h), List.length_cons, List.length_cons]; omega
    · rw [List.filter_cons_of_neg h, List.filter_cons_of_pos (by simpa using h), List.length_cons, List.length_cons]; omega
/-- One is found in a part just where the part holds it. -/
theorem part_find {l : List Pd} (hd : dist l) (f : Pd → Bool) {p : Pd} (hp : p ∈ l) : decide (0 ≤ fnd (l.filter f) p.f0 0) = f p := by
  by_cases h : f p = true
  · rw [h]
    exact decide_eq_true ((fnd_pos _ _ _).1.2 ⟨p, List.mem_filter.2 ⟨hp, h⟩, rfl⟩)
  · have h' : f p = false := Bool.eq_false_iff.2 h
    rw [h']
    refine decide_eq_false (fun hx => ?_)
    obtain ⟨q, hq, he⟩ := (fnd_pos _ _ _).1.1 hx
    obtain ⟨hq1, hq2⟩ := List.mem_filter.1 hq
    exact h (dist_inj hd hq1 hp he ▸ hq2)
def cnt (l : List Pd) (c : Int) (i : Nat) : Nat := ((l.take i).filter (fun p => p.f1 == c)).length
theorem cnt_step (l : List Pd) (c : Int) (i : Nat) (hi : i < l.length) : cnt l c (i + 1) = cnt l c i + if (l[i]).f1 = c then 1 else 0 := by
  unfold cnt
  have et : l.take (i + 1) = l.take i ++ [l[i]] := by rw [List.take_add_one, List.getElem?_eq_getElem hi]; rfl
  rw [et, List.filter_append, List.length_append]
  by_cases e : (l[i]).f1 = c
  · rw [if_pos e, List.filter_cons_of_pos (by simpa using e)]; rfl
  · rw [if_neg e, List.filter_cons_of_neg (by simpa using e)]; rfl
theorem cnt_le (l : List Pd) (c : Int) (i : Nat) : cnt l c i ≤ l.length := by
  unfold cnt
  refine Nat.le_trans (List.length_filter_le _ _) ?_
  rw [List.length_take]; omega
theorem parts_loop (l : List Pd) (hl : l.length ≤ 80) (hd : dist l) (t c : Int) (d : Nat) : ∀ i : Nat, i ≤ l.length → l.length - i = d →
    Ev (fun k => law20_PendParts.l0 k l t c (dueS l t).1 (dueS l t).2 (leaveS l c) ((cnt l c i : Nat) : Int) (i : Int)) true := by
  have hlim : l.length ≤ lim := by unfold lim; omega
  have hf : ∀ f : Pd → Bool, (l.filter f).length ≤ lim := fun f => Nat.le_trans (List.length_filter_le _ _) hlim
  induction d with
  | zero =>
    intro i hi hd0
    refine Ev.step (fun k => by simp only [law20_PendParts.l0]; rw [if_neg (by omega)]) ?_
    refine Ev.bind awake20 ?_
    have e1 := filter_two l (fun p => decide (p.f6 ≤ t))
    have e2 := filter_two l (fun p => p.f1 == c)
    have e3 : cnt l c i = (l.filter (fun p => p.f1 == c)).length := by unfold cnt; rw [List.take_of_length_le (by omega)]
    have g1 : wrap64 (((dueS l t).1.length : Int) + ((dueS l t).2.length : Int)) = (l.length : Int) := by
      show wrap64 (((l.filter (fun p => decide (p.f6 ≤ t))).length : Int) + ((l.filter (fun p => !decide (p.f6 ≤ t))).length : Int)) = _
      rw [w_id (by omega) (by omega)]; omega
    have g2 : wrap64 (((leaveS l c).length : Int) + ((cnt l c i : Nat) : Int)) = (l.length : Int) := by unfold leaveS; rw [e3, w_id (by omega) (by omega)]; omega
    refine Ev.congr (fun k => by rw [if_pos rfl, if_pos g1, if_pos g2]) ?_
    refine Ev.bind (pend_Outers_is l hlim) ?_
    exact Ev.congr (fun k => by rw [List.length_map, beq_self_eq_true]) (Ev.now _)
  | succ d ih =>
    intro i hi hd0
    have hlt : i < l.length := by omega
    have hm := List.getElem_mem hlt
    have hc := cnt_le l c i
    have h := ih (i + 1) (by omega) (by omega)
    have hj : Ev (fun k => law20_PendParts.j2 k l t c (dueS l t).1 (dueS l t).2 (leaveS l c) ((cnt l c (i + 1) : Nat) : Int) (i : Int)) true := by
      refine Ev.step (fun k => by simp only [law20_PendParts.j2]; rw [if_pos (by omega), if_pos (by omega), rdP l i hlt, w_id (by omega) (by omega)]) ?_
      have p1 := part_find hd (fun p => decide (p.f6 ≤ t)) hm
      have p2 := part_find hd (fun p => !decide (p.f6 ≤ t)) hm
      have p3 := part_find hd (fun p => !(p.f1 == c)) hm
      refine Ev.bind (pend_Find_is (dueS l t).1 (hf _) _) ?_
      refine Ev.congr (fun k => if_neg (by
        have q : decide (fnd (dueS l t).1 (l[i]).f0 0 ≥ 0) = decide ((l[i]).f6 ≤ t) := p1
        rw [q]; simp)) ?_
      refine Ev.bind (pend_Find_is (dueS l t).2 (hf _) _) ?_
      refine Ev.congr (fun k => if_neg (by
        have q : decide (fnd (dueS l t).2 (l[i]).f0 0 ≥ 0) = !decide ((l[i]).f6 ≤ t) := p2
        rw [q]
        by_cases e : (l[i]).f6 ≤ t
        · rw [decide_eq_true e, decide_eq_false (by omega)]; simp
        · rw [decide_eq_false e, decide_eq_true (by omega)]; simp)) ?_
      refine Ev.bind (pend_Find_is (leaveS l c) (hf _) _) ?_
      refine Ev.congr (fun k => if_neg (by
        have q : decide (fnd (leaveS l c) (l[i]).f0 0 ≥ 0) = !((l[i]).f1 == c) := p3
        rw [q]; simp [bne])) ?_
      exact Ev.congr (fun k => rfl) h
    by_cases e : (l[i]).f1 = c
    · refine Ev.step (fun k => ?_) hj
      simp only [law20_PendParts.l0]
      rw [if_pos (by omega), if_pos (by omega), rdP l i hlt, if_pos e, cnt_step l c i hlt, if_pos e, w_id (by omega) (by omega)]
      rfl
    · refine Ev.step (fun k => ?_) hj
      simp only [law20_PendParts.l0]
      rw [if_pos (by omega), if_pos (by omega), rdP l i hlt, if_neg e, cnt_step l c i hlt, if_neg e]
      rfl
theorem PendParts_pure : PendPartsPure := by
  rintro l t c _ _ _
  apply Ev.rounds
  have hq : Ev (fun k => law20_PendParts.j0 k l t c true) true := Ev.step (f := fun k => (law20_awake.f k).bind fun t => some t) (fun k => by simp only [law20_PendParts.j0, if_true]) (Ev.bind awake20 (Ev.now _))
  unfold law20_PendParts.f
  by_cases h : l.length > 80
  · exact Ev.congr (fun k => if_pos (by omega)) hq
  · have hlim : l.length ≤ lim := by unfold lim; omega
    refine Ev.congr (fun k => if_neg (by omega)) ?_
    obtain ⟨b, h1, h2⟩ := ref20_Right_is l hlim
    refine Ev.bind h1 ?_
    cases b with
    | false => exact hq
    | true =>
      have hd := h2.1 rfl
      show Ev (fun k => law20_PendParts.j0 k l t c false) true
      refine Ev.step (fun k => by simp only [law20_PendParts.j0, Bool.false_eq_true, if_false]; rfl) ?_
      refine Ev.bind (pend_Due_is l hlim t) (Ev.bind (pend_Leave_is l hlim c) ?_)
      exact parts_loop l (by omega) hd t c l.length 0 (by omega) (by omega)
end Go.Proofs.Ytnmloapejbnejaa.Pure

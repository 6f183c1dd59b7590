/- What bytes make of a stream: the frames that they begin with, and what is left; by the program's way and the reference's. -/
import Derived.Test.YtfapfpkijeaapaaP0
import Derived.Test.YtfapfpkijeaapaaP11
import Derived.Test.YtfapfpkijeaapaaP12
import Derived.Test.YtfapfpkijeaapaaMbap
namespace Go.Proofs.Ytfapfpkijeaapaa.Base
open Go.RowKit Go.Proofs.YtfapfpkijeaapaaW.PrintWords Go.Proofs.YtfapfpkijeaapaaW.PrintLast Go.Proofs.YtfapfpkijeaapaaW.PrintMore Go.Proofs.Ytfapfpkijeaapaa.P
set_option linter.unusedVariables false
set_option linter.unusedSimpArgs false

abbrev Fr := S38
/-- The frame that bytes are. -/
def frameOf (l : List UInt8) : Fr := ⟨((g2 l 0 : Nat) : Int), ((b1 l 6 : Nat) : Int), B (l.drop 7)⟩
/-- The frames that bytes begin with; what is left; is it none any more. -/
def run (l : List UInt8) : List Fr × List UInt8 × Bool :=
  if l.length < 6 then ([], l, false)
  else if badHead l then ([], [], true)
  else if h : l.length < g2 l 4 + 6 then ([], l, false)
  else (frameOf (l.take (g2 l 4 + 6)) :: (run (l.drop (g2 l 4 + 6))).1, (run (l.drop (g2 l 4 + 6))).2)
termination_by l.length
decreasing_by all_goals (rw [List.length_drop]; omega)
theorem run_more {l : List UInt8} (h : l.length < 6) : run l = ([], l, false) := by rw [run, if_pos h]
theorem run_bad {l : List UInt8} (h : ¬ l.length < 6) (hb : badHead l) : run l = ([], [], true) := by rw [run, if_neg h, if_pos hb]
theorem run_wait {l : List UInt8} (h : ¬ l.length < 6) (hb : ¬ badHead l) (hw : l.length < g2 l 4 + 6) : run l = ([], l, false) := by rw [run, if_neg h, if_neg hb, dif_pos hw]
theorem run_step {l : List UInt8} (h : ¬ l.length < 6) (hb : ¬ badHead l) (hw : ¬ l.length < g2 l 4 + 6) :
    run l = (frameOf (l.take (g2 l 4 + 6)) :: (run (l.drop (g2 l 4 + 6))).1, (run (l.drop (g2 l 4 + 6))).2) := by
  conv => lhs; rw [run]
  rw [if_neg h, if_neg hb, dif_neg hw]
theorem b1_cat {a b : List UInt8} {i : Nat} (h : i < a.length) : b1 (a ++ b) i = b1 a i := by unfold b1; rw [List.getElem?_append_left h]
theorem g2_cat {a b : List UInt8} {i : Nat} (h : i + 1 < a.length) : g2 (a ++ b) i = g2 a i := by unfold g2; rw [b1_cat (by omega), b1_cat h]
theorem bad_cat {a b : List UInt8} (h : ¬ a.length < 6) : badHead (a ++ b) ↔ badHead a := by unfold badHead; rw [g2_cat (by omega), g2_cat (by omega)]
theorem b1_take {a : List UInt8} {i n : Nat} (h : i < n) : b1 (a.take n) i = b1 a i := by unfold b1; rw [List.getElem?_take_of_lt h]
theorem g2_take {a : List UInt8} {i n : Nat} (h : i + 1 < n) : g2 (a.take n) i = g2 a i := by unfold g2; rw [b1_take (by omega), b1_take h]
theorem nb {l : List UInt8} (hb : ¬ badHead l) : 2 ≤ g2 l 4 ∧ g2 l 4 ≤ 254 := by unfold badHead at hb; omega
theorem need_more {l : List UInt8} (h : l.length < 6) : need l = (0, 0) := by unfold need; rw [if_pos h]
theorem need_bad {l : List UInt8} (h : ¬ l.length < 6) (hb : badHead l) : need l = (0, 5) := by unfold need; rw [if_neg h, if_pos hb]
theorem need_is {l : List UInt8} (h : ¬ l.length < 6) (hb : ¬ badHead l) : need l = (((g2 l 4 + 6 : Nat) : Int), 0) := by unfold need; rw [if_neg h, if_neg hb]
/-- The bytes of a whole frame are got. -/
theorem get_whole {l : List UInt8} (h : ¬ l.length < 6) (hb : ¬ badHead l) (hw : l.length = g2 l 4 + 6) : get l = ((frameOf l).f0, (frameOf l).f1, (frameOf l).f2, 0) := by
  have := nb hb
  unfold get
  rw [need_is h hb, if_pos ⟨rfl, by show ((g2 l 4 + 6 : Nat) : Int) ≠ 0; omega, by show ((g2 l 4 + 6 : Nat) : Int) = _; omega⟩]
  rfl
theorem head_take {l : List UInt8} {n : Nat} (hn : 6 ≤ n) (hb : ¬ badHead l) (hl : n ≤ l.length) : ¬ (l.take n).length < 6 ∧ ¬ badHead (l.take n) ∧ g2 (l.take n) 4 = g2 l 4 := by
  refine ⟨by rw [List.length_take]; omega, ?_, g2_take (by omega)⟩
  unfold badHead
  rw [g2_take (by omega), g2_take (by omega)]
  exact hb
/-- What bytes make of a stream. -/
def push (buf : List UInt8) (bad : Bool) (b : List UInt8) : List Fr × List UInt8 × Bool := if bad = true then ([], buf, true) else run (buf ++ b)
theorem run_cat (n : Nat) : ∀ (a b : List UInt8), a.length ≤ n → run (a ++ b) = ((run a).1 ++ (push (run a).2.1 (run a).2.2 b).1, (push (run a).2.1 (run a).2.2 b).2) := by
  induction n with
  | zero =>
    intro a b h
    obtain rfl : a = [] := List.length_eq_zero_iff.1 (by omega)
    rw [run_more (l := []) (by simp)]
    simp [push]
  | succ n ih =>
    intro a b h
    by_cases h6 : a.length < 6
    · rw [run_more h6]; simp [push]
    · have hc6 : ¬ (a ++ b).length < 6 := by rw [List.length_append]; omega
      by_cases hb : badHead a
      · rw [run_bad h6 hb, run_bad hc6 ((bad_cat h6).2 hb)]; simp [push]
      · have hcb : ¬ badHead (a ++ b) := fun hh => hb ((bad_cat h6).1 hh)
        have hg : g2 (a ++ b) 4 = g2 a 4 := g2_cat (by omega)
        by_cases hw : a.length < g2 a 4 + 6
        · rw [run_wait h6 hb hw]; simp [push]
        · have hcw : ¬ (a ++ b).length < g2 (a ++ b) 4 + 6 := by rw [List.length_append, hg]; omega
          rw [run_step hc6 hcb hcw, run_step h6 hb hw, hg]
          have e1 : (a ++ b).take (g2 a 4 + 6) = a.take (g2 a 4 + 6) := List.take_append_of_le_length (by omega)
          have e2 : (a ++ b).drop (g2 a 4 + 6) = a.drop (g2 a 4 + 6) ++ b := List.drop_append_of_le_length (by omega)
          have := nb hb
          rw [e1, e2, ih (a.drop (g2 a 4 + 6)) b (by rw [List.length_drop]; omega)]
          simp
theorem run_append (a b : List UInt8) : run (a ++ b) = ((run a).1 ++ (push (run a).2.1 (run a).2.2 b).1, (push (run a).2.1 (run a).2.2 b).2) := run_cat a.length a b (Nat.le_refl _)
/-- What is left waits for more. -/
def Pending (l : List UInt8) : Prop := l.length < 6 ∨ (¬ badHead l ∧ l.length < g2 l 4 + 6)
instance (l : List UInt8) : Decidable (Pending l) := inferInstanceAs (Decidable (_ ∨ _))
theorem run_pending {l : List UInt8} (h : Pending l) : run l = ([], l, false) := by
  by_cases h6 : l.length < 6
  · exact run_more h6
  · rcases h with h | ⟨h1, h2⟩
    · exact absurd h h6
    · exact run_wait h6 h1 h2
theorem run_ends (n : Nat) : ∀ l : List UInt8, l.length ≤ n → ((run l).2.2 = true → (run l).2.1 = []) ∧ ((run l).2.2 = false → Pending (run l).2.1) ∧ (run l).1.length + (run l).2.1.length ≤ l.length := by
  induction n with
  | zero =>
    intro l h
    rw [run_more (by omega)]
    exact ⟨fun h => by simp at h, fun _ => Or.inl (by show l.length < 6; omega), by simp⟩
  | succ n ih =>
    intro l h
    by_cases h6 : l.length < 6
    · rw [run_more h6]
      exact ⟨fun h => by simp at h, fun _ => Or.inl h6, by simp⟩
    · by_cases hb : badHead l
      · rw [run_bad h6 hb]; exact ⟨fun _ => rfl, fun h => by simp at h, by simp⟩
      · by_cases hw : l.length < g2 l 4 + 6
        · rw [run_wait h6 hb hw]; exact ⟨fun h => by simp at h, fun _ => Or.inr ⟨hb, hw⟩, by simp⟩
        · rw [run_step h6 hb hw]
          obtain ⟨i1, i2, i3⟩ := ih (l.drop (g2 l 4 + 6)) (by rw [List.length_drop]; omega)
          rw [List.length_drop] at i3
          exact ⟨i1, i2, by simp only [List.length_cons]; omega⟩
theorem pending_le {l : List UInt8} (h : Pending l) : l.length ≤ 259 := by
  rcases h with h | ⟨h1, h2⟩
  · omega
  · have := nb h1; omega
/-- The program's way: frame by frame. -/
theorem push_loop (n : Nat) : ∀ (l : List UInt8) (acc : List Fr), l.length ≤ n → acc.length + l.length < 4398046511104 → Ev (fun k => stream_Push.l0 k acc (B l)) (B (run l).2.1, (run l).2.2, acc ++ (run l).1) := by
  induction n with
  | zero =>
    intro l acc h hb
    refine Ev.step (f := fun _ => some (B l, false, acc)) (fun k => ?_) ?_
    · simp only [stream_Push.l0]
      rw [mbap_Need_is l (by omega), need_more (by omega)]
      rfl
    · rw [run_more (by omega)]; simp only [List.append_nil]; exact Ev.now _
  | succ n ih =>
    intro l acc h hlen
    by_cases h6 : l.length < 6
    · refine Ev.step (f := fun _ => some (B l, false, acc)) (fun k => ?_) ?_
      · simp only [stream_Push.l0]
        rw [mbap_Need_is l (by omega), need_more h6]
        rfl
      · rw [run_more h6]; simp only [List.append_nil]; exact Ev.now _
    · by_cases hb : badHead l
      · refine Ev.step (f := fun _ => some (B [], true, acc)) (fun k => ?_) ?_
        · simp only [stream_Push.l0]
          rw [mbap_Need_is l (by omega), need_bad h6 hb]
          rfl
        · rw [run_bad h6 hb]; simp only [List.append_nil]; exact Ev.now _
      · have hn := nb hb
        by_cases hw : l.length < g2 l 4 + 6
        · refine Ev.step (f := fun _ => some (B l, false, acc)) (fun k => ?_) ?_
          · simp only [stream_Push.l0]
            rw [mbap_Need_is l (by omega), need_is h6 hb, B_size]
            simp only [Option.bind_some, if_true]
            rw [if_neg (by omega), if_pos (by omega)]
          · rw [run_wait h6 hb hw]; simp only [List.append_nil]; exact Ev.now _
        · obtain ⟨q1, q2, q3⟩ := head_take (n := g2 l 4 + 6) (by omega) hb (by omega)
          refine Ev.step (f := fun k => stream_Push.l0 k (acc ++ [frameOf (l.take (g2 l 4 + 6))]) (B (l.drop (g2 l 4 + 6)))) (fun k => ?_) ?_
          · simp only [stream_Push.l0]
            rw [mbap_Need_is l (by omega), need_is h6 hb, B_size]
            simp only [Option.bind_some, if_true]
            rw [if_neg (by omega), if_neg (by omega), if_pos (by omega), if_pos (by omega), B_cut, B_cut, Int.toNat_natCast, List.drop_zero,
              mbap_Get_is _ (by rw [List.length_take]; omega), get_whole q1 q2 (by rw [List.length_take, q3]; omega)]
            simp only [Option.bind_some]
            rw [if_pos (by omega), List.take_length]
          · have := ih (l.drop (g2 l 4 + 6)) (acc ++ [frameOf (l.take (g2 l 4 + 6))]) (by rw [List.length_drop]; omega) (by rw [List.length_drop, List.length_append, List.length_singleton]; omega)
            rw [run_step h6 hb hw]
            simpa using this
theorem stream_Push_is (buf : List UInt8) (bad : Bool) (b : List UInt8) (h : buf.length + b.length < 4398046511104) :
    Ev (fun k => stream_Push.f k (B buf) bad (B b)) (B (push buf bad b).2.1, (push buf bad b).2.2, (push buf bad b).1) := by
  unfold push
  cases bad with
  | true => exact Ev.congr (f := fun _ => some (B buf, true, [])) (fun k => by simp [stream_Push.f]) (by simpa using Ev.now _)
  | false =>
    have := push_loop (buf ++ b).length (buf ++ b) [] (Nat.le_refl _) (by rw [List.length_append]; simp; omega)
    refine Ev.congr (fun k => ?_) (by simpa using this)
    unfold stream_Push.f
    rw [B_size, B_size, if_neg (by simp), if_pos (by omega), B_cat]
end Go.Proofs.Ytfapfpkijeaapaa.Base

/- TraceTells: the bytes, the frames, the records and the closes of any outputs (60 of 300 bytes at most) are the document's. No condition beyond the ranges of the arguments' kinds. -/
import Derived.Test.YtfapfpkijeaapaaP0
import Derived.Test.YtfapfpkijeaapaaP11
import Derived.Test.YtfapfpkijeaapaaP12
import Derived.Test.YtfapfpkijeaapaaP13
import Derived.Test.YtfapfpkijeaapaaP15
import Derived.Test.YtfapfpkijeaapaaOpen
import Derived.Test.YtfapfpkijeaapaaTrace27
import Derived.Test.YtfapfpkijeaapaaRefStream
import Derived.Test.YtfapfpkijeaapaaAudit3R
namespace Go.Proofs.Ytfapfpkijeaapaa.Pure
open Go.RowKit Go.Proofs.YtfapfpkijeaapaaW.PrintWords Go.Proofs.YtfapfpkijeaapaaW.PrintLast Go.Proofs.YtfapfpkijeaapaaW.PrintMore Go.Proofs.Ytfapfpkijeaapaa.P Go.Proofs.Ytfapfpkijeaapaa Go.Proofs.Ytfapfpkijeaapaa.Base
set_option linter.unusedVariables false
set_option linter.unusedSimpArgs false

def TraceTellsPure : Prop := ∀ (x0 : List (S40)) (x1 : Int) (x2 : Int), (x0.length ≤ maxLen ∧ ∀ y_ ∈ x0, Open.wf40 y_) → (Lit.int .i64 x1).wf = true → (Lit.int .i64 x2).wf = true → ∃ k, law27_TraceTells.f k x0 x1 x2 = some true
theorem cat_step (p : Ot → Bool) (l : List Ot) (i : Nat) (h : i < l.length) (s : List UInt8) (hs : (l[i]).f2 = B s) : catO ((l.drop i).filter p) = if p l[i] = true then s ++ catO ((l.drop (i + 1)).filter p) else catO ((l.drop (i + 1)).filter p) := by
  rw [List.drop_eq_getElem_cons h, List.filter_cons]
  by_cases c : p l[i] = true
  · rw [if_pos c, if_pos c]
    show (l[i]).f2.data.toList ++ catO _ = _
    rw [hs]
    rfl
  · rw [if_neg c, if_neg c]
theorem f2_len {l : List Ot} (h : Few l) (i : Nat) (hi : i < l.length) (s : List UInt8) (hs : (l[i]).f2 = B s) : s.length ≤ 300 := by
  have := h.2 _ (List.getElem_mem hi)
  rw [hs, B_size] at this
  exact this
theorem rBytes_loop (l : List Ot) (hl : Few l) (a b : Int) (d : Nat) : ∀ (i : Nat) (acc : List UInt8), i + d = l.length → acc.length ≤ 300 * i →
    Ev (fun k => ref27_Bytes.l0 k l a b (B acc) (i : Int)) (B (acc ++ catO ((l.drop i).filter fun o => o.f0 == a && o.f1 == b))) := by
  have h60 := hl.1
  induction d with
  | zero =>
    intro i acc hi ha
    rw [List.drop_eq_nil_of_le (by omega)]
    show Ev _ (B (acc ++ []))
    rw [List.append_nil]
    exact Ev.step (fun k => by simp only [ref27_Bytes.l0]; rw [if_neg (by omega)]) (Ev.now _)
  | succ d ih =>
    intro i acc hi ha
    have h : i < l.length := by omega
    have ew : wrap64 ((i : Int) + 1) = ((i + 1 : Nat) : Int) := by rw [w_id (by omega) (by omega)]; rfl
    obtain ⟨s, hs⟩ := ofB (l[i]).f2
    have h3 := f2_len hl i h s hs
    rw [cat_step _ l i h s hs]
    have e : ∀ k, ref27_Bytes.l0 (k + 1) l a b (B acc) (i : Int) = (if (l[i]).f0 = a then (if (l[i]).f1 = b then (if (B acc).size + (B s).size ≤ 9223372036854775807 then (ref27_Bytes.l0 k l a b (B acc ++ B s) ((i + 1 : Nat) : Int)) else (none)) else (ref27_Bytes.l0 k l a b (B acc) ((i + 1 : Nat) : Int))) else (ref27_Bytes.l0 k l a b (B acc) ((i + 1 : Nat) : Int))) := by
      intro k
      simp only [ref27_Bytes.l0]
      rw [if_pos (by omega), if_pos (by omega), rdO l i h, ew, hs]
    by_cases c1 : (l[i]).f0 = a
    · by_cases c2 : (l[i]).f1 = b
      · rw [if_pos (by simp [c1, c2]), ← List.append_assoc]
        refine Ev.step (fun k => ?_) (ih (i + 1) (acc ++ s) (by omega) (by rw [List.length_append]; omega))
        rw [e, if_pos c1, if_pos c2, B_size, B_size, if_pos (by omega), B_cat]
      · rw [if_neg (by simp [c2])]
        refine Ev.step (fun k => ?_) (ih (i + 1) acc (by omega) (by omega))
        rw [e, if_pos c1, if_neg c2]
    · rw [if_neg (by simp [c1])]
      refine Ev.step (fun k => ?_) (ih (i + 1) acc (by omega) (by omega))
      rw [e, if_neg c1]
theorem ref27_Bytes_is (l : List Ot) (hl : Few l) (a b : Int) : Ev (fun k => ref27_Bytes.f k l a b) (B (catO (l.filter fun o => o.f0 == a && o.f1 == b))) :=
  Ev.congr (fun k => rfl) (rBytes_loop l hl a b l.length 0 [] (by omega) (by simp))
theorem rRec_loop (l : List Ot) (hl : Few l) (d : Nat) : ∀ (i : Nat) (acc : List UInt8), i + d = l.length → acc.length ≤ 300 * i →
    Ev (fun k => ref27_Records.l0 k l (B acc) (i : Int)) (allS ((acc ++ catO ((l.drop i).filter fun o => o.f0 == 5)).length / 20) (acc ++ catO ((l.drop i).filter fun o => o.f0 == 5)) []) := by
  have h60 := hl.1
  induction d with
  | zero =>
    intro i acc hi ha
    rw [List.drop_eq_nil_of_le (by omega)]
    show Ev _ (allS ((acc ++ []).length / 20) (acc ++ []) [])
    rw [List.append_nil]
    refine Ev.step (f := fun k => ((ref23_All.f k (B acc)).bind fun bt322 => (some (bt322.1, bt322.2)))) (fun k => by simp only [ref27_Records.l0]; rw [if_neg (by omega)]) ?_
    exact Ev.bind (ref23_All_is acc (by omega)) (Ev.now _)
  | succ d ih =>
    intro i acc hi ha
    have h : i < l.length := by omega
    have ew : wrap64 ((i : Int) + 1) = ((i + 1 : Nat) : Int) := by rw [w_id (by omega) (by omega)]; rfl
    obtain ⟨s, hs⟩ := ofB (l[i]).f2
    have h3 := f2_len hl i h s hs
    rw [cat_step _ l i h s hs]
    have e : ∀ k, ref27_Records.l0 (k + 1) l (B acc) (i : Int) = (if (l[i]).f0 = 5 then (if (B acc).size + (B s).size ≤ 9223372036854775807 then (ref27_Records.l0 k l (B acc ++ B s) ((i + 1 : Nat) : Int)) else (none)) else (ref27_Records.l0 k l (B acc) ((i + 1 : Nat) : Int))) := by
      intro k
      simp only [ref27_Records.l0]
      rw [if_pos (by omega), if_pos (by omega), rdO l i h, ew, hs]
    by_cases c1 : (l[i]).f0 = 5
    · rw [if_pos (by simp [c1]), ← List.append_assoc]
      refine Ev.step (fun k => ?_) (ih (i + 1) (acc ++ s) (by omega) (by rw [List.length_append]; omega))
      rw [e, if_pos c1, B_size, B_size, if_pos (by omega), B_cat]
    · rw [if_neg (by simp [c1])]
      refine Ev.step (fun k => ?_) (ih (i + 1) acc (by omega) (by omega))
      rw [e, if_neg c1]
theorem ref27_Records_is (l : List Ot) (hl : Few l) : Ev (fun k => ref27_Records.f k l) (recsO l) :=
  Ev.congr (fun k => rfl) (rRec_loop l hl l.length 0 [] (by omega) (by simp))
theorem rClo_loop (l : List Ot) (hl : Few l) (a : Int) (d : Nat) : ∀ (i n : Nat), i + d = l.length → n ≤ i →
    Ev (fun k => ref27_Closes.l0 k l a (n : Int) (i : Int)) ((n + ((l.drop i).filter fun o => o.f0 == 4 || o.f0 == 3 && o.f1 == a).length : Nat) : Int) := by
  have h60 := hl.1
  induction d with
  | zero =>
    intro i n hi hn
    rw [List.drop_eq_nil_of_le (by omega)]
    rw [List.filter_nil, List.length_nil, Nat.add_zero]
    exact Ev.step (fun k => by simp only [ref27_Closes.l0]; rw [if_neg (by omega)]) (Ev.now _)
  | succ d ih =>
    intro i n hi hn
    have h : i < l.length := by omega
    have ew : wrap64 ((i : Int) + 1) = ((i + 1 : Nat) : Int) := by rw [w_id (by omega) (by omega)]; rfl
    have en : wrap64 ((n : Int) + 1) = ((n + 1 : Nat) : Int) := by rw [w_id (by omega) (by omega)]; rfl
    have e : ∀ k, ref27_Closes.l0 (k + 1) l a (n : Int) (i : Int) = (if (l[i]).f0 = 3 then (if (l[i]).f1 = a then (ref27_Closes.l0 k l a ((n + 1 : Nat) : Int) ((i + 1 : Nat) : Int)) else (if (l[i]).f0 = 4 then (ref27_Closes.l0 k l a ((n + 1 : Nat) : Int) ((i + 1 : Nat) : Int)) else (ref27_Closes.l0 k l a (n : Int) ((i + 1 : Nat) : Int)))) else (if (l[i]).f0 = 4 then (ref27_Closes.l0 k l a ((n + 1 : Nat) : Int) ((i + 1 : Nat) : Int)) else (ref27_Closes.l0 k l a (n : Int) ((i + 1 : Nat) : Int)))) := by
      intro k
      simp only [ref27_Closes.l0]
      rw [if_pos (by omega), if_pos (by omega), rdO l i h, ew, en]
    rw [List.drop_eq_getElem_cons h, List.filter_cons]
    have up := ih (i + 1) (n + 1) (by omega) (by omega)
    have st := ih (i + 1) n (by omega) (by omega)
    by_cases c1 : (l[i]).f0 = 3
    · by_cases c2 : (l[i]).f1 = a
      · rw [if_pos (by simp [c1, c2]), List.length_cons, Nat.add_comm _ 1, ← Nat.add_assoc]
        exact Ev.step (fun k => by rw [e, if_pos c1, if_pos c2]) up
      · rw [if_neg (by simp [c1, c2])]
        exact Ev.step (fun k => by rw [e, if_pos c1, if_neg c2, if_neg (by omega)]) st
    · by_cases c3 : (l[i]).f0 = 4
      · rw [if_pos (by simp [c3]), List.length_cons, Nat.add_comm _ 1, ← Nat.add_assoc]
        exact Ev.step (fun k => by rw [e, if_neg c1, if_pos c3]) up
      · rw [if_neg (by simp [c1, c3])]
        exact Ev.step (fun k => by rw [e, if_neg c1, if_neg c3]) st
theorem ref27_Closes_is (l : List Ot) (hl : Few l) (a : Int) : Ev (fun k => ref27_Closes.f k l a) ((l.filter fun o => o.f0 == 4 || o.f0 == 3 && o.f1 == a).length : Int) := by
  have h := rClo_loop l hl a l.length 0 0 (by omega) (by omega)
  rw [List.drop_zero, Nat.zero_add] at h
  exact Ev.congr (fun k => rfl) h
/-- What frames come of bytes. -/
def frO (t : List UInt8) : List Fr × Bool := ((push [] false t).1, ((push [] false t).2.1 == ([] : List UInt8) && !(push [] false t).2.2))
theorem trace_Frames_is (l : List Ot) (hl : Few l) (a b : Int) : Ev (fun k => trace_Frames.f k l a b) (frO (catO (l.filter fun o => o.f0 == a && o.f1 == b))) := by
  have hx := few_cat hl (fun o => o.f0 == a && o.f1 == b)
  unfold trace_Frames.f
  refine Ev.congr (fun k => by rw [trace_Bytes_is hl, Option.bind_some]) ?_
  refine Ev.bind (stream_Push_is [] false _ (Nat.lt_of_le_of_lt (Nat.add_le_add (Nat.le_refl _) hx) (by decide))) (Ev.congr (fun k => ?_) (Ev.now _))
  rw [B_list]
  rfl
theorem ref27_Frames_is (l : List Ot) (hl : Few l) (a b : Int) : Ev (fun k => ref27_Frames.f k l a b) (frO (catO (l.filter fun o => o.f0 == a && o.f1 == b))) := by
  have hx := few_cat hl (fun o => o.f0 == a && o.f1 == b)
  unfold ref27_Frames.f
  refine Ev.bind (ref27_Bytes_is l hl a b) ?_
  refine Ev.bind (ref09_Push_is [] false _ (fun _ => .inl (by decide)) (by decide) (Nat.lt_of_le_of_lt hx (by decide))) (Ev.congr (fun k => ?_) (Ev.now _))
  rw [B_list]
  rfl
theorem TraceTells_pure : TraceTellsPure := by
  intro l a b h0 h1 h2
  suffices h : Ev (fun k => law27_TraceTells.f k l a b) true by
    obtain ⟨k, hk⟩ := h
    exact ⟨k, hk k (Nat.le_refl k)⟩
  rcases few_is l with hf | ⟨hf, h⟩
  · exact Ev.congr (fun k => by unfold law27_TraceTells.f; rfl) (Ev.bind hf (Ev.congr (fun k => by rw [if_neg (by simp)]) (Ev.bind awake27 (Ev.now true))))
  · have hx := few_cat h (fun o => o.f0 == a && o.f1 == b)
    have hr : (frO (catO (l.filter fun o => o.f0 == a && o.f1 == b))).1.length < 4611686018427387904 := by
      have := (run_ends _ (catO (l.filter fun o => o.f0 == a && o.f1 == b)) (Nat.le_refl _)).2.2
      refine Nat.lt_of_le_of_lt (Nat.le_trans (Nat.le_trans (Nat.le_add_right _ _) this) hx) (by decide)
    have hq : (recsO l).1.length ≤ 1099511627776 := by
      have h3 := allS_len ((recO l).length / 20) (recO l) []
      have h4 : (recO l).length ≤ 18000 := few_cat h _
      rw [List.length_nil] at h3
      exact Nat.le_trans h3 (by omega)
    refine Ev.congr (fun k => by unfold law27_TraceTells.f; rfl) (Ev.bind hf (Ev.congr (fun k => by rw [if_pos rfl]) ?_))
    refine Ev.bind (trace_Frames_is l h a b) (Ev.bind (ref27_Frames_is l h a b) (Ev.bind (trace_Records_is h) (Ev.bind (ref27_Records_is l h) (Ev.bind awake27 (Ev.congr (fun k => if_pos rfl) ?_)))))
    refine Ev.congr (fun k => by rw [trace_Bytes_is h, Option.bind_some]) ?_
    refine Ev.bind (ref27_Bytes_is l h a b) (Ev.congr (fun k => if_pos rfl) ?_)
    refine Ev.bind (frames_same _ hr) (Ev.congr (fun k => by rw [if_pos rfl, if_pos (by simp)]) ?_)
    refine Ev.bind (same_is _ hq) (Ev.congr (fun k => by rw [if_pos rfl, if_pos (by simp), trace_Closes_is h, Option.bind_some]) ?_)
    refine Ev.bind (ref27_Closes_is l h b) (Ev.congr (fun k => ?_) (Ev.now true))
    rw [beq_self_eq_true]
end Go.Proofs.Ytfapfpkijeaapaa.Pure

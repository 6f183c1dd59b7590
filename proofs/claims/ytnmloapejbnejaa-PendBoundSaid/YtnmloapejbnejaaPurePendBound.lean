/- PendBound: requests that are added one by one (200 at most, of few Outers), and dropped, are never more than may be, and may be always; without the document's answer. No condition beyond the ranges of the arguments' kinds. -/
import Derived.Test.YtnmloapejbnejaaP4
import Derived.Test.YtnmloapejbnejaaP4
import Derived.Test.YtnmloapejbnejaaP4
import Derived.Test.YtnmloapejbnejaaOpen
import Derived.Test.YtnmloapejbnejaaPend2
namespace Go.Proofs.Ytnmloapejbnejaa.Pure
open Go.RowKit Go.Proofs.YtnmloapejbnejaaW.PrintWords Go.Proofs.YtnmloapejbnejaaW.PrintLast Go.Proofs.YtnmloapejbnejaaW.PrintMore Go.Proofs.Ytnmloapejbnejaa.P Go.Proofs.Ytnmloapejbnejaa Go.Proofs.Ytnmloapejbnejaa.Base
set_option linter.unusedVariables false
set_option linter.unusedSimpArgs false

def PendBoundPure : Prop := ∀ (x0 : List (Int)) (x1 : Int), (x0.length ≤ maxLen ∧ ∀ y_ ∈ x0, (Lit.int .i16 y_).wf = true) → (Lit.int .u8 x1).wf = true → ∃ k, law20_PendBound.f k x0 x1 = some true
theorem awake20 : Ev (fun k => law20_awake.f k) true := Ev.of law20_awake.mono (k := 8) (by decide +kernel)
theorem dist_nil : dist [] := fun i j hi hj => absurd hi (by simp)
/-- Elements of the list without one come from other places. -/
theorem drop_get (l : List Pd) (m : Nat) (hm : m < l.length) (i : Nat) (hi : i < (l.take m ++ l.drop (m + 1)).length) : ∃ (i' : Nat) (hi' : i' < l.length), (l.take m ++ l.drop (m + 1))[i] = l[i'] ∧ i' ≠ m ∧ i' = (if i < m then i else i + 1) := by
  have hlen : (l.take m).length = m := by rw [List.length_take]; omega
  have hl2 : (l.take m ++ l.drop (m + 1)).length = l.length - 1 := by rw [List.length_append, hlen, List.length_drop]; omega
  by_cases c : i < m
  · refine ⟨i, by omega, ?_, by omega, by rw [if_pos c]⟩
    rw [List.getElem_append_left (by omega), List.getElem_take]
  · refine ⟨i + 1, by omega, ?_, by omega, by rw [if_neg c]⟩
    rw [List.getElem_append_right (by omega), List.getElem_drop]
    congr 1
    omega
theorem dist_drop {l : List Pd} (h : dist l) (m : Nat) (hm : m < l.length) : dist (l.take m ++ l.drop (m + 1)) := by
  intro i j hi hj
  obtain ⟨i', hi', e1, _, e2⟩ := drop_get l m hm i hi
  obtain ⟨j', hj', e3, _, e4⟩ := drop_get l m hm j (by omega)
  rw [e1, e3]
  refine h i' j' hi' ?_
  rw [e2, e4]
  split <;> split <;> omega
theorem gone_drop {l : List Pd} (h : dist l) (m : Nat) (hm : m < l.length) : fnd (l.take m ++ l.drop (m + 1)) (l[m]).f0 0 < 0 := by
  refine Int.not_le.1 (fun hx => ?_)
  obtain ⟨q, hq, he⟩ := (fnd_pos _ _ _).1.1 hx
  obtain ⟨i, hi, rfl⟩ := List.mem_iff_getElem.1 hq
  obtain ⟨i', hi', e1, e2, _⟩ := drop_get l m hm i hi
  rw [e1] at he
  rcases Nat.lt_or_gt_of_ne e2 with h1 | h1
  · exact h m i' hm h1 he
  · exact h i' m hi' h1 he.symm
theorem dist_add {l : List Pd} (h : dist l) (p : Pd) (hp : fnd l p.f0 0 < 0) : dist (l ++ [p]) := by
  intro i j hi hj
  rw [List.length_append] at hi
  have h1 : [p].length = 1 := rfl
  rw [List.getElem_append_left (show j < l.length by omega)]
  by_cases c : i < l.length
  · rw [List.getElem_append_left c]; exact h i j c hj
  · rw [List.getElem_append_right (by omega)]
    simp only [show i - l.length = 0 by omega, List.getElem_cons_zero]
    intro he
    exact absurd ((fnd_pos l p.f0 0).1.2 ⟨l[j], List.getElem_mem _, he⟩) (by omega)
theorem rdI (l : List Int) (i : Nat) (h : i < l.length) : rd l (i : Int) = l[i] := by
  unfold rd; rw [Int.toNat_natCast, List.getD_eq_getElem?_getD, List.getElem?_eq_getElem h]; rfl
def OK (l : List Pd) (n : Nat) : Prop := dist l ∧ l.length ≤ n ∧ ∀ p ∈ l, inI p.f0
theorem j1_is (a : List Int) (n : Nat) (hn : n ≤ 8) (i : Nat) (l : List Pd) (h : OK l n) (hnext : Ev (fun k => law20_PendBound.l0 k a l (n : Int) (wrap64 ((i : Int) + 1))) true) : Ev (fun k => law20_PendBound.j1 k a (n : Int) (i : Int) l false) true := by
  obtain ⟨h1, h2, h3⟩ := h
  have hlim : l.length ≤ lim := by unfold lim; omega
  obtain ⟨b, e1, e2⟩ := pend_Right_is l hlim h3
  obtain ⟨c, e3, e4⟩ := ref20_Right_is l hlim
  have hb : b = true := e2.2 h1
  have hc : c = true := e4.2 h1
  subst hb hc
  refine Ev.step (fun k => by simp only [law20_PendBound.j1, Bool.false_eq_true, if_false]; rw [if_neg (by omega)]) ?_
  refine Ev.bind e1 (Ev.congr (fun k => if_pos rfl) ?_)
  refine Ev.bind e3 (Ev.congr (fun k => if_pos rfl) hnext)
theorem bound_loop (a : List Int) (ha : a.length ≤ 200) (hw : ∀ y ∈ a, -32768 ≤ y ∧ y ≤ 32767) (n : Nat) (hn : n ≤ 8) (d : Nat) : ∀ (i : Nat) (l : List Pd), i ≤ a.length → a.length - i = d → OK l n →
    Ev (fun k => law20_PendBound.l0 k a l (n : Int) (i : Int)) true := by
  induction d with
  | zero =>
    intro i l hi hd h
    refine Ev.step (fun k => by simp only [law20_PendBound.l0]; rw [if_neg (by omega)]) ?_
    exact Ev.bind awake20 (Ev.now _)
  | succ d ih =>
    intro i l hi hd h
    have hlt : i < a.length := by omega
    have hv := hw _ (List.getElem_mem hlt)
    obtain ⟨h1, h2, h3⟩ := h
    have hlim : l.length ≤ lim := by unfold lim; omega
    have ev1 : wrap64 a[i] = a[i] := w_id (by omega) (by omega)
    have ev3 : wrap64 ((i : Int) + 1) = ((i + 1 : Nat) : Int) := by rw [w_id (by omega) (by omega)]; omega
    by_cases c : a[i] < 0
    · have ev2 : wrap64 (-a[i]) = -a[i] := w_id (by omega) (by omega)
      refine Ev.step (fun k => by simp only [law20_PendBound.l0]; rw [if_pos (by omega), if_pos (by omega), rdI a i hlt, ev1, if_pos c, ev2, ev3]) ?_
      refine Ev.bind (pend_Find_is l hlim _) ?_
      generalize hx : Int.tmod (-a[i]) 16 = x
      refine Ev.congr (fun k => by rw [pend_Drop_is l hlim, Option.bind_some]) ?_
      by_cases cf : 0 ≤ fnd l x 0
      · obtain ⟨m, hm, e1, e2⟩ := fnd_at l x 0 cf
        rw [Nat.zero_add] at e1
        have ed : dropS l (fnd l x 0) = l.take m ++ l.drop (m + 1) := by
          unfold dropS
          rw [e1, if_neg (by omega), Int.toNat_natCast]
        have hl2 : (l.take m ++ l.drop (m + 1)).length = l.length - 1 := by rw [List.length_append, List.length_take, List.length_drop]; omega
        have hg := gone_drop h1 m hm
        rw [e2] at hg
        have hok : OK (l.take m ++ l.drop (m + 1)) n := ⟨dist_drop h1 m hm, by omega, fun p hp => h3 p (by
          rcases List.mem_append.1 hp with hp | hp
          · exact List.mem_of_mem_take hp
          · exact List.mem_of_mem_drop hp)⟩
        rw [ed]
        have ev4 : wrap64 ((l.length : Int) - 1) = (l.length : Int) - 1 := by clear ev1 ev2 ev3 e1; unfold lim at hlim; exact w_id (by omega) (by omega)
        have f1 : ¬ ((l.take m ++ l.drop (m + 1)).length : Int) = (l.length : Int) := by omega
        have f2 : ((l.take m ++ l.drop (m + 1)).length : Int) = (l.length : Int) - 1 := by omega
        refine Ev.congr (fun k => by rw [if_neg f1, if_neg (Int.not_lt.2 cf), ev4, if_pos f2]) ?_
        refine Ev.bind (pend_Find_is _ (by unfold lim; omega) x) ?_
        exact Ev.congr (fun k => if_neg (Int.not_le.2 hg)) (ih (i + 1) _ (by omega) (by omega) hok)
      · have ed : dropS l (fnd l x 0) = l := by
          unfold dropS
          rw [if_pos (.inl (Int.not_le.1 cf))]
        rw [ed]
        refine Ev.congr (fun k => if_pos rfl) ?_
        refine Ev.bind (pend_Find_is l hlim x) ?_
        exact Ev.congr (fun k => if_neg cf) (ih (i + 1) l (by omega) (by omega) ⟨h1, h2, h3⟩)
    · have htm : inI (Int.tmod a[i] 16) := by
        rw [Int.tmod_eq_emod_of_nonneg (by omega)]
        exact ⟨by omega, by omega⟩
      generalize hx : Int.tmod a[i] 16 = x at htm
      obtain ⟨p, hp⟩ : ∃ p : Pd, p = ⟨x, 0, 0, 0, 0, ⟨0, 0, 0, 0, 0, []⟩, (i : Int)⟩ := ⟨_, rfl⟩
      have hA : Ev (fun k => pend_Add.f k l x 0 0 0 0 0 0 0 0 0 ([] : List Int) (i : Int) (n : Int)) (addS l p (n : Int)) := by
        have := pend_Add_is l hlim p (n : Int)
        rw [hp] at this ⊢
        exact this
      have hp0 : p.f0 = x := by rw [hp]
      refine Ev.step (fun k => by simp only [law20_PendBound.l0]; rw [if_pos (by omega), if_pos (by omega), rdI a i hlt, ev1, if_neg c, hx]) ?_
      refine Ev.bind hA ?_
      have hnx : ∀ m : List Pd, OK m n → Ev (fun k => law20_PendBound.j1 k a (n : Int) (i : Int) m false) true := fun m hm => j1_is a n hn i m hm (by rw [ev3]; exact ih (i + 1) m (by omega) (by omega) hm)
      by_cases cm : (l.length : Int) ≥ (n : Int)
      · have e : addS l p (n : Int) = (l, 11) := by unfold addS; rw [if_pos cm]
        rw [e]
        refine Ev.congr (fun k => ?_) (hnx l ⟨h1, h2, h3⟩)
        rw [decide_eq_true cm]
        exact (if_neg (show ¬ ((((11 : Int) == 11) != true) = true) by decide)).trans (if_neg (show ¬ ((11 : Int) = 0) by decide))
      · by_cases cf : 0 ≤ fnd l p.f0 0
        · have e : addS l p (n : Int) = (l, 1) := by unfold addS; rw [if_neg cm, if_pos cf]
          rw [e]
          refine Ev.congr (fun k => ?_) (hnx l ⟨h1, h2, h3⟩)
          rw [decide_eq_false cm]
          exact (if_neg (show ¬ ((((1 : Int) == 11) != false) = true) by decide)).trans (if_neg (show ¬ ((1 : Int) = 0) by decide))
        · have e : addS l p (n : Int) = (l ++ [p], 0) := by unfold addS; rw [if_neg cm, if_neg cf]
          rw [e]
          have hlen : (l ++ [p]).length = l.length + 1 := by rw [List.length_append]; rfl
          have hok : OK (l ++ [p]) n := ⟨dist_add h1 p (Int.not_le.1 cf), by omega, fun q hq => by
            rcases List.mem_append.1 hq with hq | hq
            · exact h3 q hq
            · rw [List.mem_singleton] at hq; rw [hq, hp0]; exact htm⟩
          refine Ev.congr (fun k => ?_) (hnx _ hok)
          have q1 : (l.length : Int) < ((l ++ [p]).length : Int) := by clear ev1 ev3; omega
          have g1 : wrap64 ((l.length : Int) + 1) = ((l ++ [p]).length : Int) := by rw [hlen]; clear ev1 ev3; exact (w_id (by omega) (by omega)).trans (by omega)
          have g2 : wrap64 (((l ++ [p]).length : Int) - 1) = (l.length : Int) := by rw [hlen]; clear ev1 ev3 g1; exact (w_id (by omega) (by omega)).trans (by omega)
          have g3 : (rd_T32 (l ++ [p]) (l.length : Int)).f0 = x := by
            rw [rdP _ _ (by omega), List.getElem_append_right (Nat.le_refl _)]
            simp only [Nat.sub_self, List.getElem_cons_zero]
            exact hp0
          rw [decide_eq_false cm]
          refine (if_neg (show ¬ ((((0 : Int) == 11) != false) = true) by decide)).trans ((if_pos rfl).trans ((if_pos g1.symm).trans ?_))
          show (if 0 ≤ wrap64 (((l ++ [p]).length : Int) - 1) then (if wrap64 (((l ++ [p]).length : Int) - 1) < ((l ++ [p]).length : Int) then law20_PendBound.j1 k a (n : Int) (i : Int) (l ++ [p]) ((rd_T32 (l ++ [p]) (wrap64 (((l ++ [p]).length : Int) - 1))).f0 != x) else none) else none) = _
          rw [g2, if_pos (Int.natCast_nonneg _), if_pos q1, g3]
          simp
theorem PendBound_pure : PendBoundPure := by
  rintro a most ⟨_, hw⟩ hm
  have hm' := bounds_u8 hm
  have hw' : ∀ y ∈ a, -32768 ≤ y ∧ y ≤ 32767 := fun y hy => bounds_i16 (hw y hy)
  apply Ev.rounds
  unfold law20_PendBound.f
  by_cases h : a.length > 200
  · exact Ev.congr (fun k => if_pos (by omega)) (Ev.bind awake20 (Ev.now _))
  · obtain ⟨q, rfl⟩ := Int.eq_ofNat_of_zero_le hm'.1
    have e : wrap64 (Int.tmod (q : Int) 9) = ((q % 9 : Nat) : Int) := by rw [Int.tmod_eq_emod_of_nonneg (by omega), w_id (by omega) (by omega)]; omega
    refine Ev.congr (f := fun k => law20_PendBound.l0 k a [] ((q % 9 : Nat) : Int) ((0 : Nat) : Int)) (fun k => by rw [if_neg (by omega), e]; rfl) ?_
    exact bound_loop a (by omega) hw' (q % 9) (by omega) a.length 0 [] (by omega) (by omega) ⟨dist_nil, by simp, fun p hp => by simp at hp⟩
end Go.Proofs.Ytnmloapejbnejaa.Pure

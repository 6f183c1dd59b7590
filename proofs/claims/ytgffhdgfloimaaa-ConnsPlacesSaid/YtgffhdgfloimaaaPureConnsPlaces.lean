/- ConnsPlaces: clients that come and go (100 at most) take the first place that is free, and no place twice; without the document's answer. No condition beyond the ranges of the arguments' kinds. -/
import Derived.Test.YtgffhdgfloimaaaP0
import Derived.Test.YtgffhdgfloimaaaP5
import Derived.Test.YtgffhdgfloimaaaOpen
import Derived.Test.YtgffhdgfloimaaaConns
namespace Go.Proofs.Ytgffhdgfloimaaa.Pure
open Go.RowKit Go.Proofs.YtgffhdgfloimaaaW.PrintWords Go.Proofs.YtgffhdgfloimaaaW.PrintLast Go.Proofs.YtgffhdgfloimaaaW.PrintMore Go.Proofs.Ytgffhdgfloimaaa.P Go.Proofs.Ytgffhdgfloimaaa Go.Proofs.Ytgffhdgfloimaaa.Base
set_option linter.unusedVariables false
set_option linter.unusedSimpArgs false

def ConnsPlacesPure : Prop := ∀ (x0 : List (Int)) (x1 : Int), (x0.length ≤ maxLen ∧ ∀ y_ ∈ x0, (Lit.int .i16 y_).wf = true) → (Lit.int .u8 x1).wf = true → ∃ k, law22_ConnsPlaces.f k x0 x1 = some true
theorem getD_set {α : Type} (l : List α) (i j : Nat) (c d : α) : (l.set i c).getD j d = if j = i ∧ i < l.length then c else l.getD j d := by
  rw [List.getD_eq_getElem?_getD, List.getD_eq_getElem?_getD, List.getElem?_set]
  by_cases h : i = j
  · subst h
    by_cases h2 : i < l.length
    · simp [h2]
    · simp [h2]
  · simp [h, Ne.symm h, show ¬ j = i from fun e => h e.symm]
theorem rdI (l : List Int) (i : Nat) (h : i < l.length) : rd l (i : Int) = l[i] := by
  unfold rd; rw [Int.toNat_natCast, List.getD_eq_getElem?_getD, List.getElem?_eq_getElem h]; rfl
theorem rdB (l : List Bool) (i : Nat) : rdOf false l (i : Int) = l.getD i false := by
  unfold rdOf; rw [Int.toNat_natCast]
/-- What a place may be behind m acts. -/
def pl (m : Nat) (c : Cn) : Prop := c.f3 = ⟨⟨#[]⟩, false⟩ ∧ 0 ≤ c.f2 ∧ c.f2 ≤ (m : Int) ∧ (c.f0 = true ∨ c.f1 = 0)
def St (l : List Cn) (o : List Bool) (n m : Nat) : Prop := l.length = n ∧ o.length = 6 ∧ (∀ j : Nat, o.getD j false = (l.getD j z34).f0) ∧ ∀ c ∈ l, pl m c
theorem getD_mem {l : List Cn} {i : Nat} (h : i < l.length) : l.getD i z34 ∈ l := by
  rw [List.getD_eq_getElem?_getD, List.getElem?_eq_getElem h]
  exact List.getElem_mem h
theorem pl_up {m : Nat} {c : Cn} (h : pl m c) : pl (m + 1) c := by
  obtain ⟨h1, h2, h3, h4⟩ := h
  exact ⟨h1, h2, by omega, h4⟩
theorem St_up {l : List Cn} {o : List Bool} {n m : Nat} (h : St l o n m) : St l o n (m + 1) := by
  obtain ⟨h1, h2, h3, h4⟩ := h
  exact ⟨h1, h2, h3, fun c hc => pl_up (h4 c hc)⟩
theorem St_close {l : List Cn} {o : List Bool} {n m : Nat} (h : St l o n m) (hn : n ≤ 6) (k : Nat) (hk : k < 6) : St (cloS l (k : Int)) (o.set k false) n m := by
  obtain ⟨h1, h2, h3, h4⟩ := h
  unfold cloS
  by_cases c : k < n
  · rw [if_neg (by omega), Int.toNat_natCast]
    refine ⟨by rw [List.length_set]; exact h1, by rw [List.length_set]; exact h2, fun j => ?_, fun q hq => ?_⟩
    · rw [getD_set, getD_set, h1, h2]
      by_cases e : j = k
      · rw [if_pos ⟨e, hk⟩, if_pos ⟨e, c⟩]
      · rw [if_neg (fun x => e x.1), if_neg (fun x => e x.1)]; exact h3 j
    · rcases List.mem_or_eq_of_mem_set hq with hq | rfl
      · exact h4 q hq
      · obtain ⟨-, g2, g3, -⟩ := h4 _ (getD_mem (by omega : k < l.length))
        exact ⟨rfl, g2, g3, .inr rfl⟩
  · rw [if_pos (.inr (by omega))]
    refine ⟨h1, by rw [List.length_set]; exact h2, fun j => ?_, h4⟩
    rw [getD_set, h2]
    by_cases e : j = k
    · rw [if_pos ⟨e, hk⟩, e, List.getD_eq_getElem?_getD, List.getElem?_eq_none (by omega)]; rfl
    · rw [if_neg (fun x => e x.1)]; exact h3 j
theorem St_acc {l : List Cn} {o : List Bool} {n m : Nat} (h : St l o n m) (hn : n ≤ 6) (hm : m ≤ 1000) (i : Nat) (hi : i < n) (x : Int) : St (l.set i ⟨true, x, wrap64 ((l.getD i z34).f2 + 1), (l.getD i z34).f3⟩) (o.set i true) n (m + 1) := by
  obtain ⟨h1, h2, h3, h4⟩ := h
  refine ⟨by rw [List.length_set]; exact h1, by rw [List.length_set]; exact h2, fun j => ?_, fun q hq => ?_⟩
  · rw [getD_set, getD_set, h1, h2]
    by_cases e : j = i
    · rw [if_pos ⟨e, by omega⟩, if_pos ⟨e, hi⟩]
    · rw [if_neg (fun x => e x.1), if_neg (fun x => e x.1)]; exact h3 j
  · rcases List.mem_or_eq_of_mem_set hq with hq | rfl
    · exact pl_up (h4 q hq)
    · obtain ⟨g1, g2, g3, -⟩ := h4 _ (getD_mem (by omega : i < l.length))
      refine ⟨g1, ?_, ?_, .inl rfl⟩
      · simp only; rw [w_id (by omega) (by omega)]; omega
      · simp only; rw [w_id (by omega) (by omega)]; omega
theorem pl_ok {m : Nat} {c : Cn} (h : pl m c) : okC c = true := by
  obtain ⟨h1, h2, h3, h4⟩ := h
  refine okC_of.2 ⟨h2, ?_, ?_⟩
  · rcases h4 with h4 | h4
    · exact .inl h4
    · exact .inr ⟨h4, by rw [h1]; exact B_list [], by rw [h1]⟩
  · rw [h1]; show right (B []).toList false = true; rw [B_list]; decide
theorem l2_is (a : List Int) (x1 : Int) (i : Nat) (l : List Cn) (o : List Bool) (n m : Nat) (h : St l o n m) (hnext : Ev (fun k => law22_ConnsPlaces.l0 k a x1 l o (wrap64 ((i : Int) + 1))) true) (d : Nat) : ∀ j : Nat, j + d = 6 → Ev (fun k => law22_ConnsPlaces.l2 k a x1 l o (i : Int) (j : Int)) true := by
  obtain ⟨h1, h2, h3, h4⟩ := h
  induction d with
  | zero =>
    intro j hj
    refine Ev.step (fun k => ?_) hnext
    simp only [law22_ConnsPlaces.l2]
    rw [if_neg (by omega)]
  | succ d ih =>
    intro j hj
    refine Ev.step (fun k => ?_) (ih (j + 1) (by omega))
    simp only [law22_ConnsPlaces.l2]
    rw [if_pos (by omega), conns_Open_is, Option.bind_some, if_pos (by omega), if_pos (by omega), rdB, h3 j, w_id (by omega) (by omega)]
    have e : opeS l (j : Int) = (l.getD j z34).f0 := by
      unfold opeS
      rw [Int.toNat_natCast]
      by_cases c : j < l.length
      · rw [decide_eq_true (by omega : (0 : Int) ≤ j), decide_eq_true (by omega : (j : Int) < l.length)]; rfl
      · rw [List.getD_eq_getElem?_getD, List.getElem?_eq_none (by omega)]
        simp [z34]
    rw [e, if_neg (by simp)]
    rfl
/-- The first place that is free, or the number of places. -/
def fst (l : List Cn) : Nat := match free? l with | some i => i | none => l.length
theorem l1_is (a : List Int) (x1 : Int) (i : Nat) (l : List Cn) (o : List Bool) (n m : Nat) (hx : wrap64 (Int.tmod x1 6) = (n : Int)) (hn : n < 6) (h : St l o n m) (hnext : Ev (fun k => law22_ConnsPlaces.j2 k a x1 l o (i : Int) (fst l : Int)) true) (d : Nat) : ∀ j : Nat, j + d = fst l → Ev (fun k => law22_ConnsPlaces.l1 k a x1 l o (i : Int) (j : Int)) true := by
  obtain ⟨h1, h2, h3, h4⟩ := h
  induction d with
  | zero =>
    intro j hj
    have hj : j = fst l := by omega
    subst hj
    refine Ev.step (fun k => ?_) hnext
    simp only [law22_ConnsPlaces.l1]
    rw [hx, rdB, h3]
    unfold fst
    cases hf : free? l with
    | none => simp only; rw [if_neg (by omega)]
    | some q =>
      obtain ⟨g1, g2, -⟩ := free_lt hf
      simp only
      rw [if_pos (by omega), if_pos (by omega), if_pos (by omega), if_neg (by rw [g2]; simp)]
  | succ d ih =>
    intro j hj
    refine Ev.step (fun k => ?_) (ih (j + 1) (by omega))
    have g : (l.getD j z34).f0 = true ∧ j < n := by
      unfold fst at hj
      cases hf : free? l with
      | none => rw [hf] at hj; simp only at hj; exact ⟨free_none hf j (by omega), by omega⟩
      | some q =>
        rw [hf] at hj
        simp only at hj
        obtain ⟨g1, -, g3⟩ := free_lt hf
        exact ⟨g3 j (by omega), by omega⟩
    simp only [law22_ConnsPlaces.l1]
    rw [hx, rdB, h3, if_pos (by omega), if_pos (by omega), if_pos (by omega), if_pos g.1, w_id (by omega) (by omega)]
    rfl
theorem j2_is (a : List Int) (x1 : Int) (i : Nat) (hi : i < a.length) (ha : (Lit.int .i16 a[i]).wf = true) (l : List Cn) (o : List Bool) (n m : Nat) (hm : m ≤ 1000) (hx : wrap64 (Int.tmod x1 6) = (n : Int)) (hn : n < 6) (h : St l o n m)
    (hnext : ∀ l' o', St l' o' n (m + 1) → Ev (fun k => law22_ConnsPlaces.l0 k a x1 l' o' (wrap64 ((i : Int) + 1))) true) : Ev (fun k => law22_ConnsPlaces.j2 k a x1 l o (i : Int) (fst l : Int)) true := by
  have ha' : -32768 ≤ a[i] ∧ a[i] ≤ 32767 := bounds_i16 ha
  have e : ∀ k, law22_ConnsPlaces.j2 (k + 1) a x1 l o (i : Int) (fst l : Int) = (conns_Accept.f k l a[i]).bind fun bt165 => (if (bt165.2.2 != (decide ((fst l : Int) < (n : Int)))) = true then (law22_ConnsPlaces.j3 k a x1 o (i : Int) bt165.1 bt165.2.1 bt165.2.2 true) else (if bt165.2.2 = true then (if bt165.2.1 = (fst l : Int) then (if 0 ≤ bt165.2.1 then (if bt165.2.1 < (bt165.1.length : Int) then (if ((rd_T34 bt165.1 bt165.2.1).f1) = a[i] then (law22_ConnsPlaces.j3 k a x1 o (i : Int) bt165.1 bt165.2.1 bt165.2.2 ((bt165.1.length : Int) != (n : Int))) else (law22_ConnsPlaces.j3 k a x1 o (i : Int) bt165.1 bt165.2.1 bt165.2.2 true)) else (none)) else (none)) else (law22_ConnsPlaces.j3 k a x1 o (i : Int) bt165.1 bt165.2.1 bt165.2.2 true)) else (law22_ConnsPlaces.j3 k a x1 o (i : Int) bt165.1 bt165.2.1 bt165.2.2 ((bt165.1.length : Int) != (n : Int))))) := by
    intro k
    simp only [law22_ConnsPlaces.j2]
    rw [if_pos (by omega), if_pos (by omega), rdI a i hi, w_id (by omega) (by omega), hx]
  refine Ev.step e ?_
  have hl : l.length ≤ lim := by unfold lim; have := h.1; omega
  refine Ev.bind (conns_Accept_is l hl a[i]) ?_
  unfold accS fst
  cases hf : free? l with
  | none =>
    simp only
    rw [h.1, decide_eq_false (by omega : ¬ ((n : Int) < n))]
    refine Ev.congr (fun k => by rw [if_neg (by simp), if_neg (by simp), bne_self_eq_false]) ?_
    refine Ev.step (fun k => by simp only [law22_ConnsPlaces.j3]; rw [if_neg (by simp), if_neg (by simp)]) ?_
    refine Ev.step (fun k => by simp only [law22_ConnsPlaces.j4]; rfl) ?_
    exact l2_is a x1 i l o n (m + 1) (St_up h) (hnext l o (St_up h)) 6 0 rfl
  | some q =>
    obtain ⟨g1, g2, g3⟩ := free_lt hf
    have h' := St_acc h (by omega) hm q (by have := h.1; omega) a[i]
    simp only
    rw [decide_eq_true (by have := h.1; omega : ((q : Int) < n))]
    have er : (rd_T34 (l.set q ⟨true, a[i], wrap64 ((l.getD q z34).f2 + 1), (l.getD q z34).f3⟩) (q : Int)).f1 = a[i] := by
      unfold rd_T34
      rw [Int.toNat_natCast, getD_set, if_pos ⟨rfl, g1⟩]
    refine Ev.congr (fun k => by
      rw [if_neg (by simp), if_pos trivial, if_pos trivial, if_pos (by omega), List.length_set, if_pos (by omega), h.1, bne_self_eq_false, if_pos er]) ?_
    refine Ev.step (fun k => by simp only [law22_ConnsPlaces.j3]; rw [if_neg (by simp), if_pos trivial, if_pos (by omega), if_pos (by have := h.2.1; have := h.1; omega), Int.toNat_natCast]) ?_
    refine Ev.step (fun k => by simp only [law22_ConnsPlaces.j4]; rfl) ?_
    exact l2_is a x1 i _ _ n (m + 1) h' (hnext _ _ h') 6 0 rfl
theorem l0_is (a : List Int) (ha : a.length ≤ 100 ∧ ∀ y_ ∈ a, (Lit.int .i16 y_).wf = true) (x1 : Int) (n : Nat) (hx : wrap64 (Int.tmod x1 6) = (n : Int)) (hn : n < 6) (d : Nat) : ∀ (i : Nat) (l : List Cn) (o : List Bool), i + d = a.length → St l o n i → Ev (fun k => law22_ConnsPlaces.l0 k a x1 l o (i : Int)) true := by
  induction d with
  | zero =>
    intro i l o hi h
    have hl : l.length ≤ lim := by unfold lim; have := h.1; omega
    refine Ev.step (f := fun k => (law22_awake.f k).bind fun t155 => (if t155 = true then ((conns_Right.f k l).bind fun t156 => (some t156)) else (none))) (fun k => by simp only [law22_ConnsPlaces.l0]; rw [if_neg (by omega)]) ?_
    refine Ev.bind awake_is (Ev.congr (fun k => if_pos rfl) (Ev.bind (conns_Right_is l hl (fun c hc => by rw [(h.2.2.2 c hc).1]; exact Nat.zero_le _)) ?_))
    rw [List.all_eq_true.2 (fun c hc => pl_ok (h.2.2.2 c hc))]
    exact Ev.now _
  | succ d ih =>
    intro i l o hi h
    have h0 : i < a.length := by omega
    have hw := ha.2 a[i] (List.getElem_mem h0)
    have ha' : -32768 ≤ a[i] ∧ a[i] ≤ 32767 := bounds_i16 hw
    have hl : l.length ≤ lim := by unfold lim; have := h.1; omega
    have hs : wrap64 ((i : Int) + 1) = ((i + 1 : Nat) : Int) := by rw [w_id (by omega) (by omega)]; rfl
    by_cases c : a[i] < 0
    · obtain ⟨q, hq⟩ : ∃ q : Nat, Int.tmod (wrap64 (-(wrap64 a[i]))) 6 = (q : Int) ∧ q < 6 := by
        refine ⟨(-a[i]).toNat % 6, ?_, by omega⟩
        rw [w_id (x := a[i]) (by omega) (by omega), w_id (by omega) (by omega), Int.tmod_eq_emod_of_nonneg (by omega)]
        omega
      have h' := St_up (St_close h (by omega) q hq.2)
      refine Ev.step (fun k => ?_) (ih (i + 1) _ _ (by omega) h')
      simp only [law22_ConnsPlaces.l0]
      rw [if_pos (by omega), if_pos (by omega), rdI a i h0, if_pos c, hq.1, conns_Close_is l hl, Option.bind_some, if_pos (by omega), if_pos (by have := h.2.1; omega), Int.toNat_natCast, hs]
    · refine Ev.step (fun k => ?_) (l1_is a x1 i l o n i hx hn h (j2_is a x1 i h0 hw l o n i (by omega) hx hn h (fun l' o' h' => ?_)) (fst l) 0 (by omega))
      · simp only [law22_ConnsPlaces.l0]
        rw [if_pos (by omega), if_pos (by omega), rdI a i h0, if_neg c]
        rfl
      · rw [hs]
        exact ih (i + 1) l' o' (by omega) h'
theorem ConnsPlaces_pure : ConnsPlacesPure := by
  intro x0 x1 h0 h1
  suffices h : Ev (fun k => law22_ConnsPlaces.f k x0 x1) true by
    obtain ⟨k, hk⟩ := h
    exact ⟨k, hk k (Nat.le_refl k)⟩
  by_cases c : (x0.length : Int) > 100
  · exact Ev.congr (fun k => by unfold law22_ConnsPlaces.f; rw [if_pos c]) (Ev.bind awake_is (Ev.now _))
  · have hw : 0 ≤ x1 ∧ x1 ≤ 255 := bounds_u8 h1
    have hx : wrap64 (Int.tmod x1 6) = ((x1.toNat % 6 : Nat) : Int) := by
      rw [Int.tmod_eq_emod_of_nonneg (by omega), w_id (by omega) (by omega)]
      omega
    refine Ev.congr (fun k => by unfold law22_ConnsPlaces.f; rw [if_neg c, hx, conns_New_is _ (by unfold lim; omega), Option.bind_some, if_pos (by decide)]; rfl) (l0_is x0 ⟨by omega, h0.2⟩ x1 _ hx (by omega) x0.length 0 (List.replicate (x1.toNat % 6) z34) (List.replicate 6 false) (by omega) ?_)
    refine ⟨List.length_replicate .., rfl, fun j => ?_, fun q hq => ?_⟩
    · rw [List.getD_eq_getElem?_getD, List.getD_eq_getElem?_getD, List.getElem?_replicate, List.getElem?_replicate]
      split <;> split <;> rfl
    · rw [List.eq_of_mem_replicate hq]
      exact ⟨rfl, by decide, by decide, .inr rfl⟩
end Go.Proofs.Ytgffhdgfloimaaa.Pure

/- What pend's Drop and Outers, and the reference's Drop, Outers and Same, compute: plain Lean. -/
import Derived.Test.YtnmloapejbnejaaP0
import Derived.Test.YtnmloapejbnejaaP2
import Derived.Test.YtnmloapejbnejaaP4
import Derived.Test.YtnmloapejbnejaaP5
import Derived.Test.YtnmloapejbnejaaP6
import Derived.Test.YtnmloapejbnejaaP7
import Derived.Test.YtnmloapejbnejaaPend
namespace Go.Proofs.Ytnmloapejbnejaa.Base
open Go.RowKit Go.Proofs.YtnmloapejbnejaaW.PrintWords Go.Proofs.YtnmloapejbnejaaW.PrintLast Go.Proofs.YtnmloapejbnejaaW.PrintMore Go.Proofs.Ytnmloapejbnejaa.P Go.Proofs.Ytnmloapejbnejaa
set_option linter.unusedVariables false
set_option linter.unusedSimpArgs false

/-- One goes. -/
def dropS (l : List Pd) (k : Int) : List Pd := if k < 0 ∨ k ≥ (l.length : Int) then l else l.take k.toNat ++ l.drop (k.toNat + 1)
theorem pend_Drop_is (l : List Pd) (hl : l.length ≤ lim) (k : Int) : pend_Drop.f l k = some (dropS l k) := by
  unfold lim at hl
  unfold pend_Drop.f dropS
  by_cases c : k < 0
  · rw [if_pos c, if_pos (.inl c)]
  · rw [if_neg c]
    by_cases c2 : k ≥ (l.length : Int)
    · rw [if_pos c2, if_pos (.inr c2)]
    · rw [if_neg c2, if_neg (show ¬ (k < 0 ∨ k ≥ (l.length : Int)) from fun h => h.elim c c2), if_pos (by omega), if_pos (by omega), Option.bind_some, w_id (by omega) (by omega), if_pos (by omega), if_pos (by omega), Option.bind_some, show (k + 1).toNat = k.toNat + 1 by omega]
      rw [if_pos (by rw [List.length_take, List.length_drop]; omega)]
/-- What the reference's loop makes of the rest. -/
def restS (l : List Pd) (k : Int) (i : Nat) : List Pd := if k < (i : Int) ∨ k ≥ (l.length : Int) then l.drop i else (l.drop i).take (k.toNat - i) ++ l.drop (k.toNat + 1)
theorem drop_loop (l : List Pd) (hl : l.length ≤ lim) (x : Int) (d : Nat) : ∀ (i : Nat) (a : List Pd), i ≤ l.length → l.length - i = d → a.length ≤ i → Ev (fun k => ref20_Drop.l0 k l x a (i : Int)) (a ++ restS l x i) := by
  have hl' := hl
  unfold lim at hl'
  induction d with
  | zero =>
    intro i a hi hd ha
    have e : restS l x i = [] := by
      unfold restS
      split
      · rw [List.drop_eq_nil_of_le (by omega)]
      · rename_i h; exact absurd h (by omega)
    rw [e, List.append_nil]
    exact Ev.step (f := fun _ => some a) (fun k => by simp only [ref20_Drop.l0]; rw [if_neg (by omega)]) (Ev.now _)
  | succ d ih =>
    intro i a hi hd ha
    have hlt : i < l.length := by omega
    have edrop : l.drop i = l[i] :: l.drop (i + 1) := List.drop_eq_getElem_cons hlt
    by_cases e : (i : Int) = x
    · have h := ih (i + 1) a (by omega) (by omega) (by omega)
      have er : restS l x i = restS l x (i + 1) := by
        unfold restS
        rw [if_neg (show ¬ (x < (i : Int) ∨ x ≥ (l.length : Int)) by omega), if_pos (show x < ((i + 1 : Nat) : Int) ∨ x ≥ (l.length : Int) by omega), show x.toNat = i by omega, Nat.sub_self, List.take_zero, List.nil_append]
      rw [er]
      refine Ev.step (fun k => ?_) h
      simp only [ref20_Drop.l0]
      rw [if_pos (by omega), if_pos e, w_id (by omega) (by omega)]
      rfl
    · have h := ih (i + 1) (a ++ [l[i]]) (by omega) (by omega) (by rw [List.length_append]; show a.length + 1 ≤ _; omega)
      have er : restS l x i = [l[i]] ++ restS l x (i + 1) := by
        unfold restS
        by_cases c : x < (i : Int) ∨ x ≥ (l.length : Int)
        · rw [if_pos c, if_pos (show x < ((i + 1 : Nat) : Int) ∨ x ≥ (l.length : Int) by omega), edrop]; rfl
        · rw [if_neg c, if_neg (show ¬ (x < ((i + 1 : Nat) : Int) ∨ x ≥ (l.length : Int)) by omega), edrop]
          obtain ⟨q, hq⟩ : ∃ q, x.toNat - i = q + 1 := ⟨x.toNat - i - 1, by omega⟩
          rw [hq, List.take_succ_cons, show x.toNat - (i + 1) = q by omega]
          rfl
      rw [er, ← List.append_assoc]
      refine Ev.step (fun k => ?_) h
      simp only [ref20_Drop.l0]
      rw [if_pos (by omega), if_neg e, if_pos (by omega), if_pos (by omega), rdP l i hlt, w_id (by omega) (by omega)]
      rfl
theorem ref20_Drop_is (l : List Pd) (hl : l.length ≤ lim) (k : Int) : Ev (fun n => ref20_Drop.f n l k) (dropS l k) := by
  have h := drop_loop l hl k l.length 0 [] (by omega) (by omega) (by simp)
  have e : restS l k 0 = dropS l k := by
    unfold restS dropS
    by_cases c : k < 0 ∨ k ≥ (l.length : Int)
    · rw [if_pos c, if_pos (by omega)]; rfl
    · rw [if_neg c, if_neg (by omega)]; rfl
  rw [e, List.nil_append] at h
  exact Ev.congr (fun k => rfl) h
theorem dropS_len (l : List Pd) (k : Int) : (dropS l k).length ≤ l.length := by
  unfold dropS
  split
  · exact Nat.le_refl _
  · rw [List.length_append, List.length_take, List.length_drop]; omega
theorem dropS_mem {l : List Pd} {k : Int} {p : Pd} (h : p ∈ dropS l k) : p ∈ l := by
  unfold dropS at h
  split at h
  · exact h
  · rcases List.mem_append.1 h with h | h
    · exact List.mem_of_mem_take h
    · exact List.mem_of_mem_drop h
theorem outers_loop (l : List Pd) (hl : l.length ≤ lim) (d : Nat) : ∀ i : Nat, i ≤ l.length → l.length - i = d →
    Ev (fun k => pend_Outers.l0 k ((l.take i).map (·.f0) ++ List.replicate (l.length - i) 0) l (l.length : Int) (i : Int)) (l.map (·.f0)) ∧ Ev (fun k => ref20_Outers.l0 k l ((l.take i).map (·.f0)) (i : Int)) (l.map (·.f0)) := by
  unfold lim at hl
  induction d with
  | zero =>
    intro i hi hd
    have e : (l.take i) = l := List.take_of_length_le (by omega)
    constructor
    · refine Ev.step (f := fun _ => some (l.map (·.f0))) (fun k => ?_) (Ev.now _)
      simp only [pend_Outers.l0]
      rw [if_neg (by omega), hd, List.replicate_zero, List.append_nil, e]
    · refine Ev.step (f := fun _ => some (l.map (·.f0))) (fun k => ?_) (Ev.now _)
      simp only [ref20_Outers.l0]
      rw [if_neg (by omega), e]
  | succ d ih =>
    intro i hi hd
    have hlt : i < l.length := by omega
    obtain ⟨h1, h2⟩ := ih (i + 1) (by omega) (by omega)
    have et : l.take (i + 1) = l.take i ++ [l[i]] := by rw [List.take_add_one, List.getElem?_eq_getElem hlt]; rfl
    rw [et, List.map_append] at h1 h2
    have elen : ((l.take i).map (·.f0)).length = i := by rw [List.length_map, List.length_take]; omega
    constructor
    · refine Ev.step (fun k => ?_) h1
      simp only [pend_Outers.l0]
      rw [if_pos (by omega), if_pos (by omega), if_pos (by omega), if_pos (by rw [List.length_append, elen, List.length_replicate]; omega), rdP l i hlt, Int.toNat_natCast, w_id (by omega) (by omega)]
      rw [List.set_append_right _ _ (by omega), elen, Nat.sub_self]
      obtain ⟨m, hm⟩ : ∃ m, l.length - i = m + 1 := ⟨l.length - i - 1, by omega⟩
      rw [hm, List.replicate_succ, List.set_cons_zero, show l.length - (i + 1) = m by omega, List.append_assoc]
      rfl
    · refine Ev.step (fun k => ?_) h2
      simp only [ref20_Outers.l0]
      rw [if_pos (by omega), if_pos (by omega), if_pos (by omega), rdP l i hlt, w_id (by omega) (by omega)]
      rfl
theorem pend_Outers_is (l : List Pd) (hl : l.length ≤ lim) : Ev (fun k => pend_Outers.f k l) (l.map (·.f0)) := by
  have h := (outers_loop l hl l.length 0 (by omega) (by omega)).1
  unfold lim at hl
  refine Ev.congr (fun k => ?_) h
  unfold pend_Outers.f
  rw [if_pos (by omega), Int.toNat_natCast, if_pos (by omega)]
  rfl
theorem ref20_Outers_is (l : List Pd) (hl : l.length ≤ lim) : Ev (fun k => ref20_Outers.f k l) (l.map (·.f0)) :=
  Ev.congr (fun k => rfl) (outers_loop l hl l.length 0 (by omega) (by omega)).2
theorem ints_loop (a : List Int) (hm : a.length ≤ lim) (d : Nat) : ∀ i : Nat, i ≤ a.length → a.length - i = d → Ev (fun k => ref01_Ints.l0 k a a (i : Int)) true := by
  unfold lim at hm
  induction d with
  | zero => intro i hi hd; exact Ev.step (f := fun _ => some true) (fun k => by simp only [ref01_Ints.l0]; rw [if_neg (by omega)]) (Ev.now _)
  | succ d ih =>
    intro i hi hd
    refine Ev.step (f := fun k => ref01_Ints.l0 k a a ((i + 1 : Nat) : Int)) (fun k => ?_) (ih _ (by omega) (by omega))
    simp only [ref01_Ints.l0]
    rw [if_pos (by omega), if_pos (by omega), if_pos (by omega), if_pos trivial, w_id (by omega) (by omega)]
    rfl
theorem ints_is (a : List Int) (hm : a.length ≤ lim) : Ev (fun k => ref01_Ints.f k a a) true :=
  Ev.congr (fun k => by unfold ref01_Ints.f; rw [if_pos rfl]; rfl) (ints_loop a hm a.length 0 (by omega) (by omega))
theorem one_is (p : Pd) (h : p.f5.f5.length ≤ lim) : Ev (fun k => ref20_One.f k p.f0 p.f1 p.f2 p.f3 p.f4 p.f5.f0 p.f5.f1 p.f5.f2 p.f5.f3 p.f5.f4 p.f5.f5 p.f6 p.f0 p.f1 p.f2 p.f3 p.f4 p.f5.f0 p.f5.f1 p.f5.f2 p.f5.f3 p.f5.f4 p.f5.f5 p.f6) true := by
  have hs : Ev (fun k => ref06_Same.f k p.f5.f0 p.f5.f1 p.f5.f2 p.f5.f3 p.f5.f4 p.f5.f5 p.f5.f0 p.f5.f1 p.f5.f2 p.f5.f3 p.f5.f4 p.f5.f5) true :=
    Ev.congr (fun k => by unfold ref06_Same.f; rw [if_pos rfl, if_pos rfl, if_pos rfl, if_pos rfl, if_pos rfl]) (Ev.bind (ints_is _ h) (Ev.now _))
  refine Ev.congr (fun k => by unfold ref20_One.f; rw [if_pos rfl, if_pos rfl, if_pos rfl, if_pos rfl, if_pos rfl]) (Ev.bind hs ?_)
  exact Ev.congr (fun k => by rw [if_pos rfl, beq_self_eq_true]) (Ev.now _)
theorem psame_loop (l : List Pd) (hl : l.length ≤ lim) (hv : ∀ p ∈ l, p.f5.f5.length ≤ lim) (d : Nat) : ∀ i : Nat, i ≤ l.length → l.length - i = d → Ev (fun k => ref20_Same.l0 k l l (i : Int)) true := by
  unfold lim at hl
  induction d with
  | zero => intro i hi hd; exact Ev.step (f := fun _ => some true) (fun k => by simp only [ref20_Same.l0]; rw [if_neg (by omega)]) (Ev.now _)
  | succ d ih =>
    intro i hi hd
    have hlt : i < l.length := by omega
    refine Ev.step (fun k => by simp only [ref20_Same.l0]; rw [if_pos (by omega), if_pos (by omega), if_pos (by omega), rdP l i hlt, w_id (by omega) (by omega)]) ?_
    refine Ev.bind (one_is l[i] (hv _ (List.getElem_mem hlt))) ?_
    exact Ev.congr (fun k => by rw [if_pos rfl]; rfl) (ih (i + 1) (by omega) (by omega))
theorem psame_is (l : List Pd) (hl : l.length ≤ lim) (hv : ∀ p ∈ l, p.f5.f5.length ≤ lim) : Ev (fun k => ref20_Same.f k l l) true :=
  Ev.congr (fun k => by unfold ref20_Same.f; rw [if_pos rfl]; rfl) (psame_loop l hl hv l.length 0 (by omega) (by omega))
end Go.Proofs.Ytnmloapejbnejaa.Base

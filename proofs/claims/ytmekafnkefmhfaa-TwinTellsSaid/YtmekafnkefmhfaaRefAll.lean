/- What the references PutAll, GetAll and Ints compute. -/
import Derived.Test.YtmekafnkefmhfaaP0
import Derived.Test.YtmekafnkefmhfaaP1
import Derived.Test.YtmekafnkefmhfaaP2
import Derived.Test.YtmekafnkefmhfaaTwinPut
import Derived.Test.YtmekafnkefmhfaaTwinGetAll
import Derived.Test.YtmekafnkefmhfaaRefTwo
namespace Go.Proofs.Ytmekafnkefmhfaa.Base
open Go.RowKit Go.Proofs.YtmekafnkefmhfaaW.PrintWords Go.Proofs.YtmekafnkefmhfaaW.PrintLast Go.Proofs.YtmekafnkefmhfaaW.PrintMore Go.Proofs.Ytmekafnkefmhfaa.P
set_option linter.unusedVariables false
set_option linter.unusedSimpArgs false

theorem refPut_is (a : Int) : ref01_Put.f a = some (if okN a then (B (twoB a.toNat), true) else (B [], false)) := ref01_Put_is a
theorem refPutAll_loop (l : List Int) (hl : l.length ≤ 1099511627776) (d : Nat) : ∀ (i : Nat) (m : List UInt8), i ≤ l.length → l.length - i = d → m.length = 2 * i →
    Ev (fun k => ref01_PutAll.l0 k l (B m) (i : Int)) (if allN (l.drop i) then (B (m ++ putAll (l.drop i)), true) else (B [], false)) := by
  induction d with
  | zero =>
    intro i m hi hd hm
    refine Ev.step (f := fun _ => some (B m, true)) (fun k => ?_) ?_
    · simp only [ref01_PutAll.l0]; rw [if_neg (by omega)]
    · rw [List.drop_eq_nil_of_le (by omega), if_pos (show allN [] from fun a ha => by simp at ha)]
      simpa [putAll] using Ev.now _
  | succ d ih =>
    intro i m hi hd hm
    have hlt : i < l.length := by omega
    have edrop : l.drop i = l[i] :: l.drop (i + 1) := List.drop_eq_getElem_cons hlt
    rw [edrop]
    by_cases hok : okN l[i]
    · refine Ev.step (f := fun k => ref01_PutAll.l0 k l (B (m ++ twoB (l[i]).toNat)) ((i + 1 : Nat) : Int)) (fun k => ?_) ?_
      · simp only [ref01_PutAll.l0]
        rw [if_pos (by omega), if_pos (by omega), rd_get l i hlt, refPut_is, if_pos hok, Option.bind_some, if_pos rfl]
        rw [B_size, B_size, if_pos (by show m.length + 2 ≤ _; omega), B_cat, w_id (by omega) (by omega)]
        rfl
      · have := ih (i + 1) (m ++ twoB (l[i]).toNat) (by omega) (by omega) (by rw [List.length_append, hm]; show 2 * i + 2 = _; omega)
        have e : allN (l[i] :: l.drop (i + 1)) ↔ allN (l.drop (i + 1)) := ⟨fun h a ha => h a (List.mem_cons_of_mem _ ha), fun h a ha => by rcases List.mem_cons.1 ha with rfl | ha; exact hok; exact h a ha⟩
        simp only [e, putAll]
        rw [List.append_assoc] at this
        exact this
    · refine Ev.step (f := fun _ => some (B [], false)) (fun k => ?_) ?_
      · simp only [ref01_PutAll.l0]
        rw [if_pos (by omega), if_pos (by omega), rd_get l i hlt, refPut_is, if_neg hok, Option.bind_some, if_neg (by simp)]
        rfl
      · rw [if_neg (fun h => hok (h _ List.mem_cons_self))]
        exact Ev.now _
theorem ref01_PutAll_is (l : List Int) (hl : l.length ≤ 1099511627776) : Ev (fun k => ref01_PutAll.f k l) (if allN l then (B (putAll l), true) else (B [], false)) := by
  have := refPutAll_loop l hl l.length 0 [] (by omega) (by omega) rfl
  simp only [List.drop_zero, List.nil_append] at this
  exact Ev.congr (fun k => rfl) this
theorem refGetAll_loop (s : List UInt8) (hs : s.length ≤ 1099511627776) (he : s.length % 2 = 0) (d : Nat) : ∀ i : Nat, i ≤ s.length / 2 → s.length / 2 - i = d →
    Ev (fun k => ref01_GetAll.l0 k (B s) ((getAll s).take i) ((2 * i : Nat) : Int)) (getAll s, true) := by
  have hlen := getAll_len s.length s (Nat.le_refl _)
  induction d with
  | zero =>
    intro i hi hd
    refine Ev.step (f := fun _ => some (getAll s, true)) (fun k => ?_) (Ev.now _)
    simp only [ref01_GetAll.l0]
    rw [B_size, if_neg (by omega), List.take_of_length_le (by omega)]
  | succ d ih =>
    intro i hi hd
    have hg := getAll_get i s (by omega)
    refine Ev.step (f := fun k => ref01_GetAll.l0 k (B s) ((getAll s).take (i + 1)) ((2 * (i + 1) : Nat) : Int)) (fun k => ?_) (ih (i + 1) (by omega) (by omega))
    simp only [ref01_GetAll.l0]
    have et : tGet s ((2 * i : Nat) : Int) = (((g2 s (2 * i) : Nat) : Int), true) := by unfold tGet; rw [if_pos (by omega), Int.toNat_natCast]
    have ei : (getAll s).take (i + 1) = (getAll s).take i ++ [((g2 s (2 * i) : Nat) : Int)] := by
      rw [List.take_add_one, hg]; rfl
    rw [B_size, if_pos (by omega), ref01_At_is s (by omega), et, Option.bind_some, if_pos (by rw [List.length_take]; omega), ei, w_id (by omega) (by omega)]
    rfl
theorem ref01_GetAll_is (s : List UInt8) (hs : s.length ≤ 1099511627776) : Ev (fun k => ref01_GetAll.f k (B s)) (if s.length % 2 = 0 then (getAll s, true) else ([], false)) := by
  by_cases h : s.length % 2 = 0
  · rw [if_pos h]
    refine Ev.congr (fun k => ?_) (refGetAll_loop s hs h (s.length / 2) 0 (by omega) (by omega))
    unfold ref01_GetAll.f
    rw [B_size, if_pos (by omega)]
    rfl
  · rw [if_neg h]
    refine Ev.congr (fun k => ?_) (Ev.now _)
    unfold ref01_GetAll.f
    rw [B_size, if_neg (by omega)]
theorem ints_loop (a b : List Int) (hl : a.length = b.length) (hm : a.length ≤ 1099511627776) (d : Nat) : ∀ i : Nat, i ≤ a.length → a.length - i = d → Ev (fun k => ref01_Ints.l0 k a b (i : Int)) (decide (a.drop i = b.drop i)) := by
  induction d with
  | zero =>
    intro i hi hd
    rw [List.drop_eq_nil_of_le (by omega), List.drop_eq_nil_of_le (by omega)]
    exact Ev.step (f := fun _ => some true) (fun k => by simp only [ref01_Ints.l0]; rw [if_neg (by omega)]) (by simpa using Ev.now _)
  | succ d ih =>
    intro i hi hd
    have h1 : i < a.length := by omega
    have h2 : i < b.length := by omega
    have e1 : a.drop i = a[i] :: a.drop (i + 1) := List.drop_eq_getElem_cons h1
    have e2 : b.drop i = b[i] :: b.drop (i + 1) := List.drop_eq_getElem_cons h2
    by_cases he : a[i] = b[i]
    · refine Ev.step (f := fun k => ref01_Ints.l0 k a b ((i + 1 : Nat) : Int)) (fun k => ?_) ?_
      · simp only [ref01_Ints.l0]
        rw [if_pos (by omega), if_pos (by omega), if_pos (by omega), rd_get a i h1, rd_get b i h2, if_pos he, w_id (by omega) (by omega)]
        rfl
      · have := ih (i + 1) (by omega) (by omega)
        have e3 : (a.drop i = b.drop i) ↔ (a.drop (i + 1) = b.drop (i + 1)) := by rw [e1, e2, he]; exact ⟨fun h => (List.cons.inj h).2, fun h => by rw [h]⟩
        rw [decide_eq_decide.2 e3]
        exact this
    · refine Ev.step (f := fun _ => some false) (fun k => ?_) ?_
      · simp only [ref01_Ints.l0]
        rw [if_pos (by omega), if_pos (by omega), if_pos (by omega), rd_get a i h1, rd_get b i h2, if_neg he]
      · have e3 : ¬ (a.drop i = b.drop i) := by rw [e1, e2]; exact fun h => he (List.cons.inj h).1
        rw [decide_eq_false e3]
        exact Ev.now _
theorem ref01_Ints_is (a b : List Int) (hm : a.length ≤ 1099511627776) : Ev (fun k => ref01_Ints.f k a b) (decide (a = b)) := by
  by_cases hl : a.length = b.length
  · have := ints_loop a b hl hm a.length 0 (by omega) (by omega)
    refine Ev.congr (fun k => ?_) (by simpa using this)
    unfold ref01_Ints.f
    rw [if_pos (by omega)]
  · have : a ≠ b := fun h => hl (by rw [h])
    refine Ev.congr (f := fun _ => some false) (fun k => ?_) (by simpa [this] using Ev.now _)
    unfold ref01_Ints.f
    rw [if_neg (by omega)]
end Go.Proofs.Ytmekafnkefmhfaa.Base

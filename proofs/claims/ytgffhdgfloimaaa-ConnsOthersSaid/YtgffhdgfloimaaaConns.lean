/- What conns' functions compute: plain Lean. -/
import Derived.Test.YtgffhdgfloimaaaP0
import Derived.Test.YtgffhdgfloimaaaP3
import Derived.Test.YtgffhdgfloimaaaP4
import Derived.Test.YtgffhdgfloimaaaP6
import Derived.Test.YtgffhdgfloimaaaP7
import Derived.Test.YtgffhdgfloimaaaOpen
import Derived.Test.YtgffhdgfloimaaaRightS
import Derived.Test.YtgffhdgfloimaaaHandConns
namespace Go.Proofs.Ytgffhdgfloimaaa.Base
open Go.RowKit Go.Proofs.YtgffhdgfloimaaaW.PrintWords Go.Proofs.YtgffhdgfloimaaaW.PrintLast Go.Proofs.YtgffhdgfloimaaaW.PrintMore Go.Proofs.Ytgffhdgfloimaaa.P Go.Proofs.Ytgffhdgfloimaaa
set_option linter.unusedVariables false
set_option linter.unusedSimpArgs false

abbrev Cn := S34
theorem rdC (l : List Cn) (i : Nat) (h : i < l.length) : rd_T34 l (i : Int) = l[i] := by
  unfold rd_T34
  rw [Int.toNat_natCast, List.getD_eq_getElem?_getD, List.getElem?_eq_getElem h]
  rfl
/-- The first place that is free, from i on. -/
def freeAt (l : List Cn) (i : Nat) : Int := match (l.drop i).findIdx? (fun c => !c.f0) with
  | some j => ((i + j : Nat) : Int)
  | none => -1
theorem free_step {l : List Cn} {i : Nat} (h : i < l.length) : freeAt l i = if l[i].f0 = false then (i : Int) else freeAt l (i + 1) := by
  unfold freeAt
  rw [List.drop_eq_getElem_cons h, List.findIdx?_cons]
  cases hc : l[i].f0 with
  | false => simp
  | true =>
    simp only [Bool.not_true, Bool.false_eq_true, if_false, Bool.true_eq_false]
    cases hd : (l.drop (i + 1)).findIdx? (fun c => !c.f0) with
    | none => rfl
    | some j => simp; omega
theorem idx_loop (l : List Cn) (hl : l.length ≤ 4611686018427387904) (d : Nat) : ∀ i : Nat, i ≤ l.length → l.length - i = d → Ev (fun k => slices_IndexFunc__Accept_1.l0 k l (l.length : Int) (i : Int)) (freeAt l i) := by
  induction d with
  | zero =>
    intro i hi hd
    refine Ev.step (f := fun _ => some (-1)) (fun k => by simp only [slices_IndexFunc__Accept_1.l0]; rw [if_neg (by omega)]) ?_
    have : freeAt l i = -1 := by unfold freeAt; rw [List.drop_eq_nil_of_le (by omega)]; rfl
    rw [this]
    exact Ev.now _
  | succ d ih =>
    intro i hi hd
    have h : i < l.length := by omega
    rw [free_step h]
    by_cases c : l[i].f0 = false
    · rw [if_pos c]
      refine Ev.step (f := fun _ => some (i : Int)) (fun k => ?_) (Ev.now _)
      simp only [slices_IndexFunc__Accept_1.l0]
      rw [if_pos (by omega), if_pos (by omega), if_pos (by omega), rdC l i h]
      unfold conns_Accept_1.f
      rw [c]
      rfl
    · rw [if_neg c]
      refine Ev.step (fun k => ?_) (ih (i + 1) (by omega) (by omega))
      simp only [slices_IndexFunc__Accept_1.l0]
      rw [if_pos (by omega), if_pos (by omega), if_pos (by omega), rdC l i h]
      unfold conns_Accept_1.f
      rw [show l[i].f0 = true by simpa using c, w_id (by omega) (by omega)]
      rfl
/-- The free place, if any. -/
def free? (l : List Cn) : Option Nat := l.findIdx? (fun c => !c.f0)
/-- A client comes. -/
def accS (l : List Cn) (x : Int) : List Cn × Int × Bool := match free? l with
  | none => (l, 0, false)
  | some i => (l.set i ⟨true, x, wrap64 ((l.getD i z34).f2 + 1), (l.getD i z34).f3⟩, (i : Int), true)
def lim : Nat := 1000000
theorem free_lt {l : List Cn} {i : Nat} (h : free? l = some i) : i < l.length ∧ (l.getD i z34).f0 = false ∧ ∀ j < i, (l.getD j z34).f0 = true := by
  unfold free? at h
  obtain ⟨h1, h2, h3⟩ := List.findIdx?_eq_some_iff_getElem.1 h
  refine ⟨h1, ?_, fun j hj => ?_⟩
  · rw [List.getD_eq_getElem?_getD, List.getElem?_eq_getElem h1]
    simpa using h2
  · have := h3 j hj
    rw [List.getD_eq_getElem?_getD, List.getElem?_eq_getElem (by omega)]
    simpa using this
theorem free_none {l : List Cn} (h : free? l = none) : ∀ j < l.length, (l.getD j z34).f0 = true := by
  unfold free? at h
  intro j hj
  rw [List.getD_eq_getElem?_getD, List.getElem?_eq_getElem hj]
  have := List.findIdx?_eq_none_iff.1 h (l[j]) (List.getElem_mem hj)
  simpa using this
theorem conns_Accept_is (l : List Cn) (hl : l.length ≤ lim) (x : Int) : Ev (fun k => conns_Accept.f k l x) (accS l x) := by
  unfold lim at hl
  have h := idx_loop l (by omega) l.length 0 (by omega) (by omega)
  unfold conns_Accept.f
  refine Ev.bind (a := freeAt l 0) (Ev.congr (fun k => rfl) h) ?_
  have e : freeAt l 0 = match free? l with | some i => (i : Int) | none => -1 := by
    unfold freeAt free?
    rw [List.drop_zero]
    cases l.findIdx? (fun c => !c.f0) with
    | none => rfl
    | some j => simp
  rw [e]
  unfold accS
  cases hf : free? l with
  | none => exact Ev.congr (fun k => by rw [if_pos (by decide)]) (Ev.now _)
  | some i =>
    obtain ⟨h1, -, -⟩ := free_lt hf
    refine Ev.congr (fun k => ?_) (Ev.now _)
    simp only
    rw [if_neg (by omega)]
    unfold conns_change__Accept_2.f
    rw [if_pos (by omega), if_pos (by omega), if_pos (by omega)]
    simp [rd_T34]
/-- One goes. -/
def cloS (l : List Cn) (k : Int) : List Cn := if k < 0 ∨ k ≥ (l.length : Int) then l else l.set k.toNat ⟨false, 0, (l.getD k.toNat z34).f2, ⟨⟨#[]⟩, false⟩⟩
theorem conns_Close_is (l : List Cn) (hl : l.length ≤ lim) (k : Int) : conns_Close.f l k = some (cloS l k) := by
  unfold lim at hl
  unfold conns_Close.f cloS
  by_cases c : k < 0
  · rw [if_pos c, if_pos (.inl c)]
  · rw [if_neg c]
    by_cases c2 : k ≥ (l.length : Int)
    · rw [if_pos c2, if_pos (.inr c2)]
    · rw [if_neg c2, if_neg (by omega)]
      unfold conns_change__Close_1.f
      rw [if_pos (by omega), if_pos (by omega), if_pos (by omega)]
      rfl
/-- Is one open? -/
def opeS (l : List Cn) (k : Int) : Bool := decide (0 ≤ k) && (decide (k < (l.length : Int)) && (l.getD k.toNat z34).f0)
theorem conns_Open_is (l : List Cn) (k : Int) : conns_Open.f l k = some (opeS l k) := by
  unfold conns_Open.f opeS
  by_cases c : k ≥ 0
  · rw [if_pos c]
    by_cases c2 : k < (l.length : Int)
    · rw [if_pos c2, if_pos c, decide_eq_true c, decide_eq_true c2]; rfl
    · rw [if_neg c2, decide_eq_true c, decide_eq_false c2]; rfl
  · rw [if_neg c, decide_eq_false c]; rfl
/-- Bytes come to one. -/
def pusS (l : List Cn) (k : Int) (b : List UInt8) : List Cn × List Fr := if opeS l k = false then (l, []) else
  let c := l.getD k.toNat z34
  let r := push c.f3.f0.toList c.f3.f1 b
  (l.set k.toNat ⟨c.f0, c.f1, c.f2, ⟨B r.2.1, r.2.2⟩⟩, r.1)
theorem conns_Push_is (l : List Cn) (hl : l.length ≤ lim) (hb : ∀ c ∈ l, c.f3.f0.size ≤ lim) (k : Int) (b : List UInt8) (hbl : b.length ≤ lim) : Ev (fun n => conns_Push.f n l k (B b)) (pusS l k b) := by
  unfold lim at hl hbl hb
  unfold conns_Push.f pusS
  rw [conns_Open_is]
  simp only [Option.bind_some]
  cases ho : opeS l k with
  | false => exact Ev.congr (fun n => by rw [if_neg (by decide), if_pos rfl]) (Ev.now _)
  | true =>
    have h0 : 0 ≤ k ∧ k < (l.length : Int) := by
      unfold opeS at ho
      simp only [Bool.and_eq_true, decide_eq_true_eq] at ho
      exact ⟨ho.1, ho.2.1⟩
    have hm : l.getD k.toNat z34 ∈ l := by
      rw [List.getD_eq_getElem?_getD, List.getElem?_eq_getElem (by omega)]
      exact List.getElem_mem _
    have e : rd_T34 l k = l.getD k.toNat z34 := rfl
    generalize hc : l.getD k.toNat z34 = c at hm e
    obtain ⟨s, hs⟩ := ofB c.f3.f0
    have hsz := hb c hm
    have hp := stream_Push_is s c.f3.f1 b (by rw [hs, B_size] at hsz; omega)
    simp only [Bool.true_eq_false, if_false]
    rw [e, hs, B_list]
    refine Ev.congr (g := _) (f := fun n => (stream_Push.f n (B s) c.f3.f1 (B b)).bind fun bt => ((conns_change__Push_1.f l k ([(⟨bt.1, bt.2.1⟩ : S32)] : List S32)).bind fun t => (some (t, bt.2.2)))) (fun n => by rw [if_pos trivial, if_pos h0.1, if_pos h0.2]) ?_
    refine Ev.bind hp ?_
    refine Ev.congr (fun n => ?_) (Ev.now _)
    unfold conns_change__Push_1.f
    rw [if_pos (by omega), if_pos h0.1, if_pos h0.2, e]
    rfl
/-- May one be? -/
def okC (c : Cn) : Bool := decide (0 ≤ c.f2) && ((c.f0 || (c.f1 == 0 && (c.f3.f0.toList == [] && !c.f3.f1))) && right c.f3.f0.toList c.f3.f1)
theorem okC_of {c : Cn} : okC c = true ↔ 0 ≤ c.f2 ∧ (c.f0 = true ∨ (c.f1 = 0 ∧ c.f3.f0.toList = [] ∧ c.f3.f1 = false)) ∧ right c.f3.f0.toList c.f3.f1 = true := by
  unfold okC
  simp
theorem right_loop (l : List Cn) (hl : l.length ≤ lim) (hb : ∀ c ∈ l, c.f3.f0.size ≤ lim) (d : Nat) : ∀ i : Nat, i ≤ l.length → l.length - i = d →
    Ev (fun k => conns_Right.l0 k l (l.length : Int) (i : Int)) ((l.drop i).all okC) ∧ Ev (fun k => ref22_Right.l0 k l (i : Int)) ((l.drop i).all okC) := by
  have hl' := hl
  unfold lim at hl
  induction d with
  | zero =>
    intro i hi hd
    rw [List.drop_eq_nil_of_le (by omega)]
    exact ⟨Ev.step (f := fun _ => some true) (fun k => by simp only [conns_Right.l0]; rw [if_neg (by omega)]) (Ev.now _), Ev.step (f := fun _ => some true) (fun k => by simp only [ref22_Right.l0]; rw [if_neg (by omega)]) (Ev.now _)⟩
  | succ d ih =>
    intro i hi hd
    have h : i < l.length := by omega
    obtain ⟨ih1, ih2⟩ := ih (i + 1) (by omega) (by omega)
    have hs := hb l[i] (List.getElem_mem h)
    unfold lim at hs
    rw [List.drop_eq_getElem_cons h, List.all_cons]
    have e := rdC l i h
    have ew : wrap64 ((i : Int) + 1) = ((i + 1 : Nat) : Int) := by rw [w_id (by omega) (by omega)]; rfl
    generalize l[i] = c at e hs
    obtain ⟨s, hsB⟩ := ofB c.f3.f0
    rw [hsB, B_size] at hs
    have hr1 := stream_Right_is s c.f3.f1 (by omega)
    have hr2 := ref09_Right_is s c.f3.f1 (by omega)
    have eo : okC c = (decide (0 ≤ c.f2) && ((c.f0 || (c.f1 == 0 && (c.f3.f0.toList == [] && !c.f3.f1))) && right c.f3.f0.toList c.f3.f1)) := rfl
    rw [eo]
    clear eo
    constructor
    · refine Ev.step (f := fun k => if c.f2 < 0 then (some false) else (if (c.f0 = true) then ((stream_Right.f c.f3.f0 c.f3.f1).bind fun t => (if t = true then (conns_Right.l0 k l (l.length : Int) ((i + 1 : Nat) : Int)) else (some false))) else (if ((!(c.f0) && ((c.f1) == 0 && (((c.f3.f0).toList == ([] : List UInt8) && (!(c.f3.f1)))))) = true) then ((stream_Right.f c.f3.f0 c.f3.f1).bind fun t => (if t = true then (conns_Right.l0 k l (l.length : Int) ((i + 1 : Nat) : Int)) else (some false))) else (some false)))) (fun k => ?_) ?_
      · simp only [conns_Right.l0]
        rw [if_pos (by omega), if_pos (by omega), if_pos (by omega), e, ew]
      · rw [hsB, hr1, B_list]
        simp only [Option.bind_some]
        by_cases c1 : c.f2 < 0
        · rw [decide_eq_false (by omega)]
          exact Ev.congr (fun k => by rw [if_pos c1, Bool.false_and, Bool.false_and]) (Ev.now _)
        · rw [decide_eq_true (by omega)]
          simp only [if_neg c1, Bool.true_and]
          cases c.f0 with
          | true =>
            simp only [if_true, Bool.true_or, Bool.true_and]
            cases right s c.f3.f1 with
            | true => simpa using ih1
            | false => simpa using Ev.now _
          | false =>
            simp only [Bool.false_eq_true, if_false, Bool.not_false, Bool.true_and, Bool.false_or]
            cases (c.f1 == 0 && (s == [] && !c.f3.f1)) with
            | false => simpa using Ev.now _
            | true =>
              cases right s c.f3.f1 with
              | true => simpa using ih1
              | false => simpa using Ev.now _
    · refine Ev.step (f := fun k => if c.f2 < 0 then (some false) else ((ref09_Right.f c.f3.f0 c.f3.f1).bind fun t => (if t = true then (if (c.f0 = true) then (ref22_Right.l0 k l ((i + 1 : Nat) : Int)) else (if c.f1 = 0 then (if (!((c.f3.f0).toList == ([] : List UInt8)) || (c.f3.f1)) = true then (some false) else (ref22_Right.l0 k l ((i + 1 : Nat) : Int))) else (some false))) else (some false)))) (fun k => ?_) ?_
      · simp only [ref22_Right.l0]
        rw [if_pos (by omega), if_pos (by omega), e, ew]
      · rw [hsB, hr2, B_list]
        simp only [Option.bind_some]
        by_cases c1 : c.f2 < 0
        · rw [decide_eq_false (by omega)]
          exact Ev.congr (fun k => by rw [if_pos c1, Bool.false_and, Bool.false_and]) (Ev.now _)
        · rw [decide_eq_true (by omega)]
          simp only [if_neg c1, Bool.true_and]
          cases right s c.f3.f1 with
          | false => simpa using Ev.now _
          | true =>
            simp only [if_true, Bool.and_true]
            cases c.f0 with
            | true => simpa using ih2
            | false =>
              simp only [Bool.false_eq_true, if_false, Bool.false_or]
              by_cases c2 : c.f1 = 0
              · simp only [if_pos c2, c2, beq_self_eq_true, Bool.true_and]
                cases (s == []) with
                | false => simpa using Ev.now _
                | true =>
                  cases c.f3.f1 with
                  | true => simpa using Ev.now _
                  | false => simpa using ih2
              · simp only [if_neg c2]
                rw [show (c.f1 == 0) = false by simpa using c2]
                simpa using Ev.now _
theorem conns_Right_is (l : List Cn) (hl : l.length ≤ lim) (hb : ∀ c ∈ l, c.f3.f0.size ≤ lim) : Ev (fun k => conns_Right.f k l) (l.all okC) :=
  Ev.congr (fun k => rfl) (right_loop l hl hb l.length 0 (by omega) (by omega)).1
theorem ref22_Right_is (l : List Cn) (hl : l.length ≤ lim) (hb : ∀ c ∈ l, c.f3.f0.size ≤ lim) : Ev (fun k => ref22_Right.f k l) (l.all okC) :=
  Ev.congr (fun k => rfl) (right_loop l hl hb l.length 0 (by omega) (by omega)).2
theorem conns_New_is (n : Nat) (h : n ≤ lim) : conns_New.f (n : Int) = some (List.replicate n z34) := by
  unfold lim at h
  unfold conns_New.f
  have e : mx (n : Int) 0 = (n : Int) := by unfold mx; split <;> omega
  rw [e, if_pos (by omega), if_pos (by omega), Int.toNat_natCast]
theorem awake_is : Ev (fun k => law22_awake.f k) true := by
  have h1 := conns_Accept_is (List.replicate 2 z34) (by decide) 7
  have h2 := conns_Accept_is (accS (List.replicate 2 z34) 7).1 (by decide) 8
  have h3 := conns_Accept_is (accS (accS (List.replicate 2 z34) 7).1 8).1 (by decide) 9
  unfold law22_awake.f
  rw [show conns_New.f 2 = some (List.replicate 2 z34) from conns_New_is 2 (by decide)]
  simp only [Option.bind_some]
  refine Ev.bind h1 (Ev.bind h2 (Ev.bind h3 ?_))
  refine Ev.congr (fun k => ?_) (Ev.now _)
  simp only [conns_Open_is]
  rfl
end Go.Proofs.Ytgffhdgfloimaaa.Base

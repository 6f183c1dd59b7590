/- What pend's functions, and the reference's, compute: plain Lean. -/
import Derived.Test.YtnmloapejbnejaaP0
import Derived.Test.YtnmloapejbnejaaP1
import Derived.Test.YtnmloapejbnejaaP2
import Derived.Test.YtnmloapejbnejaaP4
import Derived.Test.YtnmloapejbnejaaP5
import Derived.Test.YtnmloapejbnejaaP6
import Derived.Test.YtnmloapejbnejaaP7
import Derived.Test.YtnmloapejbnejaaOpen
import Derived.Test.YtnmloapejbnejaaBase
import Derived.Test.YtnmloapejbnejaaHandPendRight
namespace Go.Proofs.Ytnmloapejbnejaa.Base
open Go.RowKit Go.Proofs.YtnmloapejbnejaaW.PrintWords Go.Proofs.YtnmloapejbnejaaW.PrintLast Go.Proofs.YtnmloapejbnejaaW.PrintMore Go.Proofs.Ytnmloapejbnejaa.P Go.Proofs.Ytnmloapejbnejaa
set_option linter.unusedVariables false
set_option linter.unusedSimpArgs false

abbrev Pd := S32
theorem rdP (l : List Pd) (i : Nat) (h : i < l.length) : rd_T32 l (i : Int) = l[i] := by
  unfold rd_T32; rw [Int.toNat_natCast, List.getD_eq_getElem?_getD, List.getElem?_eq_getElem h]; rfl
def lim : Nat := 1000000
/-- No two of one Outer. -/
def dist (l : List Pd) : Prop := ∀ (i j : Nat) (hi : i < l.length) (hj : j < i), (l[j]'(by omega)).f0 ≠ (l[i]'hi).f0
theorem dist_inj {l : List Pd} (h : dist l) {p q : Pd} (hp : p ∈ l) (hq : q ∈ l) (e : p.f0 = q.f0) : p = q := by
  obtain ⟨i, hi, rfl⟩ := List.mem_iff_getElem.1 hp
  obtain ⟨j, hj, rfl⟩ := List.mem_iff_getElem.1 hq
  rcases Nat.lt_trichotomy i j with hl | he | hl
  · exact absurd e (h j i hj hl)
  · subst he; rfl
  · exact absurd e.symm (h i j hi hl)
theorem right1 (l : List Pd) (hl : l.length ≤ lim) (i : Nat) (hi : i < l.length) (g : Prop) (b : Bool) (hg : b = true ↔ g) (hn : Ev (fun k => ref20_Right.l0 k l ((i + 1 : Nat) : Int)) b) (d : Nat) : ∀ j : Nat, j ≤ i → i - j = d →
    ∃ c, Ev (fun k => ref20_Right.l1 k l (i : Int) (j : Int)) c ∧ (c = true ↔ (∀ (m : Nat) (hm : m < i), j ≤ m → (l[m]'(by omega)).f0 ≠ (l[i]'hi).f0) ∧ g) := by
  unfold lim at hl
  induction d with
  | zero =>
    intro j hj hd
    refine ⟨b, Ev.step (fun k => by simp only [ref20_Right.l1]; rw [if_neg (by omega), w_id (by omega) (by omega)]; rfl) hn, ?_⟩
    rw [hg]
    exact ⟨fun h => ⟨fun m hm hjm => absurd hm (by omega), h⟩, fun h => h.2⟩
  | succ d ih =>
    intro j hj hd
    obtain ⟨c, h1, h2⟩ := ih (j + 1) (by omega) (by omega)
    by_cases e : (l[j]'(by omega)).f0 = (l[i]'hi).f0
    · refine ⟨false, Ev.step (f := fun _ => some false) (fun k => ?_) (Ev.now _), ⟨fun h => (by cases h), fun h => absurd e (h.1 j (by omega) (Nat.le_refl _))⟩⟩
      simp only [ref20_Right.l1]
      rw [if_pos (by omega), if_pos (by omega), if_pos (by omega), if_pos (by omega), if_pos (by omega), rdP l j (by omega), rdP l i hi, if_pos e]
    · refine ⟨c, Ev.step (f := fun k => ref20_Right.l1 k l (i : Int) ((j + 1 : Nat) : Int)) (fun k => ?_) h1, ?_⟩
      · simp only [ref20_Right.l1]
        rw [if_pos (by omega), if_pos (by omega), if_pos (by omega), if_pos (by omega), if_pos (by omega), rdP l j (by omega), rdP l i hi, if_neg e, w_id (by omega) (by omega)]
        rfl
      · rw [h2]
        refine ⟨fun h => ⟨fun m hm hjm => ?_, h.2⟩, fun h => ⟨fun m hm hjm => h.1 m hm (by omega), h.2⟩⟩
        rcases Nat.eq_or_lt_of_le hjm with rfl | hlt
        · exact e
        · exact h.1 m hm hlt
theorem right0 (l : List Pd) (hl : l.length ≤ lim) (d : Nat) : ∀ i : Nat, i ≤ l.length → l.length - i = d →
    ∃ b, Ev (fun k => ref20_Right.l0 k l (i : Int)) b ∧ (b = true ↔ ∀ (q m : Nat) (hq : q < l.length) (hm : m < q), i ≤ q → (l[m]'(by omega)).f0 ≠ (l[q]'hq).f0) := by
  have hl' := hl
  unfold lim at hl'
  induction d with
  | zero =>
    intro i hi hd
    exact ⟨true, Ev.step (f := fun _ => some true) (fun k => by simp only [ref20_Right.l0]; rw [if_neg (by omega)]) (Ev.now _), ⟨fun _ q m hq hm hiq => absurd hq (by omega), fun _ => rfl⟩⟩
  | succ d ih =>
    intro i hi hd
    obtain ⟨b, h1, h2⟩ := ih (i + 1) (by omega) (by omega)
    obtain ⟨c, h3, h4⟩ := right1 l hl i (by omega) _ b h2 h1 i 0 (by omega) (by omega)
    refine ⟨c, Ev.step (f := fun k => ref20_Right.l1 k l (i : Int) ((0 : Nat) : Int)) (fun k => by simp only [ref20_Right.l0]; rw [if_pos (by omega)]; rfl) h3, ?_⟩
    rw [h4]
    refine ⟨fun h q m hq hm hiq => ?_, fun h => ⟨fun m hm _ => h i m (by omega) hm (Nat.le_refl _), fun q m hq hm hiq => h q m hq hm (by omega)⟩⟩
    rcases Nat.eq_or_lt_of_le hiq with rfl | hlt
    · exact h.1 m hm (Nat.zero_le _)
    · exact h.2 q m hq hm hlt
theorem ref20_Right_is (l : List Pd) (hl : l.length ≤ lim) : ∃ b, Ev (fun k => ref20_Right.f k l) b ∧ (b = true ↔ dist l) := by
  obtain ⟨b, h1, h2⟩ := right0 l hl l.length 0 (by omega) (by omega)
  exact ⟨b, Ev.congr (fun k => rfl) h1, h2.trans ⟨fun h i j hi hj => h i j hi hj (Nat.zero_le _), fun h q m hq hm _ => h q m hq hm⟩⟩
def inI (a : Int) : Prop := -9223372036854775808 ≤ a ∧ a ≤ 9223372036854775807
theorem wf_of {a : Int} (h : inI a) : (Lit.int .i64 a).wf = true := by
  obtain ⟨h1, h2⟩ := h
  have e : IntKind.i64.wrap a = a := by rw [IntKind.wrap_i64]; omega
  have e2 : IntKind.i64.min = -9223372036854775808 := by decide
  simp [Lit.wf, e, e2]
  exact ⟨h1, h2⟩
theorem pright (l : List Pd) (hl : l.length ≤ lim) (hi : ∀ p ∈ l, inI p.f0) (d : Nat) : ∀ (i : Nat) (sn : List Int), i ≤ l.length → l.length - i = d → sn.length ≤ i →
    (∀ x, x ∈ sn ↔ ∃ (m : Nat) (hm : m < l.length), m < i ∧ (l[m]'hm).f0 = x) →
    ∃ b, Ev (fun k => pend_Right.l0 k l sn (i : Int)) b ∧ (b = true ↔ ∀ (q m : Nat) (hq : q < l.length) (hm : m < q), i ≤ q → (l[m]'(by omega)).f0 ≠ (l[q]'hq).f0) := by
  have hl' := hl
  unfold lim at hl'
  induction d with
  | zero =>
    intro i sn hil hd hs hsn
    exact ⟨true, Ev.step (f := fun _ => some true) (fun k => by simp only [pend_Right.l0]; rw [if_neg (by omega)]) (Ev.now _), ⟨fun _ q m hq hm hiq => absurd hq (by omega), fun _ => rfl⟩⟩
  | succ d ih =>
    intro i sn hil hd hs hsn
    have hlt : i < l.length := by omega
    have hw := wf_of (hi _ (List.getElem_mem hlt))
    by_cases e : (l[i]'hlt).f0 ∈ sn
    · refine ⟨false, Ev.step (f := fun _ => some false) (fun k => ?_) (Ev.now _), ⟨fun h => (by cases h), fun h => ?_⟩⟩
      · simp only [pend_Right.l0]
        rw [if_pos (by omega), if_pos (by omega), rdP l i hlt, if_pos ⟨hw, by omega⟩, if_pos e]
      · obtain ⟨m, hm, hmi, hx⟩ := (hsn _).1 e
        exact absurd hx (h i m hlt hmi (Nat.le_refl _))
    · obtain ⟨b, h1, h2⟩ := ih (i + 1) ((l[i]'hlt).f0 :: sn) (by omega) (by omega) (by rw [List.length_cons]; omega) (fun x => by
        rw [List.mem_cons, hsn]
        constructor
        · rintro (rfl | ⟨m, hm, hmi, hx⟩)
          · exact ⟨i, hlt, by omega, rfl⟩
          · exact ⟨m, hm, by omega, hx⟩
        · rintro ⟨m, hm, hmi, hx⟩
          rcases Nat.lt_or_ge m i with h | h
          · exact .inr ⟨m, hm, h, hx⟩
          · obtain rfl : m = i := by omega
            exact .inl hx.symm)
      refine ⟨b, Ev.step (fun k => ?_) h1, ?_⟩
      · simp only [pend_Right.l0]
        rw [if_pos (by omega), if_pos (by omega), rdP l i hlt, if_pos ⟨hw, by omega⟩, if_neg e, w_id (by omega) (by omega)]
        rfl
      · rw [h2]
        refine ⟨fun h q m hq hm hiq => ?_, fun h q m hq hm hiq => h q m hq hm (by omega)⟩
        rcases Nat.eq_or_lt_of_le hiq with rfl | hlt2
        · exact fun hx => e ((hsn _).2 ⟨m, by omega, hm, hx⟩)
        · exact h q m hq hm hlt2
theorem pend_Right_is (l : List Pd) (hl : l.length ≤ lim) (hi : ∀ p ∈ l, inI p.f0) : ∃ b, Ev (fun k => pend_Right.f k l) b ∧ (b = true ↔ dist l) := by
  obtain ⟨b, h1, h2⟩ := pright l hl hi l.length 0 [] (by omega) (by omega) (by simp) (fun x => ⟨fun h => by simp at h, fun ⟨m, hm, h, _⟩ => by omega⟩)
  exact ⟨b, Ev.congr (fun k => rfl) h1, h2.trans ⟨fun h i j hi hj => h i j hi hj (Nat.zero_le _), fun h q m hq hm _ => h q m hq hm⟩⟩
/-- The place of one. -/
def fnd : List Pd → Int → Nat → Int
  | [], _, _ => -1
  | p :: l, x, i => if p.f0 = x then (i : Int) else fnd l x (i + 1)
theorem fnd_pos : ∀ (l : List Pd) (x : Int) (i : Nat), (0 ≤ fnd l x i ↔ ∃ p ∈ l, p.f0 = x) ∧ (fnd l x i < 0 → fnd l x i = -1)
  | [], x, i => ⟨⟨fun h => by simp [fnd] at h, fun ⟨p, hp, _⟩ => by simp at hp⟩, fun _ => rfl⟩
  | p :: l, x, i => by
    unfold fnd
    by_cases e : p.f0 = x
    · rw [if_pos e]; exact ⟨⟨fun _ => ⟨p, List.mem_cons_self, e⟩, fun _ => by omega⟩, fun h => by omega⟩
    · rw [if_neg e]
      obtain ⟨h1, h2⟩ := fnd_pos l x (i + 1)
      refine ⟨h1.trans ⟨fun ⟨q, hq, hx⟩ => ⟨q, List.mem_cons_of_mem _ hq, hx⟩, fun ⟨q, hq, hx⟩ => ?_⟩, h2⟩
      rcases List.mem_cons.1 hq with rfl | hq
      · exact absurd hx e
      · exact ⟨q, hq, hx⟩
theorem fnd_at : ∀ (l : List Pd) (x : Int) (i : Nat), 0 ≤ fnd l x i → ∃ (m : Nat) (hm : m < l.length), fnd l x i = ((i + m : Nat) : Int) ∧ (l[m]'hm).f0 = x
  | [], x, i, h => by simp [fnd] at h
  | p :: l, x, i, h => by
    unfold fnd at h ⊢
    by_cases e : p.f0 = x
    · rw [if_pos e]; exact ⟨0, by simp, rfl, e⟩
    · rw [if_neg e] at h ⊢
      obtain ⟨m, hm, h1, h2⟩ := fnd_at l x (i + 1) h
      exact ⟨m + 1, by simp; omega, by rw [h1]; omega, h2⟩
theorem find_loop (l : List Pd) (hl : l.length ≤ lim) (x : Int) (d : Nat) : ∀ i : Nat, i ≤ l.length → l.length - i = d → Ev (fun k => slices_IndexFunc__Find_1.l0 k l [x] (l.length : Int) (i : Int)) (fnd (l.drop i) x i) ∧ Ev (fun k => ref20_Find.l0 k l x (i : Int)) (fnd (l.drop i) x i) := by
  unfold lim at hl
  induction d with
  | zero =>
    intro i hi hd
    rw [List.drop_eq_nil_of_le (by omega)]
    exact ⟨Ev.step (f := fun _ => some (-1)) (fun k => by simp only [slices_IndexFunc__Find_1.l0]; rw [if_neg (by omega)]) (Ev.now _), Ev.step (f := fun _ => some (-1)) (fun k => by simp only [ref20_Find.l0]; rw [if_neg (by omega)]) (Ev.now _)⟩
  | succ d ih =>
    intro i hi hd
    have hlt : i < l.length := by omega
    have edrop : l.drop i = l[i] :: l.drop (i + 1) := List.drop_eq_getElem_cons hlt
    obtain ⟨h1, h2⟩ := ih (i + 1) (by omega) (by omega)
    rw [edrop]
    unfold fnd
    have hr : rd [x] 0 = x := rfl
    by_cases e : (l[i]).f0 = x
    · rw [if_pos e]
      constructor
      · refine Ev.step (f := fun _ => some (i : Int)) (fun k => ?_) (Ev.now _)
        simp only [slices_IndexFunc__Find_1.l0]
        rw [if_pos (by omega), if_pos (by omega), if_pos (by omega), rdP l i hlt]
        unfold pend_Find_1.f
        rw [if_pos (by simp), Option.bind_some, hr, e, if_pos (by simp)]
      · refine Ev.step (f := fun _ => some (i : Int)) (fun k => ?_) (Ev.now _)
        simp only [ref20_Find.l0]
        rw [if_pos (by omega), if_pos (by omega), rdP l i hlt, if_pos e]
    · rw [if_neg e]
      constructor
      · refine Ev.step (f := fun k => slices_IndexFunc__Find_1.l0 k l [x] (l.length : Int) ((i + 1 : Nat) : Int)) (fun k => ?_) h1
        simp only [slices_IndexFunc__Find_1.l0]
        rw [if_pos (by omega), if_pos (by omega), if_pos (by omega), rdP l i hlt]
        unfold pend_Find_1.f
        rw [if_pos (by simp), Option.bind_some, hr, if_neg (by simpa using e), w_id (by omega) (by omega)]
        rfl
      · refine Ev.step (f := fun k => ref20_Find.l0 k l x ((i + 1 : Nat) : Int)) (fun k => ?_) h2
        simp only [ref20_Find.l0]
        rw [if_pos (by omega), if_pos (by omega), rdP l i hlt, if_neg e, w_id (by omega) (by omega)]
        rfl
theorem pend_Find_is (l : List Pd) (hl : l.length ≤ lim) (x : Int) : Ev (fun k => pend_Find.f k l x) (fnd l x 0) := by
  unfold pend_Find.f
  exact Ev.bind (Ev.congr (fun k => rfl) (find_loop l hl x l.length 0 (by omega) (by omega)).1) (Ev.now _)
theorem ref20_Find_is (l : List Pd) (hl : l.length ≤ lim) (x : Int) : Ev (fun k => ref20_Find.f k l x) (fnd l x 0) :=
  Ev.congr (fun k => rfl) (find_loop l hl x l.length 0 (by omega) (by omega)).2
/-- One more. -/
def addS (l : List Pd) (p : Pd) (m : Int) : List Pd × Int := if (l.length : Int) ≥ m then (l, 11) else if 0 ≤ fnd l p.f0 0 then (l, 1) else (l ++ [p], 0)
theorem pend_Add_is (l : List Pd) (hl : l.length ≤ lim) (p : Pd) (m : Int) : Ev (fun k => pend_Add.f k l p.f0 p.f1 p.f2 p.f3 p.f4 p.f5.f0 p.f5.f1 p.f5.f2 p.f5.f3 p.f5.f4 p.f5.f5 p.f6 m) (addS l p m) := by
  have hl' := hl
  unfold lim at hl'
  unfold pend_Add.f addS
  by_cases c : (l.length : Int) ≥ m
  · rw [if_pos c]; exact Ev.congr (fun k => if_pos c) (Ev.now _)
  · rw [if_neg c]
    refine Ev.congr (fun k => if_neg c) (Ev.bind (pend_Find_is l hl p.f0) ?_)
    by_cases c2 : 0 ≤ fnd l p.f0 0
    · rw [if_pos c2, if_pos c2]; exact Ev.now _
    · rw [if_neg c2]
      refine Ev.congr (fun k => ?_) (Ev.now _)
      rw [if_neg c2, if_pos (by omega), if_pos (Int.le_refl _), Option.bind_some, Int.toNat_natCast, List.take_length, if_pos (by omega)]
theorem ref20_Add_is (l : List Pd) (hl : l.length ≤ lim) (p : Pd) (m : Int) : Ev (fun k => ref20_Add.f k l p.f0 p.f1 p.f2 p.f3 p.f4 p.f5.f0 p.f5.f1 p.f5.f2 p.f5.f3 p.f5.f4 p.f5.f5 p.f6 m) (addS l p m) := by
  have hl' := hl
  unfold lim at hl'
  unfold ref20_Add.f addS
  by_cases c : (l.length : Int) ≥ m
  · rw [if_pos c]; exact Ev.congr (fun k => if_pos c) (Ev.now _)
  · rw [if_neg c]
    refine Ev.congr (fun k => if_neg c) (Ev.bind (ref20_Find_is l hl p.f0) ?_)
    by_cases c2 : 0 ≤ fnd l p.f0 0
    · rw [if_pos c2, if_pos c2]; exact Ev.now _
    · rw [if_neg c2]
      refine Ev.congr (fun k => ?_) (Ev.now _)
      rw [if_neg c2, Option.bind_some, List.nil_append, if_pos (by simp only [List.length_nil]; omega), Option.bind_some, Option.bind_some, if_pos (by simp only [List.length_cons, List.length_nil]; omega)]
theorem due_loop (l : List Pd) (hl : l.length ≤ lim) (t : Int) (d : Nat) : ∀ (i : Nat) (a b : List Pd), i ≤ l.length → l.length - i = d → a.length ≤ i → b.length ≤ i →
    Ev (fun k => pend_part__Due_1.l0 k [t] a b l (l.length : Int) (i : Int)) (a ++ (l.drop i).filter (fun p => decide (p.f6 ≤ t)), b ++ (l.drop i).filter (fun p => !decide (p.f6 ≤ t))) ∧
    Ev (fun k => ref20_Due.l0 k l t a b (i : Int)) (a ++ (l.drop i).filter (fun p => decide (p.f6 ≤ t)), b ++ (l.drop i).filter (fun p => !decide (p.f6 ≤ t))) := by
  unfold lim at hl
  induction d with
  | zero =>
    intro i a b hi hd ha hb
    rw [List.drop_eq_nil_of_le (by omega)]
    simp only [List.filter_nil, List.append_nil]
    exact ⟨Ev.step (f := fun _ => some (a, b)) (fun k => by simp only [pend_part__Due_1.l0]; rw [if_neg (by omega)]) (Ev.now _), Ev.step (f := fun _ => some (a, b)) (fun k => by simp only [ref20_Due.l0]; rw [if_neg (by omega)]) (Ev.now _)⟩
  | succ d ih =>
    intro i a b hi hd ha hb
    have hlt : i < l.length := by omega
    have edrop : l.drop i = l[i] :: l.drop (i + 1) := List.drop_eq_getElem_cons hlt
    have hr : rd [t] 0 = t := rfl
    rw [edrop]
    by_cases e : (l[i]).f6 ≤ t
    · obtain ⟨h1, h2⟩ := ih (i + 1) (a ++ [l[i]]) b (by omega) (by omega) (by rw [List.length_append]; show a.length + 1 ≤ _; omega) (by omega)
      rw [List.filter_cons_of_pos (by simpa using e), List.filter_cons_of_neg (by simpa using e)]
      rw [List.append_assoc] at h1 h2
      constructor
      · refine Ev.step (fun k => ?_) h1
        simp only [pend_part__Due_1.l0]
        rw [if_pos (by omega), if_pos (by omega), if_pos (by omega), rdP l i hlt]
        unfold pend_Due_1.f
        rw [if_pos (by simp), Option.bind_some, hr, decide_eq_true e, if_pos rfl, if_pos (by omega), w_id (by omega) (by omega)]
        rfl
      · refine Ev.step (fun k => ?_) h2
        simp only [ref20_Due.l0]
        rw [if_pos (by omega), if_pos (by omega), rdP l i hlt, if_pos e, if_pos (by omega), w_id (by omega) (by omega)]
        rfl
    · obtain ⟨h1, h2⟩ := ih (i + 1) a (b ++ [l[i]]) (by omega) (by omega) (by omega) (by rw [List.length_append]; show b.length + 1 ≤ _; omega)
      rw [List.filter_cons_of_neg (by simpa using e), List.filter_cons_of_pos (by simpa using e)]
      rw [List.append_assoc] at h1 h2
      constructor
      · refine Ev.step (fun k => ?_) h1
        simp only [pend_part__Due_1.l0]
        rw [if_pos (by omega), if_pos (by omega), if_pos (by omega), rdP l i hlt]
        unfold pend_Due_1.f
        rw [if_pos (by simp), Option.bind_some, hr, decide_eq_false e, if_neg (by simp), if_pos (by omega), w_id (by omega) (by omega)]
        rfl
      · refine Ev.step (fun k => ?_) h2
        simp only [ref20_Due.l0]
        rw [if_pos (by omega), if_pos (by omega), rdP l i hlt, if_neg e, if_pos (by omega), w_id (by omega) (by omega)]
        rfl
def dueS (l : List Pd) (t : Int) : List Pd × List Pd := (l.filter (fun p => decide (p.f6 ≤ t)), l.filter (fun p => !decide (p.f6 ≤ t)))
theorem pend_Due_is (l : List Pd) (hl : l.length ≤ lim) (t : Int) : Ev (fun k => pend_Due.f k l t) (dueS l t) := by
  unfold pend_Due.f
  have h := (due_loop l hl t l.length 0 [] [] (by omega) (by omega) (by simp) (by simp)).1
  exact Ev.bind (Ev.congr (fun k => rfl) h) (Ev.now _)
theorem ref20_Due_is (l : List Pd) (hl : l.length ≤ lim) (t : Int) : Ev (fun k => ref20_Due.f k l t) (dueS l t) :=
  Ev.congr (fun k => rfl) (due_loop l hl t l.length 0 [] [] (by omega) (by omega) (by simp) (by simp)).2
theorem leave_loop (l : List Pd) (hl : l.length ≤ lim) (c : Int) (d : Nat) : ∀ (i : Nat) (a b : List Pd), i ≤ l.length → l.length - i = d → a.length ≤ i → b.length ≤ i →
    Ev (fun k => pend_part__Leave_1.l0 k [c] a b l (l.length : Int) (i : Int)) (a ++ (l.drop i).filter (fun p => p.f1 == c), b ++ (l.drop i).filter (fun p => !(p.f1 == c))) ∧
    Ev (fun k => ref20_Leave.l0 k l c b (i : Int)) (b ++ (l.drop i).filter (fun p => !(p.f1 == c))) := by
  unfold lim at hl
  induction d with
  | zero =>
    intro i a b hi hd ha hb
    rw [List.drop_eq_nil_of_le (by omega)]
    simp only [List.filter_nil, List.append_nil]
    exact ⟨Ev.step (f := fun _ => some (a, b)) (fun k => by simp only [pend_part__Leave_1.l0]; rw [if_neg (by omega)]) (Ev.now _), Ev.step (f := fun _ => some b) (fun k => by simp only [ref20_Leave.l0]; rw [if_neg (by omega)]) (Ev.now _)⟩
  | succ d ih =>
    intro i a b hi hd ha hb
    have hlt : i < l.length := by omega
    have edrop : l.drop i = l[i] :: l.drop (i + 1) := List.drop_eq_getElem_cons hlt
    have hr : rd [c] 0 = c := rfl
    rw [edrop]
    by_cases e : (l[i]).f1 = c
    · have h1 := (ih (i + 1) (a ++ [l[i]]) b (by omega) (by omega) (by rw [List.length_append]; show a.length + 1 ≤ _; omega) (by omega)).1
      have h2 := (ih (i + 1) a b (by omega) (by omega) (by omega) (by omega)).2
      rw [List.filter_cons_of_pos (by simpa using e), List.filter_cons_of_neg (by simpa using e)]
      rw [List.append_assoc] at h1
      constructor
      · refine Ev.step (fun k => ?_) h1
        simp only [pend_part__Leave_1.l0]
        rw [if_pos (by omega), if_pos (by omega), if_pos (by omega), rdP l i hlt]
        unfold pend_Leave_1.f
        rw [if_pos (by simp), Option.bind_some, hr, if_pos (by simpa using e), if_pos (by omega), w_id (by omega) (by omega)]
        rfl
      · refine Ev.step (fun k => ?_) h2
        simp only [ref20_Leave.l0]
        rw [if_pos (by omega), if_pos (by omega), rdP l i hlt, if_pos e, w_id (by omega) (by omega)]
        rfl
    · obtain ⟨h1, h2⟩ := ih (i + 1) a (b ++ [l[i]]) (by omega) (by omega) (by omega) (by rw [List.length_append]; show b.length + 1 ≤ _; omega)
      rw [List.filter_cons_of_neg (by simpa using e), List.filter_cons_of_pos (by simpa using e)]
      rw [List.append_assoc] at h1 h2
      constructor
      · refine Ev.step (fun k => ?_) h1
        simp only [pend_part__Leave_1.l0]
        rw [if_pos (by omega), if_pos (by omega), if_pos (by omega), rdP l i hlt]
        unfold pend_Leave_1.f
        rw [if_pos (by simp), Option.bind_some, hr, if_neg (by simpa using e), if_pos (by omega), w_id (by omega) (by omega)]
        rfl
      · refine Ev.step (fun k => ?_) h2
        simp only [ref20_Leave.l0]
        rw [if_pos (by omega), if_pos (by omega), rdP l i hlt, if_neg e, if_pos (by omega), w_id (by omega) (by omega)]
        rfl
def leaveS (l : List Pd) (c : Int) : List Pd := l.filter (fun p => !(p.f1 == c))
theorem pend_Leave_is (l : List Pd) (hl : l.length ≤ lim) (c : Int) : Ev (fun k => pend_Leave.f k l c) (leaveS l c) := by
  unfold pend_Leave.f
  have h := (leave_loop l hl c l.length 0 [] [] (by omega) (by omega) (by simp) (by simp)).1
  exact Ev.bind (Ev.congr (fun k => rfl) h) (Ev.now _)
theorem ref20_Leave_is (l : List Pd) (hl : l.length ≤ lim) (c : Int) : Ev (fun k => ref20_Leave.f k l c) (leaveS l c) :=
  Ev.congr (fun k => rfl) (leave_loop l hl c l.length 0 [] [] (by omega) (by omega) (by simp) (by simp)).2
end Go.Proofs.Ytnmloapejbnejaa.Base

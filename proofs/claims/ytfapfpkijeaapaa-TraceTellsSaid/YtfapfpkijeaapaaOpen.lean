/- What the reading of an argument says of its cells, type by type: whole numbers, bools, strings, slices, structs. Written by a program of this session (wip/mkrow.py). -/
import Derived.Test.YtfapfpkijeaapaaP0
import Derived.ChangeArms
import Derived.Deep.Slices
import Derived.DataReads
import Derived.WideShapes
namespace Go.Proofs.Ytfapfpkijeaapaa.Open
open Go.RowKit Go.Proofs.YtfapfpkijeaapaaW.PrintWords Go.Proofs.Ytfapfpkijeaapaa.P Go.WideShapes
set_option linter.unusedVariables false
set_option linter.unusedSimpArgs false

/-- Whatever cells read as a value of type t, by what the reader asks of an argument, hold a value of the kind d, and of that wf is known. -/
def Opens {α : Type} (P : Program) (t : TypeId) (d : Kd α) (wf : α → Prop) : Prop :=
  ∀ (H : Type) (enc : TypeId × Value → H) (w : World) (n : Nat) (cs : List Value) (x : DataW H × List MemPlace), DataW.trod enc P w 0 (fun _ => true) true n t cs = some x → ∃ y : α, d.K w y cs ∧ wf y
theorem opens_int {P : Program} {t : TypeId} {k : IntKind} (ht : P.underlying t = some (.int k)) : Opens P t (Kd.int k) (fun n => (Lit.int k n).wf = true) := by
  intro H enc w n cs x h
  obtain ⟨m, rfl, _, hw⟩ := DataW.trod_int ht h
  exact ⟨m, rfl, hw⟩
theorem opens_bool {P : Program} {t : TypeId} (ht : P.underlying t = some .bool) : Opens P t Kd.bool (fun _ => True) := by
  intro H enc w n cs x h
  obtain ⟨b, rfl, _⟩ := DataW.trod_bool ht h
  exact ⟨b, rfl, trivial⟩
theorem opens_string {P : Program} {t : TypeId} (ht : P.underlying t = some .string) : Opens P t Kd.string (fun s => s.size ≤ maxLen) := by
  intro H enc w n cs x h
  obtain ⟨s, rfl, _, hs⟩ := DataW.trod_string ht h
  exact ⟨s, rfl, hs⟩
theorem opens_slice {α : Type} {P : Program} {t e : TypeId} {d : Kd α} {wf : α → Prop} (ht : P.underlying t = some (.slice e)) (hz : P.cellsOf e = d.sz) (he : Opens P e d wf) :
    Opens P t (Kd.slice e d) (fun l => l.length ≤ maxLen ∧ ∀ y ∈ l, wf y) := by
  intro H enc w n cs x h
  rcases DataW.trod_slice ht h with ⟨rfl, _⟩ | ⟨a, len, cap, elems, rest, m, _, rfl, _, _, hl, hm, hlen, hel, _, _⟩
  · exact ⟨[], ⟨none, 0, rfl, Nat.le_refl _, ⟨rfl, by simp, fun h0 => absurd h0 (by simp)⟩⟩, by simp, fun y hy => by simp at hy⟩
  · have key : ∀ i, i < len → ∃ y : α, ∃ c, w.cells? 0 (a.add (i * d.sz)) d.sz = some c ∧ d.K w y c ∧ wf y := by
      intro i hi
      have hb := hel i hi
      rw [List.getElem?_eq_getElem (by omega), Option.bind_eq_some_iff] at hb
      obtain ⟨c, h1, h2⟩ := hb
      obtain ⟨y, h3, h4⟩ := he H enc w m c _ h2
      rw [hz] at h1
      exact ⟨y, c, h1, h3, h4⟩
    have all : ∀ k, k ≤ len → ∃ ys : List α, ys.length = k ∧ (∀ y ∈ ys, wf y) ∧ ∀ (j : Nat) (p : α), ys[j]? = some p → ∃ c : List Value, c.length = d.sz ∧ d.K w p c ∧ ∀ (i : Nat) (u : Value), c[i]? = some u → w.cell? (a.add (j * d.sz + i)) = some u := by
      intro k
      induction k with
      | zero => exact fun _ => ⟨[], rfl, fun y hy => by simp at hy, fun j p hp => by simp at hp⟩
      | succ k ih =>
        intro hk
        obtain ⟨ys, h1, h2, h3⟩ := ih (by omega)
        obtain ⟨y, c, h4, h5, h6⟩ := key k (by omega)
        refine ⟨ys ++ [y], by simp [h1], fun z hz' => ?_, fun j p hp => ?_⟩
        · rcases List.mem_append.1 hz' with hz' | hz'
          · exact h2 z hz'
          · rw [List.mem_singleton.1 hz']; exact h6
        · rcases Nat.lt_or_ge j ys.length with hj | hj
          · rw [List.getElem?_append_left hj] at hp
            exact h3 j p hp
          · rw [List.getElem?_append_right hj] at hp
            have hj0 : j = k := by
              have := (List.getElem?_eq_some_iff.1 hp).1
              simp at this
              omega
            subst hj0
            rw [h1, Nat.sub_self] at hp
            have hp' : y = p := by simpa using hp
            subst hp'
            obtain ⟨_, hcl, hcc⟩ := World.cells?_some h4
            refine ⟨c, hcl, h5, fun i u hu => ?_⟩
            have hi : i < d.sz := by have := (List.getElem?_eq_some_iff.1 hu).1; omega
            have := hcc i hi
            rw [Deep.add_add] at this
            rw [this]
            exact hu
    obtain ⟨ys, h1, h2, h3⟩ := all len (Nat.le_refl _)
    subst h1
    have hmax : ys.length ≤ maxLen := Nat.le_trans hl hm
    refine ⟨ys, ⟨some a, cap, rfl, hl, rfl, by unfold maxLen at hmax; omega, fun _ => ⟨a, rfl, h3⟩⟩, hmax, h2⟩
theorem take_cat (cs : List Value) (i j : Nat) : (cs.drop i).take j ++ cs.drop (i + j) = cs.drop i := by rw [← List.drop_drop]; exact List.take_append_drop _ _
theorem take_end (cs : List Value) (i j : Nat) (h : cs.length = i + j) : (cs.drop i).take j = cs.drop i := List.take_of_length_le (by rw [List.length_drop]; omega)

theorem op3 : Opens Try.prog 3 (Kd.int .i64) (fun x => (Lit.int .i64 x).wf = true) := opens_int Try.underlying3
theorem op9 : Opens Try.prog 9 Kd.string (fun x => x.size ≤ maxLen) := opens_string Try.underlying9
def wf40 (x : S40) : Prop := (Lit.int .i64 x.f0).wf = true ∧ (Lit.int .i64 x.f1).wf = true ∧ x.f2.size ≤ maxLen
theorem op40 : Opens Try.prog 40 k40 wf40 := by
  intro H enc w n cs x h
  obtain ⟨xs, m, _, _, hl, hlen, hf⟩ := DataW.trod_struct Try.underlying40 h
  have hL : cs.length = 3 := hl.trans (by kernel_rfl)
  have e0 := hf 0 _ rfl
  rw [List.getElem?_eq_getElem (by rw [hlen]; decide)] at e0
  obtain ⟨y0, k0_, w0⟩ := op3 H enc w m _ _ e0
  replace k0_ : ((Kd.int .i64)).K w y0 ((cs.drop 0).take 1) := k0_
  have e1 := hf 1 _ rfl
  rw [List.getElem?_eq_getElem (by rw [hlen]; decide)] at e1
  obtain ⟨y1, k1_, w1⟩ := op3 H enc w m _ _ e1
  replace k1_ : ((Kd.int .i64)).K w y1 ((cs.drop 1).take 1) := k1_
  have e2 := hf 2 _ rfl
  rw [List.getElem?_eq_getElem (by rw [hlen]; decide)] at e2
  obtain ⟨y2, k2_, w2⟩ := op9 H enc w m _ _ e2
  replace k2_ : (Kd.string).K w y2 ((cs.drop 2).take 1) := k2_
  refine ⟨⟨y0, y1, y2⟩, ?_, ⟨w0, w1, w2⟩⟩
  have z2 : (Kd.string).K w y2 (cs.drop 2) := by rw [← take_end cs 2 1 (by omega)]; exact k2_
  have z1 : ((Kd.pair (Kd.int .i64) Kd.string)).K w (y1, y2) (cs.drop 1) := ⟨_, _, (take_cat cs 1 1).symm, k1_, z2⟩
  have z0 : ((Kd.pair (Kd.int .i64) (Kd.pair (Kd.int .i64) Kd.string))).K w (y0, (y1, y2)) (cs.drop 0) := ⟨_, _, (take_cat cs 0 1).symm, k0_, z1⟩
  exact z0
theorem op22 : Opens Try.prog 22 (Kd.slice 40 k40) (fun x => x.length ≤ maxLen ∧ ∀ y_ ∈ x, wf40 y_) := opens_slice Try.underlying22 (by kernel_rfl) op40
theorem op5 : Opens Try.prog 5 (Kd.int .u8) (fun x => (Lit.int .u8 x).wf = true) := opens_int Try.underlying5
def wf24 (x : S24) : Prop := (x.f0.length ≤ maxLen ∧ ∀ y_ ∈ x.f0, wf40 y_) ∧ (Lit.int .u8 x.f1).wf = true ∧ (Lit.int .i64 x.f2).wf = true ∧ (Lit.int .i64 x.f3).wf = true
theorem op24 : Opens Try.prog 24 k24 wf24 := by
  intro H enc w n cs x h
  obtain ⟨xs, m, _, _, hl, hlen, hf⟩ := DataW.trod_struct Try.underlying24 h
  have hL : cs.length = 4 := hl.trans (by kernel_rfl)
  have e0 := hf 0 _ rfl
  rw [List.getElem?_eq_getElem (by rw [hlen]; decide)] at e0
  obtain ⟨y0, k0_, w0⟩ := op22 H enc w m _ _ e0
  replace k0_ : ((Kd.slice 40 k40)).K w y0 ((cs.drop 0).take 1) := k0_
  have e1 := hf 1 _ rfl
  rw [List.getElem?_eq_getElem (by rw [hlen]; decide)] at e1
  obtain ⟨y1, k1_, w1⟩ := op5 H enc w m _ _ e1
  replace k1_ : ((Kd.int .u8)).K w y1 ((cs.drop 1).take 1) := k1_
  have e2 := hf 2 _ rfl
  rw [List.getElem?_eq_getElem (by rw [hlen]; decide)] at e2
  obtain ⟨y2, k2_, w2⟩ := op3 H enc w m _ _ e2
  replace k2_ : ((Kd.int .i64)).K w y2 ((cs.drop 2).take 1) := k2_
  have e3 := hf 3 _ rfl
  rw [List.getElem?_eq_getElem (by rw [hlen]; decide)] at e3
  obtain ⟨y3, k3_, w3⟩ := op3 H enc w m _ _ e3
  replace k3_ : ((Kd.int .i64)).K w y3 ((cs.drop 3).take 1) := k3_
  refine ⟨⟨y0, y1, y2, y3⟩, ?_, ⟨w0, w1, w2, w3⟩⟩
  have z3 : ((Kd.int .i64)).K w y3 (cs.drop 3) := by rw [← take_end cs 3 1 (by omega)]; exact k3_
  have z2 : ((Kd.pair (Kd.int .i64) (Kd.int .i64))).K w (y2, y3) (cs.drop 2) := ⟨_, _, (take_cat cs 2 1).symm, k2_, z3⟩
  have z1 : ((Kd.pair (Kd.int .u8) (Kd.pair (Kd.int .i64) (Kd.int .i64)))).K w (y1, (y2, y3)) (cs.drop 1) := ⟨_, _, (take_cat cs 1 1).symm, k1_, z2⟩
  have z0 : ((Kd.pair (Kd.slice 40 k40) (Kd.pair (Kd.int .u8) (Kd.pair (Kd.int .i64) (Kd.int .i64))))).K w (y0, (y1, (y2, y3))) (cs.drop 0) := ⟨_, _, (take_cat cs 0 1).symm, k0_, z1⟩
  exact z0
def wf38 (x : S38) : Prop := (Lit.int .i64 x.f0).wf = true ∧ (Lit.int .i64 x.f1).wf = true ∧ x.f2.size ≤ maxLen
theorem op38 : Opens Try.prog 38 k38 wf38 := by
  intro H enc w n cs x h
  obtain ⟨xs, m, _, _, hl, hlen, hf⟩ := DataW.trod_struct Try.underlying38 h
  have hL : cs.length = 3 := hl.trans (by kernel_rfl)
  have e0 := hf 0 _ rfl
  rw [List.getElem?_eq_getElem (by rw [hlen]; decide)] at e0
  obtain ⟨y0, k0_, w0⟩ := op3 H enc w m _ _ e0
  replace k0_ : ((Kd.int .i64)).K w y0 ((cs.drop 0).take 1) := k0_
  have e1 := hf 1 _ rfl
  rw [List.getElem?_eq_getElem (by rw [hlen]; decide)] at e1
  obtain ⟨y1, k1_, w1⟩ := op3 H enc w m _ _ e1
  replace k1_ : ((Kd.int .i64)).K w y1 ((cs.drop 1).take 1) := k1_
  have e2 := hf 2 _ rfl
  rw [List.getElem?_eq_getElem (by rw [hlen]; decide)] at e2
  obtain ⟨y2, k2_, w2⟩ := op9 H enc w m _ _ e2
  replace k2_ : (Kd.string).K w y2 ((cs.drop 2).take 1) := k2_
  refine ⟨⟨y0, y1, y2⟩, ?_, ⟨w0, w1, w2⟩⟩
  have z2 : (Kd.string).K w y2 (cs.drop 2) := by rw [← take_end cs 2 1 (by omega)]; exact k2_
  have z1 : ((Kd.pair (Kd.int .i64) Kd.string)).K w (y1, y2) (cs.drop 1) := ⟨_, _, (take_cat cs 1 1).symm, k1_, z2⟩
  have z0 : ((Kd.pair (Kd.int .i64) (Kd.pair (Kd.int .i64) Kd.string))).K w (y0, (y1, y2)) (cs.drop 0) := ⟨_, _, (take_cat cs 0 1).symm, k0_, z1⟩
  exact z0
theorem op34 : Opens Try.prog 34 (Kd.slice 38 k38) (fun x => x.length ≤ maxLen ∧ ∀ y_ ∈ x, wf38 y_) := opens_slice Try.underlying34 (by kernel_rfl) op38
end Go.Proofs.Ytfapfpkijeaapaa.Open

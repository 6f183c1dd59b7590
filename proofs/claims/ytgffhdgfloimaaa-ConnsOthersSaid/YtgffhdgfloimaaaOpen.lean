/- What the reading of an argument says of its cells, type by type: whole numbers, bools, strings, slices, structs. Written by a program of this session (wip/mkrow.py). -/
import Derived.Test.YtgffhdgfloimaaaP0
import Derived.ChangeArms
import Derived.Deep.Slices
import Derived.DataReads
import Derived.WideShapes
namespace Go.Proofs.Ytgffhdgfloimaaa.Open
open Go.RowKit Go.Proofs.YtgffhdgfloimaaaW.PrintWords Go.Proofs.Ytgffhdgfloimaaa.P Go.WideShapes
set_option linter.unusedVariables false
set_option linter.unusedSimpArgs false

/-- Whatever cells read as a value of type t, by what the reader asks of an argument, hold a value of the kind d, and of that wf is known. -/
def Opens {α : Type} (P : Program) (t : TypeId) (d : Kd α) (wf : α → Prop) : Prop :=
  ∀ (H : Type) (enc : TypeId × Value → H) (w : World) (n : Nat) (cs : List Value) (x : DataW H × List MemPlace), DataW.trod enc P w 0 (fun _ => true) true n t cs = some x → ∃ y : α, d.K w y cs ∧ wf y
theorem opens_int {P : Program} {t : TypeId} {k : IntKind} (ht : P.underlying t = some (.int k)) : Opens P t (Kd.int k) (fun n => (Lit.int k n).wf = true) := by
  intro H enc w n cs x h
  obtain ⟨m, rfl, _, hw⟩ := DataW.trod_int ht h
  exact ⟨m, rfl, hw⟩
theorem opens_bool {P : Program} {t : TypeId} (ht : P.underlying t = some .bool) : Opens P t Kd.bool (fun _ => True) := by
  intro H enc w n cs x h
  obtain ⟨b, rfl, _⟩ := DataW.trod_bool ht h
  exact ⟨b, rfl, trivial⟩
theorem opens_string {P : Program} {t : TypeId} (ht : P.underlying t = some .string) : Opens P t Kd.string (fun s => s.size ≤ maxLen) := by
  intro H enc w n cs x h
  obtain ⟨s, rfl, _, hs⟩ := DataW.trod_string ht h
  exact ⟨s, rfl, hs⟩
theorem opens_slice {α : Type} {P : Program} {t e : TypeId} {d : Kd α} {wf : α → Prop} (ht : P.underlying t = some (.slice e)) (hz : P.cellsOf e = d.sz) (he : Opens P e d wf) :
    Opens P t (Kd.slice e d) (fun l => l.length ≤ maxLen ∧ ∀ y ∈ l, wf y) := by
  intro H enc w n cs x h
  rcases DataW.trod_slice ht h with ⟨rfl, _⟩ | ⟨a, len, cap, elems, rest, m, _, rfl, _, _, hl, hm, hlen, hel, _, _⟩
  · exact ⟨[], ⟨none, 0, rfl, Nat.le_refl _, ⟨rfl, by simp, fun h0 => absurd h0 (by simp)⟩⟩, by simp, fun y hy => by simp at hy⟩
  · have key : ∀ i, i < len → ∃ y : α, ∃ c, w.cells? 0 (a.add (i * d.sz)) d.sz = some c ∧ d.K w y c ∧ wf y := by
      intro i hi
      have hb := hel i hi
      rw [List.getElem?_eq_getElem (by omega), Option.bind_eq_some_iff] at hb
      obtain ⟨c, h1, h2⟩ := hb
      obtain ⟨y, h3, h4⟩ := he H enc w m c _ h2
      rw [hz] at h1
      exact ⟨y, c, h1, h3, h4⟩
    have all : ∀ k, k ≤ len → ∃ ys : List α, ys.length = k ∧ (∀ y ∈ ys, wf y) ∧ ∀ (j : Nat) (p : α), ys[j]? = some p → ∃ c : List Value, c.length = d.sz ∧ d.K w p c ∧ ∀ (i : Nat) (u : Value), c[i]? = some u → w.cell? (a.add (j * d.sz + i)) = some u := by
      intro k
      induction k with
      | zero => exact fun _ => ⟨[], rfl, fun y hy => by simp at hy, fun j p hp => by simp at hp⟩
      | succ k ih =>
        intro hk
        obtain ⟨ys, h1, h2, h3⟩ := ih (by omega)
        obtain ⟨y, c, h4, h5, h6⟩ := key k (by omega)
        refine ⟨ys ++ [y], by simp [h1], fun z hz' => ?_, fun j p hp => ?_⟩
        · rcases List.mem_append.1 hz' with hz' | hz'
          · exact h2 z hz'
          · rw [List.mem_singleton.1 hz']; exact h6
        · rcases Nat.lt_or_ge j ys.length with hj | hj
          · rw [List.getElem?_append_left hj] at hp
            exact h3 j p hp
          · rw [List.getElem?_append_right hj] at hp
            have hj0 : j = k := by
              have := (List.getElem?_eq_some_iff.1 hp).1
              simp at this
              omega
            subst hj0
            rw [h1, Nat.sub_self] at hp
            have hp' : y = p := by simpa using hp
            subst hp'
            obtain ⟨_, hcl, hcc⟩ := World.cells?_some h4
            refine ⟨c, hcl, h5, fun i u hu => ?_⟩
            have hi : i < d.sz := by have := (List.getElem?_eq_some_iff.1 hu).1; omega
            have := hcc i hi
            rw [Deep.add_add] at this
            rw [this]
            exact hu
    obtain ⟨ys, h1, h2, h3⟩ := all len (Nat.le_refl _)
    subst h1
    have hmax : ys.length ≤ maxLen := Nat.le_trans hl hm
    refine ⟨ys, ⟨some a, cap, rfl, hl, rfl, by unfold maxLen at hmax; omega, fun _ => ⟨a, rfl, h3⟩⟩, hmax, h2⟩
theorem take_cat (cs : List Value) (i j : Nat) : (cs.drop i).take j ++ cs.drop (i + j) = cs.drop i := by rw [← List.drop_drop]; exact List.take_append_drop _ _
theorem take_end (cs : List Value) (i j : Nat) (h : cs.length = i + j) : (cs.drop i).take j = cs.drop i := List.take_of_length_le (by rw [List.length_drop]; omega)

theorem op27 : Opens Try.prog 27 (Kd.int .i16) (fun x => (Lit.int .i16 x).wf = true) := opens_int Try.underlying27
theorem op22 : Opens Try.prog 22 (Kd.slice 27 (Kd.int .i16)) (fun x => x.length ≤ maxLen ∧ ∀ y_ ∈ x, (Lit.int .i16 y_).wf = true) := opens_slice Try.underlying22 (by kernel_rfl) op27
theorem op5 : Opens Try.prog 5 (Kd.int .u8) (fun x => (Lit.int .u8 x).wf = true) := opens_int Try.underlying5
theorem op4 : Opens Try.prog 4 Kd.bool (fun x => True) := opens_bool Try.underlying4
theorem op3 : Opens Try.prog 3 (Kd.int .i64) (fun x => (Lit.int .i64 x).wf = true) := opens_int Try.underlying3
theorem op9 : Opens Try.prog 9 Kd.string (fun x => x.size ≤ maxLen) := opens_string Try.underlying9
def wf32 (x : S32) : Prop := x.f0.size ≤ maxLen ∧ True
theorem op32 : Opens Try.prog 32 k32 wf32 := by
  intro H enc w n cs x h
  obtain ⟨xs, m, _, _, hl, hlen, hf⟩ := DataW.trod_struct Try.underlying32 h
  have hL : cs.length = 2 := hl.trans (by kernel_rfl)
  have e0 := hf 0 _ rfl
  rw [List.getElem?_eq_getElem (by rw [hlen]; decide)] at e0
  obtain ⟨y0, k0_, w0⟩ := op9 H enc w m _ _ e0
  replace k0_ : (Kd.string).K w y0 ((cs.drop 0).take 1) := k0_
  have e1 := hf 1 _ rfl
  rw [List.getElem?_eq_getElem (by rw [hlen]; decide)] at e1
  obtain ⟨y1, k1_, w1⟩ := op4 H enc w m _ _ e1
  replace k1_ : (Kd.bool).K w y1 ((cs.drop 1).take 1) := k1_
  refine ⟨⟨y0, y1⟩, ?_, ⟨w0, w1⟩⟩
  have z1 : (Kd.bool).K w y1 (cs.drop 1) := by rw [← take_end cs 1 1 (by omega)]; exact k1_
  have z0 : ((Kd.pair Kd.string Kd.bool)).K w (y0, y1) (cs.drop 0) := ⟨_, _, (take_cat cs 0 1).symm, k0_, z1⟩
  exact z0
def wf34 (x : S34) : Prop := True ∧ (Lit.int .i64 x.f1).wf = true ∧ (Lit.int .i64 x.f2).wf = true ∧ wf32 x.f3
theorem op34 : Opens Try.prog 34 k34 wf34 := by
  intro H enc w n cs x h
  obtain ⟨xs, m, _, _, hl, hlen, hf⟩ := DataW.trod_struct Try.underlying34 h
  have hL : cs.length = 5 := hl.trans (by kernel_rfl)
  have e0 := hf 0 _ rfl
  rw [List.getElem?_eq_getElem (by rw [hlen]; decide)] at e0
  obtain ⟨y0, k0_, w0⟩ := op4 H enc w m _ _ e0
  replace k0_ : (Kd.bool).K w y0 ((cs.drop 0).take 1) := k0_
  have e1 := hf 1 _ rfl
  rw [List.getElem?_eq_getElem (by rw [hlen]; decide)] at e1
  obtain ⟨y1, k1_, w1⟩ := op3 H enc w m _ _ e1
  replace k1_ : ((Kd.int .i64)).K w y1 ((cs.drop 1).take 1) := k1_
  have e2 := hf 2 _ rfl
  rw [List.getElem?_eq_getElem (by rw [hlen]; decide)] at e2
  obtain ⟨y2, k2_, w2⟩ := op3 H enc w m _ _ e2
  replace k2_ : ((Kd.int .i64)).K w y2 ((cs.drop 2).take 1) := k2_
  have e3 := hf 3 _ rfl
  rw [List.getElem?_eq_getElem (by rw [hlen]; decide)] at e3
  obtain ⟨y3, k3_, w3⟩ := op32 H enc w m _ _ e3
  replace k3_ : (k32).K w y3 ((cs.drop 3).take 2) := k3_
  refine ⟨⟨y0, y1, y2, y3⟩, ?_, ⟨w0, w1, w2, w3⟩⟩
  have z3 : (k32).K w y3 (cs.drop 3) := by rw [← take_end cs 3 2 (by omega)]; exact k3_
  have z2 : ((Kd.pair (Kd.int .i64) k32)).K w (y2, y3) (cs.drop 2) := ⟨_, _, (take_cat cs 2 1).symm, k2_, z3⟩
  have z1 : ((Kd.pair (Kd.int .i64) (Kd.pair (Kd.int .i64) k32))).K w (y1, (y2, y3)) (cs.drop 1) := ⟨_, _, (take_cat cs 1 1).symm, k1_, z2⟩
  have z0 : ((Kd.pair Kd.bool (Kd.pair (Kd.int .i64) (Kd.pair (Kd.int .i64) k32)))).K w (y0, (y1, (y2, y3))) (cs.drop 0) := ⟨_, _, (take_cat cs 0 1).symm, k0_, z1⟩
  exact z0
theorem op24 : Opens Try.prog 24 (Kd.slice 34 k34) (fun x => x.length ≤ maxLen ∧ ∀ y_ ∈ x, wf34 y_) := opens_slice Try.underlying24 (by kernel_rfl) op34
end Go.Proofs.Ytgffhdgfloimaaa.Open

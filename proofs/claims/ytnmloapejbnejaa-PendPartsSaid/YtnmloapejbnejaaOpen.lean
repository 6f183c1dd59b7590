/- What the reading of an argument says of its cells, type by type: whole numbers, bools, strings, slices, structs. Written by a program of this session (wip/mkrow.py). -/
import Derived.Test.YtnmloapejbnejaaP0
import Derived.ChangeArms
import Derived.Deep.Slices
import Derived.DataReads
import Derived.WideShapes
import Derived.OpenShut
namespace Go.Proofs.Ytnmloapejbnejaa.Open
open Go.RowKit Go.Proofs.YtnmloapejbnejaaW.PrintWords Go.Proofs.Ytnmloapejbnejaa.P Go.WideShapes
set_option linter.unusedVariables false
set_option linter.unusedSimpArgs false

/-- Whatever cells read as a value of type t, by what the reader asks of an argument, hold a value of the kind d, and of that wf is known. -/
def Opens {α : Type} (P : Program) (t : TypeId) (d : Kd α) (wf : α → Prop) : Prop :=
  ∀ (H : Type) (enc : TypeId × Value → H) (w : World) (n : Nat) (cs : List Value) (x : DataW H × List MemPlace), DataW.trod enc P w 0 (fun _ => true) true n t cs = some x → ∃ y : α, d.K w y cs ∧ wf y
theorem opens_int {P : Program} {t : TypeId} {k : IntKind} (ht : P.underlying t = some (.int k)) : Opens P t (Kd.int k) (fun n => (Lit.int k n).wf = true) := by
  intro H enc w n cs x h
  obtain ⟨m, rfl, _, hw⟩ := DataW.trod_int ht h
  exact ⟨m, rfl, hw⟩
theorem opens_bool {P : Program} {t : TypeId} (ht : P.underlying t = some .bool) : Opens P t Kd.bool (fun _ => True) := by
  intro H enc w n cs x h
  obtain ⟨b, rfl, _⟩ := DataW.trod_bool ht h
  exact ⟨b, rfl, trivial⟩
theorem opens_string {P : Program} {t : TypeId} (ht : P.underlying t = some .string) : Opens P t Kd.string (fun s => s.size ≤ maxLen) := by
  intro H enc w n cs x h
  obtain ⟨s, rfl, _, hs⟩ := DataW.trod_string ht h
  exact ⟨s, rfl, hs⟩
theorem opens_slice {α : Type} {P : Program} {t e : TypeId} {d : Kd α} {wf : α → Prop} (ht : P.underlying t = some (.slice e)) (hz : P.cellsOf e = d.sz) (he : Opens P e d wf) :
    Opens P t (Kd.slice e d) (fun l => l.length ≤ maxLen ∧ ∀ y ∈ l, wf y) := by
  intro H enc w n cs x h
  rcases DataW.trod_slice ht h with ⟨rfl, _⟩ | ⟨a, len, cap, elems, rest, m, _, rfl, _, _, hl, hm, hlen, hel, _, _⟩
  · exact ⟨[], ⟨none, 0, rfl, Nat.le_refl _, ⟨rfl, by simp, fun h0 => absurd h0 (by simp)⟩⟩, by simp, fun y hy => by simp at hy⟩
  · have key : ∀ i, i < len → ∃ y : α, ∃ c, w.cells? 0 (a.add (i * d.sz)) d.sz = some c ∧ d.K w y c ∧ wf y := by
      intro i hi
      have hb := hel i hi
      rw [List.getElem?_eq_getElem (by omega), Option.bind_eq_some_iff] at hb
      obtain ⟨c, h1, h2⟩ := hb
      obtain ⟨y, h3, h4⟩ := he H enc w m c _ h2
      rw [hz] at h1
      exact ⟨y, c, h1, h3, h4⟩
    have all : ∀ k, k ≤ len → ∃ ys : List α, ys.length = k ∧ (∀ y ∈ ys, wf y) ∧ ∀ (j : Nat) (p : α), ys[j]? = some p → ∃ c : List Value, c.length = d.sz ∧ d.K w p c ∧ ∀ (i : Nat) (u : Value), c[i]? = some u → w.cell? (a.add (j * d.sz + i)) = some u := by
      intro k
      induction k with
      | zero => exact fun _ => ⟨[], rfl, fun y hy => by simp at hy, fun j p hp => by simp at hp⟩
      | succ k ih =>
        intro hk
        obtain ⟨ys, h1, h2, h3⟩ := ih (by omega)
        obtain ⟨y, c, h4, h5, h6⟩ := key k (by omega)
        refine ⟨ys ++ [y], by simp [h1], fun z hz' => ?_, fun j p hp => ?_⟩
        · rcases List.mem_append.1 hz' with hz' | hz'
          · exact h2 z hz'
          · rw [List.mem_singleton.1 hz']; exact h6
        · rcases Nat.lt_or_ge j ys.length with hj | hj
          · rw [List.getElem?_append_left hj] at hp
            exact h3 j p hp
          · rw [List.getElem?_append_right hj] at hp
            have hj0 : j = k := by
              have := (List.getElem?_eq_some_iff.1 hp).1
              simp at this
              omega
            subst hj0
            rw [h1, Nat.sub_self] at hp
            have hp' : y = p := by simpa using hp
            subst hp'
            obtain ⟨_, hcl, hcc⟩ := World.cells?_some h4
            refine ⟨c, hcl, h5, fun i u hu => ?_⟩
            have hi : i < d.sz := by have := (List.getElem?_eq_some_iff.1 hu).1; omega
            have := hcc i hi
            rw [Deep.add_add] at this
            rw [this]
            exact hu
    obtain ⟨ys, h1, h2, h3⟩ := all len (Nat.le_refl _)
    subst h1
    have hmax : ys.length ≤ maxLen := Nat.le_trans hl hm
    refine ⟨ys, ⟨some a, cap, rfl, hl, rfl, by unfold maxLen at hmax; omega, fun _ => ⟨a, rfl, h3⟩⟩, hmax, h2⟩
theorem take_cat (cs : List Value) (i j : Nat) : (cs.drop i).take j ++ cs.drop (i + j) = cs.drop i := by rw [← List.drop_drop]; exact List.take_append_drop _ _
theorem take_end (cs : List Value) (i j : Nat) (h : cs.length = i + j) : (cs.drop i).take j = cs.drop i := List.take_of_length_le (by rw [List.length_drop]; omega)

theorem op3 : Opens Try.prog 3 (Kd.int .i64) (fun x => (Lit.int .i64 x).wf = true) := opens_int Try.underlying3
theorem op28 : Opens Try.prog 28 (Kd.slice 3 (Kd.int .i64)) (fun x => x.length ≤ maxLen ∧ ∀ y_ ∈ x, (Lit.int .i64 y_).wf = true) := opens_slice Try.underlying28 (by kernel_rfl) op3
def wf30 (x : S30) : Prop := (Lit.int .i64 x.f0).wf = true ∧ (Lit.int .i64 x.f1).wf = true ∧ (Lit.int .i64 x.f2).wf = true ∧ (Lit.int .i64 x.f3).wf = true ∧ (Lit.int .i64 x.f4).wf = true ∧ (x.f5.length ≤ maxLen ∧ ∀ y_ ∈ x.f5, (Lit.int .i64 y_).wf = true)
theorem op30 : Opens Try.prog 30 k30 wf30 := by
  intro H enc w n cs x h
  obtain ⟨xs, m, _, _, hl, hlen, hf⟩ := DataW.trod_struct Try.underlying30 h
  have hL : cs.length = 6 := hl.trans (by kernel_rfl)
  have e0 := hf 0 _ rfl
  rw [List.getElem?_eq_getElem (by rw [hlen]; decide)] at e0
  obtain ⟨y0, k0_, w0⟩ := op3 H enc w m _ _ e0
  replace k0_ : ((Kd.int .i64)).K w y0 ((cs.drop 0).take 1) := k0_
  have e1 := hf 1 _ rfl
  rw [List.getElem?_eq_getElem (by rw [hlen]; decide)] at e1
  obtain ⟨y1, k1_, w1⟩ := op3 H enc w m _ _ e1
  replace k1_ : ((Kd.int .i64)).K w y1 ((cs.drop 1).take 1) := k1_
  have e2 := hf 2 _ rfl
  rw [List.getElem?_eq_getElem (by rw [hlen]; decide)] at e2
  obtain ⟨y2, k2_, w2⟩ := op3 H enc w m _ _ e2
  replace k2_ : ((Kd.int .i64)).K w y2 ((cs.drop 2).take 1) := k2_
  have e3 := hf 3 _ rfl
  rw [List.getElem?_eq_getElem (by rw [hlen]; decide)] at e3
  obtain ⟨y3, k3_, w3⟩ := op3 H enc w m _ _ e3
  replace k3_ : ((Kd.int .i64)).K w y3 ((cs.drop 3).take 1) := k3_
  have e4 := hf 4 _ rfl
  rw [List.getElem?_eq_getElem (by rw [hlen]; decide)] at e4
  obtain ⟨y4, k4_, w4⟩ := op3 H enc w m _ _ e4
  replace k4_ : ((Kd.int .i64)).K w y4 ((cs.drop 4).take 1) := k4_
  have e5 := hf 5 _ rfl
  rw [List.getElem?_eq_getElem (by rw [hlen]; decide)] at e5
  obtain ⟨y5, k5_, w5⟩ := op28 H enc w m _ _ e5
  replace k5_ : ((Kd.slice 3 (Kd.int .i64))).K w y5 ((cs.drop 5).take 1) := k5_
  refine ⟨⟨y0, y1, y2, y3, y4, y5⟩, ?_, ⟨w0, w1, w2, w3, w4, w5⟩⟩
  have z5 : ((Kd.slice 3 (Kd.int .i64))).K w y5 (cs.drop 5) := by rw [← take_end cs 5 1 (by omega)]; exact k5_
  have z4 : ((Kd.pair (Kd.int .i64) (Kd.slice 3 (Kd.int .i64)))).K w (y4, y5) (cs.drop 4) := ⟨_, _, (take_cat cs 4 1).symm, k4_, z5⟩
  have z3 : ((Kd.pair (Kd.int .i64) (Kd.pair (Kd.int .i64) (Kd.slice 3 (Kd.int .i64))))).K w (y3, (y4, y5)) (cs.drop 3) := ⟨_, _, (take_cat cs 3 1).symm, k3_, z4⟩
  have z2 : ((Kd.pair (Kd.int .i64) (Kd.pair (Kd.int .i64) (Kd.pair (Kd.int .i64) (Kd.slice 3 (Kd.int .i64)))))).K w (y2, (y3, (y4, y5))) (cs.drop 2) := ⟨_, _, (take_cat cs 2 1).symm, k2_, z3⟩
  have z1 : ((Kd.pair (Kd.int .i64) (Kd.pair (Kd.int .i64) (Kd.pair (Kd.int .i64) (Kd.pair (Kd.int .i64) (Kd.slice 3 (Kd.int .i64))))))).K w (y1, (y2, (y3, (y4, y5)))) (cs.drop 1) := ⟨_, _, (take_cat cs 1 1).symm, k1_, z2⟩
  have z0 : ((Kd.pair (Kd.int .i64) (Kd.pair (Kd.int .i64) (Kd.pair (Kd.int .i64) (Kd.pair (Kd.int .i64) (Kd.pair (Kd.int .i64) (Kd.slice 3 (Kd.int .i64)))))))).K w (y0, (y1, (y2, (y3, (y4, y5))))) (cs.drop 0) := ⟨_, _, (take_cat cs 0 1).symm, k0_, z1⟩
  exact z0
def wf32 (x : S32) : Prop := (Lit.int .i64 x.f0).wf = true ∧ (Lit.int .i64 x.f1).wf = true ∧ (Lit.int .i64 x.f2).wf = true ∧ (Lit.int .i64 x.f3).wf = true ∧ (Lit.int .i64 x.f4).wf = true ∧ wf30 x.f5 ∧ (Lit.int .i64 x.f6).wf = true
theorem op32 : Opens Try.prog 32 k32 wf32 := by
  intro H enc w n cs x h
  obtain ⟨xs, m, _, _, hl, hlen, hf⟩ := DataW.trod_struct Try.underlying32 h
  have hL : cs.length = 12 := hl.trans (by kernel_rfl)
  have e0 := hf 0 _ rfl
  rw [List.getElem?_eq_getElem (by rw [hlen]; decide)] at e0
  obtain ⟨y0, k0_, w0⟩ := op3 H enc w m _ _ e0
  replace k0_ : ((Kd.int .i64)).K w y0 ((cs.drop 0).take 1) := k0_
  have e1 := hf 1 _ rfl
  rw [List.getElem?_eq_getElem (by rw [hlen]; decide)] at e1
  obtain ⟨y1, k1_, w1⟩ := op3 H enc w m _ _ e1
  replace k1_ : ((Kd.int .i64)).K w y1 ((cs.drop 1).take 1) := k1_
  have e2 := hf 2 _ rfl
  rw [List.getElem?_eq_getElem (by rw [hlen]; decide)] at e2
  obtain ⟨y2, k2_, w2⟩ := op3 H enc w m _ _ e2
  replace k2_ : ((Kd.int .i64)).K w y2 ((cs.drop 2).take 1) := k2_
  have e3 := hf 3 _ rfl
  rw [List.getElem?_eq_getElem (by rw [hlen]; decide)] at e3
  obtain ⟨y3, k3_, w3⟩ := op3 H enc w m _ _ e3
  replace k3_ : ((Kd.int .i64)).K w y3 ((cs.drop 3).take 1) := k3_
  have e4 := hf 4 _ rfl
  rw [List.getElem?_eq_getElem (by rw [hlen]; decide)] at e4
  obtain ⟨y4, k4_, w4⟩ := op3 H enc w m _ _ e4
  replace k4_ : ((Kd.int .i64)).K w y4 ((cs.drop 4).take 1) := k4_
  have e5 := hf 5 _ rfl
  rw [List.getElem?_eq_getElem (by rw [hlen]; decide)] at e5
  obtain ⟨y5, k5_, w5⟩ := op30 H enc w m _ _ e5
  replace k5_ : (k30).K w y5 ((cs.drop 5).take 6) := k5_
  have e6 := hf 6 _ rfl
  rw [List.getElem?_eq_getElem (by rw [hlen]; decide)] at e6
  obtain ⟨y6, k6_, w6⟩ := op3 H enc w m _ _ e6
  replace k6_ : ((Kd.int .i64)).K w y6 ((cs.drop 11).take 1) := k6_
  refine ⟨⟨y0, y1, y2, y3, y4, y5, y6⟩, ?_, ⟨w0, w1, w2, w3, w4, w5, w6⟩⟩
  have z6 : ((Kd.int .i64)).K w y6 (cs.drop 11) := by rw [← take_end cs 11 1 (by omega)]; exact k6_
  have z5 : ((Kd.pair k30 (Kd.int .i64))).K w (y5, y6) (cs.drop 5) := ⟨_, _, (take_cat cs 5 6).symm, k5_, z6⟩
  have z4 : ((Kd.pair (Kd.int .i64) (Kd.pair k30 (Kd.int .i64)))).K w (y4, (y5, y6)) (cs.drop 4) := ⟨_, _, (take_cat cs 4 1).symm, k4_, z5⟩
  have z3 : ((Kd.pair (Kd.int .i64) (Kd.pair (Kd.int .i64) (Kd.pair k30 (Kd.int .i64))))).K w (y3, (y4, (y5, y6))) (cs.drop 3) := ⟨_, _, (take_cat cs 3 1).symm, k3_, z4⟩
  have z2 : ((Kd.pair (Kd.int .i64) (Kd.pair (Kd.int .i64) (Kd.pair (Kd.int .i64) (Kd.pair k30 (Kd.int .i64)))))).K w (y2, (y3, (y4, (y5, y6)))) (cs.drop 2) := ⟨_, _, (take_cat cs 2 1).symm, k2_, z3⟩
  have z1 : ((Kd.pair (Kd.int .i64) (Kd.pair (Kd.int .i64) (Kd.pair (Kd.int .i64) (Kd.pair (Kd.int .i64) (Kd.pair k30 (Kd.int .i64))))))).K w (y1, (y2, (y3, (y4, (y5, y6))))) (cs.drop 1) := ⟨_, _, (take_cat cs 1 1).symm, k1_, z2⟩
  have z0 : ((Kd.pair (Kd.int .i64) (Kd.pair (Kd.int .i64) (Kd.pair (Kd.int .i64) (Kd.pair (Kd.int .i64) (Kd.pair (Kd.int .i64) (Kd.pair k30 (Kd.int .i64)))))))).K w (y0, (y1, (y2, (y3, (y4, (y5, y6)))))) (cs.drop 0) := ⟨_, _, (take_cat cs 0 1).symm, k0_, z1⟩
  exact z0
theorem op22 : Opens Try.prog 22 (Kd.slice 32 k32) (fun x => x.length ≤ maxLen ∧ ∀ y_ ∈ x, wf32 y_) := opens_slice Try.underlying22 (by kernel_rfl) op32
theorem op37 : Opens Try.prog 37 (Kd.int .i16) (fun x => (Lit.int .i16 x).wf = true) := opens_int Try.underlying37
theorem op36 : Opens Try.prog 36 (Kd.slice 37 (Kd.int .i16)) (fun x => x.length ≤ maxLen ∧ ∀ y_ ∈ x, (Lit.int .i16 y_).wf = true) := opens_slice Try.underlying36 (by kernel_rfl) op37
theorem op5 : Opens Try.prog 5 (Kd.int .u8) (fun x => (Lit.int .u8 x).wf = true) := opens_int Try.underlying5
def wf42 (x : S42) : Prop := (Lit.int .i64 x.f0).wf = true ∧ (Lit.int .i64 x.f1).wf = true
theorem op42 : Opens Try.prog 42 k42 wf42 := by
  intro H enc w n cs x h
  obtain ⟨xs, m, _, _, hl, hlen, hf⟩ := DataW.trod_array Try.underlying42 h
  have hL : cs.length = 2 := hl.trans (by kernel_rfl)
  have e0 := hf 0 (by decide)
  rw [List.getElem?_eq_getElem (by rw [hlen]; decide)] at e0
  obtain ⟨y0, k0_, w0⟩ := op3 H enc w m _ _ e0
  replace k0_ : ((Kd.int .i64)).K w y0 ((cs.drop 0).take 1) := k0_
  have e1 := hf 1 (by decide)
  rw [List.getElem?_eq_getElem (by rw [hlen]; decide)] at e1
  obtain ⟨y1, k1_, w1⟩ := op3 H enc w m _ _ e1
  replace k1_ : ((Kd.int .i64)).K w y1 ((cs.drop 1).take 1) := k1_
  refine ⟨⟨y0, y1⟩, ?_, ⟨w0, w1⟩⟩
  have z1 : ((Kd.int .i64)).K w y1 (cs.drop 1) := by rw [← take_end cs 1 1 (by omega)]; exact k1_
  have z0 : ((Kd.pair (Kd.int .i64) (Kd.int .i64))).K w (y0, y1) (cs.drop 0) := ⟨_, _, (take_cat cs 0 1).symm, k0_, z1⟩
  exact z0
end Go.Proofs.Ytnmloapejbnejaa.Open

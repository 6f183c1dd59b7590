/- trace's Bytes, Closes, and the bytes of Records: what they compute, and that they do. -/
import Derived.Test.YtfapfpkijeaapaaJoin27
namespace Go.Proofs.Ytfapfpkijeaapaa.P
open Go.RowKit Go.Shelf Go.Proofs.YtfapfpkijeaapaaW.PrintWords
attribute [local go_sem] Oper.semAt_some
set_option linter.unusedVariables false
set_option linter.unusedSimpArgs false
/-- Few outputs, of few bytes. -/
def okO (l : List S40) : Bool := decide (l.length ≤ 1000000) && l.all fun x => decide (x.f2.size ≤ 1000000)
theorem okO_of {l : List S40} (h : okO l = true) : l.length ≤ 1000000 ∧ ∀ x ∈ l, x.f2.size ≤ 1000000 := by
  unfold okO at h
  simp only [Bool.and_eq_true, decide_eq_true_eq, List.all_eq_true] at h
  exact h
theorem cell_top (w : World) (v : Value) (t : TypeId) : (w.alloc (Obj.cells #[v] t)).cell? ⟨w.heap.size, 0, none⟩ = some v := by
  rw [Lib.cell_of_heap (World.alloc_heap_new w _)]; rfl
def trace_Bytes.f (l : List S40) (a1 a2 : Int) : Option ByteArray := if okO l = true then some ⟨(catO (l.filter fun o => o.f0 == a1 && o.f1 == a2)).toArray⟩ else none
set_option maxRecDepth 100000 in
set_option maxHeartbeats 4000000 in
theorem trace_Bytes.calls (A0 : Option Addr) (c0 : Nat) (l0 : List (S40)) (a1 : Int) (a2 : Int) (r : ByteArray) (w : World) (hr0 : Kd.C k40 w A0 l0.length l0) (hc0 : l0.length ≤ c0) (h : trace_Bytes.f l0 a1 a2 = some r) :
    Calls Try.prog 9 #[.slice A0 l0.length c0, .int .i64 a1, .int .i64 a2] w fun e w' => e = .returned (.string r) ∧ Below w.heap.size w w' := by
  unfold trace_Bytes.f at h
  by_cases hok : okO l0 = true
  · rw [if_pos hok] at h
    obtain rfl := Option.some.inj h
    obtain ⟨hlen, hall⟩ := okO_of hok
    refine (callsIn_wide (n := 10)).1 ?_
    refine callsIn_of_wp Try.func9 rfl trivial ?_ rfl
    simp only [Try.ntmps9, List.size_toArray, List.length_cons, List.length_nil, Nat.reduceAdd, Nat.reduceSub, Array.replicate_succ, Array.replicate_zero, List.push_toArray, List.append_toArray, List.nil_append, List.cons_append]
    gi_wp2
    refine ⟨trivial, (those_in Fence.wide 9 trivial rfl A0 l0.length c0 _ 24 _ rfl _).mono ?_⟩
    rintro e w4 ⟨rfl, he⟩
    obtain ⟨w2, hw2⟩ : ∃ w2, (w.alloc (Obj.cells #[Value.int IntKind.i64 a1] 3)).alloc (Obj.cells #[Value.int IntKind.i64 a2] 3) = w2 := ⟨_, rfl⟩
    rw [hw2] at he ⊢
    have s2 : w2.heap.size = w.heap.size + 2 := by rw [← hw2]; simp
    have ca : w2.cell? ⟨w.heap.size, 0, none⟩ = some (.int .i64 a1) := by rw [← hw2]; exact cell_al _ (cell_top w _ _)
    have cb : w2.cell? ⟨w.heap.size + 1, 0, none⟩ = some (.int .i64 a2) := by
      rw [← hw2]
      have := cell_top (w.alloc (Obj.cells #[Value.int IntKind.i64 a1] 3)) (.int .i64 a2) 3
      rwa [World.size_alloc] at this
    have b2 : Below w.heap.size w w2 := by rw [← hw2]; exact ((Below.refl _ w).alloc (Nat.le_refl _) _).alloc (by simp) _
    clear hw2
    have s4 : w4.heap.size = w2.heap.size + 2 := by rw [he]; simp
    have cl : w4.cell? ⟨w2.heap.size, 0, none⟩ = some (.slice A0 l0.length c0) := by rw [he]; exact cell_al _ (cell_top w2 _ _)
    have cf : w4.cell? ⟨w2.heap.size + 1, 0, none⟩ = some (.func (.func 24) #[] #[.pointer (some ⟨w.heap.size, 0, none⟩), .pointer (some ⟨w.heap.size + 1, 0, none⟩)]) := by
      rw [he]
      have := cell_top (w2.alloc (Obj.cells #[Value.slice A0 l0.length c0] 22)) (.func (.func 24) #[] #[.pointer (some ⟨w.heap.size, 0, none⟩), .pointer (some ⟨w.heap.size + 1, 0, none⟩)]) 54
      rwa [World.size_alloc] at this
    have b4 : Below w.heap.size w w4 := by rw [he]; exact (b2.alloc (by omega) _).alloc (by simp; omega) _
    have ca4 : w4.cell? ⟨w.heap.size, 0, none⟩ = some (.int .i64 a1) := by rw [he]; exact cell_al _ (cell_al _ ca)
    have cb4 : w4.cell? ⟨w.heap.size + 1, 0, none⟩ = some (.int .i64 a2) := by rw [he]; exact cell_al _ (cell_al _ cb)
    clear he
    have hseq := those_stops Fence.wide 8 trivial rfl (by omega) w2.heap.size (w2.heap.size + 1) (Below w4.heap.size) belowK_t A0 c0 l0 hall hc0 24 #[.pointer (some ⟨w.heap.size, 0, none⟩), .pointer (some ⟨w.heap.size + 1, 0, none⟩)] (fun o => o.f0 == a1 && o.f1 == a2) trivial (enters_of Try.func24 (by kernel_rfl) rfl) w4 (fun _ h => h) (fun W1 ob h => h.alloc h.size ob) (fun W W1 ob hW h => h.alloc (Nat.le_trans hW.size h.size) ob) (fun W => Below.refl _ W) (fun W1 h => (h.cell (p := ⟨w2.heap.size, 0, none⟩) (by show w2.heap.size < _; omega)).trans cl) (fun W1 h => (h.cell (p := ⟨w2.heap.size + 1, 0, none⟩) (by show w2.heap.size + 1 < _; omega)).trans cf)
      (fun W1 h1 => Kd.C_below (Kd.C_below hr0 b4) h1)
      (fun o W1 h1 => pred24 Fence.wide 7 trivial rfl o w.heap.size (w.heap.size + 1) a1 a2 W1 ((h1.cell (p := ⟨w.heap.size, 0, none⟩) (by show w.heap.size < _; omega)).trans ca4) ((h1.cell (p := ⟨w.heap.size + 1, 0, none⟩) (by show w.heap.size + 1 < _; omega)).trans cb4))
    have hj := join_in 9 (by omega) w2.heap.size (w2.heap.size + 1) w4.heap.size l0.length hlen _ w4 (Nat.le_refl _) hseq
    rw [s2] at hj
    gi_wp2
    refine ⟨trivial, hj.mono ?_⟩
    rintro e w5 ⟨rfl, h5⟩
    gi_wp2
    go_ret
    exact ⟨rfl, below_step b4 h5⟩
  · rw [if_neg hok] at h
    cases h
/-- Behind those: the boxes, and the iterator. -/
theorem those_then (w2 w4 : World) (A0 : Option Addr) (len c0 : Nat) (fv : Value) (h : w4 = (w2.alloc (.cells #[.slice A0 len c0] 22)).alloc (.cells #[fv] 54)) :
    w4.heap.size = w2.heap.size + 2 ∧ w4.cell? ⟨w2.heap.size, 0, none⟩ = some (.slice A0 len c0) ∧ w4.cell? ⟨w2.heap.size + 1, 0, none⟩ = some fv ∧ Below w2.heap.size w2 w4 ∧ ∀ b v, w2.cell? ⟨b, 0, none⟩ = some v → w4.cell? ⟨b, 0, none⟩ = some v := by
  subst h
  refine ⟨by simp, cell_al _ (cell_top w2 _ _), ?_, ((Below.refl _ w2).alloc (Nat.le_refl _) _).alloc (by simp) _, fun b v hv => cell_al _ (cell_al _ hv)⟩
  have := cell_top (w2.alloc (Obj.cells #[Value.slice A0 len c0] 22)) fv 54
  rwa [World.size_alloc] at this
/-- What lay below n₀ lies as it lay, but for block x. -/
def Kx (m x n₀ : Nat) (A B : World) : Prop := Below m A B ∧ ∀ k, k < n₀ → k ≠ x → k < A.heap.size → B.heap[k]? = A.heap[k]?
theorem Kx.t {m x n₀ : Nat} {A B C : World} (h : Kx m x n₀ A B) (g : Kx m x n₀ B C) : Kx m x n₀ A C :=
  ⟨h.1.trans g.1, fun k h1 h2 h3 => (g.2 k h1 h2 (Nat.lt_of_lt_of_le h3 h.1.size)).trans (h.2 k h1 h2 h3)⟩
theorem Kx.refl (m x n₀ : Nat) (A : World) : Kx m x n₀ A A := ⟨Below.refl _ _, fun _ _ _ _ => rfl⟩
theorem Kx.alloc {m x n₀ : Nat} {A B : World} (h : Kx m x n₀ A B) (hm : m ≤ B.heap.size) (ob : Obj) : Kx m x n₀ A (B.alloc ob) :=
  ⟨h.1.alloc hm ob, fun k h1 h2 h3 => (Below.heap_alloc B ob k (Nat.lt_of_lt_of_le h3 h.1.size)).trans (h.2 k h1 h2 h3)⟩
theorem Kx.cell {m x n₀ : Nat} {A B : World} (h : Kx m x n₀ A B) {b : Nat} {v : Value} (hb : b < n₀) (hx : b ≠ x) (hc : A.cell? ⟨b, 0, none⟩ = some v) : B.cell? ⟨b, 0, none⟩ = some v :=
  (World.cell?_of_block (a := ⟨b, 0, none⟩) (h.2 b hb hx (World.block_lt_of_cell? _ _ hc))).trans hc
def trace_Closes.f (l : List S40) (a1 : Int) : Option Int := if okO l = true then some ((l.filter fun o => o.f0 == 4 || o.f0 == 3 && o.f1 == a1).length : Int) else none
set_option maxRecDepth 100000 in
set_option maxHeartbeats 4000000 in
theorem trace_Closes.calls (A0 : Option Addr) (c0 : Nat) (l0 : List (S40)) (a1 : Int) (r : Int) (w : World) (hr0 : Kd.C k40 w A0 l0.length l0) (hc0 : l0.length ≤ c0) (h : trace_Closes.f l0 a1 = some r) :
    Calls Try.prog 10 #[.slice A0 l0.length c0, .int .i64 a1] w fun e w' => e = .returned (.int .i64 r) ∧ Below w.heap.size w w' := by
  unfold trace_Closes.f at h
  by_cases hok : okO l0 = true
  · rw [if_pos hok] at h
    obtain rfl := Option.some.inj h
    obtain ⟨hlen, hall⟩ := okO_of hok
    refine (callsIn_wide (n := 10)).1 ?_
    refine callsIn_of_wp_marks Try.func10 rfl trivial ?_ rfl
    simp only [Try.ntmps10, List.size_toArray, List.length_cons, List.length_nil, Nat.reduceAdd, Nat.reduceSub, Array.replicate_succ, Array.replicate_zero, List.push_toArray, List.append_toArray, List.nil_append, List.cons_append]
    gi_wp2
    refine ⟨trivial, (those_in Fence.wide 9 trivial rfl A0 l0.length c0 _ 25 _ rfl _).mono ?_⟩
    rintro e w4 ⟨rfl, he⟩
    obtain ⟨w2, hw2⟩ : ∃ w2, (w.alloc (Obj.cells #[Value.int IntKind.i64 a1] 3)).alloc (Obj.cells #[Value.int IntKind.i64 0] 3) = w2 := ⟨_, rfl⟩
    rw [hw2] at he ⊢
    have s2 : w2.heap.size = w.heap.size + 2 := by rw [← hw2]; simp
    have ca : w2.cell? ⟨w.heap.size, 0, none⟩ = some (.int .i64 a1) := by rw [← hw2]; exact cell_al _ (cell_top w _ _)
    have hb2 : w2.heap[w.heap.size + 1]? = some (.cells #[.int .i64 0] 3 (0, 0)) := by
      rw [← hw2]
      have := World.alloc_heap_new (w.alloc (Obj.cells #[Value.int IntKind.i64 a1] 3)) (Obj.cells #[Value.int IntKind.i64 0] 3)
      rwa [World.size_alloc] at this
    have b2 : Below w.heap.size w w2 := by rw [← hw2]; exact ((Below.refl _ w).alloc (Nat.le_refl _) _).alloc (by simp) _
    clear hw2
    obtain ⟨s4, cl, cf, b24, hcl⟩ := those_then w2 w4 A0 l0.length c0 _ he
    have b4 : Below w.heap.size w w4 := b2.trans (b24.mono (by omega))
    have ca4 := hcl _ _ ca
    have hb4 : w4.heap[w.heap.size + 1]? = some (.cells #[.int .i64 0] 3 (0, 0)) := (b24.block _ (by omega)).trans hb2
    have cn4 : w4.cell? ⟨w.heap.size + 1, 0, none⟩ = some (.int .i64 0) := by rw [Lib.cell_of_heap hb4]; rfl
    have fn4 : w4.frozen? ⟨w.heap.size + 1, 0, none⟩ = false := Lib.frozen_of_heap hb4 0
    clear he hcl
    have hseq := those_stops Fence.wide 9 trivial rfl (by omega) w2.heap.size (w2.heap.size + 1) (Kx w.heap.size (w.heap.size + 1) w4.heap.size) Kx.t A0 c0 l0 hall hc0 25 #[.pointer (some ⟨w.heap.size, 0, none⟩)] (fun o => o.f0 == 4 || o.f0 == 3 && o.f1 == a1) trivial (enters_of Try.func25 (by kernel_rfl) rfl) w4
      (fun W h => ⟨h.mono b4.size, fun k h1 _ h3 => h.block k h3⟩) (fun W1 ob h => h.alloc (Nat.le_trans b4.size h.1.size) ob) (fun W W1 ob hW h => h.alloc (Nat.le_trans b4.size (Nat.le_trans hW.size h.1.size)) ob) (fun W => Kx.refl _ _ _ W)
      (fun W1 h => h.cell (by omega) (by omega) cl) (fun W1 h => h.cell (by omega) (by omega) cf)
      (fun W1 h1 => Kd.C_below hr0 (b4.trans h1.1))
      (fun o W1 h1 => pred25 Fence.wide 8 trivial rfl o w.heap.size a1 W1 (h1.cell (by omega) (by omega) ca4))
    rw [s2] at hseq
    gi_wp2
    refine wpIn_rangeFunc_ownF rfl (by omega) (gf := 36) (lb := #[.pointer (some ⟨w.heap.size + 2, 0, none⟩), .pointer (some ⟨w.heap.size + 2 + 1, 0, none⟩)]) rfl trivial (enters_of Try.func36 (by kernel_rfl) rfl) hseq Kx.t
      (fun W l o o' hl ho h1 h2 => ⟨belowK_b (w := w4) b4.size W l o o' hl ho h1 h2, fun k g1 _ _ => World.putObj_heap_other (by omega)⟩) (Below.refl _ _) (fun _ => rfl)
      (fun pre W => (W.cell? ⟨w.heap.size + 1, 0, none⟩ = some (.int .i64 (pre.length : Int)) ∧ W.frozen? ⟨w.heap.size + 1, 0, none⟩ = false) ∧ Below w.heap.size w W)
      (fun _ _ _ => False)
      (OwnFrom.and (Own.from (I := fun (pre : List Sm) W => W.cell? ⟨w.heap.size + 1, 0, none⟩ = some (.int .i64 (pre.length : Int)) ∧ W.frozen? ⟨w.heap.size + 1, 0, none⟩ = false) (fun s A B row hs hg hr => ⟨Go.cell_kept hs.1 hg hr, (Go.frozen_kept hs.1 hg hr).trans hs.2⟩) _) (ownFrom_below (Nat.le_refl _) (by omega)))
      (fun _ _ _ _ _ hs _ _ => hs)
      ⟨⟨cn4, fn4⟩, b4⟩
      (fun x => { tmps := #[.slice A0 l0.length c0, .int .i64 a1, undef, .pointer (some ⟨w.heap.size, 0, none⟩), .int .i64 0, .pointer (some ⟨w.heap.size + 1, 0, none⟩), .slice A0 l0.length c0, .func (.func 25) #[] #[.pointer (some ⟨w.heap.size, 0, none⟩)], .func (.func 36) #[] #[.pointer (some ⟨w.heap.size + 2, 0, none⟩), .pointer (some ⟨w.heap.size + 2 + 1, 0, none⟩)], .agg #[.int .i64 x.1.f0, .int .i64 x.1.f1, .string x.1.f2], undef, undef, undef], defers := [] })
      ?assign ?body ?done ?stop
    case assign =>
      intro l x W K hK
      gi_wp2
      simpa using hK
    case body =>
      rintro l pre x W ⟨⟨hc, hf⟩, hb⟩ hlt
      have hw : wrap64 ((pre.length : Int) + 1) = ((pre.length + 1 : Nat) : Int) := by unfold wrap64; omega
      gi_wp2
      refine ⟨KeepsOthers.setCell _ _ _, ⟨(Below.refl w.heap.size W).setCell (p := ⟨w.heap.size + 1, 0, none⟩) (Nat.le_succ _) _, fun k _ h2 _ => Below.heap_setCell _ _ _ _ h2⟩, ⟨?_, ?_⟩, hb.setCell (p := ⟨w.heap.size + 1, 0, none⟩) (Nat.le_succ _) _⟩
      · rw [List.length_append]
        exact World.cell?_setCell_same' _ _ _ (by rw [hc]; rfl)
      · rw [World.frozen?_setCell]; exact hf
    case done =>
      rintro D ys W hD hys ⟨⟨hc, hf⟩, hb⟩ hK
      gi_wp2
      refine ⟨by simp, .inl ⟨_, _, rfl, run_takeDeferred hK, ?_⟩⟩
      refine ⟨_, results_tmp rfl _ _ _, ?_, ?_⟩
      · rw [← hys, List.length_map]; rfl
      · exact hb.trans (belowK_b (w := w) (Nat.le_refl _) W D _ _ (by omega) hK rfl rfl)
    case stop =>
      rintro D c pre W hD _ h _
      exact h.elim
  · rw [if_neg hok] at h
    cases h
end Go.Proofs.Ytfapfpkijeaapaa.P

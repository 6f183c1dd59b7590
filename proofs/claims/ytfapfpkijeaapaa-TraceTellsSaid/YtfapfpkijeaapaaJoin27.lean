/- trace's join: the bytes of what an iterator gives, one behind the other. -/
import Derived.Test.YtfapfpkijeaapaaIter27
namespace Go.Proofs.Ytfapfpkijeaapaa.P
open Go.RowKit Go.Shelf Go.Proofs.YtfapfpkijeaapaaW.PrintWords
attribute [local go_sem] Oper.semAt_some
set_option linter.unusedVariables false
set_option linter.unusedSimpArgs false
/-- The bytes of outputs. -/
def catO (l : List S40) : List UInt8 := l.flatMap fun x => x.f2.data.toList
def catL (pre : List Sm) : List UInt8 := catO (pre.map (·.1))
theorem catL_snoc (pre : List Sm) (x : Sm) : catL (pre ++ [x]) = catL pre ++ x.1.f2.data.toList := by
  unfold catL catO
  rw [List.map_append, List.flatMap_append]
  simp
theorem catL_len (pre : List Sm) : (catL pre).length ≤ 1000000 * pre.length := by
  induction pre with
  | nil => exact Nat.zero_le _
  | cons x l ih =>
    have h := x.2
    have e : catL (x :: l) = x.1.f2.data.toList ++ catL l := rfl
    have e2 : x.1.f2.data.toList.length = x.1.f2.size := Array.length_toList
    rw [e, List.length_append, List.length_cons]
    omega
theorem own_ne_row {w : World} {B : Nat} {e : TypeId} {size n : Nat} {v : Value} {xs : List Value} {row : Option Nat} (h : w.ownsRowF B e size v n xs) (hr : ∀ r, row = some r → ∃ o : Obj, w.heap[r]? = some o ∧ o.isCells = false) : v.ownBlock = none ∨ v.ownBlock ≠ row := by
  rcases h.2 with ⟨rfl, _⟩ | ⟨g, cap, cur, fz, rfl, hbg, hg, _⟩
  · exact .inl rfl
  · refine .inr (fun e => ?_)
    obtain ⟨o, ho, hc⟩ := hr g (by rw [← e]; rfl)
    rw [hg] at ho
    cases ho
    cases hc
theorem bldAt_kept {T e : TypeId} {B b : Nat} {p : Value} {bs : List Value} {w w' : World} {row : Option Nat} (h : Lib.BuilderAtF T e B b p bs w) (hg : w.grownBy w' row) (hr : ∀ r, row = some r → ∃ o : Obj, w.heap[r]? = some o ∧ o.isCells = false) : Lib.BuilderAtF T e B b p bs w' := by
  obtain ⟨hB, v, hbk, hown, hne⟩ := h
  refine ⟨hB, v, (hg.block b (Array.getElem?_eq_some_iff.1 hbk).1 (fun e => ?_)).trans hbk, hown.kept hg (own_ne_row hown hr), hne⟩
  obtain ⟨o, ho, hc⟩ := hr b e.symm
  rw [hbk] at ho
  cases ho
  cases hc
theorem bld_kept {T e : TypeId} {B b : Nat} {bs : List Value} {w w' : World} {row : Option Nat} (h : Lib.IsBuilderF T e B b bs w) (hg : w.grownBy w' row) (hr : ∀ r, row = some r → ∃ o : Obj, w.heap[r]? = some o ∧ o.isCells = false) : Lib.IsBuilderF T e B b bs w' :=
  h.elim (fun x => .inl (bldAt_kept x hg hr)) (fun x => .inr (bldAt_kept x hg hr))
theorem others_keeps {b : Nat} {w w' : World} (h : Lib.OthersKept 5 (some b) w w') (hs : w.heap.size ≤ w'.heap.size) (hb : ∃ c q fz, w.heap[b]? = some (.cells c q fz)) : KeepsOthers w w' := by
  refine ⟨hs, fun k o hk ho => h k o hk ?_ ?_⟩
  · intro e
    cases e
    obtain ⟨c, q, fz, hc⟩ := hb
    rw [hk] at hc
    cases hc
    cases ho
  · rintro c fz rfl
    cases ho
set_option maxRecDepth 100000 in
set_option maxHeartbeats 4000000 in
theorem join_in (n : Nat) (hn : 4 ≤ n) (Bl Bs n₀ N : Nat) (hN : N ≤ 1000000) (r : List S40) (w : World) (hn₀ : n₀ ≤ w.heap.size)
    (hseq : SeqStopsK Fence.wide (n - 1) Try.prog 36 #[.pointer (some ⟨Bl, 0, none⟩), .pointer (some ⟨Bs, 0, none⟩)] (fun x : Sm => #[.agg #[.int .i64 x.1.f0, .int .i64 x.1.f1, .string x.1.f2]]) (Below n₀) (fun ys => ys.map (·.1) = r) (fun _ => True) N w) :
    CallsIn Fence.wide n Try.prog 21 #[.func (.func 36) #[] #[.pointer (some ⟨Bl, 0, none⟩), .pointer (some ⟨Bs, 0, none⟩)]] w fun e w' => e = .returned (.string ⟨(catO r).toArray⟩) ∧ Below w.heap.size w w' := by
  have h1 : 1 ≤ n := by omega
  refine callsIn_of_wp_marks Try.func21 rfl trivial ?_ rfl
  simp only [Try.ntmps21, List.size_toArray, List.length_cons, List.length_nil, Nat.reduceAdd, Nat.reduceSub, Array.replicate_succ, Array.replicate_zero, List.push_toArray, List.append_toArray, List.nil_append, List.cons_append]
  gi_wp2
  have hfb : Lib.IsBuilderF 67 5 w.heap.size w.heap.size (Lib.byteCells (catL [])) (w.alloc (Obj.cells #[Value.pointer none, Value.slice none 0 0] 67)) :=
    .inl ⟨Nat.le_refl _, .slice none 0 0, World.alloc_heap_new w _, World.ownsRowF_nil _ _ _ _, by simp [Value.ownBlock]⟩
  have hW0 : Below w.heap.size w (w.alloc (Obj.cells #[Value.pointer none, Value.slice none 0 0] 67)) := (Below.refl _ w).alloc (Nat.le_refl _) _
  have hsz0 : (w.alloc (Obj.cells #[Value.pointer none, Value.slice none 0 0] 67)).heap.size = w.heap.size + 1 := by simp
  generalize w.alloc (Obj.cells #[Value.pointer none, Value.slice none 0 0] 67) = W0 at hfb hW0 hsz0 ⊢
  refine wpIn_rangeFunc_ownH rfl h1 (gf := 36) (lb := #[.pointer (some ⟨Bl, 0, none⟩), .pointer (some ⟨Bs, 0, none⟩)]) rfl trivial (enters_of Try.func36 (by kernel_rfl) rfl) hseq belowK_t (belowK_b (by omega)) hW0 (fun _ => rfl)
    (fun pre W => Lib.IsBuilderF 67 5 w.heap.size w.heap.size (Lib.byteCells (catL pre)) W ∧ Below w.heap.size w W)
    (fun _ _ _ => False)
    (OwnFrom.and (Own.from (I := fun (pre : List Sm) W => Lib.IsBuilderF 67 5 w.heap.size w.heap.size (Lib.byteCells (catL pre)) W) (fun s A B row hs hg hr => bld_kept hs hg hr) _) (ownFrom_below (Nat.le_refl _) (by omega)))
    (fun _ _ _ _ _ hs _ _ => hs)
    ⟨hfb, hW0⟩
    (fun x a' W => ∃ Bx, w.heap.size < Bx ∧ W.heap[Bx]? = some (.cells #[.int .i64 x.1.f0, .int .i64 x.1.f1, .string x.1.f2] 40 (0, 0)) ∧ a' = { tmps := #[.func (.func 36) #[] #[.pointer (some ⟨Bl, 0, none⟩), .pointer (some ⟨Bs, 0, none⟩)], undef, .string ⟨#[]⟩, .pointer (some ⟨w.heap.size, 0, none⟩), .pointer (some ⟨Bx, 0, none⟩), .func (.func 36) #[] #[.pointer (some ⟨Bl, 0, none⟩), .pointer (some ⟨Bs, 0, none⟩)], .agg #[.int .i64 x.1.f0, .int .i64 x.1.f1, .string x.1.f2], undef, undef, undef, undef], defers := [] })
    (fun x a' _ A B row hs hg hr => by
      obtain ⟨Bx, h1, h2, h3⟩ := hs
      refine ⟨Bx, h1, (hg.block Bx (Array.getElem?_eq_some_iff.1 h2).1 (fun e => ?_)).trans h2, h3⟩
      obtain ⟨o, ho, hc⟩ := (hr Bx e.symm).2
      rw [h2] at ho
      cases ho
      cases hc)
    ?assign ?body ?done ?stop
  case assign =>
    rintro l pre x W K ⟨hi, hb⟩ hK
    have hsz := hb.size
    have hlt : w.heap.size < W.heap.size := by
      rcases hi with ⟨_, v, hbk, _⟩ | ⟨_, v, hbk, _⟩
      · exact (Array.getElem?_eq_some_iff.1 hbk).1
      · exact (Array.getElem?_eq_some_iff.1 hbk).1
    gi_wp2
    exact hK _ _ ((KeepsOthers.alloc _ _).from _) ((Below.refl _ W).alloc (by omega) _) ⟨bld_kept hi (World.grownBy_alloc W _ none) (fun r e => by cases e), hb.alloc hsz _⟩ ⟨W.heap.size, hlt, World.alloc_heap_new W _, rfl⟩
  case body =>
    rintro l pre x a' W hl ⟨rr, hr⟩ ⟨hi, hb⟩ ⟨Bx, hBx, hX, rfl⟩ hlt
    have hx2 : W.cell? ⟨Bx, 2, none⟩ = some (.string x.1.f2) := by rw [Lib.cell_of_heap hX]; rfl
    have hlen : (Lib.byteCells (catL pre)).length + x.1.f2.size ≤ 140737488355328 := by
      rw [Lib.byteCells_length]
      have h2 := catL_len pre
      have h3 := x.2
      have : 1000000 * pre.length ≤ 1000000 * 1000000 := Nat.mul_le_mul_left _ (by omega)
      omega
    have hws := Try.WriteString_k w.heap.size w.heap.size _ x.1.f2 W hi hlen hb.size
    have hbk : ∃ c q fz, W.heap[w.heap.size]? = some (.cells c q fz) := by
      rcases hi with ⟨_, v, hbk, _⟩ | ⟨_, v, hbk, _⟩
      · exact ⟨_, _, _, hbk⟩
      · exact ⟨_, _, _, hbk⟩
    gi_wp2
    refine ⟨trivial, fun h => (by cases h), (CallsIn.inRound l (callsIn_wide.2 hws)).mono ?_⟩
    rintro e W2 ⟨rfl, h1, h2, h3⟩
    gi_wp2
    exact ⟨(others_keeps h3 h2.size hbk).from _, h2.mono hn₀, .inr (by rw [catL_snoc, Lib.byteCells_append]; exact h1), hb.trans h2⟩
  case done =>
    rintro D ys W hD hys ⟨hi, hb⟩ hK
    gi_wp2
    refine ⟨trivial, (callsIn_wide.2 (Try.Builder_String_any_k w.heap.size w.heap.size (catL ys) W hi hb.size)).mono ?_⟩
    rintro e W2 ⟨rfl, h1, h2, h3⟩
    have hK2 : W2.heap[D]? = some (Obj.deferred (some [])) := h3 D _ hK (fun e => by cases e; omega) (fun c fz => by simp)
    gi_wp2
    trace_state
    refine ⟨by simp, .inl ⟨_, _, rfl, run_takeDeferred hK2, ?_⟩⟩
    refine ⟨_, results_tmp rfl _ _ _, ?_, ?_⟩
    · rw [← hys]; rfl
    · exact (hb.trans h2).trans (belowK_b (w := w) (Nat.le_refl _) W2 D _ _ (by omega) hK2 rfl rfl)
  case stop =>
    rintro D c pre W hD _ h _
    exact h.elim
end Go.Proofs.Ytfapfpkijeaapaa.P

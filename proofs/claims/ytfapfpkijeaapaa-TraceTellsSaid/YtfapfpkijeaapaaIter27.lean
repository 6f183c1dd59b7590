/- trace's iterator over outputs that a predicate picks: its contract, and those of the three predicates. -/
import Derived.RangeFuncNested
import Derived.RangeFuncBound
import Derived.RangeFuncCalls
import Derived.RangeFuncLeaves
import Derived.Shelf.Abstract
import Derived.Shelf.RegionOpen
import Derived.WalkKit
import Derived.OwnWalkIn
import Derived.TacticsInMore
import Derived.LoopNIn
import Derived.LoopIn
import Derived.Test.YtfapfpkijeaapaaBld
namespace Go.Proofs.Ytfapfpkijeaapaa.P
open Go.RowKit Go.Shelf Go.Proofs.YtfapfpkijeaapaaW.PrintWords
attribute [local go_sem] Oper.semAt_some
set_option linter.unusedVariables false
set_option linter.unusedSimpArgs false
theorem cell_al {w : World} {b o : Nat} {v : Value} (ob : Obj) (h : w.cell? ⟨b, o, none⟩ = some v) : (w.alloc ob).cell? ⟨b, o, none⟩ = some v :=
  (World.cell?_of_block (a := ⟨b, o, none⟩) (Below.heap_alloc w ob b (World.block_lt_of_cell? _ _ h))).trans h
/-- An output, as a value. -/
def oV (o : S40) : Value := .agg #[.int .i64 o.f0, .int .i64 o.f1, .string o.f2]
set_option maxRecDepth 100000 in
set_option maxHeartbeats 2000000 in
/-- The predicate of Bytes. -/
theorem pred24 (F : Fence) (n : Nat) (h24 : F.fn 24) (hro : F.round = none) (o : S40) (a b : Nat) (kind conn : Int) (W : World) (ha : W.cell? ⟨a, 0, none⟩ = some (.int .i64 kind)) (hb : W.cell? ⟨b, 0, none⟩ = some (.int .i64 conn)) :
    CallsIn F n Try.prog 24 #[.agg #[.int .i64 o.f0, .int .i64 o.f1, .string o.f2], .pointer (some ⟨a, 0, none⟩), .pointer (some ⟨b, 0, none⟩)] W fun e W' => e = .returned (.bool (o.f0 == kind && o.f1 == conn)) ∧ ∃ ob, W' = W.alloc ob := by
  refine callsIn_of_wp Try.func24 rfl h24 ?_ hro
  simp only [Try.ntmps24, List.size_toArray, List.length_cons, List.length_nil, Nat.reduceAdd, Nat.reduceSub, Array.replicate_succ, Array.replicate_zero, List.push_toArray, List.append_toArray, List.nil_append, List.cons_append]
  have ha' : ∀ ob, (W.alloc ob).cell? ⟨a, 0, none⟩ = some (.int .i64 kind) := fun ob => cell_al ob ha
  have hb' : ∀ ob, (W.alloc ob).cell? ⟨b, 0, none⟩ = some (.int .i64 conn) := fun ob => cell_al ob hb
  by_cases c1 : o.f0 = kind
  · gi_wp2
    go_ret
    exact ⟨by simp [c1], _, rfl⟩
  · gi_wp2
    go_ret
    exact ⟨by simp [c1], _, rfl⟩
set_option maxRecDepth 100000 in
set_option maxHeartbeats 2000000 in
/-- The predicate of Records. -/
theorem pred23 (F : Fence) (n : Nat) (h23 : F.fn 23) (hro : F.round = none) (o : S40) (W : World) :
    CallsIn F n Try.prog 23 #[.agg #[.int .i64 o.f0, .int .i64 o.f1, .string o.f2]] W fun e W' => e = .returned (.bool (o.f0 == 5)) ∧ ∃ ob, W' = W.alloc ob := by
  refine callsIn_of_wp Try.func23 rfl h23 ?_ hro
  simp only [Try.ntmps23, List.size_toArray, List.length_cons, List.length_nil, Nat.reduceAdd, Nat.reduceSub, Array.replicate_succ, Array.replicate_zero, List.push_toArray, List.append_toArray, List.nil_append, List.cons_append]
  gi_wp2
  go_ret
  exact ⟨rfl, _, rfl⟩
set_option maxRecDepth 100000 in
set_option maxHeartbeats 2000000 in
/-- The predicate of Closes. -/
theorem pred25 (F : Fence) (n : Nat) (h25 : F.fn 25) (hro : F.round = none) (o : S40) (b : Nat) (conn : Int) (W : World) (hb : W.cell? ⟨b, 0, none⟩ = some (.int .i64 conn)) :
    CallsIn F n Try.prog 25 #[.agg #[.int .i64 o.f0, .int .i64 o.f1, .string o.f2], .pointer (some ⟨b, 0, none⟩)] W fun e W' => e = .returned (.bool (o.f0 == 4 || o.f0 == 3 && o.f1 == conn)) ∧ ∃ ob, W' = W.alloc ob := by
  refine callsIn_of_wp Try.func25 rfl h25 ?_ hro
  simp only [Try.ntmps25, List.size_toArray, List.length_cons, List.length_nil, Nat.reduceAdd, Nat.reduceSub, Array.replicate_succ, Array.replicate_zero, List.push_toArray, List.append_toArray, List.nil_append, List.cons_append]
  have hb' : ∀ ob, (W.alloc ob).cell? ⟨b, 0, none⟩ = some (.int .i64 conn) := fun ob => cell_al ob hb
  by_cases c1 : o.f0 = 4
  · have c1b : (o.f0 == 4) = true := by simp [c1]
    gi_wp2
    go_ret
    exact ⟨by simp [c1], _, rfl⟩
  · have c1b : (o.f0 == 4) = false := by simp [c1]
    by_cases c2 : o.f0 = 3
    · have c2b : (o.f0 == 3) = true := by simp [c2]
      gi_wp2
      go_ret
      exact ⟨by simp [c2], _, rfl⟩
    · have c2b : (o.f0 == 3) = false := by simp [c2]
      gi_wp2
      go_ret
      exact ⟨by simp [c1, c2], _, rfl⟩
theorem take_filter {α : Type} (p : α → Bool) (l : List α) (k : Nat) (h : k < l.length) : (l.take (k + 1)).filter p = if p l[k] = true then (l.take k).filter p ++ [l[k]] else (l.take k).filter p := by
  rw [List.take_succ_eq_append_getElem h, List.filter_append]
  cases hp : p l[k] with
  | true => simp [hp]
  | false => simp [hp]
set_option maxRecDepth 100000 in
set_option maxHeartbeats 4000000 in
/-- The iterator: what a predicate picks, one by one, for every loop body that keeps what lay below n₀. -/
theorem those1_in (F : Fence) (n : Nat) (h36 : F.fn 36) (hro : F.round = none) (hn : 1 ≤ n) (l Bl Bs : Nat) (Kp : World → World → Prop) (hKt : ∀ {A B C : World}, Kp A B → Kp B C → Kp A C) (A0 : Option Addr) (c0 : Nat) (zs : List S40) (hc0 : zs.length ≤ c0) (g : Nat) (lb : Array Value) (p : S40 → Bool) (hg : F.fn g) (eg : ∀ args w, (callFunc g args).run Try.prog w = .ok (.enter g args) w)
    (J Jx : List S40 → World → Prop) (hJ : ∀ pre W1 ob, J pre W1 → J pre (W1.alloc ob))
    (hY : ∀ pre x W, x ∈ zs → J pre W → pre.length < zs.length → YieldAt F (n - 1) Try.prog l #[.agg #[.int .i64 x.f0, .int .i64 x.f1, .string x.f2]] W fun e W' => (e = .returned (.bool true) ∧ J (pre ++ [x]) W' ∧ Kp W W') ∨ (e = .returned (.bool false) ∧ Jx (pre ++ [x]) W'))
    (W : World) (hKr : Kp W W) (hKa : ∀ W1 ob, Kp W W1 → Kp W (W1.alloc ob)) (hBl : W.cell? ⟨Bl, 0, none⟩ = some (.slice A0 zs.length c0)) (hBs : ∀ W1, Kp W W1 → W1.cell? ⟨Bs, 0, none⟩ = some (.func (.func g) #[] lb))
    (hC : ∀ W1, Kp W W1 → Kd.C k40 W1 A0 zs.length zs)
    (hP : ∀ (o : S40) W1, Kp W W1 → CallsIn F (n - 1) Try.prog g (#[.agg #[.int .i64 o.f0, .int .i64 o.f1, .string o.f2]] ++ lb) W1 fun e W' => e = .returned (.bool (p o)) ∧ ∃ ob, W' = W1.alloc ob)
    (h0 : J [] W) :
    CallsIn F n Try.prog 36 #[.func (.yield l) #[] #[], .pointer (some ⟨Bl, 0, none⟩), .pointer (some ⟨Bs, 0, none⟩)] W fun e W' => (∃ v, e = .returned v) ∧
      ((∃ ys, ys = zs.filter p ∧ J ys W') ∨ (∃ pre, True ∧ Jx pre W')) := by
  refine callsIn_of_wp Try.func36 rfl h36 ?_ hro
  simp only [Try.ntmps36, List.size_toArray, List.length_cons, List.length_nil, Nat.reduceAdd, Nat.reduceSub, Array.replicate_succ, Array.replicate_zero, List.push_toArray, List.append_toArray, List.nil_append, List.cons_append]
  gi_wp2
  gi_loopw [8] (fun i wr => ∃ k : Nat, k ≤ zs.length ∧ i = .int .i64 k ∧ J ((zs.take k).filter p) wr ∧ Kp W wr)
    (fun i _ => zs.length - (intOf i).toNat)
  case atStart => exact ⟨0, Nat.zero_le _, rfl, h0, hKr⟩
  case round =>
    obtain ⟨k, hk, rfl, hJs, hnx⟩ := hrel
    by_cases hlt : k < zs.length
    · obtain ⟨ad, rfl, hx0, hx1, hx2⟩ := at_T40 (hC _ hnx) (k : Int) (by omega) (by omega)
      rw [Int.toNat_natCast] at hx0 hx1 hx2
      have hxk : rd_T40 zs (k : Int) = zs[k] := by
        unfold rd_T40
        rw [Int.toNat_natCast, List.getD_eq_getElem?_getD, List.getElem?_eq_getElem hlt]
        rfl
      rw [hxk] at hx0 hx1 hx2
      have hmax := Kd.C_max (hC _ hnx)
      have hwk : wrap64 ((k : Int) + 1) = (k : Int) + 1 := by unfold wrap64; omega
      have htf := take_filter p zs k hlt
      have hmem := List.getElem_mem hlt
      generalize zs[k] = x at hx0 hx1 hx2 htf hmem
      have hs' : ∀ ob, (wr.alloc ob).cell? ⟨Bs, 0, none⟩ = some (.func (.func g) #[] lb) := fun ob => cell_al ob (hBs _ hnx)
      have hB1 : ∀ ob, Kp W (wr.alloc ob) := fun ob => hKa _ ob hnx
      gi_wp2
      refine (hP x _ (hB1 _)).mono ?_
      rintro e w1 ⟨rfl, ob2, rfl⟩
      have hB2 := hKa _ ob2 (hB1 (Obj.cells #[Value.int IntKind.i64 x.f0, Value.int IntKind.i64 x.f1, Value.string x.f2] 40))
      have hJ2 := hJ _ _ ob2 (hJ _ _ (Obj.cells #[Value.int IntKind.i64 x.f0, Value.int IntKind.i64 x.f1, Value.string x.f2] 40) hJs)
      have hnew : ∀ j v, (#[Value.int IntKind.i64 x.f0, Value.int IntKind.i64 x.f1, Value.string x.f2])[j]? = some v → ((wr.alloc (Obj.cells #[Value.int IntKind.i64 x.f0, Value.int IntKind.i64 x.f1, Value.string x.f2] 40)).alloc ob2).cell? ⟨wr.heap.size, j, none⟩ = some v := fun j v hv =>
        cell_al ob2 (by rw [Lib.cell_of_heap (World.alloc_heap_new wr _)]; exact hv)
      have y0 := hnew 0 _ rfl
      have y1 := hnew 1 _ rfl
      have y2 := hnew 2 _ rfl
      obtain ⟨fn, tmps, assign, body, hy, hR⟩ := hY _ x _ hmem hJ2 (Nat.lt_of_le_of_lt (List.length_filter_le _ _) (by rw [List.length_take]; omega))
      generalize ((wr.alloc (Obj.cells #[Value.int IntKind.i64 x.f0, Value.int IntKind.i64 x.f1, Value.string x.f2] 40)).alloc ob2) = w3 at hB2 hJ2 y0 y1 y2 hy hR ⊢
      cases hp : p x with
      | true =>
        rw [if_pos hp] at htf
        gi_wp2
        refine hR.mono ?_
        rintro e W3 (⟨rfl, hJ3, hk3⟩ | ⟨rfl, hJx3⟩)
        · gi_wp2
          go_roundw
          case rel => exact ⟨k + 1, by omega, rfl, by rw [htf]; exact hJ3, hKt hB2 hk3⟩
          case measure => simp [intOf, hwk]; omega
        · gi_wp2
          refine bodyPost_ret (results_none rfl _ _ _) rfl ?_
          exact ⟨⟨_, rfl⟩, .inr ⟨_, trivial, hJx3⟩⟩
      | false =>
        rw [if_neg (by rw [hp]; simp)] at htf
        gi_wp2
        refine ⟨fun _ h => (by cases h), ?_⟩
        gi_wp2
        go_roundw
        case rel => exact ⟨k + 1, by omega, rfl, by rw [htf]; exact hJ2, hB2⟩
        case measure => simp [intOf, hwk]; omega
    · obtain rfl : k = zs.length := by omega
      gi_wp2
      go_end0
      exact ⟨⟨_, rfl⟩, .inl ⟨_, by rw [List.take_length], hJs⟩⟩
set_option maxRecDepth 100000 in
set_option maxHeartbeats 2000000 in
/-- those: the slice and the predicate are boxed; the function value captures the boxes. -/
theorem those_in (F : Fence) (n : Nat) (h22 : F.fn 22) (hro : F.round = none) (A0 : Option Addr) (len c0 : Nat) (fv : Value) (g : Nat) (lb : Array Value) (hfv : fv = .func (.func g) #[] lb) (w : World) :
    CallsIn F n Try.prog 22 #[.slice A0 len c0, fv] w fun e w' => e = .returned (.func (.func 36) #[] #[.pointer (some ⟨w.heap.size, 0, none⟩), .pointer (some ⟨w.heap.size + 1, 0, none⟩)]) ∧ w' = (w.alloc (.cells #[.slice A0 len c0] 22)).alloc (.cells #[fv] 54) := by
  subst hfv
  refine callsIn_of_wp Try.func22 rfl h22 ?_ hro
  simp only [Try.ntmps22, List.size_toArray, List.length_cons, List.length_nil, Nat.reduceAdd, Nat.reduceSub, Array.replicate_succ, Array.replicate_zero, List.push_toArray, List.append_toArray, List.nil_append, List.cons_append]
  gi_wp2
  go_ret
  exact ⟨by simp, rfl⟩
/-- An output of not too many bytes. -/
abbrev Sm : Type := { x : S40 // x.f2.size ≤ 1000000 }
/-- The iterator, as a contract: a predicate's picks. -/
theorem those_stops (F : Fence) (n : Nat) (h36 : F.fn 36) (hro : F.round = none) (hn : 1 ≤ n) (Bl Bs : Nat) (Kp : World → World → Prop) (hKt : ∀ {A B C : World}, Kp A B → Kp B C → Kp A C) (A0 : Option Addr) (c0 : Nat) (zs : List S40) (hall : ∀ x ∈ zs, x.f2.size ≤ 1000000) (hc0 : zs.length ≤ c0) (g : Nat) (lb : Array Value) (p : S40 → Bool) (hg : F.fn g) (eg : ∀ args w, (callFunc g args).run Try.prog w = .ok (.enter g args) w)
    (w : World) (hKr : ∀ W, Below w.heap.size w W → Kp w W) (hKa : ∀ W1 ob, Kp w W1 → Kp w (W1.alloc ob)) (hKa2 : ∀ W W1 ob, Below w.heap.size w W → Kp W W1 → Kp W (W1.alloc ob)) (hKrr : ∀ W, Kp W W) (hBl : ∀ W1, Kp w W1 → W1.cell? ⟨Bl, 0, none⟩ = some (.slice A0 zs.length c0)) (hBs : ∀ W1, Kp w W1 → W1.cell? ⟨Bs, 0, none⟩ = some (.func (.func g) #[] lb))
    (hC : ∀ W1, Kp w W1 → Kd.C k40 W1 A0 zs.length zs)
    (hP : ∀ (o : S40) W1, Kp w W1 → CallsIn F (n - 1) Try.prog g (#[.agg #[.int .i64 o.f0, .int .i64 o.f1, .string o.f2]] ++ lb) W1 fun e W' => e = .returned (.bool (p o)) ∧ ∃ ob, W' = W1.alloc ob) :
    SeqStopsK F n Try.prog 36 #[.pointer (some ⟨Bl, 0, none⟩), .pointer (some ⟨Bs, 0, none⟩)] (fun x : Sm => #[.agg #[.int .i64 x.1.f0, .int .i64 x.1.f1, .string x.1.f2]]) Kp (fun ys => ys.map (·.1) = zs.filter p) (fun _ => True) zs.length w := fun l J Jx W hW hJ _ hY h0 => by
  have hWb : Kp w W := hKr W hW
  refine (those1_in F n h36 hro hn l Bl Bs Kp hKt A0 c0 zs hc0 g lb p hg eg (fun pre W => ∃ pre' : List Sm, pre'.map (·.1) = pre ∧ J pre' W) (fun pre W => ∃ pre' : List Sm, pre'.map (·.1) = pre ∧ Jx pre' W)
    (fun pre W1 ob h => by
      obtain ⟨pre', e, h⟩ := h
      exact ⟨pre', e, hJ _ _ _ none h (World.grownBy_alloc W1 ob none) (fun r e => by cases e)⟩)
    (fun pre x W1 hx hj hl => by
      obtain ⟨pre', e, hj⟩ := hj
      have hl' : pre'.length < zs.length := by rw [← e, List.length_map] at hl; exact hl
      obtain ⟨fn, tmps, assign, body, hy, hR⟩ := hY pre' ⟨x, hall x hx⟩ W1 hj hl'
      refine ⟨fn, tmps, assign, body, hy, hR.mono ?_⟩
      rintro e1 W2 (⟨h1, h2, h3⟩ | ⟨h1, h2⟩)
      · exact .inl ⟨h1, ⟨_, by rw [List.map_append, e]; rfl, h2⟩, h3⟩
      · exact .inr ⟨h1, ⟨_, by rw [List.map_append, e]; rfl, h2⟩⟩)
    W (hKrr W) (fun W1 ob h => hKa2 W W1 ob hW h) (hBl W hWb) (fun W1 h => hBs W1 (hKt hWb h)) (fun W1 h => hC W1 (hKt hWb h)) (fun o W1 h => hP o W1 (hKt hWb h)) ⟨[], rfl, h0⟩).mono ?_
  rintro e W' ⟨hv, (⟨ys, hys, pre', e1, hj⟩ | ⟨pre, _, pre', e1, hj⟩)⟩
  · exact ⟨hv, .inl ⟨pre', e1.trans hys, hj⟩⟩
  · exact ⟨hv, .inr ⟨pre', trivial, hj⟩⟩
end Go.Proofs.Ytfapfpkijeaapaa.P

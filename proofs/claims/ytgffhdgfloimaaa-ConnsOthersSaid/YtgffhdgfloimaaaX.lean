/- 'make([]T, 0, n)': an empty row of the call's own, as one event of a walk. Beside the printed words' R_make. -/
import Derived.Test.YtgffhdgfloimaaaWMore
import Derived.Test.YtgffhdgfloimaaaWNEv
import Derived.ArgAppend
import Derived.Deep.AppendLies
import Derived.Lib.Strings
import Derived.Lib.AppendStr
namespace Go.Proofs.YtgffhdgfloimaaaW.PrintWords
open Go.RowKit
set_option linter.unusedVariables false
set_option linter.unusedSimpArgs false
section
variable {P : Program} {ops : Array Oper} {o : Oper} {a : Act} {Q : Exit → Act → World → Prop} {Kc : Act → World → Prop}
theorem print_append_str_step {w0 W : World} (base : Nat) (hw : Region.wanted o (yielded ops a.tmps) = true) (s x : Operand) (t u e : TypeId)
    (ho : o.op = .call { callee := .builtin .append, args := #[s, x], argTypes := #[t, u] })
    (ht : P.underlying t = some (.slice e)) (hu : P.underlying u = some .string) (hinfo : (P.info? e).map (fun i => (i.zero, i.size, i.bytes)) = some (some (.int .u8 0), 1, 1))
    (v : Value) (xs : List Int) (y : ByteArray) (hs : a.eval s = v) (hx : a.eval x = .string y)
    (HO : W.ownsRow base e 1 v xs.length (nums .u8 xs)) (HB : Below base w0 W) (hbase : base ≤ W.heap.size) (hl : xs.length + y.size ≤ 140737488355328)
    (h : ∀ v1 w1, w1.ownsRow base e 1 v1 (xs ++ bytesOf y).length (nums .u8 (xs ++ bytesOf y)) → Below base w0 w1 → W.grownBy w1 v.ownBlock → Kc (a.put o.dst v1) w1) :
    if Region.wanted o (yielded ops a.tmps) = true then Oper.wp P o a W Kc Q else Kc (a.put o.dst undef) W := by
  obtain ⟨i0, hi, hzz⟩ := Option.map_eq_some_iff.1 hinfo
  simp only [Prod.mk.injEq] at hzz
  obtain ⟨hz0, hz1, hz2⟩ := hzz
  obtain ⟨v', w', hr, h2, h3, h4⟩ := Lib.run_append_own_string (P := P) W base t u o.type e i0 ht hu hi hz0 hz1 hz2 v xs.length (nums .u8 xs) HO y (by simp only [maxLen]; omega) hl hbase
  have hl2 : (xs ++ bytesOf y).length = xs.length + y.size := by rw [List.length_append, bytesOf_length]
  have hc : nums .u8 (xs ++ bytesOf y) = nums .u8 xs ++ Lib.strCells y := by
    rw [nums_append]
    congr 1
    simp [nums, bytesOf, Lib.strCells]
  have hrun : (execOp a.eval o).run P W = .ok (.value v') w' := by
    unfold execOp
    simp only [ho, resolve, invoke, builtin, Sem.run_bind, Sem.run_pure, Result.andThen_ok, List.map_toArray, List.map_cons, List.map_nil, hs, hx, hr]
  exact event_step hw hrun (h v' w' (by rw [hl2, hc]; exact h2) (HB.grown h3 hbase (own_base HO)) h3)
end
theorem toList_nil_iff_ (s : ByteArray) : s.toList = [] ↔ s = (⟨#[]⟩ : ByteArray) := by
  rw [Lib.toList_data]
  constructor
  · intro h
    cases s with
    | mk a => simp at h; rw [h]
  · rintro rfl; rfl
theorem bne_nil_ (l : List UInt8) : (l != []) = !l.isEmpty := by cases l <;> rfl
namespace Kd
section
variable {P : Program} {ops : Array Oper} {rest : List Oper} {o : Oper} {a : Act} {Q : Exit → Act → World → Prop} {Kc : Act → World → Prop} {α : Type}
theorem row_made0 (d : Kd α) {W : World} (base e : Nat) (cur : Array Value) (cap : Nat) (ok : Nat → Prop) (hfresh : ok W.heap.size) (hbase : base ≤ W.heap.size) (hm : cap ≤ maxLen) (hs : cur.size = cap * d.sz) :
    d.R e (W.alloc (.cells cur e)) base ok (.slice (some ⟨W.heap.size, 0, none⟩) 0 cap) ([] : List α) := by
  refine ⟨fun k hk => ?_, [], World.ownsRow_made W cur cap hbase hm hs, Reps.none _ _⟩
  have : W.heap.size = k := by simpa [Value.ownBlock] using hk
  subst this
  exact hfresh
theorem run_make0 {W : World} (d : Kd α) (e : Nat) (t : TypeId) (x y : Operand) (ho : o.op = .makeSlice t x y) (n : Int) (hx : a.eval x = .int .i64 0) (hy : a.eval y = .int .i64 n)
    (ht : P.underlying t = some (.slice e)) (z : Value) (bytes : Nat) (hinfo : (P.info? e).map (fun i => (i.zero, i.size, i.bytes)) = some (some z, d.sz, bytes)) (hb0 : 0 < bytes) (h0 : 0 ≤ n) (hl : n.toNat * bytes ≤ 281474976710656) :
    (execOp a.eval o).run P W = .ok (.value (.slice (some ⟨W.heap.size, 0, none⟩) 0 n.toNat)) (W.alloc (.cells (madeCells z.cells (n.toNat * d.sz)) e)) ∧ n.toNat ≤ maxLen := by
  obtain ⟨m, rfl⟩ := Int.eq_ofNat_of_zero_le h0
  simp only [Int.toNat_natCast] at hl ⊢
  obtain ⟨i0, hi, hzz⟩ := Option.map_eq_some_iff.1 hinfo
  simp only [Prod.mk.injEq] at hzz
  obtain ⟨hz0, hz1, hz2⟩ := hzz
  have hm : m ≤ 281474976710656 := Nat.le_trans (Nat.le_mul_of_pos_right _ hb0) hl
  have hr := run_make (P := P) W t e i0 z ht hi hz0 .i64 .i64 0 (m : Int) (by omega) (by omega)
    (by
      have h3 : ((i0.bytes * m : Nat) : Int) ≤ 281474976710656 := by rw [hz2, Nat.mul_comm]; omega
      rwa [Int.natCast_mul] at h3) (by omega)
  simp only [Int.toNat_natCast, Int.toNat_zero] at hr
  rw [hz1] at hr
  refine ⟨?_, by simp only [maxLen]; omega⟩
  simp [execOp, ho, hx, hy, hr]
theorem R_make0 (d : Kd α) {w0 W : World} (base e : Nat) (hgd : o.guard = none) {N : Tmp} (hd : o.dst = some N) (t : TypeId) (x y : Operand) (ho : o.op = .makeSlice t x y) (n : Int) (hx : a.eval x = .int .i64 0) (hy : a.eval y = .int .i64 n)
    (ht : P.underlying t = some (.slice e)) (z : Value) (bytes : Nat) (hinfo : (P.info? e).map (fun i => (i.zero, i.size, i.bytes)) = some (some z, d.sz, bytes)) (hz : z.cells.size = d.sz) (hb0 : 0 < bytes)
    {ok : Nat → Prop} (hfresh : ok W.heap.size) (h0 : 0 ≤ n) (hl : n.toNat * bytes ≤ 281474976710656) (HB : Below base w0 W) (hbase : base ≤ W.heap.size)
    (h : ∀ v1 w1, d.R e w1 base ok v1 [] → Below base w0 w1 → W.grownBy w1 none → (∃ b, v1.ownBlock = some b ∧ W.heap.size ≤ b) → wpList P ops Q rest (a.put o.dst v1) w1) : wpList P ops Q (o :: rest) a W := by
  obtain ⟨hr, hm⟩ := run_make0 (W := W) d e t x y ho n hx hy ht z bytes hinfo hb0 h0 hl
  exact event_run hgd hr (h _ _ (row_made0 d base e _ _ ok hfresh hbase hm (size_madeCells _ _)) (HB.alloc hbase _) (World.grownBy_alloc W _ none) ⟨W.heap.size, by simp [Value.ownBlock], Nat.le_refl _⟩)
theorem R_make0_step (d : Kd α) {w0 W : World} (base e : Nat) (hw : Region.wanted o (yielded ops a.tmps) = true) {N : Tmp} (hd : o.dst = some N) (t : TypeId) (x y : Operand) (ho : o.op = .makeSlice t x y) (n : Int) (hx : a.eval x = .int .i64 0) (hy : a.eval y = .int .i64 n)
    (ht : P.underlying t = some (.slice e)) (z : Value) (bytes : Nat) (hinfo : (P.info? e).map (fun i => (i.zero, i.size, i.bytes)) = some (some z, d.sz, bytes)) (hz : z.cells.size = d.sz) (hb0 : 0 < bytes)
    {ok : Nat → Prop} (hfresh : ok W.heap.size) (h0 : 0 ≤ n) (hl : n.toNat * bytes ≤ 281474976710656) (HB : Below base w0 W) (hbase : base ≤ W.heap.size)
    (h : ∀ v1 w1, d.R e w1 base ok v1 [] → Below base w0 w1 → W.grownBy w1 none → (∃ b, v1.ownBlock = some b ∧ W.heap.size ≤ b) → Kc (a.put o.dst v1) w1) : if Region.wanted o (yielded ops a.tmps) = true then Oper.wp P o a W Kc Q else Kc (a.put o.dst undef) W := by
  obtain ⟨hr, hm⟩ := run_make0 (W := W) d e t x y ho n hx hy ht z bytes hinfo hb0 h0 hl
  exact event_step hw hr (h _ _ (row_made0 d base e _ _ ok hfresh hbase hm (size_madeCells _ _)) (HB.alloc hbase _) (World.grownBy_alloc W _ none) ⟨W.heap.size, by simp [Value.ownBlock], Nat.le_refl _⟩)
end
end Kd
/-- A variable in memory, as a row of one element that is read. -/
theorem cap_box {α : Type} {d : Kd α} {w : World} {g t : Nat} {fr : Nat × Nat} {x : α} {cs : Array Value} (h : w.heap[g]? = some (.cells cs t fr)) (hk : d.K w x cs.toList) : Kd.C d w (some ⟨g, 0, none⟩) 1 [x] := by
  refine ⟨rfl, by omega, fun _ => ⟨_, rfl, fun j p hp => ?_⟩⟩
  match j, hp with
  | 0, hp =>
    obtain rfl : x = p := by simpa using hp
    refine ⟨cs.toList, d.K_len hk, hk, fun i u hu => ?_⟩
    rw [add_plain, Nat.zero_mul, Nat.zero_add]
    simpa [World.cell?, h] using hu
theorem cap_add0 (a : Addr) : a.add 0 = a := by unfold Addr.add; rw [if_pos rfl]
/-- xs[:j:j]. -/
theorem cut_to3 {P : Program} (t e : TypeId) (kh : IntKind) {i : TypeInfo} (ht : P.underlying t = some (.slice e)) (hi : P.info? e = some i) (A : Option Addr) (n c : Nat) (j : Int) (h0 : 0 ≤ j) (hm : j ≤ n) (hc : n ≤ c) :
    ∀ W : World, (Instr.slice t (.slice A n c) none (some (.int kh j)) (some (.int kh j))).run P W = .ok (.slice A j.toNat j.toNat) W := by
  intro W
  have hel : P.elem t = e := by simp [Program.elem, ht]
  have hu : P.underlying t = some (.slice (P.elem t)) := by rw [hel]; exact ht
  have ha : (A.map fun x => x.add 0) = A := by cases A <;> simp [Addr.add]
  have hb : (Instr.sliceBounds true n c none (some (.int kh j)) (some (.int kh j))).run P W = .ok (0, j.toNat, j.toNat) W := by
    obtain ⟨q, rfl⟩ := Int.eq_ofNat_of_zero_le h0
    have h2 : q ≤ c := by omega
    simp [Instr.sliceBounds, run_sliceBound, h2]
  rw [run_slice_any W t A n c hu, hb, hel]
  simp [sizeOf, typeInfo, hi, sliced, Result.andThen, ha]
namespace Kd
section
variable {P : Program} {ops : Array Oper} {rest : List Oper} {o : Oper} {a : Act} {Q : Exit → Act → World → Prop} {Kc : Act → World → Prop} {α : Type}
/-- What was copied just now, told by what it leads to. -/
theorem N_copied (d : Kd α) {e base : Nat} {W W1 : World} {v1 : Value} {xs : List α} {rows : List (List Value)} {inner : List Value} {ok okp : Nat → Prop} (hbase : base ≤ W.heap.size)
    (hown : W1.ownsRow W.heap.size e d.sz v1 rows.length inner) (hrep : Reps (fun x cs => cs = x ∧ cs.length = d.sz ∧ ∀ u ∈ cs, u.oneCell' = true) d.sz rows inner) (hl : rows.length = xs.length) (hp : 0 < xs.length)
    (hf : ∀ (j : Nat) (x : α) (c : List Value), xs[j]? = some x → rows[j]? = some c → FK d W okp x c) (hok : ∀ k, okp k → ok k) (hg : W.grownBy W1 none) (hfresh : ∀ k, W.heap.size ≤ k → ok k) :
    N d e W1 base ok v1 xs ∧ ∃ b, v1.ownBlock = some b ∧ W.heap.size ≤ b := by
  obtain ⟨hlen, hcase⟩ := hown
  rcases hcase with ⟨_, h0⟩ | ⟨g, cap, cur, rfl, hle, r1, r2, r3, r4, r5⟩
  · omega
  have hob : (Value.slice (some ⟨g, 0, none⟩) rows.length cap).ownBlock = some g := rfl
  refine ⟨⟨fun k hk => ?_, rows, hl, ⟨fun k hk => hk.symm, inner, ⟨hlen, .inr ⟨g, cap, cur, rfl, Nat.le_trans hbase hle, r1, r2, r3, r4, r5⟩⟩, hrep⟩, fun j x c hx hc => ?_⟩, ⟨g, rfl, hle⟩⟩
  · rw [hob] at hk
    injection hk with hk
    exact hk ▸ hfresh g hle
  · refine FK_mono (FK_step (FK_bound (hf j x c hx hc)) (fun k hk hlt => hg.block k hlt (by simp))) (fun k hk => ⟨hok k hk.1, fun he => ?_⟩)
    rw [hob] at he
    injection he with he
    have := hk.2
    omega
theorem news_flat {sz : Nat} {rows news : List (List Value)} {inner cs : List Value} (h : Reps (fun x cs => cs = x ∧ cs.length = sz ∧ ∀ u ∈ cs, u.oneCell' = true) sz rows inner) (h2 : Reps (fun x cs => cs = x ∧ cs.length = sz ∧ ∀ u ∈ cs, u.oneCell' = true) sz news cs) :
    Reps (fun x cs => cs = x ∧ cs.length = sz ∧ ∀ u ∈ cs, u.oneCell' = true) sz (rows ++ news) (inner ++ cs) := reps_append h h2
theorem VF_of {d : Kd α} {e base : Nat} {W : World} {A : Option Addr} {xs : List α} {ok : Nat → Prop} (h : V d e W base ok (.slice A xs.length xs.length) xs) : ∃ A', (Value.slice A xs.length xs.length) = .slice A' xs.length xs.length ∧ F d W ok A' xs.length xs := by
  obtain ⟨A', c, hv, _, hF⟩ := h
  injection hv with h1 h2 h3
  exact ⟨A, rfl, h1 ▸ hF⟩
theorem run_append_full (W : World) (t ty e : TypeId) (i0 : TypeInfo) (z : Value) (size bytes : Nat) (ht : P.underlying t = some (.slice e)) (hi : P.info? e = some i0) (hz0 : i0.zero = some z) (hz1 : i0.size = size) (hz2 : i0.bytes = bytes) (hz : z.cells.size = size) (hs0 : 0 < size)
    (A : Option Addr) (n : Nat) (inner : List Value) (hA : A = none → n = 0) (hlo : inner.length = n * size) (hin : ∀ b, A = some b → ∀ j u, inner[j]? = some u → W.cell? (b.add j) = some u)
    (ad : Addr) (m c : Nat) (news : List Value) (hnl : news.length = m * size) (hnc : ∀ j u, news[j]? = some u → W.cell? (ad.add j) = some u) (hone : ∀ u ∈ news, u.oneCell' = true) (hpos : 0 < m) (hm : n + m ≤ maxLen) (hl : (n + m) * bytes ≤ 140737488355328) :
    ∃ v' w', (Builtin.append_ #[t, t] ty #[.slice A n n, .slice (some ad) m c]).run P W = .ok v' w' ∧ w'.ownsRow W.heap.size e size v' (n + m) (inner ++ news) ∧ W.grownBy w' none := by
  cases A with
  | some b => exact run_append_arg_grows (P := P) W t ty e i0 z size bytes ht hi hz0 hz1 hz2 hz hs0 b n n inner hlo (hin b rfl) ad m c news hnl hnc (by omega) hm hl
  | none =>
    obtain rfl := hA rfl
    obtain rfl : inner = [] := List.eq_nil_of_length_eq_zero (by simpa using hlo)
    obtain ⟨v', w', hrun, r1, r2, _⟩ := run_append_own (P := P) W W.heap.size t ty e i0 z size bytes ht hi hz0 hz1 hz2 hz hs0 (.slice none 0 0) 0 [] (World.ownsRow_nil W _ e size) ad m c news hnl hnc hone hm hl (Nat.le_refl _)
    exact ⟨v', w', hrun, r1, r2⟩
/-- append(xs[:n:n], p): a new row. -/
theorem V_append_full_run (d : Kd α) {w0 W : World} (base : Nat) (ty : TypeId) (t e : TypeId) (z : Value) (bytes : Nat)
    (ht : P.underlying t = some (.slice e)) (hinfo : (P.info? e).map (fun i => (i.zero, i.size, i.bytes)) = some (some z, d.sz, bytes)) (hz : z.cells.size = d.sz) (hs0 : 0 < d.sz) (hb0 : 0 < bytes)
    (v : Value) (xs : List α) (p : α) (cs : List Value) (ok okp : Nat → Prop) (hp : FK d W okp p cs) (hokp : ∀ k, okp k → ok k ∧ some k ≠ (Value.slice none 0 0).ownBlock) (hfresh : ∀ k, W.heap.size ≤ k → ok k)
    (HO : ∃ A, v = .slice A xs.length xs.length ∧ F d W ok A xs.length xs) (HB : Below base w0 W) (hbase : base ≤ W.heap.size) (hl : (xs.length + 1) * bytes ≤ 140737488355328) :
    ∃ v1 w1, (Builtin.append_ #[t, t] ty #[v, .slice (some ⟨W.heap.size, 0, none⟩) 1 1]).run P (W.alloc (.cells cs.toArray e)) = .ok v1 w1 ∧ N d e w1 base ok v1 (xs ++ [p]) ∧ Below base w0 w1 ∧ W.grownBy w1 (Value.slice none 0 0).ownBlock ∧ (v1.ownBlock = (Value.slice none 0 0).ownBlock ∨ ∃ b, v1.ownBlock = some b ∧ W.heap.size ≤ b) := by
  obtain ⟨i0, hi, hzz⟩ := Option.map_eq_some_iff.1 hinfo
  simp only [Prod.mk.injEq] at hzz
  obtain ⟨hz0, hz1, hz2⟩ := hzz
  obtain ⟨A, rfl, hF⟩ := HO
  obtain ⟨hp1, hp2, hp3⟩ := FK_raw hp
  have hFa := F_alloc hF (.cells cs.toArray e)
  obtain ⟨rows, hrl, hrr, hrf⟩ := reads_raw (F_rows hFa) (fun y c hk => ⟨d.K_len (FK_now hk), d.K_one (FK_now hk)⟩)
  have hxl : xs.length + 1 ≤ 140737488355328 := Nat.le_trans (Nat.le_mul_of_pos_right _ hb0) hl
  have hinner : ∃ inner, Reps (fun x cs => cs = x ∧ cs.length = d.sz ∧ ∀ u ∈ cs, u.oneCell' = true) d.sz rows inner ∧ (∀ b, A = some b → ∀ j u, inner[j]? = some u → (W.alloc (.cells cs.toArray e)).cell? (b.add j) = some u) ∧ (A = none → xs.length = 0) := by
    cases A with
    | some ad => obtain ⟨inner, r1, r2⟩ := ReadsRow.inner_ hrr; exact ⟨inner, r1, ⟨fun b hb => by injection hb with hb; exact hb ▸ r2, fun h => by cases h⟩⟩
    | none =>
      have h0 : xs.length = 0 := by
        rcases Nat.eq_zero_or_pos xs.length with h0 | h0
        · exact h0
        · obtain ⟨ad, h, _⟩ := hrr.2.2 h0; cases h
      obtain rfl : rows = [] := List.eq_nil_of_length_eq_zero (by omega)
      refine ⟨[], Reps.none _ _, ⟨fun b hb => ?_, fun _ => h0⟩⟩
      cases hb
  obtain ⟨inner, hi1, hi2, hi3⟩ := hinner
  have hcs : Reps (fun x cs => cs = x ∧ cs.length = d.sz ∧ ∀ u ∈ cs, u.oneCell' = true) d.sz (rows ++ [cs]) (inner ++ cs) := Reps.snoc hi1 ⟨rfl, hp2, hp3⟩ hp2
  obtain ⟨v1, w1, hrun, hown, hg⟩ := run_append_full (P := P) (W.alloc (.cells cs.toArray e)) t ty e i0 z d.sz bytes ht hi hz0 hz1 hz2 hz hs0 A xs.length inner hi3 (by rw [hi1.1, hrl]) hi2 ⟨W.heap.size, 0, none⟩ 1 1 cs (by omega) (World.news_of_block (by simpa using heap_alloc_new W _)) hp3 (by omega) (by simp only [maxLen]; omega) hl
  have hg' : W.grownBy w1 none := (World.grownBy_alloc W _ none).trans hg
  have hfk : ∀ (j : Nat) (y : α) (c : List Value), (xs ++ [p])[j]? = some y → (rows ++ [cs])[j]? = some c → FK d (W.alloc (.cells cs.toArray e)) ok y c := by
    intro j y c hy hc
    rcases Nat.lt_or_ge j xs.length with hlt | hge
    · rw [List.getElem?_append_left hlt] at hy
      rw [List.getElem?_append_left (by omega)] at hc
      exact hrf j y c hy hc
    · rw [List.getElem?_append_right hge] at hy
      rw [List.getElem?_append_right (by omega), hrl] at hc
      rcases hq : j - xs.length with _ | q
      · rw [hq] at hy hc
        simp only [List.getElem?_cons_zero, Option.some.injEq] at hy hc
        rw [← hy, ← hc]
        exact FK_mono (FK_step hp (fun k _ hlt => (below_alloc (Below.refl _ _) _).block k hlt)) (fun k hk => (hokp k hk).1)
      · rw [hq] at hy; simp at hy
  obtain ⟨hN, b, hb1, hb2⟩ := N_copied d (e := e) (base := base) (W := W.alloc (.cells cs.toArray e)) (xs := xs ++ [p]) (rows := rows ++ [cs]) (inner := inner ++ cs) (ok := ok) (okp := ok) (by simp; omega) (by simpa [hrl] using hown) hcs (by simp [hrl]) (by simp) hfk (fun _ h => h) hg (fun k hk => hfresh k (by simp at hk; omega))
  exact ⟨v1, w1, hrun, hN, HB.grown hg' hbase (by simp), hg', .inr ⟨b, hb1, by simp at hb2; omega⟩⟩
theorem V_append_full (d : Kd α) {w0 W : World} (base : Nat) (hgd : o.guard = none) (s x : Operand) (t e : TypeId) (z : Value) (bytes : Nat)
    (ho : o.op = .call { callee := .builtin .append, args := #[s, x], argTypes := #[t, t] })
    (ht : P.underlying t = some (.slice e)) (hinfo : (P.info? e).map (fun i => (i.zero, i.size, i.bytes)) = some (some z, d.sz, bytes)) (hz : z.cells.size = d.sz) (hs0 : 0 < d.sz) (hb0 : 0 < bytes)
    (v : Value) (xs : List α) (p : α) (cs : List Value) (ok okp : Nat → Prop) (hs : a.eval s = v) (hx : a.eval x = .slice (some ⟨W.heap.size, 0, none⟩) 1 1) (hp : FK d W okp p cs) (hokp : ∀ k, okp k → ok k ∧ some k ≠ (Value.slice none 0 0).ownBlock) (hfresh : ∀ k, W.heap.size ≤ k → ok k)
    (HO : ∃ A, v = .slice A xs.length xs.length ∧ F d W ok A xs.length xs) (HB : Below base w0 W) (hbase : base ≤ W.heap.size) (hl : (xs.length + 1) * bytes ≤ 140737488355328)
    (h : ∀ v1 w1, N d e w1 base ok v1 (xs ++ [p]) → Below base w0 w1 → W.grownBy w1 (Value.slice none 0 0).ownBlock → (v1.ownBlock = (Value.slice none 0 0).ownBlock ∨ ∃ b, v1.ownBlock = some b ∧ W.heap.size ≤ b) → wpList P ops Q rest (a.put o.dst v1) w1) :
    wpList P ops Q (o :: rest) a (W.alloc (.cells cs.toArray e)) := by
  obtain ⟨v1, w1, hr, hN, hB, hg, hat⟩ := V_append_full_run (P := P) d base o.type t e z bytes ht hinfo hz hs0 hb0 v xs p cs ok okp hp hokp hfresh HO HB hbase hl
  have hrun : (execOp a.eval o).run P (W.alloc (.cells cs.toArray e)) = .ok (.value v1) w1 := by
    unfold execOp
    simp only [ho, resolve, invoke, builtin, Sem.run_bind, Sem.run_pure, Result.andThen_ok, List.map_toArray, List.map_cons, List.map_nil, hs, hx, hr]
  exact event_run hgd hrun (h v1 w1 hN hB hg hat)
theorem V_append_full_step (d : Kd α) {w0 W : World} (base : Nat) (hw : Region.wanted o (yielded ops a.tmps) = true) (s x : Operand) (t e : TypeId) (z : Value) (bytes : Nat)
    (ho : o.op = .call { callee := .builtin .append, args := #[s, x], argTypes := #[t, t] })
    (ht : P.underlying t = some (.slice e)) (hinfo : (P.info? e).map (fun i => (i.zero, i.size, i.bytes)) = some (some z, d.sz, bytes)) (hz : z.cells.size = d.sz) (hs0 : 0 < d.sz) (hb0 : 0 < bytes)
    (v : Value) (xs : List α) (p : α) (cs : List Value) (ok okp : Nat → Prop) (hs : a.eval s = v) (hx : a.eval x = .slice (some ⟨W.heap.size, 0, none⟩) 1 1) (hp : FK d W okp p cs) (hokp : ∀ k, okp k → ok k ∧ some k ≠ (Value.slice none 0 0).ownBlock) (hfresh : ∀ k, W.heap.size ≤ k → ok k)
    (HO : ∃ A, v = .slice A xs.length xs.length ∧ F d W ok A xs.length xs) (HB : Below base w0 W) (hbase : base ≤ W.heap.size) (hl : (xs.length + 1) * bytes ≤ 140737488355328)
    (h : ∀ v1 w1, N d e w1 base ok v1 (xs ++ [p]) → Below base w0 w1 → W.grownBy w1 (Value.slice none 0 0).ownBlock → (v1.ownBlock = (Value.slice none 0 0).ownBlock ∨ ∃ b, v1.ownBlock = some b ∧ W.heap.size ≤ b) → Kc (a.put o.dst v1) w1) :
    if Region.wanted o (yielded ops a.tmps) = true then Oper.wp P o a (W.alloc (.cells cs.toArray e)) Kc Q else Kc (a.put o.dst undef) (W.alloc (.cells cs.toArray e)) := by
  obtain ⟨v1, w1, hr, hN, hB, hg, hat⟩ := V_append_full_run (P := P) d base o.type t e z bytes ht hinfo hz hs0 hb0 v xs p cs ok okp hp hokp hfresh HO HB hbase hl
  have hrun : (execOp a.eval o).run P (W.alloc (.cells cs.toArray e)) = .ok (.value v1) w1 := by
    unfold execOp
    simp only [ho, resolve, invoke, builtin, Sem.run_bind, Sem.run_pure, Result.andThen_ok, List.map_toArray, List.map_cons, List.map_nil, hs, hx, hr]
  exact event_step hw hrun (h v1 w1 hN hB hg hat)
/-- append(xs[:n:n], ys...): a new row, or the old one where nothing is appended. -/
theorem V_append_rows_full_run (d : Kd α) {w0 W : World} (base : Nat) (ty : TypeId) (t e : TypeId) (z : Value) (bytes : Nat)
    (ht : P.underlying t = some (.slice e)) (hinfo : (P.info? e).map (fun i => (i.zero, i.size, i.bytes)) = some (some z, d.sz, bytes)) (hz : z.cells.size = d.sz) (hs0 : 0 < d.sz) (hb0 : 0 < bytes)
    (v : Value) (xs ys : List α) (A2 : Option Addr) (m c : Nat) (ok okp : Nat → Prop)
    (HO : ∃ A, v = .slice A xs.length xs.length ∧ F d W ok A xs.length xs) (HR : F d W okp A2 m ys) (hokp : ∀ k, okp k → ok k ∧ some k ≠ (Value.slice none 0 0).ownBlock) (hfresh : ∀ k, W.heap.size ≤ k → ok k)
    (HB : Below base w0 W) (hbase : base ≤ W.heap.size) (hl : (xs.length + m) * bytes ≤ 140737488355328) :
    ∃ v1 w1, (Builtin.append_ #[t, t] ty #[v, .slice A2 m c]).run P W = .ok v1 w1 ∧ V d e w1 base ok v1 (xs ++ ys) ∧ Below base w0 w1 ∧ W.grownBy w1 (Value.slice none 0 0).ownBlock ∧ True := by
  obtain ⟨i0, hi, hzz⟩ := Option.map_eq_some_iff.1 hinfo
  simp only [Prod.mk.injEq] at hzz
  obtain ⟨hz0, hz1, hz2⟩ := hzz
  obtain ⟨A, rfl, hF⟩ := HO
  have hxl : xs.length + m ≤ 140737488355328 := Nat.le_trans (Nat.le_mul_of_pos_right _ hb0) hl
  obtain ⟨rows, hrl, hrr, hrf⟩ := reads_raw (F_rows hF) (fun y c hk => ⟨d.K_len (FK_now hk), d.K_one (FK_now hk)⟩)
  obtain ⟨news, hnl, hnr, hnf⟩ := reads_raw (F_rows HR) (fun y c hk => ⟨d.K_len (FK_now hk), d.K_one (FK_now hk)⟩)
  have hm : ys.length = m := (F_rows HR).1
  rcases Nat.eq_zero_or_pos m with h0 | hpos
  · subst h0
    obtain rfl : ys = [] := List.eq_nil_of_length_eq_zero hm
    have hr : (Builtin.append_ #[t, t] ty #[.slice A xs.length xs.length, .slice A2 0 c]).run P W = .ok (.slice A xs.length xs.length) W := by
      rcases A2 with _ | ad2
      · rcases A with _ | ad
        · have h0 : xs.length = 0 := by
            rcases Nat.eq_zero_or_pos xs.length with h0 | h0
            · exact h0
            · obtain ⟨ad, h, _⟩ := hrr.2.2 h0; cases h
          simp [Builtin.append_, run_underlying ht, sizeOf, typeInfo, hi, Builtin.lenOf, Builtin.firstCells, storeCells, h0]
        · simp [Builtin.append_, run_underlying ht, sizeOf, typeInfo, hi, Builtin.lenOf, Builtin.firstCells, storeCells]
      · have hfc := run_firstCells_some (P := P) W i0.size 0 ad2 0 c [] (by simp) (by simp)
        rcases A with _ | ad
        · have h0 : xs.length = 0 := by
            rcases Nat.eq_zero_or_pos xs.length with h0 | h0
            · exact h0
            · obtain ⟨ad, h, _⟩ := hrr.2.2 h0; cases h
          simp [Builtin.append_, run_underlying ht, sizeOf, typeInfo, hi, Builtin.lenOf, storeCells, hfc, h0]
        · simp [Builtin.append_, run_underlying ht, sizeOf, typeInfo, hi, Builtin.lenOf, storeCells, hfc]
    refine ⟨_, _, hr, ?_, HB, World.grownBy.refl W _, trivial⟩
    rw [List.append_nil]
    exact V_mk (Nat.le_refl _) hF
  · obtain ⟨ad2, rfl, _⟩ := hnr.2.2 hpos
    obtain ⟨ninner, n1, n2⟩ := ReadsRow.inner_ hnr
    have hone : ∀ u ∈ ninner, u.oneCell' = true := by
      intro u hu
      obtain ⟨q, hq, rfl⟩ := List.mem_iff_getElem.1 hu
      have hql : q / d.sz < news.length := by
        rw [Nat.div_lt_iff_lt_mul hs0, ← n1.1]
        exact hq
      obtain ⟨k1, k2, k3⟩ := n1.2 (q / d.sz) _ (List.getElem?_eq_getElem hql)
      refine k3 _ ?_
      rw [List.mem_iff_getElem?]
      refine ⟨q % d.sz, ?_⟩
      rw [List.getElem?_take, if_pos (Nat.mod_lt _ hs0), List.getElem?_drop, Nat.mul_comm, Nat.div_add_mod, List.getElem?_eq_getElem hq]
    have hinner : ∃ inner, Reps (fun x cs => cs = x ∧ cs.length = d.sz ∧ ∀ u ∈ cs, u.oneCell' = true) d.sz rows inner ∧ (∀ b, A = some b → ∀ j u, inner[j]? = some u → W.cell? (b.add j) = some u) ∧ (A = none → xs.length = 0) := by
      cases A with
      | some ad => obtain ⟨inner, r1, r2⟩ := ReadsRow.inner_ hrr; exact ⟨inner, r1, ⟨fun b hb => by injection hb with hb; exact hb ▸ r2, fun h => by cases h⟩⟩
      | none =>
        have h0 : xs.length = 0 := by
          rcases Nat.eq_zero_or_pos xs.length with h0 | h0
          · exact h0
          · obtain ⟨ad, h, _⟩ := hrr.2.2 h0; cases h
        obtain rfl : rows = [] := List.eq_nil_of_length_eq_zero (by omega)
        refine ⟨[], Reps.none _ _, ⟨fun b hb => ?_, fun _ => h0⟩⟩
        cases hb
    obtain ⟨inner, hi1, hi2, hi3⟩ := hinner
    obtain ⟨v1, w1, hrun, hown, hg⟩ := run_append_full (P := P) W t ty e i0 z d.sz bytes ht hi hz0 hz1 hz2 hz hs0 A xs.length inner hi3 (by rw [hi1.1, hrl]) hi2 ad2 m c ninner (by rw [n1.1, hnl, hm]) n2 hone hpos (by simp only [maxLen]; omega) hl
    have hfk : ∀ (j : Nat) (y : α) (c : List Value), (xs ++ ys)[j]? = some y → (rows ++ news)[j]? = some c → FK d W ok y c := by
      intro j y c hy hc
      rcases Nat.lt_or_ge j xs.length with hlt | hge
      · rw [List.getElem?_append_left hlt] at hy
        rw [List.getElem?_append_left (by omega)] at hc
        exact hrf j y c hy hc
      · rw [List.getElem?_append_right hge] at hy
        rw [List.getElem?_append_right (by omega), hrl] at hc
        exact FK_mono (hnf _ y c hy hc) (fun k hk => (hokp k hk).1)
    obtain ⟨hN, b, hb1, hb2⟩ := N_copied d (e := e) (base := base) (W := W) (xs := xs ++ ys) (rows := rows ++ news) (inner := inner ++ ninner) (ok := ok) (okp := ok) hbase (by rw [List.length_append, hrl, hnl, hm]; exact hown) (reps_append hi1 n1) (by simp [hrl, hnl]) (by simp; omega) hfk (fun _ h => h) hg hfresh
    exact ⟨v1, w1, hrun, N_V hN, HB.grown hg hbase (by simp), hg, trivial⟩
theorem V_append_rows_full (d : Kd α) {w0 W : World} (base : Nat) (hgd : o.guard = none) (s x : Operand) (t e : TypeId) (z : Value) (bytes : Nat)
    (ho : o.op = .call { callee := .builtin .append, args := #[s, x], argTypes := #[t, t] })
    (ht : P.underlying t = some (.slice e)) (hinfo : (P.info? e).map (fun i => (i.zero, i.size, i.bytes)) = some (some z, d.sz, bytes)) (hz : z.cells.size = d.sz) (hs0 : 0 < d.sz) (hb0 : 0 < bytes)
    (v : Value) (xs ys : List α) (A2 : Option Addr) (m c : Nat) (ok okp : Nat → Prop) (hs : a.eval s = v) (hx : a.eval x = .slice A2 m c)
    (HO : ∃ A, v = .slice A xs.length xs.length ∧ F d W ok A xs.length xs) (HR : F d W okp A2 m ys) (hokp : ∀ k, okp k → ok k ∧ some k ≠ (Value.slice none 0 0).ownBlock) (hfresh : ∀ k, W.heap.size ≤ k → ok k)
    (HB : Below base w0 W) (hbase : base ≤ W.heap.size) (hl : (xs.length + m) * bytes ≤ 140737488355328)
    (h : ∀ v1 w1, V d e w1 base ok v1 (xs ++ ys) → Below base w0 w1 → W.grownBy w1 (Value.slice none 0 0).ownBlock → True → wpList P ops Q rest (a.put o.dst v1) w1) :
    wpList P ops Q (o :: rest) a W := by
  obtain ⟨v1, w1, hr, hN, hB, hg, hat⟩ := V_append_rows_full_run (P := P) d base o.type t e z bytes ht hinfo hz hs0 hb0 v xs ys A2 m c ok okp HO HR hokp hfresh HB hbase hl
  have hrun : (execOp a.eval o).run P W = .ok (.value v1) w1 := by
    unfold execOp
    simp only [ho, resolve, invoke, builtin, Sem.run_bind, Sem.run_pure, Result.andThen_ok, List.map_toArray, List.map_cons, List.map_nil, hs, hx, hr]
  exact event_run hgd hrun (h v1 w1 hN hB hg hat)
theorem V_append_rows_full_step (d : Kd α) {w0 W : World} (base : Nat) (hw : Region.wanted o (yielded ops a.tmps) = true) (s x : Operand) (t e : TypeId) (z : Value) (bytes : Nat)
    (ho : o.op = .call { callee := .builtin .append, args := #[s, x], argTypes := #[t, t] })
    (ht : P.underlying t = some (.slice e)) (hinfo : (P.info? e).map (fun i => (i.zero, i.size, i.bytes)) = some (some z, d.sz, bytes)) (hz : z.cells.size = d.sz) (hs0 : 0 < d.sz) (hb0 : 0 < bytes)
    (v : Value) (xs ys : List α) (A2 : Option Addr) (m c : Nat) (ok okp : Nat → Prop) (hs : a.eval s = v) (hx : a.eval x = .slice A2 m c)
    (HO : ∃ A, v = .slice A xs.length xs.length ∧ F d W ok A xs.length xs) (HR : F d W okp A2 m ys) (hokp : ∀ k, okp k → ok k ∧ some k ≠ (Value.slice none 0 0).ownBlock) (hfresh : ∀ k, W.heap.size ≤ k → ok k)
    (HB : Below base w0 W) (hbase : base ≤ W.heap.size) (hl : (xs.length + m) * bytes ≤ 140737488355328)
    (h : ∀ v1 w1, V d e w1 base ok v1 (xs ++ ys) → Below base w0 w1 → W.grownBy w1 (Value.slice none 0 0).ownBlock → True → Kc (a.put o.dst v1) w1) :
    if Region.wanted o (yielded ops a.tmps) = true then Oper.wp P o a W Kc Q else Kc (a.put o.dst undef) W := by
  obtain ⟨v1, w1, hr, hN, hB, hg, hat⟩ := V_append_rows_full_run (P := P) d base o.type t e z bytes ht hinfo hz hs0 hb0 v xs ys A2 m c ok okp HO HR hokp hfresh HB hbase hl
  have hrun : (execOp a.eval o).run P W = .ok (.value v1) w1 := by
    unfold execOp
    simp only [ho, resolve, invoke, builtin, Sem.run_bind, Sem.run_pure, Result.andThen_ok, List.map_toArray, List.map_cons, List.map_nil, hs, hx, hr]
  exact event_step hw hrun (h v1 w1 hN hB hg hat)
end
end Kd
namespace Kd
/-- A box of an array of scalars, told as a row of the call's own. -/
theorem box_rowR {α : Type} {enc : α → Value} {h1 : ∀ x, (enc x).oneCell' = true} {w : World} {g t base n : Nat} {v : Value} {xs : List α} {cs : Array Value} (h : w.heap[g]? = some (.cells cs t (0, 0))) (hb : base ≤ g) (hl : n ≤ maxLen) (hc : cs.toList = encs enc xs) (hv : v = .slice (some ⟨g, 0, none⟩) n n) (hn : n = xs.length := by rfl) : (scalar enc h1).R t w base (fun _ => True) v xs := by
  subst hn
  subst hv
  have he : (encs enc xs).length = xs.length := by simp [encs]
  have hs : cs.size = xs.length := by rw [← Array.length_toList, hc, he]
  refine R_of_own ⟨by rw [he, Nat.mul_one], .inr ⟨g, xs.length, cs, rfl, hb, h, Nat.le_refl _, hl, by rw [hs, Nat.mul_one], ?_⟩⟩ (fun _ _ => trivial)
  rw [Nat.mul_one, ← hs, ← Array.length_toList, List.take_length, hc]
theorem lt_eq {a b c : Int} (h : a < b) (e : b = c) : a < c := e ▸ h
theorem slice_inj {A B : Option Addr} {n m c d : Nat} (h : Value.slice A n c = .slice B m d) : A = B ∧ n = m ∧ c = d := by
  injection h with h1 h2 h3
  exact ⟨h1, h2, h3⟩
end Kd
end Go.Proofs.YtgffhdgfloimaaaW.PrintWords

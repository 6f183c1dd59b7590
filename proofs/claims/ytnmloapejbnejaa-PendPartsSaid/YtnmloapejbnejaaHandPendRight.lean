/- What pend.Right computes (a map of what was seen), and that its calls compute it. -/
import Derived.Test.YtnmloapejbnejaaP0
import Derived.Maps.OwnOps
import Derived.Maps.OwnSet
namespace Go.Proofs.Ytnmloapejbnejaa.P
open Go.RowKit Go.Proofs.YtnmloapejbnejaaW.PrintWords Go.Proofs.YtnmloapejbnejaaW.PrintLast Go.Proofs.YtnmloapejbnejaaW.PrintMore Go.Maps
attribute [local go_sem] max2_int min2_int max_two min_two max_three min_three max_four min_four   -- for this text's walks alone
set_option linter.unusedVariables false
set_option linter.unusedSimpArgs false

def pend_Right.l0 : Nat → List S32 → List Int → Int → Option Bool
  | 0, _, _, _ => none
  | k + 1, l, sn, i => if i < (l.length : Int) then (if 0 ≤ i then (if (Lit.int .i64 (rd_T32 l i).f0).wf = true ∧ sn.length < 1000000 then (if (rd_T32 l i).f0 ∈ sn then some false else pend_Right.l0 k l ((rd_T32 l i).f0 :: sn) (wrap64 (i + 1))) else none) else none) else some true
def pend_Right.f (k : Nat) (l : List S32) : Option Bool := pend_Right.l0 k l [] 0
theorem pend_Right.mono_l : ∀ k, (∀ y0 y1 y2, LeO (pend_Right.l0 k y0 y1 y2) (pend_Right.l0 (k + 1) y0 y1 y2))
  | 0 => fun _ _ _ r h => by simp [pend_Right.l0] at h
  | k + 1 => by
    have ih0 := pend_Right.mono_l k
    intro y0 y1 y2
    unfold pend_Right.l0
    exact LeO.ite (LeO.ite (LeO.ite (LeO.ite (LeO.refl _) (ih0 _ _ _)) (LeO.none _)) (LeO.none _)) (LeO.refl _)
theorem pend_Right.mono : ∀ a0 k, LeO (pend_Right.f k a0) (pend_Right.f (k + 1) a0) := fun a0 k => pend_Right.mono_l k _ _ _
/-- The map that holds these. -/
def DM : List Int → DataW Unit
  | [] => .map []
  | x :: l => (DM l).put (.int .i64 x) (.lit (.bool true))
theorem DM_map : ∀ l, IsMap (DM l)
  | [] => isMap_empty
  | x :: l => (DM_map l).put _ _
theorem DM_at (x : Int) : ∀ l, (DM l).atKey (.int .i64 x) (.lit (.bool false)) = .lit (.bool (decide (x ∈ l)))
  | [] => by simp [DM, DataW.atKey]
  | y :: l => by
    by_cases e : x = y
    · subst e
      rw [DM, atKey_put_same (DM_map l) (show WideAt.IsKeyLit (.int .i64 x) from trivial), decide_eq_true List.mem_cons_self]
    · rw [DM, atKey_put_other (fun h => e (by injection h)), DM_at x l]
      congr 2
      exact decide_eq_decide.2 ⟨fun h => List.mem_cons_of_mem _ h, fun h => by rcases List.mem_cons.1 h with h | h; exact absurd h e; exact h⟩
theorem elem_bool_inv {P : Program} {e : TypeId} (he : P.underlying e = some .bool) {v : Value} {z : DataW Unit × List MemPlace} (h : plainElem P e v = some z) : ∃ c, v = .bool c ∧ z = (.lit (.bool c), []) := by
  unfold plainElem at h
  split at h
  · exact ⟨_, rfl, (Option.some.inj h).symm⟩
  · rename_i h1; rw [he] at h1; cases h1
  · rename_i h1; rw [he] at h1; cases h1
  · cases h
theorem wpList_lookup_bool {P : Program} (w : World) {ops : Array Oper} {rest : List Oper} {o : Oper} {a : Act} {Q : Exit → Act → World → Prop}
    (hg : o.guard = none) (m x : Operand) (t : TypeId) (hop : o.op = Op.lookup t m x false)
    (k e : TypeId) (K : Keyed P k) (ht : P.underlying t = some (.map k e)) (he : P.underlying e = some .bool) (hz : (zeroValue e).run P w = .ok (.bool false) w) (b n : Nat) (D : DataW Unit)
    (hm : a.eval m = .map (some b)) (hown : w.ownsMap P k (plainElem P e) b n D) (key : Value) (kl : Lit) (hx : a.eval x = key) (hkey : keyOf P k key = some kl)
    (hK : ∀ c : Bool, D.atKey kl (.lit (.bool false)) = .lit (.bool c) → wpList P ops Q rest (a.put o.dst (.bool c)) w) :
    wpList P ops Q (o :: rest) a w := by
  refine wpList_plain hg fun K' hK' => ?_
  obtain ⟨v, ps, hrun, hR⟩ := hown.lookup K ht hz (plainElem_bool he false) hkey
  obtain ⟨c, rfl, hc⟩ := elem_bool_inv he hR
  unfold Oper.wp
  simp [execOp, hop, hm, hx, hrun, Result.andThen]
  exact hK' _ _ (hK c (by injection hc))
theorem zeroB (w : World) : (zeroValue 4).run Try.prog w = .ok (.bool false) w := by kernel_rfl
set_option maxHeartbeats 8000000 in
set_option maxRecDepth 100000 in
theorem pend_Right.calls (k : Nat) (A0 : Option Addr) (c0 : Nat) (l0 : List S32) (r : Bool) (w : World) (hr0 : Kd.C k32 w A0 l0.length l0) (hc0 : l0.length ≤ c0) (h : pend_Right.f k l0 = some r) :
    Calls Try.prog 14 #[.slice A0 l0.length c0] w fun e w' => e = .returned (.bool r) ∧ Below w.heap.size w w' := by
  have hu := Try.underlying32
  have law : Keyed Try.prog 3 := int_keyed Try.underlying3
  have hmm := @run_makeMap Try.prog
  have HR0 := Aside0.mk hr0
  have HC0 := Aside0.mk hc0
  clear hr0 hc0
  have H' := Aside0.mk (show pend_Right.l0 k l0 [] 0 = some r from h)
  clear h
  go_enter Try.func14, Try.ntmps14
  go_wp2
  go_loopg [9] k (fun kq v9 w' => ∃ (x9 : Int) (sn : List Int), v9 = .int .i64 x9 ∧ Aside0 (pend_Right.l0 kq l0 sn x9 = some r) ∧ Aside0 (kq ≤ k) ∧ Aside0 (w'.ownsMap Try.prog 3 (plainElem Try.prog 4) w.heap.size sn.length (DM sn)) ∧ Aside0 (Below w.heap.size w w'))
  case atStart => exact ⟨0, [], rfl, H', ⟨Nat.le_refl _⟩, ⟨World.ownsMap_made _ _ _ _⟩, ⟨(Below.refl _ _).alloc (Nat.le_refl _) _⟩⟩
  case round =>
    clear H' hmm
    obtain ⟨x9, sn, rfl, HA, HK1, HM, HB⟩ := hrel
    cases gk with
    | zero => exact absurd HA.out (by simp [pend_Right.l0])
    | succ k1 =>
      have H := HA.out
      clear HA
      simp only [pend_Right.l0] at H
      by_cases c1 : x9 < (l0.length : Int)
      · rw [if_pos c1] at H
        by_cases c2 : 0 ≤ x9
        · rw [if_pos c2] at H
          by_cases c3 : (Lit.int .i64 (rd_T32 l0 x9).f0).wf = true ∧ sn.length < 1000000
          · rw [if_pos c3] at H
            obtain ⟨hwf, hsl⟩ := c3
            have hkey : Aside0 (keyOf Try.prog 3 (.int .i64 (rd_T32 l0 x9).f0) = some (.int .i64 (rd_T32 l0 x9).f0)) := ⟨keyOf_int_mk Try.underlying3 hwf⟩
            have hDM := Aside0.mk (DM_at (rd_T32 l0 x9).f0 sn)
            have hLM : Aside0 (sn.length < maxLen) := ⟨by unfold maxLen; omega⟩
            clear hwf hsl
            obtain ⟨ad, A10, c10, e1, hx0, hx1, hx2, hx3, hx4, hx5, hx6, hx7, hx8, hx9, hx10, hx11, hl10, hi10⟩ := at_T32 HR0.out x9 c2 c1
            cases e1
            clear hl10 hi10
            replace hx0 := (HB.out.cell (World.block_lt_of_cell? w _ hx0)).trans hx0
            replace hx1 := (HB.out.cell (World.block_lt_of_cell? w _ hx1)).trans hx1
            replace hx2 := (HB.out.cell (World.block_lt_of_cell? w _ hx2)).trans hx2
            replace hx3 := (HB.out.cell (World.block_lt_of_cell? w _ hx3)).trans hx3
            replace hx4 := (HB.out.cell (World.block_lt_of_cell? w _ hx4)).trans hx4
            replace hx5 := (HB.out.cell (World.block_lt_of_cell? w _ hx5)).trans hx5
            replace hx6 := (HB.out.cell (World.block_lt_of_cell? w _ hx6)).trans hx6
            replace hx7 := (HB.out.cell (World.block_lt_of_cell? w _ hx7)).trans hx7
            replace hx8 := (HB.out.cell (World.block_lt_of_cell? w _ hx8)).trans hx8
            replace hx9 := (HB.out.cell (World.block_lt_of_cell? w _ hx9)).trans hx9
            replace hx10 := (HB.out.cell (World.block_lt_of_cell? w _ hx10)).trans hx10
            replace hx11 := (HB.out.cell (World.block_lt_of_cell? w _ hx11)).trans hx11
            have c1b : decide (x9 < (l0.length : Int)) = true := decide_eq_true c1
            replace c1 := eq_true c1
            replace c2 := eq_true c2
            by_cases c4 : (rd_T32 l0 x9).f0 ∈ sn
            · rw [if_pos c4] at H
              obtain rfl := Option.some.inj H
              clear H
              go_wp2_with (first | ((with_reducible refine gate_dst (N := 5) rfl ?_); refine box_event ?hg (N := 5) ?hd (cs := #[.int .i64 0, .int .i64 0, .int .i64 0, .int .i64 0, .int .i64 0, .int .i64 0, .int .i64 0, .int .i64 0, .int .i64 0, .int .i64 0, .slice none 0 0, .int .i64 0]) (t := 32) ?hr ?_; (case hd => rfl); (case hg => rfl); (case hr => first | (go_simp; done) | (go_simp; rfl)); intro gb hg w2 hbox hb; have hown2 := Aside0.mk (HM.out.kept (grown_of_below hb none) (by simp)); have hB2 := Aside0.mk (below_step HB.out hb); have hge : Aside0 (w.heap.size ≤ gb) := ⟨by rw [hg]; exact below_size HB.out⟩; have hne : Aside0 (w.heap.size ≠ gb) := ⟨by rw [hg]; exact Nat.ne_of_lt HM.out.lt⟩; have hcz0 : w2.cell? ⟨gb, 0, none⟩ = some (.int .i64 0) := (blk_cell hbox 0).trans rfl; have hcz1 : w2.cell? ⟨gb, 1, none⟩ = some (.int .i64 0) := (blk_cell hbox 1).trans rfl; have hcz2 : w2.cell? ⟨gb, 2, none⟩ = some (.int .i64 0) := (blk_cell hbox 2).trans rfl; have hcz3 : w2.cell? ⟨gb, 3, none⟩ = some (.int .i64 0) := (blk_cell hbox 3).trans rfl; have hcz4 : w2.cell? ⟨gb, 4, none⟩ = some (.int .i64 0) := (blk_cell hbox 4).trans rfl; have hcz5 : w2.cell? ⟨gb, 5, none⟩ = some (.int .i64 0) := (blk_cell hbox 5).trans rfl; have hcz6 : w2.cell? ⟨gb, 6, none⟩ = some (.int .i64 0) := (blk_cell hbox 6).trans rfl; have hcz7 : w2.cell? ⟨gb, 7, none⟩ = some (.int .i64 0) := (blk_cell hbox 7).trans rfl; have hcz8 : w2.cell? ⟨gb, 8, none⟩ = some (.int .i64 0) := (blk_cell hbox 8).trans rfl; have hcz9 : w2.cell? ⟨gb, 9, none⟩ = some (.int .i64 0) := (blk_cell hbox 9).trans rfl; have hcz10 : w2.cell? ⟨gb, 10, none⟩ = some (.slice none 0 0) := (blk_cell hbox 10).trans rfl; have hcz11 : w2.cell? ⟨gb, 11, none⟩ = some (.int .i64 0) := (blk_cell hbox 11).trans rfl; have hfz0 := blk_frozen hbox 0; have hfz1 := blk_frozen hbox 1; have hfz2 := blk_frozen hbox 2; have hfz3 := blk_frozen hbox 3; have hfz4 := blk_frozen hbox 4; have hfz5 := blk_frozen hbox 5; have hfz6 := blk_frozen hbox 6; have hfz7 := blk_frozen hbox 7; have hfz8 := blk_frozen hbox 8; have hfz9 := blk_frozen hbox 9; have hfz10 := blk_frozen hbox 10; have hfz11 := blk_frozen hbox 11; have hbox' := Aside0.mk hbox; clear hbox hb hg) | (at_lookup; refine wpList_lookup_bool _ rfl _ _ 49 rfl 3 4 law Try.underlying49 Try.underlying4 (zeroB _) w.heap.size sn.length (DM sn) rfl (by with_reducible repeat (first | exact hown2.out | refine World.ownsMap.setCell ?_ hne.out _)) _ _ rfl hkey.out ?_; intro c hat; have hc : c = true := (by have h_ := hDM.out.symm.trans hat; injection h_ with h_; injection h_ with h_; rw [← h_]; exact decide_eq_true c4); subst hc; clear hat))
              go_ret
              exact ⟨rfl, by with_reducible repeat (first | exact hB2.out | refine below_set ?_ hge.out)⟩
            · rw [if_neg c4] at H
              have H' := Aside0.mk H
              clear H
              go_wp2_with (first | ((with_reducible refine gate_dst (N := 5) rfl ?_); refine box_event ?hg (N := 5) ?hd (cs := #[.int .i64 0, .int .i64 0, .int .i64 0, .int .i64 0, .int .i64 0, .int .i64 0, .int .i64 0, .int .i64 0, .int .i64 0, .int .i64 0, .slice none 0 0, .int .i64 0]) (t := 32) ?hr ?_; (case hd => rfl); (case hg => rfl); (case hr => first | (go_simp; done) | (go_simp; rfl)); intro gb hg w2 hbox hb; have hown2 := Aside0.mk (HM.out.kept (grown_of_below hb none) (by simp)); have hB2 := Aside0.mk (below_step HB.out hb); have hge : Aside0 (w.heap.size ≤ gb) := ⟨by rw [hg]; exact below_size HB.out⟩; have hne : Aside0 (w.heap.size ≠ gb) := ⟨by rw [hg]; exact Nat.ne_of_lt HM.out.lt⟩; have hcz0 : w2.cell? ⟨gb, 0, none⟩ = some (.int .i64 0) := (blk_cell hbox 0).trans rfl; have hcz1 : w2.cell? ⟨gb, 1, none⟩ = some (.int .i64 0) := (blk_cell hbox 1).trans rfl; have hcz2 : w2.cell? ⟨gb, 2, none⟩ = some (.int .i64 0) := (blk_cell hbox 2).trans rfl; have hcz3 : w2.cell? ⟨gb, 3, none⟩ = some (.int .i64 0) := (blk_cell hbox 3).trans rfl; have hcz4 : w2.cell? ⟨gb, 4, none⟩ = some (.int .i64 0) := (blk_cell hbox 4).trans rfl; have hcz5 : w2.cell? ⟨gb, 5, none⟩ = some (.int .i64 0) := (blk_cell hbox 5).trans rfl; have hcz6 : w2.cell? ⟨gb, 6, none⟩ = some (.int .i64 0) := (blk_cell hbox 6).trans rfl; have hcz7 : w2.cell? ⟨gb, 7, none⟩ = some (.int .i64 0) := (blk_cell hbox 7).trans rfl; have hcz8 : w2.cell? ⟨gb, 8, none⟩ = some (.int .i64 0) := (blk_cell hbox 8).trans rfl; have hcz9 : w2.cell? ⟨gb, 9, none⟩ = some (.int .i64 0) := (blk_cell hbox 9).trans rfl; have hcz10 : w2.cell? ⟨gb, 10, none⟩ = some (.slice none 0 0) := (blk_cell hbox 10).trans rfl; have hcz11 : w2.cell? ⟨gb, 11, none⟩ = some (.int .i64 0) := (blk_cell hbox 11).trans rfl; have hfz0 := blk_frozen hbox 0; have hfz1 := blk_frozen hbox 1; have hfz2 := blk_frozen hbox 2; have hfz3 := blk_frozen hbox 3; have hfz4 := blk_frozen hbox 4; have hfz5 := blk_frozen hbox 5; have hfz6 := blk_frozen hbox 6; have hfz7 := blk_frozen hbox 7; have hfz8 := blk_frozen hbox 8; have hfz9 := blk_frozen hbox 9; have hfz10 := blk_frozen hbox 10; have hfz11 := blk_frozen hbox 11; have hbox' := Aside0.mk hbox; clear hbox hb hg) | (at_lookup; refine wpList_lookup_bool _ rfl _ _ 49 rfl 3 4 law Try.underlying49 Try.underlying4 (zeroB _) w.heap.size sn.length (DM sn) rfl (by with_reducible repeat (first | exact hown2.out | refine World.ownsMap.setCell ?_ hne.out _)) _ _ rfl hkey.out ?_; intro c hat; have hc : c = false := (by have h_ := hDM.out.symm.trans hat; injection h_ with h_; injection h_ with h_; rw [← h_]; exact decide_eq_false c4); subst hc; clear hat) | (at_mapUpdate; refine wpList_mapUpdate_own _ rfl _ _ _ 49 rfl 3 4 law Try.underlying49 _ w.heap.size sn.length (DM sn) rfl (by with_reducible repeat (first | exact hown2.out | refine World.ownsMap.setCell ?_ hne.out _)) hLM.out _ _ _ rfl rfl hkey.out _ [] (plainElem_bool Try.underlying4 true) ?_; intro w3 hown3 hgrow3))
              go_roundg k1
              case measure => have := HK1.out; omega
              case rel => exact ⟨_, (rd_T32 l0 x9).f0 :: sn, rfl, H', ⟨by have := HK1.out; omega⟩, ⟨hown3⟩, ⟨(show Below w.heap.size w _ from by with_reducible repeat (first | exact hB2.out | refine below_set ?_ hge.out)).grown hgrow3 (Nat.le_trans hge.out (Nat.le_of_lt (blk_lt hbox'.out)) |> fun h_ => by simpa using h_) (fun k_ hk_ => by cases hk_; exact Nat.le_refl _)⟩⟩
          · rw [if_neg c3] at H
            exact absurd H (by simp)
        · rw [if_neg c2] at H
          exact absurd H (by simp)
      · rw [if_neg c1] at H
        have c1b : decide (x9 < (l0.length : Int)) = false := decide_eq_false c1
        obtain rfl := Option.some.inj H
        go_wp2
        go_ret
        exact ⟨rfl, HB.out⟩
end Go.Proofs.Ytnmloapejbnejaa.P

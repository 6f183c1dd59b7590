-- Written by a program of this session (wip/mkprint.py). Not trusted: Lean checks it.
import Derived.Test.YtnmloapejbnejaaP0
import Derived.Test.YtnmloapejbnejaaP4
namespace Go.Proofs.Ytnmloapejbnejaa.P
open Go.RowKit Go.Proofs.YtnmloapejbnejaaW.PrintWords Go.Proofs.YtnmloapejbnejaaW.PrintLast Go.Proofs.YtnmloapejbnejaaW.PrintMore
attribute [local go_sem] max2_int min2_int max_two min_two max_three min_three max_four min_four   -- for this text's walks alone
set_option linter.unusedVariables false
set_option linter.unusedSimpArgs false

/-! ### ref20_Add: function 15 -/
def ref20_Add.f (k : Nat) (l0 : List (S32)) (a1_0 : Int) (a1_1 : Int) (a1_2 : Int) (a1_3 : Int) (a1_4 : Int) (a1_5 : Int) (a1_6 : Int) (a1_7 : Int) (a1_8 : Int) (a1_9 : Int) (l1_10 : List Int) (a1_11 : Int) (a2 : Int) : Option ((List (S32)) × Int) := if (l0.length : Int) ≥ a2 then (some (l0, 11)) else ((ref20_Find.f k l0 a1_0).bind fun t233 => (if t233 ≥ 0 then (some (l0, 1)) else ((some (([] : List (S32)) : List (S32))).bind fun y234 => (if y234.length + l0.length < 1256584717458 then ((some (y234 ++ l0 : List (S32))).bind fun y237 => ((some (([(⟨a1_0, a1_1, a1_2, a1_3, a1_4, (⟨a1_5, a1_6, a1_7, a1_8, a1_9, l1_10⟩ : S30), a1_11⟩ : S32)] : List (S32)) : List (S32))).bind fun y240 => (if y237.length + y240.length < 1256584717458 then (some ((y237 ++ y240), 0)) else (none)))) else (none)))))
theorem ref20_Add.mono : ∀ a0 a1 a2 a3 a4 a5 a6 a7 a8 a9 a10 a11 a12 a13 k, LeO (ref20_Add.f k a0 a1 a2 a3 a4 a5 a6 a7 a8 a9 a10 a11 a12 a13) (ref20_Add.f (k + 1) a0 a1 a2 a3 a4 a5 a6 a7 a8 a9 a10 a11 a12 a13) := by
 intro a0 a1 a2 a3 a4 a5 a6 a7 a8 a9 a10 a11 a12 a13 k
 unfold ref20_Add.f
 repeat' first
  | (with_reducible exact ref20_Find.mono _ _ _)
  | (with_reducible exact LeO.refl _)
  | (with_reducible exact LeO.none _)
  | (with_reducible refine LeO.ite ?_ ?_)
  | (with_reducible refine LeO.bind ?_ (fun _ => ?_))
  | exact ref20_Find.mono _ _ _
  | exact LeO.none _
  | refine LeO.ite ?_ ?_
  | refine LeO.bind ?_ (fun _ => ?_)
def ref20_Add.T5 : Bool × List (List Nat × List Nat) := (true, [([], []), ([], []), ([0, 1], [0, 1]), ([], []), ([3], [3]), ([2, 4, 2], [2, 4]), ([5, 5, 0, 1, 2, 3, 4, 5], [5]), ([6, 0, 1, 2, 3, 4, 5, 6], [])])
def ref20_Add.B5 : List Nat := [0, 0, 3, 0, 8, 31, 63, 127]
theorem ref20_Add.tab5 : rtab .any (opsOf Try.f15 5) = ref20_Add.T5 := by kernel_rfl
theorem ref20_Add.bits5 : waitsOk ref20_Add.T5.2 ref20_Add.B5 = true := by kernel_rfl
set_option maxHeartbeats 8000000 in
set_option maxRecDepth 100000 in
theorem ref20_Add.calls (k : Nat) (P0_ : Nat → Prop) (A0 : Option Addr) (c0 : Nat) (l0 : List (S32)) (a1_0 : Int) (a1_1 : Int) (a1_2 : Int) (a1_3 : Int) (a1_4 : Int) (a1_5 : Int) (a1_6 : Int) (a1_7 : Int) (a1_8 : Int) (a1_9 : Int) (P1_10_ : Nat → Prop) (A1_10 : Option Addr) (c1_10 : Nat) (l1_10 : List Int) (a1_11 : Int) (a2 : Int) (r1 : List (S32)) (r2 : Int) (w : World) (hs0 : Kd.V k32 32 w w.heap.size (fun k_ => P0_ k_) (.slice A0 l0.length c0) l0) (hs1_10 : Kd.V (Kd.int .i64) 3 w w.heap.size (fun k_ => P1_10_ k_) (.slice A1_10 l1_10.length c1_10) l1_10) (h : ref20_Add.f k l0 a1_0 a1_1 a1_2 a1_3 a1_4 a1_5 a1_6 a1_7 a1_8 a1_9 l1_10 a1_11 a2 = some (r1, r2)) :
 Calls Try.prog 15 #[.slice A0 l0.length c0, .agg #[.int .i64 a1_0, .int .i64 a1_1, .int .i64 a1_2, .int .i64 a1_3, .int .i64 a1_4, .int .i64 a1_5, .int .i64 a1_6, .int .i64 a1_7, .int .i64 a1_8, .int .i64 a1_9, .slice A1_10 l1_10.length c1_10, .int .i64 a1_11], .int .i64 a2] w fun e w' => ∃ v0_ : Value, e = .returned (.tuple #[v0_, .int .i64 r2]) ∧ Kd.V k32 32 w' w.heap.size (fun k_ => ((P0_ k_ ∨ P1_10_ k_) ∨ w.heap.size ≤ k_)) v0_ r1 ∧ Below w.heap.size w w' := by
 have hu32 := Try.underlying32
 have HO0 := Aside0.mk (show Kd.V k32 32 w w.heap.size (fun k_ => ((P0_ k_ ∨ P1_10_ k_) ∨ w.heap.size ≤ k_)) (.slice A0 l0.length c0) l0 from Kd.V_mono hs0 (fun k_ hk => .inl (.inl hk)))
 have HO1_10 := Aside0.mk (show Kd.V (Kd.int .i64) 3 w w.heap.size (fun k_ => ((P0_ k_ ∨ P1_10_ k_) ∨ w.heap.size ≤ k_)) (.slice A1_10 l1_10.length c1_10) l1_10 from Kd.V_mono hs1_10 (fun k_ hk => .inl (.inr hk)))
 have HB := Aside0.mk (Below.refl w.heap.size w)
 have H : (if (l0.length : Int) ≥ a2 then (some (l0, 11)) else ((ref20_Find.f k l0 a1_0).bind fun t233 => (if t233 ≥ 0 then (some (l0, 1)) else ((some (([] : List (S32)) : List (S32))).bind fun y234 => (if y234.length + l0.length < 1256584717458 then ((some (y234 ++ l0 : List (S32))).bind fun y237 => ((some (([(⟨a1_0, a1_1, a1_2, a1_3, a1_4, (⟨a1_5, a1_6, a1_7, a1_8, a1_9, l1_10⟩ : S30), a1_11⟩ : S32)] : List (S32)) : List (S32))).bind fun y240 => (if y237.length + y240.length < 1256584717458 then (some ((y237 ++ y240), 0)) else (none)))) else (none)))))) = some (r1, r2) := h
 clear h
 by_cases c4 : (l0.length : Int) ≥ a2
 ·rw [if_pos c4] at H
  have c4b0 : decide (a2 ≤ (l0.length : Int)) = true := decide_eq_true c4
  clear c4
  simp only [Option.some.injEq, Prod.mk.injEq] at H
  obtain ⟨rfl, rfl⟩ := H
  go_enter Try.func15, Try.ntmps15
  go_wp2_with (first | ((with_reducible refine gate_dst (N := 4) rfl ?_); refine box_event ?hg (N := 4) ?hd (cs := #[.int .i64 a1_0, .int .i64 a1_1, .int .i64 a1_2, .int .i64 a1_3, .int .i64 a1_4, .int .i64 a1_5, .int .i64 a1_6, .int .i64 a1_7, .int .i64 a1_8, .int .i64 a1_9, .slice A1_10 l1_10.length c1_10, .int .i64 a1_11]) (t := 32) ?hr ?_; (case hd => rfl); (case hg => rfl); (case hr => first | (go_simp; done) | (go_simp; rfl)); intro gb232 hg w5 hbox hb; have n0_ := Aside0.mk (Kd.V_below (Kd.V_elderB (by (with_reducible repeat (first | apply Kd.V_alloc | apply Kd.V_drewN | apply Kd.V_drew)); exact HO0.out) gb232 (Nat.le_of_eq hg.symm)) hb); have n1_ := Aside0.mk (Kd.V_below (Kd.V_elderB (by (with_reducible repeat (first | apply Kd.V_alloc | apply Kd.V_drewN | apply Kd.V_drew)); exact HO1_10.out) gb232 (Nat.le_of_eq hg.symm)) hb); have n2_ := Aside0.mk (below_step (by repeat (first | (with_reducible first | exact HB.out | apply below_alloc | apply pw_below_drewN | apply below_drew1) | exact HB.out)) hb); have n3_ := Aside0.mk (hbox); have n4_ := Aside0.mk ((by rw [hg]; exact (below_size (by repeat (first | (with_reducible first | exact HB.out | apply below_alloc | apply pw_below_drewN | apply below_drew1) | exact HB.out))) : w.heap.size ≤ gb232)); have n5_ := Aside0.mk ((by rw [hg]; exact (below_size (by repeat (first | (with_reducible first | exact HB.out | apply below_alloc | apply pw_below_drewN | apply below_drew1) | exact HB.out))) : w.heap.size ≤ gb232)); clear HO0; clear HO1_10; clear HB; have HO0 := n0_; have HO1_10 := n1_; have HB := n2_; have BK232 := n3_; have GW232 := n4_; have GE232 := n5_; clear n0_ n1_ n2_ n3_ n4_ n5_; clear hb hbox hg))
  go_ret2
  exact ⟨_, by first | rfl | (simp [errW_none, errW_some] <;> rfl) | (simp [*, errW_none, errW_some] <;> rfl), by (with_reducible repeat (first | apply Kd.V_alloc | apply Kd.V_drewN | apply Kd.V_drew)); exact Kd.V_mono HO0.out (fun _ hk => hk.1), by repeat (first | (with_reducible first | exact HB.out | apply below_alloc | apply pw_below_drewN | apply below_drew1 | refine below_set ?_ GE232.out) | exact HB.out)⟩
 ·rw [if_neg c4] at H
  have c4b0 : decide (a2 ≤ (l0.length : Int)) = false := decide_eq_false c4
  clear c4
  replace H := Option.bind_eq_some_iff.mp H
  obtain ⟨t233, A60, H⟩ := H
  replace H : (if t233 ≥ 0 then (some (l0, 1)) else ((some (([] : List (S32)) : List (S32))).bind fun y234 => (if y234.length + l0.length < 1256584717458 then ((some (y234 ++ l0 : List (S32))).bind fun y237 => ((some (([(⟨a1_0, a1_1, a1_2, a1_3, a1_4, (⟨a1_5, a1_6, a1_7, a1_8, a1_9, l1_10⟩ : S30), a1_11⟩ : S32)] : List (S32)) : List (S32))).bind fun y240 => (if y237.length + y240.length < 1256584717458 then (some ((y237 ++ y240), 0)) else (none)))) else (none)))) = some (r1, r2) := H
  have A6 := Aside0.mk A60
  clear A60
  by_cases c7 : t233 ≥ 0
  ·rw [if_pos c7] at H
   have c7b0 : decide (0 ≤ t233) = true := decide_eq_true c7
   clear c7
   simp only [Option.some.injEq, Prod.mk.injEq] at H
   obtain ⟨rfl, rfl⟩ := H
   go_enter Try.func15, Try.ntmps15
   go_wp2_with (first | ((with_reducible refine gate_dst (N := 4) rfl ?_); refine box_event ?hg (N := 4) ?hd (cs := #[.int .i64 a1_0, .int .i64 a1_1, .int .i64 a1_2, .int .i64 a1_3, .int .i64 a1_4, .int .i64 a1_5, .int .i64 a1_6, .int .i64 a1_7, .int .i64 a1_8, .int .i64 a1_9, .slice A1_10 l1_10.length c1_10, .int .i64 a1_11]) (t := 32) ?hr ?_; (case hd => rfl); (case hg => rfl); (case hr => first | (go_simp; done) | (go_simp; rfl)); intro gb232 hg w8 hbox hb; have n0_ := Aside0.mk (Kd.V_below (Kd.V_elderB (by (with_reducible repeat (first | apply Kd.V_alloc | apply Kd.V_drewN | apply Kd.V_drew)); exact HO0.out) gb232 (Nat.le_of_eq hg.symm)) hb); have n1_ := Aside0.mk (Kd.V_below (Kd.V_elderB (by (with_reducible repeat (first | apply Kd.V_alloc | apply Kd.V_drewN | apply Kd.V_drew)); exact HO1_10.out) gb232 (Nat.le_of_eq hg.symm)) hb); have n2_ := Aside0.mk (below_step (by repeat (first | (with_reducible first | exact HB.out | apply below_alloc | apply pw_below_drewN | apply below_drew1) | exact HB.out)) hb); have n3_ := Aside0.mk (hbox); have n4_ := Aside0.mk ((by rw [hg]; exact (below_size (by repeat (first | (with_reducible first | exact HB.out | apply below_alloc | apply pw_below_drewN | apply below_drew1) | exact HB.out))) : w.heap.size ≤ gb232)); have n5_ := Aside0.mk ((by rw [hg]; exact (below_size (by repeat (first | (with_reducible first | exact HB.out | apply below_alloc | apply pw_below_drewN | apply below_drew1) | exact HB.out))) : w.heap.size ≤ gb232)); clear HO0; clear HO1_10; clear HB; have HO0 := n0_; have HO1_10 := n1_; have HB := n2_; have BK232 := n3_; have GW232 := n4_; have GE232 := n5_; clear n0_ n1_ n2_ n3_ n4_ n5_; clear hb hbox hg; have hcz9_0 : w8.cell? ⟨gb232, 0, none⟩ = some (.int .i64 a1_0) := (blk_cell BK232.out 0).trans rfl; have hcz9_1 : w8.cell? ⟨gb232, 1, none⟩ = some (.int .i64 a1_1) := (blk_cell BK232.out 1).trans rfl; have hcz9_2 : w8.cell? ⟨gb232, 2, none⟩ = some (.int .i64 a1_2) := (blk_cell BK232.out 2).trans rfl; have hcz9_3 : w8.cell? ⟨gb232, 3, none⟩ = some (.int .i64 a1_3) := (blk_cell BK232.out 3).trans rfl; have hcz9_4 : w8.cell? ⟨gb232, 4, none⟩ = some (.int .i64 a1_4) := (blk_cell BK232.out 4).trans rfl; have hcz9_5 : w8.cell? ⟨gb232, 5, none⟩ = some (.int .i64 a1_5) := (blk_cell BK232.out 5).trans rfl; have hcz9_6 : w8.cell? ⟨gb232, 6, none⟩ = some (.int .i64 a1_6) := (blk_cell BK232.out 6).trans rfl; have hcz9_7 : w8.cell? ⟨gb232, 7, none⟩ = some (.int .i64 a1_7) := (blk_cell BK232.out 7).trans rfl; have hcz9_8 : w8.cell? ⟨gb232, 8, none⟩ = some (.int .i64 a1_8) := (blk_cell BK232.out 8).trans rfl; have hcz9_9 : w8.cell? ⟨gb232, 9, none⟩ = some (.int .i64 a1_9) := (blk_cell BK232.out 9).trans rfl; have hcz9_10 : w8.cell? ⟨gb232, 10, none⟩ = some (.slice A1_10 l1_10.length c1_10) := (blk_cell BK232.out 10).trans rfl; have hcz9_11 : w8.cell? ⟨gb232, 11, none⟩ = some (.int .i64 a1_11) := (blk_cell BK232.out 11).trans rfl; have hfz9_0 := blk_frozen BK232.out 0; have hfz9_1 := blk_frozen BK232.out 1; have hfz9_2 := blk_frozen BK232.out 2; have hfz9_3 := blk_frozen BK232.out 3; have hfz9_4 := blk_frozen BK232.out 4; have hfz9_5 := blk_frozen BK232.out 5; have hfz9_6 := blk_frozen BK232.out 6; have hfz9_7 := blk_frozen BK232.out 7; have hfz9_8 := blk_frozen BK232.out 8; have hfz9_9 := blk_frozen BK232.out 9; have hfz9_10 := blk_frozen BK232.out 10; have hfz9_11 := blk_frozen BK232.out 11) | ((with_reducible refine gate_callee (f := 18) rfl ?_); refine goesL_ (some 16) rfl rfl Try.func18 (by kernel_rfl) rfl #[.slice A0 l0.length c0, .int .i64 a1_0] rfl (by (try simp only [List.map_toArray, List.map_cons, List.map_nil]); first | done | rfl | (simp only [List.length_drop, List.length_take]; rfl)) ?_; (with_reducible refine (ref20_Find.calls k _ _ l0 a1_0 t233 _ ?side1 ?side2 A6.out).mono ?_); (case side1 => repeat (first | exact (Kd.V_reads' HO0.out).2.2 | (with_reducible refine Kd.C_alloc ?_ _) | (with_reducible refine Kd.C_drewN ?_ _) | (with_reducible refine Kd.C_drew ?_))); (case side2 => exact (Kd.V_reads' HO0.out).2.1); rintro e w' ⟨rfl, ⟨nd, rfl⟩⟩; refine ⟨_, rfl, ?_⟩))
   go_ret2
   exact ⟨_, by first | rfl | (simp [errW_none, errW_some] <;> rfl) | (simp [*, errW_none, errW_some] <;> rfl), by (with_reducible repeat (first | apply Kd.V_alloc | apply Kd.V_drewN | apply Kd.V_drew)); exact Kd.V_mono HO0.out (fun _ hk => hk.1), by repeat (first | (with_reducible first | exact HB.out | apply below_alloc | apply pw_below_drewN | apply below_drew1 | refine below_set ?_ GE232.out) | exact HB.out)⟩
  ·rw [if_neg c7] at H
   have c7b0 : decide (0 ≤ t233) = false := decide_eq_false c7
   clear c7
   obtain ⟨y234, hy234⟩ : ∃ y_ : List (S32), y_ = (([] : List (S32))) := ⟨_, rfl⟩
   replace H : (if y234.length + l0.length < 1256584717458 then ((some (y234 ++ l0 : List (S32))).bind fun y237 => ((some (([(⟨a1_0, a1_1, a1_2, a1_3, a1_4, (⟨a1_5, a1_6, a1_7, a1_8, a1_9, l1_10⟩ : S30), a1_11⟩ : S32)] : List (S32)) : List (S32))).bind fun y240 => (if y237.length + y240.length < 1256584717458 then (some ((y237 ++ y240), 0)) else (none)))) else (none)) = some (r1, r2) := by first | (rw [hy234]; with_reducible exact H) | (have H2_ := (Option.bind_some _ _).symm.trans H; rw [hy234]; with_reducible exact H2_) | (have H2_ := (Option.bind_some _ _).symm.trans H; with_reducible exact H2_) | with_reducible exact H | (rw [hy234]; exact H) | exact H
   have Ny234 := Aside0.mk hy234
   clear hy234
   by_cases c10 : y234.length + l0.length < 1256584717458
   rotate_left
   ·rw [if_neg c10] at H
    exact absurd H (by simp)

   rw [if_pos c10] at H
   have LMc10 := Aside0.mk c10
   clear c10
   obtain ⟨y237, hy237⟩ : ∃ y_ : List (S32), y_ = (y234 ++ l0) := ⟨_, rfl⟩
   replace H : ((some (([(⟨a1_0, a1_1, a1_2, a1_3, a1_4, (⟨a1_5, a1_6, a1_7, a1_8, a1_9, l1_10⟩ : S30), a1_11⟩ : S32)] : List (S32)) : List (S32))).bind fun y240 => (if y237.length + y240.length < 1256584717458 then (some ((y237 ++ y240), 0)) else (none))) = some (r1, r2) := by first | (rw [hy237]; with_reducible exact H) | (have H2_ := (Option.bind_some _ _).symm.trans H; rw [hy237]; with_reducible exact H2_) | (have H2_ := (Option.bind_some _ _).symm.trans H; with_reducible exact H2_) | with_reducible exact H | (rw [hy237]; exact H) | exact H
   have Ny237 := Aside0.mk hy237
   clear hy237
   obtain ⟨y240, hy240⟩ : ∃ y_ : List (S32), y_ = (([(⟨a1_0, a1_1, a1_2, a1_3, a1_4, (⟨a1_5, a1_6, a1_7, a1_8, a1_9, l1_10⟩ : S30), a1_11⟩ : S32)] : List (S32))) := ⟨_, rfl⟩
   replace H : (if y237.length + y240.length < 1256584717458 then (some ((y237 ++ y240), 0)) else (none)) = some (r1, r2) := by first | (rw [hy240]; with_reducible exact H) | (have H2_ := (Option.bind_some _ _).symm.trans H; rw [hy240]; with_reducible exact H2_) | (have H2_ := (Option.bind_some _ _).symm.trans H; with_reducible exact H2_) | with_reducible exact H | (rw [hy240]; exact H) | exact H
   have Ny240 := Aside0.mk hy240
   clear hy240
   by_cases c11 : y237.length + y240.length < 1256584717458
   rotate_left
   ·rw [if_neg c11] at H
    exact absurd H (by simp)
   rw [if_pos c11] at H
   have LMc11 := Aside0.mk c11
   clear c11
   obtain ⟨y243, hy243⟩ : ∃ y_ : List (S32), y_ = (y237 ++ y240) := ⟨_, rfl⟩
   replace H : (some (y243, 0)) = some (r1, r2) := by first | (rw [hy243]; with_reducible exact H) | (have H2_ := (Option.bind_some _ _).symm.trans H; rw [hy243]; with_reducible exact H2_) | (have H2_ := (Option.bind_some _ _).symm.trans H; with_reducible exact H2_) | with_reducible exact H | (rw [hy243]; exact H) | exact H
   have Ny243 := Aside0.mk hy243
   clear hy243
   simp only [Option.some.injEq, Prod.mk.injEq] at H
   obtain ⟨rfl, rfl⟩ := H
   go_enter Try.func15, Try.ntmps15
   try go_wp2_with (first | ((with_reducible refine gate_dst (N := 4) rfl ?_); refine box_event ?hg (N := 4) ?hd (cs := #[.int .i64 a1_0, .int .i64 a1_1, .int .i64 a1_2, .int .i64 a1_3, .int .i64 a1_4, .int .i64 a1_5, .int .i64 a1_6, .int .i64 a1_7, .int .i64 a1_8, .int .i64 a1_9, .slice A1_10 l1_10.length c1_10, .int .i64 a1_11]) (t := 32) ?hr ?_; (case hd => rfl); (case hg => rfl); (case hr => first | (go_simp; done) | (go_simp; rfl)); intro gb232 hg w12 hbox hb; have n0_ := Aside0.mk (Kd.V_below (Kd.V_elderB (by (with_reducible repeat (first | apply Kd.V_alloc | apply Kd.V_drewN | apply Kd.V_drew)); exact HO0.out) gb232 (Nat.le_of_eq hg.symm)) hb); have n1_ := Aside0.mk (Kd.V_below (Kd.V_elderB (by (with_reducible repeat (first | apply Kd.V_alloc | apply Kd.V_drewN | apply Kd.V_drew)); exact HO1_10.out) gb232 (Nat.le_of_eq hg.symm)) hb); have n2_ := Aside0.mk (below_step (by repeat (first | (with_reducible first | exact HB.out | apply below_alloc | apply pw_below_drewN | apply below_drew1) | exact HB.out)) hb); have n3_ := Aside0.mk (hbox); have n4_ := Aside0.mk ((by rw [hg]; exact (below_size (by repeat (first | (with_reducible first | exact HB.out | apply below_alloc | apply pw_below_drewN | apply below_drew1) | exact HB.out))) : w.heap.size ≤ gb232)); have n5_ := Aside0.mk ((by rw [hg]; exact (below_size (by repeat (first | (with_reducible first | exact HB.out | apply below_alloc | apply pw_below_drewN | apply below_drew1) | exact HB.out))) : w.heap.size ≤ gb232)); clear HO0; clear HO1_10; clear HB; have HO0 := n0_; have HO1_10 := n1_; have HB := n2_; have BK232 := n3_; have GW232 := n4_; have GE232 := n5_; clear n0_ n1_ n2_ n3_ n4_ n5_; clear hb hbox hg; have hcz13_0 : w12.cell? ⟨gb232, 0, none⟩ = some (.int .i64 a1_0) := (blk_cell BK232.out 0).trans rfl; have hcz13_1 : w12.cell? ⟨gb232, 1, none⟩ = some (.int .i64 a1_1) := (blk_cell BK232.out 1).trans rfl; have hcz13_2 : w12.cell? ⟨gb232, 2, none⟩ = some (.int .i64 a1_2) := (blk_cell BK232.out 2).trans rfl; have hcz13_3 : w12.cell? ⟨gb232, 3, none⟩ = some (.int .i64 a1_3) := (blk_cell BK232.out 3).trans rfl; have hcz13_4 : w12.cell? ⟨gb232, 4, none⟩ = some (.int .i64 a1_4) := (blk_cell BK232.out 4).trans rfl; have hcz13_5 : w12.cell? ⟨gb232, 5, none⟩ = some (.int .i64 a1_5) := (blk_cell BK232.out 5).trans rfl; have hcz13_6 : w12.cell? ⟨gb232, 6, none⟩ = some (.int .i64 a1_6) := (blk_cell BK232.out 6).trans rfl; have hcz13_7 : w12.cell? ⟨gb232, 7, none⟩ = some (.int .i64 a1_7) := (blk_cell BK232.out 7).trans rfl; have hcz13_8 : w12.cell? ⟨gb232, 8, none⟩ = some (.int .i64 a1_8) := (blk_cell BK232.out 8).trans rfl; have hcz13_9 : w12.cell? ⟨gb232, 9, none⟩ = some (.int .i64 a1_9) := (blk_cell BK232.out 9).trans rfl; have hcz13_10 : w12.cell? ⟨gb232, 10, none⟩ = some (.slice A1_10 l1_10.length c1_10) := (blk_cell BK232.out 10).trans rfl; have hcz13_11 : w12.cell? ⟨gb232, 11, none⟩ = some (.int .i64 a1_11) := (blk_cell BK232.out 11).trans rfl; have hfz13_0 := blk_frozen BK232.out 0; have hfz13_1 := blk_frozen BK232.out 1; have hfz13_2 := blk_frozen BK232.out 2; have hfz13_3 := blk_frozen BK232.out 3; have hfz13_4 := blk_frozen BK232.out 4; have hfz13_5 := blk_frozen BK232.out 5; have hfz13_6 := blk_frozen BK232.out 6; have hfz13_7 := blk_frozen BK232.out 7; have hfz13_8 := blk_frozen BK232.out 8; have hfz13_9 := blk_frozen BK232.out 9; have hfz13_10 := blk_frozen BK232.out 10; have hfz13_11 := blk_frozen BK232.out 11) | ((with_reducible refine gate_callee (f := 18) rfl ?_); refine goesL_ (some 16) rfl rfl Try.func18 (by kernel_rfl) rfl #[.slice A0 l0.length c0, .int .i64 a1_0] rfl (by (try simp only [List.map_toArray, List.map_cons, List.map_nil]); first | done | rfl | (simp only [List.length_drop, List.length_take]; rfl)) ?_; (with_reducible refine (ref20_Find.calls k _ _ l0 a1_0 t233 _ ?side1 ?side2 A6.out).mono ?_); (case side1 => repeat (first | exact (Kd.V_reads' HO0.out).2.2 | (with_reducible refine Kd.C_alloc ?_ _) | (with_reducible refine Kd.C_drewN ?_ _) | (with_reducible refine Kd.C_drew ?_))); (case side2 => exact (Kd.V_reads' HO0.out).2.1); rintro e w' ⟨rfl, ⟨nd, rfl⟩⟩; refine ⟨_, rfl, ?_⟩))
   (try (rw [drewN_self w12]; generalize hq_ : World.drewN w12 _ = w12; have n0_ : Aside0 (Kd.V k32 32 w12 w.heap.size (fun k_ => ((P0_ k_ ∨ P1_10_ k_) ∨ w.heap.size ≤ k_) ∧ k_ ≠ gb232) (.slice A0 l0.length c0) l0) := ⟨by rw [← hq_]; exact (by (with_reducible repeat (first | apply Kd.V_alloc | apply Kd.V_drewN | apply Kd.V_drew)); exact HO0.out)⟩; have n1_ : Aside0 (Kd.V (Kd.int .i64) 3 w12 w.heap.size (fun k_ => ((P0_ k_ ∨ P1_10_ k_) ∨ w.heap.size ≤ k_) ∧ k_ ≠ gb232) (.slice A1_10 l1_10.length c1_10) l1_10) := ⟨by rw [← hq_]; exact (by (with_reducible repeat (first | apply Kd.V_alloc | apply Kd.V_drewN | apply Kd.V_drew)); exact HO1_10.out)⟩; have n2_ : Aside0 (w12.heap[gb232]? = some (.cells #[.int .i64 a1_0, .int .i64 a1_1, .int .i64 a1_2, .int .i64 a1_3, .int .i64 a1_4, .int .i64 a1_5, .int .i64 a1_6, .int .i64 a1_7, .int .i64 a1_8, .int .i64 a1_9, .slice A1_10 l1_10.length c1_10, .int .i64 a1_11] 32 (0, 0))) := ⟨by rw [← hq_]; exact (by (with_reducible repeat (first | refine blk_drewN ?_ _ | refine blk_drew ?_ | refine blk_alloc ?_ _)); exact BK232.out)⟩; have n3_ : Aside0 (Below w.heap.size w w12) := ⟨by rw [← hq_]; exact (by repeat (first | (with_reducible first | exact HB.out | apply below_alloc | apply pw_below_drewN | apply below_drew1 | refine below_set ?_ GE232.out) | exact HB.out))⟩; clear HO0 HO1_10 BK232 HB hq_; have HO0 := n0_; have HO1_10 := n1_; have BK232 := n2_; have HB := n3_; clear n0_ n1_ n2_ n3_))
   have n0_ := Aside0.mk (Kd.V_drew HO0.out)
   have n1_ := Aside0.mk (Kd.V_drew HO1_10.out)
   have n2_ := Aside0.mk (blk_drew BK232.out)
   have n3_ := Aside0.mk (below_drew1 HB.out)
   clear HO0
   clear HO1_10
   clear BK232
   clear HB
   have HO0 := n0_
   have HO1_10 := n1_
   have BK232 := n2_
   have HB := n3_
   clear n0_ n1_ n2_ n3_
   refine start_ (n := 8) (S := fun w' => w'.cell? ⟨gb232, 0, none⟩ = some (.int .i64 a1_0) ∧ w'.cell? ⟨gb232, 1, none⟩ = some (.int .i64 a1_1) ∧ w'.cell? ⟨gb232, 2, none⟩ = some (.int .i64 a1_2) ∧ w'.cell? ⟨gb232, 3, none⟩ = some (.int .i64 a1_3) ∧ w'.cell? ⟨gb232, 4, none⟩ = some (.int .i64 a1_4) ∧ w'.cell? ⟨gb232, 5, none⟩ = some (.int .i64 a1_5) ∧ w'.cell? ⟨gb232, 6, none⟩ = some (.int .i64 a1_6) ∧ w'.cell? ⟨gb232, 7, none⟩ = some (.int .i64 a1_7) ∧ w'.cell? ⟨gb232, 8, none⟩ = some (.int .i64 a1_8) ∧ w'.cell? ⟨gb232, 9, none⟩ = some (.int .i64 a1_9) ∧ w'.cell? ⟨gb232, 10, none⟩ = some (.slice A1_10 l1_10.length c1_10) ∧ w'.cell? ⟨gb232, 11, none⟩ = some (.int .i64 a1_11)) (ds := []) #[false, false, false, false, false, false, false, false] (by kernel_rfl) rfl rfl ⟨(blk_cell BK232.out 0).trans rfl, (blk_cell BK232.out 1).trans rfl, (blk_cell BK232.out 2).trans rfl, (blk_cell BK232.out 3).trans rfl, (blk_cell BK232.out 4).trans rfl, (blk_cell BK232.out 5).trans rfl, (blk_cell BK232.out 6).trans rfl, (blk_cell BK232.out 7).trans rfl, (blk_cell BK232.out 8).trans rfl, (blk_cell BK232.out 9).trans rfl, (blk_cell BK232.out 10).trans rfl, (blk_cell BK232.out 11).trans rfl⟩ (fun hHeld => ?_); refine with_tabW ref20_Add.tab5 ref20_Add.bits5 (fun HT_ HW_ => ?_)
   generalize w12.drew = w14 at HO0 HO1_10 BK232 HB hHeld ⊢
   refine pure_ (i := 1) (N := some 20) (v := ?_) (a' := ?_) #[false, true, false, false, false, false, false, false] rfl rfl (any_of HT_.out (by kernel_rfl)) (fun _ _ _ h => h) (Or.inl ⟨by rfl, ?_⟩) ?_ ?_
   rotate_left
   ·intro w'
    go_simp
    with_reducible rfl
   rotate_left
   ·simp only [Act.put, List.setIfInBounds_toArray, List.set_cons_zero, List.set_cons_succ, i64_w, i32_w]
    rfl
   refine take_ (i := 3) (N := some 22) (v := ?_) (a' := ?_) #[false, true, false, true, false, false, false, false] rfl rfl (take_ofW HT_.out HW_.out (by kernel_rfl)) (fun _ _ _ h => h) (Or.inl ⟨by rfl, ?_⟩) hHeld ?_ ?_
   rotate_left
   ·rintro w' ⟨s0, s1, s2, s3, s4, s5, s6, s7, s8, s9, s10, s11⟩
    go_simp
    with_reducible rfl
   rotate_left
   ·simp only [Act.put, List.setIfInBounds_toArray, List.set_cons_zero, List.set_cons_succ, i64_w, i32_w]
    rfl
   refine join_ (σ := Value × Value × Value) 3 #[true, true, true, true, true, false, false, false] (fun s_ => [(19, s_.1), (21, s_.2.1), (23, s_.2.2)]) (fun s_ w' => (w'.cell? ⟨gb232, 0, none⟩ = some (.int .i64 a1_0) ∧ w'.cell? ⟨gb232, 1, none⟩ = some (.int .i64 a1_1) ∧ w'.cell? ⟨gb232, 2, none⟩ = some (.int .i64 a1_2) ∧ w'.cell? ⟨gb232, 3, none⟩ = some (.int .i64 a1_3) ∧ w'.cell? ⟨gb232, 4, none⟩ = some (.int .i64 a1_4) ∧ w'.cell? ⟨gb232, 5, none⟩ = some (.int .i64 a1_5) ∧ w'.cell? ⟨gb232, 6, none⟩ = some (.int .i64 a1_6) ∧ w'.cell? ⟨gb232, 7, none⟩ = some (.int .i64 a1_7) ∧ w'.cell? ⟨gb232, 8, none⟩ = some (.int .i64 a1_8) ∧ w'.cell? ⟨gb232, 9, none⟩ = some (.int .i64 a1_9) ∧ w'.cell? ⟨gb232, 10, none⟩ = some (.slice A1_10 l1_10.length c1_10) ∧ w'.cell? ⟨gb232, 11, none⟩ = some (.int .i64 a1_11)) ∧ (Kd.V k32 32 w' w.heap.size (fun k_ => ((P0_ k_ ∨ P1_10_ k_) ∨ w.heap.size ≤ k_) ∧ some k_ ≠ (s_.2.1 : Value).ownBlock ∧ some k_ ≠ (s_.2.2 : Value).ownBlock ∧ k_ ≠ gb232) (.slice A0 l0.length c0) l0) ∧ (Kd.V (Kd.int .i64) 3 w' w.heap.size (fun k_ => ((P0_ k_ ∨ P1_10_ k_) ∨ w.heap.size ≤ k_) ∧ some k_ ≠ (s_.2.1 : Value).ownBlock ∧ some k_ ≠ (s_.2.2 : Value).ownBlock ∧ k_ ≠ gb232) (.slice A1_10 l1_10.length c1_10) l1_10) ∧ (Kd.N k32 32 w' w.heap.size (fun k_ => ((P0_ k_ ∨ P1_10_ k_) ∨ w.heap.size ≤ k_) ∧ some k_ ≠ (s_.2.2 : Value).ownBlock ∧ k_ ≠ gb232) s_.2.1 y237) ∧ (Kd.N k32 32 w' w.heap.size (fun k_ => ((P0_ k_ ∨ P1_10_ k_) ∨ w.heap.size ≤ k_) ∧ some k_ ≠ (s_.2.1 : Value).ownBlock ∧ k_ ≠ gb232) s_.2.2 y240) ∧ (w'.heap[gb232]? = some (.cells #[.int .i64 a1_0, .int .i64 a1_1, .int .i64 a1_2, .int .i64 a1_3, .int .i64 a1_4, .int .i64 a1_5, .int .i64 a1_6, .int .i64 a1_7, .int .i64 a1_8, .int .i64 a1_9, .slice A1_10 l1_10.length c1_10, .int .i64 a1_11] 32 (0, 0))) ∧ (Below w.heap.size w w')) ?_ ?_
   rotate_left
   ·intro hCont
    refine two_ (i := 0) (j := 4) (Ni := some 19) (Nj := some 23) #[true, true, false, true, false, false, false, false] #[false, true, false, true, true, false, false, false] rfl rfl rfl rfl (two_of HT_.out (by kernel_rfl)) (by decide) (by decide) (fun K hK => ?_) (fun K hK => ?_)
    ·skip
     refine Kd.N_lit_step k32 _ 32 ?hg (N' := 19) ?hd (xs := ([] : List (S32))) (inner := []) (ok := (fun k_ => ((P0_ k_ ∨ P1_10_ k_) ∨ w.heap.size ≤ k_) ∧ k_ ≠ gb232)) (okp := (fun k_ => ((P0_ k_ ∨ P1_10_ k_) ∨ w.heap.size ≤ k_) ∧ k_ ≠ gb232)) ?hr ?hp (fun _ hk => hk) ((show ∀ k_, w14.heap.size ≤ k_ → (fun k_ => ((P0_ k_ ∨ P1_10_ k_) ∨ w.heap.size ≤ k_) ∧ k_ ≠ gb232) k_ from fun k_ hk => ⟨(.inr (Nat.le_trans (below_size (by repeat (first | (with_reducible first | exact HB.out | apply below_alloc | apply pw_below_drewN | apply below_drew1 | refine below_set ?_ GE232.out) | exact HB.out))) hk)), Kd.freshB (g := gb232) (o := .cells #[.int .i64 a1_0, .int .i64 a1_1, .int .i64 a1_2, .int .i64 a1_3, .int .i64 a1_4, .int .i64 a1_5, .int .i64 a1_6, .int .i64 a1_7, .int .i64 a1_8, .int .i64 a1_9, .slice A1_10 l1_10.length c1_10, .int .i64 a1_11] 32 (0, 0)) (by (with_reducible repeat (first | refine blk_drewN ?_ _ | refine blk_drew ?_ | refine blk_alloc ?_ _)); exact BK232.out) k_ hk⟩) _ (Nat.le_refl _)) (Below.refl _ _) (Nat.le_refl _) (by simp) ?_; (case hd => rfl); (case hg => rfl); (case hr => first | (go_simp; done) | (go_simp; rfl)); (case hp => exact (Reps.none _ _))
     intro v235 w15 ho16 hb hg_ hnew_
     clear hg_ hnew_
     (first | rw [← Ny234.out] at ho16 | (simp only [Int.reduceToNat] at ho16; rw [← Ny234.out] at ho16))
     have n0_ := Aside0.mk (Kd.V_elder' (by (with_reducible repeat (first | apply Kd.V_alloc | apply Kd.V_drewN | apply Kd.V_drew)); exact HO0.out) (Kd.N_base ho16) hb)
     have n1_ := Aside0.mk (Kd.V_elder' (by (with_reducible repeat (first | apply Kd.V_alloc | apply Kd.V_drewN | apply Kd.V_drew)); exact HO1_10.out) (Kd.N_base ho16) hb)
     have n2_ := Aside0.mk (Kd.N_lower ho16 (below_size (by repeat (first | (with_reducible first | exact HB.out | apply below_alloc | apply pw_below_drewN | apply below_drew1 | refine below_set ?_ GE232.out) | exact HB.out))))
     have n3_ := Aside0.mk (blk_below (g := gb232) (o := .cells #[.int .i64 a1_0, .int .i64 a1_1, .int .i64 a1_2, .int .i64 a1_3, .int .i64 a1_4, .int .i64 a1_5, .int .i64 a1_6, .int .i64 a1_7, .int .i64 a1_8, .int .i64 a1_9, .slice A1_10 l1_10.length c1_10, .int .i64 a1_11] 32 (0, 0)) (by (with_reducible repeat (first | refine blk_drewN ?_ _ | refine blk_drew ?_ | refine blk_alloc ?_ _)); exact BK232.out) hb)
     have n4_ := Aside0.mk (below_step (by repeat (first | (with_reducible first | exact HB.out | apply below_alloc | apply pw_below_drewN | apply below_drew1 | refine below_set ?_ GE232.out) | exact HB.out)) hb)
     clear HO0
     clear HO1_10
     clear BK232
     clear HB
     have HO0 := n0_
     have HO1_10 := n1_
     have HO236 := n2_
     have BK232 := n3_
     have HB := n4_
     clear n0_ n1_ n2_ n3_ n4_
     clear hb ho16
     refine hK.out _ _ ⟨(blk_cell BK232.out 0).trans rfl, (blk_cell BK232.out 1).trans rfl, (blk_cell BK232.out 2).trans rfl, (blk_cell BK232.out 3).trans rfl, (blk_cell BK232.out 4).trans rfl, (blk_cell BK232.out 5).trans rfl, (blk_cell BK232.out 6).trans rfl, (blk_cell BK232.out 7).trans rfl, (blk_cell BK232.out 8).trans rfl, (blk_cell BK232.out 9).trans rfl, (blk_cell BK232.out 10).trans rfl, (blk_cell BK232.out 11).trans rfl⟩ (fun hHeld => ?_)
     clear hK K
     refine norm_ (a' := ?_) ?_ ?_
     rotate_left
     ·show Act.put _ (some 19) _ = _
      simp only [Act.put, List.setIfInBounds_toArray, List.set_cons_zero, List.set_cons_succ, i64_w, i32_w]
      rfl
     refine two_ (i := 2) (j := 4) (Ni := some 21) (Nj := some 23) #[true, true, true, true, false, false, false, false] #[true, true, false, true, true, false, false, false] rfl rfl rfl rfl (two_of HT_.out (by kernel_rfl)) (by decide) (by decide) (fun K hK => ?_) (fun K hK => ?_)
     ·skip
      refine Kd.N_append_rows_step k32 (w0 := w) w.heap.size (by rfl) (.tmp 19) (.tmp 20) 22 32 (.agg #[(.int .i64 0), (.int .i64 0), (.int .i64 0), (.int .i64 0), (.int .i64 0), (.int .i64 0), (.int .i64 0), (.int .i64 0), (.int .i64 0), (.int .i64 0), (.slice none 0 0), (.int .i64 0)]) 112 rfl Try.underlying22 info32 rfl (by decide) (by omega) v235 y234 l0 _ _ _ (fun k_ => ((P0_ k_ ∨ P1_10_ k_) ∨ w.heap.size ≤ k_) ∧ k_ ≠ gb232) (fun k_ => ((fun k_ => ((P0_ k_ ∨ P1_10_ k_) ∨ w.heap.size ≤ k_) ∧ k_ ≠ gb232)) k_ ∧ some k_ ≠ (v235 : Value).ownBlock) rfl rfl ?aO ?aR (fun _ hk => hk) ?aF ?aB ?aS ?aL ?_
      (case aR => exact (by skip; exact Kd.V_F (Kd.V_mono (ok' := (fun k_ => ((fun k_ => ((P0_ k_ ∨ P1_10_ k_) ∨ w.heap.size ≤ k_) ∧ k_ ≠ gb232)) k_ ∧ some k_ ≠ (v235 : Value).ownBlock)) (HO0.out) (fun k_ hk => ⟨⟨hk.1.1, hk.1.2⟩, hk.2⟩))))
      (case aB => exact (by repeat (first | (with_reducible first | exact HB.out | apply below_alloc | apply pw_below_drewN | apply below_drew1 | refine below_set ?_ GE232.out) | exact HB.out)))
      (case aF => exact (fun k_ hk => ⟨(.inr (Nat.le_trans (below_size (by repeat (first | (with_reducible first | exact HB.out | apply below_alloc | apply pw_below_drewN | apply below_drew1 | refine below_set ?_ GE232.out) | exact HB.out))) hk)), Kd.freshB (g := gb232) (o := .cells #[.int .i64 a1_0, .int .i64 a1_1, .int .i64 a1_2, .int .i64 a1_3, .int .i64 a1_4, .int .i64 a1_5, .int .i64 a1_6, .int .i64 a1_7, .int .i64 a1_8, .int .i64 a1_9, .slice A1_10 l1_10.length c1_10, .int .i64 a1_11] 32 (0, 0)) (by (with_reducible repeat (first | refine blk_drewN ?_ _ | refine blk_drew ?_ | refine blk_alloc ?_ _)); exact BK232.out) k_ hk⟩))
      (case aO => exact (by (with_reducible repeat (first | apply Kd.N_alloc | apply Kd.N_drewN | apply Kd.N_drew)); exact HO236.out))
      (case aS => exact (below_size (by repeat (first | (with_reducible first | exact HB.out | apply below_alloc | apply pw_below_drewN | apply below_drew1 | refine below_set ?_ GE232.out) | exact HB.out))))
      (case aL => have := LMc10.out; omega)
      intro v238 w17 ho hb hg hat
      rw [← Ny237.out] at ho
      have n0_ := Aside0.mk (Kd.V_afterv (ok := (fun k_ => ((P0_ k_ ∨ P1_10_ k_) ∨ w.heap.size ≤ k_) ∧ k_ ≠ gb232)) (by (with_reducible repeat (first | apply Kd.V_alloc | apply Kd.V_drewN | apply Kd.V_drew)); exact HO0.out) hg hat)
      have n1_ := Aside0.mk (Kd.V_afterv (ok := (fun k_ => ((P0_ k_ ∨ P1_10_ k_) ∨ w.heap.size ≤ k_) ∧ k_ ≠ gb232)) (by (with_reducible repeat (first | apply Kd.V_alloc | apply Kd.V_drewN | apply Kd.V_drew)); exact HO1_10.out) hg hat)
      have n2_ := Aside0.mk (blk_grown (g := gb232) (o := .cells #[.int .i64 a1_0, .int .i64 a1_1, .int .i64 a1_2, .int .i64 a1_3, .int .i64 a1_4, .int .i64 a1_5, .int .i64 a1_6, .int .i64 a1_7, .int .i64 a1_8, .int .i64 a1_9, .slice A1_10 l1_10.length c1_10, .int .i64 a1_11] 32 (0, 0)) (by (with_reducible repeat (first | refine blk_drewN ?_ _ | refine blk_drew ?_ | refine blk_alloc ?_ _)); exact BK232.out) hg (Kd.N_away HO236.out (fun _ hk => hk.2)))
      have n3_ := Aside0.mk (hb)
      have n4_ := Aside0.mk (ho)
      clear HO0
      clear HO1_10
      clear BK232
      clear HB
      clear HO236
      have HO0 := n0_
      have HO1_10 := n1_
      have BK232 := n2_
      have HB := n3_
      have HO239 := n4_
      clear n0_ n1_ n2_ n3_ n4_
      clear ho hb hg hat
      refine hK.out _ _ ⟨(blk_cell BK232.out 0).trans rfl, (blk_cell BK232.out 1).trans rfl, (blk_cell BK232.out 2).trans rfl, (blk_cell BK232.out 3).trans rfl, (blk_cell BK232.out 4).trans rfl, (blk_cell BK232.out 5).trans rfl, (blk_cell BK232.out 6).trans rfl, (blk_cell BK232.out 7).trans rfl, (blk_cell BK232.out 8).trans rfl, (blk_cell BK232.out 9).trans rfl, (blk_cell BK232.out 10).trans rfl, (blk_cell BK232.out 11).trans rfl⟩ (fun hHeld => ?_)
      clear hK K
      refine norm_ (a' := ?_) ?_ ?_
      rotate_left
      ·show Act.put _ (some 21) _ = _
       simp only [Act.put, List.setIfInBounds_toArray, List.set_cons_zero, List.set_cons_succ, i64_w, i32_w]
       rfl
      refine one_ (i := 4) (N := some 23) #[true, true, true, true, true, false, false, false] rfl rfl (one_of HT_.out (by kernel_rfl)) (by decide) (fun K hK => ?_)
      refine Kd.N_lit_step k32 _ 32 ?hg (N' := 23) ?hd (xs := ([(⟨a1_0, a1_1, a1_2, a1_3, a1_4, (⟨a1_5, a1_6, a1_7, a1_8, a1_9, l1_10⟩ : S30), a1_11⟩ : S32)] : List (S32))) (inner := [.int .i64 a1_0, .int .i64 a1_1, .int .i64 a1_2, .int .i64 a1_3, .int .i64 a1_4, .int .i64 a1_5, .int .i64 a1_6, .int .i64 a1_7, .int .i64 a1_8, .int .i64 a1_9, .slice A1_10 l1_10.length c1_10, .int .i64 a1_11]) (ok := (fun k_ => ((P0_ k_ ∨ P1_10_ k_) ∨ w.heap.size ≤ k_) ∧ some k_ ≠ (v238 : Value).ownBlock ∧ k_ ≠ gb232)) (okp := (fun k_ => ((P0_ k_ ∨ P1_10_ k_) ∨ w.heap.size ≤ k_) ∧ some k_ ≠ (v238 : Value).ownBlock ∧ k_ ≠ gb232)) ?hr ?hp (fun _ hk => hk) ((show ∀ k_, w17.heap.size ≤ k_ → (fun k_ => ((P0_ k_ ∨ P1_10_ k_) ∨ w.heap.size ≤ k_) ∧ some k_ ≠ (v238 : Value).ownBlock ∧ k_ ≠ gb232) k_ from fun k_ hk => ⟨(.inr (Nat.le_trans (below_size (by repeat (first | (with_reducible first | exact HB.out | apply below_alloc | apply pw_below_drewN | apply below_drew1 | refine below_set ?_ GE232.out) | exact HB.out))) hk)), Kd.fresh' (Kd.N_lt (by (with_reducible repeat (first | apply Kd.N_alloc | apply Kd.N_drewN | apply Kd.N_drew)); exact HO239.out)) k_ hk, Kd.freshB (g := gb232) (o := .cells #[.int .i64 a1_0, .int .i64 a1_1, .int .i64 a1_2, .int .i64 a1_3, .int .i64 a1_4, .int .i64 a1_5, .int .i64 a1_6, .int .i64 a1_7, .int .i64 a1_8, .int .i64 a1_9, .slice A1_10 l1_10.length c1_10, .int .i64 a1_11] 32 (0, 0)) (by (with_reducible repeat (first | refine blk_drewN ?_ _ | refine blk_drew ?_ | refine blk_alloc ?_ _)); exact BK232.out) k_ hk⟩) _ (Nat.le_refl _)) (Below.refl _ _) (Nat.le_refl _) (by simp) ?_; (case hd => rfl); (case hg => rfl); (case hr => first | (go_simp; done) | (go_simp; rfl)); (case hp => exact (Reps.front (show Kd.FK k32 _ _ (⟨a1_0, a1_1, a1_2, a1_3, a1_4, (⟨a1_5, a1_6, a1_7, a1_8, a1_9, l1_10⟩ : S30), a1_11⟩ : S32) [.int .i64 a1_0, .int .i64 a1_1, .int .i64 a1_2, .int .i64 a1_3, .int .i64 a1_4, .int .i64 a1_5, .int .i64 a1_6, .int .i64 a1_7, .int .i64 a1_8, .int .i64 a1_9, .slice A1_10 l1_10.length c1_10, .int .i64 a1_11] from (k32_mkF _ _ (⟨a1_0, a1_1, a1_2, a1_3, a1_4, (⟨a1_5, a1_6, a1_7, a1_8, a1_9, l1_10⟩ : S30), a1_11⟩ : S32) (Kd.V_reads' (Kd.V_mono (ok' := (fun k_ => ((P0_ k_ ∨ P1_10_ k_) ∨ w.heap.size ≤ k_) ∧ some k_ ≠ (v238 : Value).ownBlock ∧ k_ ≠ gb232)) (HO1_10.out) (fun k_ hk => ⟨hk.1.1, ⟨hk.2, hk.1.2⟩⟩))).2.1 (Kd.V_F (Kd.V_mono (ok' := (fun k_ => ((P0_ k_ ∨ P1_10_ k_) ∨ w.heap.size ≤ k_) ∧ some k_ ≠ (v238 : Value).ownBlock ∧ k_ ≠ gb232)) (HO1_10.out) (fun k_ hk => ⟨hk.1.1, ⟨hk.2, hk.1.2⟩⟩))))) rfl (Reps.none _ _) rfl))
      intro v241 w18 ho19 hb hg_ hnew_
      clear hg_ hnew_
      (first | rw [← Ny240.out] at ho19 | (simp only [Int.reduceToNat] at ho19; rw [← Ny240.out] at ho19))
      have n0_ := Aside0.mk (Kd.V_elder' (by (with_reducible repeat (first | apply Kd.V_alloc | apply Kd.V_drewN | apply Kd.V_drew)); exact HO0.out) (Kd.N_base ho19) hb)
      have n1_ := Aside0.mk (Kd.V_elder' (by (with_reducible repeat (first | apply Kd.V_alloc | apply Kd.V_drewN | apply Kd.V_drew)); exact HO1_10.out) (Kd.N_base ho19) hb)
      have n2_ := Aside0.mk (Kd.N_elder' (by (with_reducible repeat (first | apply Kd.N_alloc | apply Kd.N_drewN | apply Kd.N_drew)); exact HO239.out) (Kd.N_base ho19) hb)
      have n3_ := Aside0.mk (Kd.N_lower ho19 (below_size (by repeat (first | (with_reducible first | exact HB.out | apply below_alloc | apply pw_below_drewN | apply below_drew1 | refine below_set ?_ GE232.out) | exact HB.out))))
      have n4_ := Aside0.mk (blk_below (g := gb232) (o := .cells #[.int .i64 a1_0, .int .i64 a1_1, .int .i64 a1_2, .int .i64 a1_3, .int .i64 a1_4, .int .i64 a1_5, .int .i64 a1_6, .int .i64 a1_7, .int .i64 a1_8, .int .i64 a1_9, .slice A1_10 l1_10.length c1_10, .int .i64 a1_11] 32 (0, 0)) (by (with_reducible repeat (first | refine blk_drewN ?_ _ | refine blk_drew ?_ | refine blk_alloc ?_ _)); exact BK232.out) hb)
      have n5_ := Aside0.mk (below_step (by repeat (first | (with_reducible first | exact HB.out | apply below_alloc | apply pw_below_drewN | apply below_drew1 | refine below_set ?_ GE232.out) | exact HB.out)) hb)
      clear HO0
      clear HO1_10
      clear HO239
      clear BK232
      clear HB
      have HO0 := n0_
      have HO1_10 := n1_
      have HO239 := n2_
      have HO242 := n3_
      have BK232 := n4_
      have HB := n5_
      clear n0_ n1_ n2_ n3_ n4_ n5_
      clear hb ho19
      refine hK.out _ _ ⟨(blk_cell BK232.out 0).trans rfl, (blk_cell BK232.out 1).trans rfl, (blk_cell BK232.out 2).trans rfl, (blk_cell BK232.out 3).trans rfl, (blk_cell BK232.out 4).trans rfl, (blk_cell BK232.out 5).trans rfl, (blk_cell BK232.out 6).trans rfl, (blk_cell BK232.out 7).trans rfl, (blk_cell BK232.out 8).trans rfl, (blk_cell BK232.out 9).trans rfl, (blk_cell BK232.out 10).trans rfl, (blk_cell BK232.out 11).trans rfl⟩ (fun hHeld => ?_)
      clear hK K
      refine norm_ (a' := ?_) ?_ ?_
      rotate_left
      ·show Act.put _ (some 23) _ = _
       simp only [Act.put, List.setIfInBounds_toArray, List.set_cons_zero, List.set_cons_succ, i64_w, i32_w]
       rfl
      exact norm_ (by simp only [putAll, Act.put, List.setIfInBounds_toArray, List.set_cons_zero, List.set_cons_succ]) (hCont (v235, v238, v241) _ ⟨hHeld, (by (with_reducible repeat (first | apply Kd.V_alloc | apply Kd.V_drewN | apply Kd.V_drew)); exact Kd.V_mono HO0.out (fun _ hk => ⟨hk.1.1.1, ⟨hk.1.2, ⟨hk.2, hk.1.1.2⟩⟩⟩)), (by (with_reducible repeat (first | apply Kd.V_alloc | apply Kd.V_drewN | apply Kd.V_drew)); exact Kd.V_mono HO1_10.out (fun _ hk => ⟨hk.1.1.1, ⟨hk.1.2, ⟨hk.2, hk.1.1.2⟩⟩⟩)), (by (with_reducible repeat (first | apply Kd.N_alloc | apply Kd.N_drewN | apply Kd.N_drew)); exact Kd.N_mono HO239.out (fun _ hk => ⟨hk.1.1, ⟨hk.2, hk.1.2⟩⟩)), (by (with_reducible repeat (first | apply Kd.N_alloc | apply Kd.N_drewN | apply Kd.N_drew)); exact HO242.out), (by (with_reducible repeat (first | refine blk_drewN ?_ _ | refine blk_drew ?_ | refine blk_alloc ?_ _)); exact BK232.out), (by repeat (first | (with_reducible first | exact HB.out | apply below_alloc | apply pw_below_drewN | apply below_drew1 | refine below_set ?_ GE232.out) | exact HB.out))⟩)
     ·skip
      refine Kd.N_lit_step k32 _ 32 ?hg (N' := 23) ?hd (xs := ([(⟨a1_0, a1_1, a1_2, a1_3, a1_4, (⟨a1_5, a1_6, a1_7, a1_8, a1_9, l1_10⟩ : S30), a1_11⟩ : S32)] : List (S32))) (inner := [.int .i64 a1_0, .int .i64 a1_1, .int .i64 a1_2, .int .i64 a1_3, .int .i64 a1_4, .int .i64 a1_5, .int .i64 a1_6, .int .i64 a1_7, .int .i64 a1_8, .int .i64 a1_9, .slice A1_10 l1_10.length c1_10, .int .i64 a1_11]) (ok := (fun k_ => ((P0_ k_ ∨ P1_10_ k_) ∨ w.heap.size ≤ k_) ∧ some k_ ≠ (v235 : Value).ownBlock ∧ k_ ≠ gb232)) (okp := (fun k_ => ((P0_ k_ ∨ P1_10_ k_) ∨ w.heap.size ≤ k_) ∧ some k_ ≠ (v235 : Value).ownBlock ∧ k_ ≠ gb232)) ?hr ?hp (fun _ hk => hk) ((show ∀ k_, w15.heap.size ≤ k_ → (fun k_ => ((P0_ k_ ∨ P1_10_ k_) ∨ w.heap.size ≤ k_) ∧ some k_ ≠ (v235 : Value).ownBlock ∧ k_ ≠ gb232) k_ from fun k_ hk => ⟨(.inr (Nat.le_trans (below_size (by repeat (first | (with_reducible first | exact HB.out | apply below_alloc | apply pw_below_drewN | apply below_drew1 | refine below_set ?_ GE232.out) | exact HB.out))) hk)), Kd.fresh' (Kd.N_lt (by (with_reducible repeat (first | apply Kd.N_alloc | apply Kd.N_drewN | apply Kd.N_drew)); exact HO236.out)) k_ hk, Kd.freshB (g := gb232) (o := .cells #[.int .i64 a1_0, .int .i64 a1_1, .int .i64 a1_2, .int .i64 a1_3, .int .i64 a1_4, .int .i64 a1_5, .int .i64 a1_6, .int .i64 a1_7, .int .i64 a1_8, .int .i64 a1_9, .slice A1_10 l1_10.length c1_10, .int .i64 a1_11] 32 (0, 0)) (by (with_reducible repeat (first | refine blk_drewN ?_ _ | refine blk_drew ?_ | refine blk_alloc ?_ _)); exact BK232.out) k_ hk⟩) _ (Nat.le_refl _)) (Below.refl _ _) (Nat.le_refl _) (by simp) ?_; (case hd => rfl); (case hg => rfl); (case hr => first | (go_simp; done) | (go_simp; rfl)); (case hp => exact (Reps.front (show Kd.FK k32 _ _ (⟨a1_0, a1_1, a1_2, a1_3, a1_4, (⟨a1_5, a1_6, a1_7, a1_8, a1_9, l1_10⟩ : S30), a1_11⟩ : S32) [.int .i64 a1_0, .int .i64 a1_1, .int .i64 a1_2, .int .i64 a1_3, .int .i64 a1_4, .int .i64 a1_5, .int .i64 a1_6, .int .i64 a1_7, .int .i64 a1_8, .int .i64 a1_9, .slice A1_10 l1_10.length c1_10, .int .i64 a1_11] from (k32_mkF _ _ (⟨a1_0, a1_1, a1_2, a1_3, a1_4, (⟨a1_5, a1_6, a1_7, a1_8, a1_9, l1_10⟩ : S30), a1_11⟩ : S32) (Kd.V_reads' (Kd.V_mono (ok' := (fun k_ => ((P0_ k_ ∨ P1_10_ k_) ∨ w.heap.size ≤ k_) ∧ some k_ ≠ (v235 : Value).ownBlock ∧ k_ ≠ gb232)) (HO1_10.out) (fun k_ hk => ⟨hk.1.1, ⟨hk.2, hk.1.2⟩⟩))).2.1 (Kd.V_F (Kd.V_mono (ok' := (fun k_ => ((P0_ k_ ∨ P1_10_ k_) ∨ w.heap.size ≤ k_) ∧ some k_ ≠ (v235 : Value).ownBlock ∧ k_ ≠ gb232)) (HO1_10.out) (fun k_ hk => ⟨hk.1.1, ⟨hk.2, hk.1.2⟩⟩))))) rfl (Reps.none _ _) rfl))
      intro v241 w17 ho18 hb hg_ hnew_
      clear hg_ hnew_
      (first | rw [← Ny240.out] at ho18 | (simp only [Int.reduceToNat] at ho18; rw [← Ny240.out] at ho18))
      have n0_ := Aside0.mk (Kd.V_elder' (by (with_reducible repeat (first | apply Kd.V_alloc | apply Kd.V_drewN | apply Kd.V_drew)); exact HO0.out) (Kd.N_base ho18) hb)
      have n1_ := Aside0.mk (Kd.V_elder' (by (with_reducible repeat (first | apply Kd.V_alloc | apply Kd.V_drewN | apply Kd.V_drew)); exact HO1_10.out) (Kd.N_base ho18) hb)
      have n2_ := Aside0.mk (Kd.N_elder' (by (with_reducible repeat (first | apply Kd.N_alloc | apply Kd.N_drewN | apply Kd.N_drew)); exact HO236.out) (Kd.N_base ho18) hb)
      have n3_ := Aside0.mk (Kd.N_lower ho18 (below_size (by repeat (first | (with_reducible first | exact HB.out | apply below_alloc | apply pw_below_drewN | apply below_drew1 | refine below_set ?_ GE232.out) | exact HB.out))))
      have n4_ := Aside0.mk (blk_below (g := gb232) (o := .cells #[.int .i64 a1_0, .int .i64 a1_1, .int .i64 a1_2, .int .i64 a1_3, .int .i64 a1_4, .int .i64 a1_5, .int .i64 a1_6, .int .i64 a1_7, .int .i64 a1_8, .int .i64 a1_9, .slice A1_10 l1_10.length c1_10, .int .i64 a1_11] 32 (0, 0)) (by (with_reducible repeat (first | refine blk_drewN ?_ _ | refine blk_drew ?_ | refine blk_alloc ?_ _)); exact BK232.out) hb)
      have n5_ := Aside0.mk (below_step (by repeat (first | (with_reducible first | exact HB.out | apply below_alloc | apply pw_below_drewN | apply below_drew1 | refine below_set ?_ GE232.out) | exact HB.out)) hb)
      clear HO0
      clear HO1_10
      clear HO236
      clear BK232
      clear HB
      have HO0 := n0_
      have HO1_10 := n1_
      have HO236 := n2_
      have HO242 := n3_
      have BK232 := n4_
      have HB := n5_
      clear n0_ n1_ n2_ n3_ n4_ n5_
      clear hb ho18
      refine hK.out _ _ ⟨(blk_cell BK232.out 0).trans rfl, (blk_cell BK232.out 1).trans rfl, (blk_cell BK232.out 2).trans rfl, (blk_cell BK232.out 3).trans rfl, (blk_cell BK232.out 4).trans rfl, (blk_cell BK232.out 5).trans rfl, (blk_cell BK232.out 6).trans rfl, (blk_cell BK232.out 7).trans rfl, (blk_cell BK232.out 8).trans rfl, (blk_cell BK232.out 9).trans rfl, (blk_cell BK232.out 10).trans rfl, (blk_cell BK232.out 11).trans rfl⟩ (fun hHeld => ?_)
      clear hK K
      refine norm_ (a' := ?_) ?_ ?_
      rotate_left
      ·show Act.put _ (some 23) _ = _
       simp only [Act.put, List.setIfInBounds_toArray, List.set_cons_zero, List.set_cons_succ, i64_w, i32_w]
       rfl
      refine one_ (i := 2) (N := some 21) #[true, true, true, true, true, false, false, false] rfl rfl (one_of HT_.out (by kernel_rfl)) (by decide) (fun K hK => ?_)
      refine Kd.N_append_rows_step k32 (w0 := w) w.heap.size (by rfl) (.tmp 19) (.tmp 20) 22 32 (.agg #[(.int .i64 0), (.int .i64 0), (.int .i64 0), (.int .i64 0), (.int .i64 0), (.int .i64 0), (.int .i64 0), (.int .i64 0), (.int .i64 0), (.int .i64 0), (.slice none 0 0), (.int .i64 0)]) 112 rfl Try.underlying22 info32 rfl (by decide) (by omega) v235 y234 l0 _ _ _ (fun k_ => ((P0_ k_ ∨ P1_10_ k_) ∨ w.heap.size ≤ k_) ∧ some k_ ≠ (v241 : Value).ownBlock ∧ k_ ≠ gb232) (fun k_ => ((fun k_ => ((P0_ k_ ∨ P1_10_ k_) ∨ w.heap.size ≤ k_) ∧ some k_ ≠ (v241 : Value).ownBlock ∧ k_ ≠ gb232)) k_ ∧ some k_ ≠ (v235 : Value).ownBlock) rfl rfl ?aO ?aR (fun _ hk => hk) ?aF ?aB ?aS ?aL ?_
      (case aR => exact (by skip; exact Kd.V_F (Kd.V_mono (ok' := (fun k_ => ((fun k_ => ((P0_ k_ ∨ P1_10_ k_) ∨ w.heap.size ≤ k_) ∧ some k_ ≠ (v241 : Value).ownBlock ∧ k_ ≠ gb232)) k_ ∧ some k_ ≠ (v235 : Value).ownBlock)) (HO0.out) (fun k_ hk => ⟨⟨hk.1.1.1, ⟨hk.2, hk.1.1.2⟩⟩, hk.1.2⟩))))
      (case aB => exact (by repeat (first | (with_reducible first | exact HB.out | apply below_alloc | apply pw_below_drewN | apply below_drew1 | refine below_set ?_ GE232.out) | exact HB.out)))
      (case aF => exact (fun k_ hk => ⟨(.inr (Nat.le_trans (below_size (by repeat (first | (with_reducible first | exact HB.out | apply below_alloc | apply pw_below_drewN | apply below_drew1 | refine below_set ?_ GE232.out) | exact HB.out))) hk)), Kd.fresh' (Kd.N_lt (by (with_reducible repeat (first | apply Kd.N_alloc | apply Kd.N_drewN | apply Kd.N_drew)); exact HO242.out)) k_ hk, Kd.freshB (g := gb232) (o := .cells #[.int .i64 a1_0, .int .i64 a1_1, .int .i64 a1_2, .int .i64 a1_3, .int .i64 a1_4, .int .i64 a1_5, .int .i64 a1_6, .int .i64 a1_7, .int .i64 a1_8, .int .i64 a1_9, .slice A1_10 l1_10.length c1_10, .int .i64 a1_11] 32 (0, 0)) (by (with_reducible repeat (first | refine blk_drewN ?_ _ | refine blk_drew ?_ | refine blk_alloc ?_ _)); exact BK232.out) k_ hk⟩))
      (case aO => exact (by (with_reducible repeat (first | apply Kd.N_alloc | apply Kd.N_drewN | apply Kd.N_drew)); exact Kd.N_mono HO236.out (fun _ hk => ⟨hk.1.1, ⟨hk.2, hk.1.2⟩⟩)))
      (case aS => exact (below_size (by repeat (first | (with_reducible first | exact HB.out | apply below_alloc | apply pw_below_drewN | apply below_drew1 | refine below_set ?_ GE232.out) | exact HB.out))))
      (case aL => have := LMc10.out; omega)
      intro v238 w19 ho hb hg hat
      rw [← Ny237.out] at ho
      have n0_ := Aside0.mk (Kd.V_afterv (ok := (fun k_ => ((P0_ k_ ∨ P1_10_ k_) ∨ w.heap.size ≤ k_) ∧ some k_ ≠ (v241 : Value).ownBlock ∧ k_ ≠ gb232)) (by (with_reducible repeat (first | apply Kd.V_alloc | apply Kd.V_drewN | apply Kd.V_drew)); exact Kd.V_mono HO0.out (fun _ hk => ⟨⟨hk.1.1.1, ⟨hk.2, hk.1.1.2⟩⟩, hk.1.2⟩)) hg hat)
      have n1_ := Aside0.mk (Kd.V_afterv (ok := (fun k_ => ((P0_ k_ ∨ P1_10_ k_) ∨ w.heap.size ≤ k_) ∧ some k_ ≠ (v241 : Value).ownBlock ∧ k_ ≠ gb232)) (by (with_reducible repeat (first | apply Kd.V_alloc | apply Kd.V_drewN | apply Kd.V_drew)); exact Kd.V_mono HO1_10.out (fun _ hk => ⟨⟨hk.1.1.1, ⟨hk.2, hk.1.1.2⟩⟩, hk.1.2⟩)) hg hat)
      have n2_ := Aside0.mk (blk_grown (g := gb232) (o := .cells #[.int .i64 a1_0, .int .i64 a1_1, .int .i64 a1_2, .int .i64 a1_3, .int .i64 a1_4, .int .i64 a1_5, .int .i64 a1_6, .int .i64 a1_7, .int .i64 a1_8, .int .i64 a1_9, .slice A1_10 l1_10.length c1_10, .int .i64 a1_11] 32 (0, 0)) (by (with_reducible repeat (first | refine blk_drewN ?_ _ | refine blk_drew ?_ | refine blk_alloc ?_ _)); exact BK232.out) hg (Kd.N_away HO236.out (fun _ hk => hk.1.2)))
      have n3_ := Aside0.mk (Kd.N_afterv (ok := (fun k_ => ((P0_ k_ ∨ P1_10_ k_) ∨ w.heap.size ≤ k_) ∧ k_ ≠ gb232)) (by (with_reducible repeat (first | apply Kd.N_alloc | apply Kd.N_drewN | apply Kd.N_drew)); exact Kd.N_mono HO242.out (fun _ hk => ⟨⟨hk.1, hk.2.2⟩, hk.2.1⟩)) hg hat)
      have n4_ := Aside0.mk (hb)
      have n5_ := Aside0.mk (ho)
      clear HO0
      clear HO1_10
      clear BK232
      clear HO242
      clear HB
      clear HO236
      have HO0 := n0_
      have HO1_10 := n1_
      have BK232 := n2_
      have HO242 := n3_
      have HB := n4_
      have HO239 := n5_
      clear n0_ n1_ n2_ n3_ n4_ n5_
      clear ho hb hg hat
      refine hK.out _ _ ⟨(blk_cell BK232.out 0).trans rfl, (blk_cell BK232.out 1).trans rfl, (blk_cell BK232.out 2).trans rfl, (blk_cell BK232.out 3).trans rfl, (blk_cell BK232.out 4).trans rfl, (blk_cell BK232.out 5).trans rfl, (blk_cell BK232.out 6).trans rfl, (blk_cell BK232.out 7).trans rfl, (blk_cell BK232.out 8).trans rfl, (blk_cell BK232.out 9).trans rfl, (blk_cell BK232.out 10).trans rfl, (blk_cell BK232.out 11).trans rfl⟩ (fun hHeld => ?_)
      clear hK K
      refine norm_ (a' := ?_) ?_ ?_
      rotate_left
      ·show Act.put _ (some 21) _ = _
       simp only [Act.put, List.setIfInBounds_toArray, List.set_cons_zero, List.set_cons_succ, i64_w, i32_w]
       rfl
      exact norm_ (by simp only [putAll, Act.put, List.setIfInBounds_toArray, List.set_cons_zero, List.set_cons_succ]) (hCont (v235, v238, v241) _ ⟨hHeld, (by (with_reducible repeat (first | apply Kd.V_alloc | apply Kd.V_drewN | apply Kd.V_drew)); exact Kd.V_mono HO0.out (fun _ hk => ⟨hk.1.1, ⟨hk.2, ⟨hk.1.2.1, hk.1.2.2⟩⟩⟩)), (by (with_reducible repeat (first | apply Kd.V_alloc | apply Kd.V_drewN | apply Kd.V_drew)); exact Kd.V_mono HO1_10.out (fun _ hk => ⟨hk.1.1, ⟨hk.2, ⟨hk.1.2.1, hk.1.2.2⟩⟩⟩)), (by (with_reducible repeat (first | apply Kd.N_alloc | apply Kd.N_drewN | apply Kd.N_drew)); exact HO239.out), (by (with_reducible repeat (first | apply Kd.N_alloc | apply Kd.N_drewN | apply Kd.N_drew)); exact Kd.N_mono HO242.out (fun _ hk => ⟨hk.1.1, ⟨hk.2, hk.1.2⟩⟩)), (by (with_reducible repeat (first | refine blk_drewN ?_ _ | refine blk_drew ?_ | refine blk_alloc ?_ _)); exact BK232.out), (by repeat (first | (with_reducible first | exact HB.out | apply below_alloc | apply pw_below_drewN | apply below_drew1 | refine below_set ?_ GE232.out) | exact HB.out))⟩)
    ·skip
     refine Kd.N_lit_step k32 _ 32 ?hg (N' := 23) ?hd (xs := ([(⟨a1_0, a1_1, a1_2, a1_3, a1_4, (⟨a1_5, a1_6, a1_7, a1_8, a1_9, l1_10⟩ : S30), a1_11⟩ : S32)] : List (S32))) (inner := [.int .i64 a1_0, .int .i64 a1_1, .int .i64 a1_2, .int .i64 a1_3, .int .i64 a1_4, .int .i64 a1_5, .int .i64 a1_6, .int .i64 a1_7, .int .i64 a1_8, .int .i64 a1_9, .slice A1_10 l1_10.length c1_10, .int .i64 a1_11]) (ok := (fun k_ => ((P0_ k_ ∨ P1_10_ k_) ∨ w.heap.size ≤ k_) ∧ k_ ≠ gb232)) (okp := (fun k_ => ((P0_ k_ ∨ P1_10_ k_) ∨ w.heap.size ≤ k_) ∧ k_ ≠ gb232)) ?hr ?hp (fun _ hk => hk) ((show ∀ k_, w14.heap.size ≤ k_ → (fun k_ => ((P0_ k_ ∨ P1_10_ k_) ∨ w.heap.size ≤ k_) ∧ k_ ≠ gb232) k_ from fun k_ hk => ⟨(.inr (Nat.le_trans (below_size (by repeat (first | (with_reducible first | exact HB.out | apply below_alloc | apply pw_below_drewN | apply below_drew1 | refine below_set ?_ GE232.out) | exact HB.out))) hk)), Kd.freshB (g := gb232) (o := .cells #[.int .i64 a1_0, .int .i64 a1_1, .int .i64 a1_2, .int .i64 a1_3, .int .i64 a1_4, .int .i64 a1_5, .int .i64 a1_6, .int .i64 a1_7, .int .i64 a1_8, .int .i64 a1_9, .slice A1_10 l1_10.length c1_10, .int .i64 a1_11] 32 (0, 0)) (by (with_reducible repeat (first | refine blk_drewN ?_ _ | refine blk_drew ?_ | refine blk_alloc ?_ _)); exact BK232.out) k_ hk⟩) _ (Nat.le_refl _)) (Below.refl _ _) (Nat.le_refl _) (by simp) ?_; (case hd => rfl); (case hg => rfl); (case hr => first | (go_simp; done) | (go_simp; rfl)); (case hp => exact (Reps.front (show Kd.FK k32 _ _ (⟨a1_0, a1_1, a1_2, a1_3, a1_4, (⟨a1_5, a1_6, a1_7, a1_8, a1_9, l1_10⟩ : S30), a1_11⟩ : S32) [.int .i64 a1_0, .int .i64 a1_1, .int .i64 a1_2, .int .i64 a1_3, .int .i64 a1_4, .int .i64 a1_5, .int .i64 a1_6, .int .i64 a1_7, .int .i64 a1_8, .int .i64 a1_9, .slice A1_10 l1_10.length c1_10, .int .i64 a1_11] from (k32_mkF _ _ (⟨a1_0, a1_1, a1_2, a1_3, a1_4, (⟨a1_5, a1_6, a1_7, a1_8, a1_9, l1_10⟩ : S30), a1_11⟩ : S32) (Kd.V_reads' (Kd.V_mono (ok' := (fun k_ => ((P0_ k_ ∨ P1_10_ k_) ∨ w.heap.size ≤ k_) ∧ k_ ≠ gb232)) (HO1_10.out) (fun k_ hk => ⟨hk.1, hk.2⟩))).2.1 (Kd.V_F (Kd.V_mono (ok' := (fun k_ => ((P0_ k_ ∨ P1_10_ k_) ∨ w.heap.size ≤ k_) ∧ k_ ≠ gb232)) (HO1_10.out) (fun k_ hk => ⟨hk.1, hk.2⟩))))) rfl (Reps.none _ _) rfl))
     intro v241 w15 ho16 hb hg_ hnew_
     clear hg_ hnew_
     (first | rw [← Ny240.out] at ho16 | (simp only [Int.reduceToNat] at ho16; rw [← Ny240.out] at ho16))
     have n0_ := Aside0.mk (Kd.V_elder' (by (with_reducible repeat (first | apply Kd.V_alloc | apply Kd.V_drewN | apply Kd.V_drew)); exact HO0.out) (Kd.N_base ho16) hb)
     have n1_ := Aside0.mk (Kd.V_elder' (by (with_reducible repeat (first | apply Kd.V_alloc | apply Kd.V_drewN | apply Kd.V_drew)); exact HO1_10.out) (Kd.N_base ho16) hb)
     have n2_ := Aside0.mk (Kd.N_lower ho16 (below_size (by repeat (first | (with_reducible first | exact HB.out | apply below_alloc | apply pw_below_drewN | apply below_drew1 | refine below_set ?_ GE232.out) | exact HB.out))))
     have n3_ := Aside0.mk (blk_below (g := gb232) (o := .cells #[.int .i64 a1_0, .int .i64 a1_1, .int .i64 a1_2, .int .i64 a1_3, .int .i64 a1_4, .int .i64 a1_5, .int .i64 a1_6, .int .i64 a1_7, .int .i64 a1_8, .int .i64 a1_9, .slice A1_10 l1_10.length c1_10, .int .i64 a1_11] 32 (0, 0)) (by (with_reducible repeat (first | refine blk_drewN ?_ _ | refine blk_drew ?_ | refine blk_alloc ?_ _)); exact BK232.out) hb)
     have n4_ := Aside0.mk (below_step (by repeat (first | (with_reducible first | exact HB.out | apply below_alloc | apply pw_below_drewN | apply below_drew1 | refine below_set ?_ GE232.out) | exact HB.out)) hb)
     clear HO0
     clear HO1_10
     clear BK232
     clear HB
     have HO0 := n0_
     have HO1_10 := n1_
     have HO242 := n2_
     have BK232 := n3_
     have HB := n4_
     clear n0_ n1_ n2_ n3_ n4_
     clear hb ho16
     refine hK.out _ _ ⟨(blk_cell BK232.out 0).trans rfl, (blk_cell BK232.out 1).trans rfl, (blk_cell BK232.out 2).trans rfl, (blk_cell BK232.out 3).trans rfl, (blk_cell BK232.out 4).trans rfl, (blk_cell BK232.out 5).trans rfl, (blk_cell BK232.out 6).trans rfl, (blk_cell BK232.out 7).trans rfl, (blk_cell BK232.out 8).trans rfl, (blk_cell BK232.out 9).trans rfl, (blk_cell BK232.out 10).trans rfl, (blk_cell BK232.out 11).trans rfl⟩ (fun hHeld => ?_)
     clear hK K
     refine norm_ (a' := ?_) ?_ ?_
     rotate_left
     ·show Act.put _ (some 23) _ = _
      simp only [Act.put, List.setIfInBounds_toArray, List.set_cons_zero, List.set_cons_succ, i64_w, i32_w]
      rfl
     refine one_ (i := 0) (N := some 19) #[true, true, false, true, true, false, false, false] rfl rfl (one_of HT_.out (by kernel_rfl)) (by decide) (fun K hK => ?_)
     refine Kd.N_lit_step k32 _ 32 ?hg (N' := 19) ?hd (xs := ([] : List (S32))) (inner := []) (ok := (fun k_ => ((P0_ k_ ∨ P1_10_ k_) ∨ w.heap.size ≤ k_) ∧ some k_ ≠ (v241 : Value).ownBlock ∧ k_ ≠ gb232)) (okp := (fun k_ => ((P0_ k_ ∨ P1_10_ k_) ∨ w.heap.size ≤ k_) ∧ some k_ ≠ (v241 : Value).ownBlock ∧ k_ ≠ gb232)) ?hr ?hp (fun _ hk => hk) ((show ∀ k_, w15.heap.size ≤ k_ → (fun k_ => ((P0_ k_ ∨ P1_10_ k_) ∨ w.heap.size ≤ k_) ∧ some k_ ≠ (v241 : Value).ownBlock ∧ k_ ≠ gb232) k_ from fun k_ hk => ⟨(.inr (Nat.le_trans (below_size (by repeat (first | (with_reducible first | exact HB.out | apply below_alloc | apply pw_below_drewN | apply below_drew1 | refine below_set ?_ GE232.out) | exact HB.out))) hk)), Kd.fresh' (Kd.N_lt (by (with_reducible repeat (first | apply Kd.N_alloc | apply Kd.N_drewN | apply Kd.N_drew)); exact HO242.out)) k_ hk, Kd.freshB (g := gb232) (o := .cells #[.int .i64 a1_0, .int .i64 a1_1, .int .i64 a1_2, .int .i64 a1_3, .int .i64 a1_4, .int .i64 a1_5, .int .i64 a1_6, .int .i64 a1_7, .int .i64 a1_8, .int .i64 a1_9, .slice A1_10 l1_10.length c1_10, .int .i64 a1_11] 32 (0, 0)) (by (with_reducible repeat (first | refine blk_drewN ?_ _ | refine blk_drew ?_ | refine blk_alloc ?_ _)); exact BK232.out) k_ hk⟩) _ (Nat.le_refl _)) (Below.refl _ _) (Nat.le_refl _) (by simp) ?_; (case hd => rfl); (case hg => rfl); (case hr => first | (go_simp; done) | (go_simp; rfl)); (case hp => exact (Reps.none _ _))
     intro v235 w17 ho18 hb hg_ hnew_
     clear hg_ hnew_
     (first | rw [← Ny234.out] at ho18 | (simp only [Int.reduceToNat] at ho18; rw [← Ny234.out] at ho18))
     have n0_ := Aside0.mk (Kd.V_elder' (by (with_reducible repeat (first | apply Kd.V_alloc | apply Kd.V_drewN | apply Kd.V_drew)); exact HO0.out) (Kd.N_base ho18) hb)
     have n1_ := Aside0.mk (Kd.V_elder' (by (with_reducible repeat (first | apply Kd.V_alloc | apply Kd.V_drewN | apply Kd.V_drew)); exact HO1_10.out) (Kd.N_base ho18) hb)
     have n2_ := Aside0.mk (Kd.N_elder' (by (with_reducible repeat (first | apply Kd.N_alloc | apply Kd.N_drewN | apply Kd.N_drew)); exact HO242.out) (Kd.N_base ho18) hb)
     have n3_ := Aside0.mk (Kd.N_lower ho18 (below_size (by repeat (first | (with_reducible first | exact HB.out | apply below_alloc | apply pw_below_drewN | apply below_drew1 | refine below_set ?_ GE232.out) | exact HB.out))))
     have n4_ := Aside0.mk (blk_below (g := gb232) (o := .cells #[.int .i64 a1_0, .int .i64 a1_1, .int .i64 a1_2, .int .i64 a1_3, .int .i64 a1_4, .int .i64 a1_5, .int .i64 a1_6, .int .i64 a1_7, .int .i64 a1_8, .int .i64 a1_9, .slice A1_10 l1_10.length c1_10, .int .i64 a1_11] 32 (0, 0)) (by (with_reducible repeat (first | refine blk_drewN ?_ _ | refine blk_drew ?_ | refine blk_alloc ?_ _)); exact BK232.out) hb)
     have n5_ := Aside0.mk (below_step (by repeat (first | (with_reducible first | exact HB.out | apply below_alloc | apply pw_below_drewN | apply below_drew1 | refine below_set ?_ GE232.out) | exact HB.out)) hb)
     clear HO0
     clear HO1_10
     clear HO242
     clear BK232
     clear HB
     have HO0 := n0_
     have HO1_10 := n1_
     have HO242 := n2_
     have HO236 := n3_
     have BK232 := n4_
     have HB := n5_
     clear n0_ n1_ n2_ n3_ n4_ n5_
     clear hb ho18
     refine hK.out _ _ ⟨(blk_cell BK232.out 0).trans rfl, (blk_cell BK232.out 1).trans rfl, (blk_cell BK232.out 2).trans rfl, (blk_cell BK232.out 3).trans rfl, (blk_cell BK232.out 4).trans rfl, (blk_cell BK232.out 5).trans rfl, (blk_cell BK232.out 6).trans rfl, (blk_cell BK232.out 7).trans rfl, (blk_cell BK232.out 8).trans rfl, (blk_cell BK232.out 9).trans rfl, (blk_cell BK232.out 10).trans rfl, (blk_cell BK232.out 11).trans rfl⟩ (fun hHeld => ?_)
     clear hK K
     refine norm_ (a' := ?_) ?_ ?_
     rotate_left
     ·show Act.put _ (some 19) _ = _
      simp only [Act.put, List.setIfInBounds_toArray, List.set_cons_zero, List.set_cons_succ, i64_w, i32_w]
      rfl
     refine one_ (i := 2) (N := some 21) #[true, true, true, true, true, false, false, false] rfl rfl (one_of HT_.out (by kernel_rfl)) (by decide) (fun K hK => ?_)
     refine Kd.N_append_rows_step k32 (w0 := w) w.heap.size (by rfl) (.tmp 19) (.tmp 20) 22 32 (.agg #[(.int .i64 0), (.int .i64 0), (.int .i64 0), (.int .i64 0), (.int .i64 0), (.int .i64 0), (.int .i64 0), (.int .i64 0), (.int .i64 0), (.int .i64 0), (.slice none 0 0), (.int .i64 0)]) 112 rfl Try.underlying22 info32 rfl (by decide) (by omega) v235 y234 l0 _ _ _ (fun k_ => ((P0_ k_ ∨ P1_10_ k_) ∨ w.heap.size ≤ k_) ∧ some k_ ≠ (v241 : Value).ownBlock ∧ k_ ≠ gb232) (fun k_ => ((fun k_ => ((P0_ k_ ∨ P1_10_ k_) ∨ w.heap.size ≤ k_) ∧ some k_ ≠ (v241 : Value).ownBlock ∧ k_ ≠ gb232)) k_ ∧ some k_ ≠ (v235 : Value).ownBlock) rfl rfl ?aO ?aR (fun _ hk => hk) ?aF ?aB ?aS ?aL ?_
     (case aR => exact (by skip; exact Kd.V_F (Kd.V_mono (ok' := (fun k_ => ((fun k_ => ((P0_ k_ ∨ P1_10_ k_) ∨ w.heap.size ≤ k_) ∧ some k_ ≠ (v241 : Value).ownBlock ∧ k_ ≠ gb232)) k_ ∧ some k_ ≠ (v235 : Value).ownBlock)) (HO0.out) (fun k_ hk => ⟨⟨hk.1.1.1, ⟨hk.1.2, hk.1.1.2⟩⟩, hk.2⟩))))
     (case aB => exact (by repeat (first | (with_reducible first | exact HB.out | apply below_alloc | apply pw_below_drewN | apply below_drew1 | refine below_set ?_ GE232.out) | exact HB.out)))
     (case aF => exact (fun k_ hk => ⟨(.inr (Nat.le_trans (below_size (by repeat (first | (with_reducible first | exact HB.out | apply below_alloc | apply pw_below_drewN | apply below_drew1 | refine below_set ?_ GE232.out) | exact HB.out))) hk)), Kd.fresh' (Kd.N_lt (by (with_reducible repeat (first | apply Kd.N_alloc | apply Kd.N_drewN | apply Kd.N_drew)); exact HO242.out)) k_ hk, Kd.freshB (g := gb232) (o := .cells #[.int .i64 a1_0, .int .i64 a1_1, .int .i64 a1_2, .int .i64 a1_3, .int .i64 a1_4, .int .i64 a1_5, .int .i64 a1_6, .int .i64 a1_7, .int .i64 a1_8, .int .i64 a1_9, .slice A1_10 l1_10.length c1_10, .int .i64 a1_11] 32 (0, 0)) (by (with_reducible repeat (first | refine blk_drewN ?_ _ | refine blk_drew ?_ | refine blk_alloc ?_ _)); exact BK232.out) k_ hk⟩))
     (case aO => exact (by (with_reducible repeat (first | apply Kd.N_alloc | apply Kd.N_drewN | apply Kd.N_drew)); exact HO236.out))
     (case aS => exact (below_size (by repeat (first | (with_reducible first | exact HB.out | apply below_alloc | apply pw_below_drewN | apply below_drew1 | refine below_set ?_ GE232.out) | exact HB.out))))
     (case aL => have := LMc10.out; omega)
     intro v238 w19 ho hb hg hat
     rw [← Ny237.out] at ho
     have n0_ := Aside0.mk (Kd.V_afterv (ok := (fun k_ => ((P0_ k_ ∨ P1_10_ k_) ∨ w.heap.size ≤ k_) ∧ some k_ ≠ (v241 : Value).ownBlock ∧ k_ ≠ gb232)) (by (with_reducible repeat (first | apply Kd.V_alloc | apply Kd.V_drewN | apply Kd.V_drew)); exact Kd.V_mono HO0.out (fun _ hk => ⟨⟨hk.1.1.1, ⟨hk.1.2, hk.1.1.2⟩⟩, hk.2⟩)) hg hat)
     have n1_ := Aside0.mk (Kd.V_afterv (ok := (fun k_ => ((P0_ k_ ∨ P1_10_ k_) ∨ w.heap.size ≤ k_) ∧ some k_ ≠ (v241 : Value).ownBlock ∧ k_ ≠ gb232)) (by (with_reducible repeat (first | apply Kd.V_alloc | apply Kd.V_drewN | apply Kd.V_drew)); exact Kd.V_mono HO1_10.out (fun _ hk => ⟨⟨hk.1.1.1, ⟨hk.1.2, hk.1.1.2⟩⟩, hk.2⟩)) hg hat)
     have n2_ := Aside0.mk (blk_grown (g := gb232) (o := .cells #[.int .i64 a1_0, .int .i64 a1_1, .int .i64 a1_2, .int .i64 a1_3, .int .i64 a1_4, .int .i64 a1_5, .int .i64 a1_6, .int .i64 a1_7, .int .i64 a1_8, .int .i64 a1_9, .slice A1_10 l1_10.length c1_10, .int .i64 a1_11] 32 (0, 0)) (by (with_reducible repeat (first | refine blk_drewN ?_ _ | refine blk_drew ?_ | refine blk_alloc ?_ _)); exact BK232.out) hg (Kd.N_away HO236.out (fun _ hk => hk.2.2)))
     have n3_ := Aside0.mk (Kd.N_afterv (ok := (fun k_ => ((P0_ k_ ∨ P1_10_ k_) ∨ w.heap.size ≤ k_) ∧ k_ ≠ gb232)) (by (with_reducible repeat (first | apply Kd.N_alloc | apply Kd.N_drewN | apply Kd.N_drew)); exact HO242.out) hg hat)
     have n4_ := Aside0.mk (hb)
     have n5_ := Aside0.mk (ho)
     clear HO0
     clear HO1_10
     clear BK232
     clear HO242
     clear HB
     clear HO236
     have HO0 := n0_
     have HO1_10 := n1_
     have BK232 := n2_
     have HO242 := n3_
     have HB := n4_
     have HO239 := n5_
     clear n0_ n1_ n2_ n3_ n4_ n5_
     clear ho hb hg hat
     refine hK.out _ _ ⟨(blk_cell BK232.out 0).trans rfl, (blk_cell BK232.out 1).trans rfl, (blk_cell BK232.out 2).trans rfl, (blk_cell BK232.out 3).trans rfl, (blk_cell BK232.out 4).trans rfl, (blk_cell BK232.out 5).trans rfl, (blk_cell BK232.out 6).trans rfl, (blk_cell BK232.out 7).trans rfl, (blk_cell BK232.out 8).trans rfl, (blk_cell BK232.out 9).trans rfl, (blk_cell BK232.out 10).trans rfl, (blk_cell BK232.out 11).trans rfl⟩ (fun hHeld => ?_)
     clear hK K
     refine norm_ (a' := ?_) ?_ ?_
     rotate_left
     ·show Act.put _ (some 21) _ = _
      simp only [Act.put, List.setIfInBounds_toArray, List.set_cons_zero, List.set_cons_succ, i64_w, i32_w]
      rfl
     exact norm_ (by simp only [putAll, Act.put, List.setIfInBounds_toArray, List.set_cons_zero, List.set_cons_succ]) (hCont (v235, v238, v241) _ ⟨hHeld, (by (with_reducible repeat (first | apply Kd.V_alloc | apply Kd.V_drewN | apply Kd.V_drew)); exact Kd.V_mono HO0.out (fun _ hk => ⟨hk.1.1, ⟨hk.2, ⟨hk.1.2.1, hk.1.2.2⟩⟩⟩)), (by (with_reducible repeat (first | apply Kd.V_alloc | apply Kd.V_drewN | apply Kd.V_drew)); exact Kd.V_mono HO1_10.out (fun _ hk => ⟨hk.1.1, ⟨hk.2, ⟨hk.1.2.1, hk.1.2.2⟩⟩⟩)), (by (with_reducible repeat (first | apply Kd.N_alloc | apply Kd.N_drewN | apply Kd.N_drew)); exact HO239.out), (by (with_reducible repeat (first | apply Kd.N_alloc | apply Kd.N_drewN | apply Kd.N_drew)); exact Kd.N_mono HO242.out (fun _ hk => ⟨hk.1.1, ⟨hk.2, hk.1.2⟩⟩)), (by (with_reducible repeat (first | refine blk_drewN ?_ _ | refine blk_drew ?_ | refine blk_alloc ?_ _)); exact BK232.out), (by repeat (first | (with_reducible first | exact HB.out | apply below_alloc | apply pw_below_drewN | apply below_drew1 | refine below_set ?_ GE232.out) | exact HB.out))⟩)
   rintro ⟨v235, v238, v241⟩ w20 ⟨hS_, h0_, h1_, h2_, h3_, h4_, h5_⟩
   have n0_ : Aside0 (Kd.V k32 32 w20 w.heap.size (fun k_ => ((P0_ k_ ∨ P1_10_ k_) ∨ w.heap.size ≤ k_) ∧ some k_ ≠ (v238 : Value).ownBlock ∧ some k_ ≠ (v241 : Value).ownBlock ∧ k_ ≠ gb232) (.slice A0 l0.length c0) l0) := ⟨h0_⟩
   have n1_ : Aside0 (Kd.V (Kd.int .i64) 3 w20 w.heap.size (fun k_ => ((P0_ k_ ∨ P1_10_ k_) ∨ w.heap.size ≤ k_) ∧ some k_ ≠ (v238 : Value).ownBlock ∧ some k_ ≠ (v241 : Value).ownBlock ∧ k_ ≠ gb232) (.slice A1_10 l1_10.length c1_10) l1_10) := ⟨h1_⟩
   have n2_ : Aside0 (Kd.N k32 32 w20 w.heap.size (fun k_ => ((P0_ k_ ∨ P1_10_ k_) ∨ w.heap.size ≤ k_) ∧ some k_ ≠ (v241 : Value).ownBlock ∧ k_ ≠ gb232) v238 y237) := ⟨h2_⟩
   have n3_ : Aside0 (Kd.N k32 32 w20 w.heap.size (fun k_ => ((P0_ k_ ∨ P1_10_ k_) ∨ w.heap.size ≤ k_) ∧ some k_ ≠ (v238 : Value).ownBlock ∧ k_ ≠ gb232) v241 y240) := ⟨h3_⟩
   have n4_ : Aside0 (w20.heap[gb232]? = some (.cells #[.int .i64 a1_0, .int .i64 a1_1, .int .i64 a1_2, .int .i64 a1_3, .int .i64 a1_4, .int .i64 a1_5, .int .i64 a1_6, .int .i64 a1_7, .int .i64 a1_8, .int .i64 a1_9, .slice A1_10 l1_10.length c1_10, .int .i64 a1_11] 32 (0, 0))) := ⟨h4_⟩
   have n5_ : Aside0 (Below w.heap.size w w20) := ⟨h5_⟩
   clear HO0
   clear HO1_10
   clear BK232
   clear HB
   clear h0_ h1_ h2_ h3_ h4_ h5_
   have HO0 := n0_
   have HO1_10 := n1_
   have HO239 := n2_
   have HO242 := n3_
   have BK232 := n4_
   have HB := n5_
   clear n0_ n1_ n2_ n3_ n4_ n5_
   have hHeld : w20.cell? ⟨gb232, 0, none⟩ = some (.int .i64 a1_0) ∧ w20.cell? ⟨gb232, 1, none⟩ = some (.int .i64 a1_1) ∧ w20.cell? ⟨gb232, 2, none⟩ = some (.int .i64 a1_2) ∧ w20.cell? ⟨gb232, 3, none⟩ = some (.int .i64 a1_3) ∧ w20.cell? ⟨gb232, 4, none⟩ = some (.int .i64 a1_4) ∧ w20.cell? ⟨gb232, 5, none⟩ = some (.int .i64 a1_5) ∧ w20.cell? ⟨gb232, 6, none⟩ = some (.int .i64 a1_6) ∧ w20.cell? ⟨gb232, 7, none⟩ = some (.int .i64 a1_7) ∧ w20.cell? ⟨gb232, 8, none⟩ = some (.int .i64 a1_8) ∧ w20.cell? ⟨gb232, 9, none⟩ = some (.int .i64 a1_9) ∧ w20.cell? ⟨gb232, 10, none⟩ = some (.slice A1_10 l1_10.length c1_10) ∧ w20.cell? ⟨gb232, 11, none⟩ = some (.int .i64 a1_11) := hS_
   obtain ⟨Ao22, co22, eo22⟩ := Kd.N_slice HO242.out
   (first | subst eo22 | (injection eo22 with f1_ f2_ f3_; have f4_ := f1_.symm; have f5_ := f3_.symm; clear f1_ f2_ f3_; subst f4_; subst f5_))
   refine norm_ (a' := ?_) ?_ ?_
   rotate_left
   ·simp only [putAll, Act.put, List.setIfInBounds_toArray, List.set_cons_zero, List.set_cons_succ]
    rfl
   refine one_ (i := 5) (N := some 24) #[true, true, true, true, true, true, false, false] rfl rfl (one_of HT_.out (by kernel_rfl)) (by decide) (fun K hK => ?_)
   refine Kd.N_append_rows_step k32 (w0 := w) w.heap.size (by rfl) (.tmp 21) (.tmp 23) 22 32 (.agg #[(.int .i64 0), (.int .i64 0), (.int .i64 0), (.int .i64 0), (.int .i64 0), (.int .i64 0), (.int .i64 0), (.int .i64 0), (.int .i64 0), (.int .i64 0), (.slice none 0 0), (.int .i64 0)]) 112 rfl Try.underlying22 info32 rfl (by decide) (by omega) v238 y237 y240 _ _ _ (fun k_ => ((P0_ k_ ∨ P1_10_ k_) ∨ w.heap.size ≤ k_) ∧ k_ ≠ gb232) (fun k_ => ((fun k_ => ((P0_ k_ ∨ P1_10_ k_) ∨ w.heap.size ≤ k_) ∧ k_ ≠ gb232)) k_ ∧ some k_ ≠ (v238 : Value).ownBlock) rfl rfl ?aO ?aR (fun _ hk => hk) ?aF ?aB ?aS ?aL ?_
   (case aR => exact (by skip; exact Kd.N_F (Kd.N_mono (ok' := (fun k_ => ((fun k_ => ((P0_ k_ ∨ P1_10_ k_) ∨ w.heap.size ≤ k_) ∧ k_ ≠ gb232)) k_ ∧ some k_ ≠ (v238 : Value).ownBlock)) (HO242.out) (fun k_ hk => ⟨⟨hk.1, hk.2.2⟩, hk.2.1⟩))))
   (case aB => exact (by repeat (first | (with_reducible first | exact HB.out | apply below_alloc | apply pw_below_drewN | apply below_drew1 | refine below_set ?_ GE232.out) | exact HB.out)))
   (case aF => exact (fun k_ hk => ⟨(.inr (Nat.le_trans (below_size (by repeat (first | (with_reducible first | exact HB.out | apply below_alloc | apply pw_below_drewN | apply below_drew1 | refine below_set ?_ GE232.out) | exact HB.out))) hk)), Kd.freshB (g := gb232) (o := .cells #[.int .i64 a1_0, .int .i64 a1_1, .int .i64 a1_2, .int .i64 a1_3, .int .i64 a1_4, .int .i64 a1_5, .int .i64 a1_6, .int .i64 a1_7, .int .i64 a1_8, .int .i64 a1_9, .slice A1_10 l1_10.length c1_10, .int .i64 a1_11] 32 (0, 0)) (by (with_reducible repeat (first | refine blk_drewN ?_ _ | refine blk_drew ?_ | refine blk_alloc ?_ _)); exact BK232.out) k_ hk⟩))
   (case aO => exact (by (with_reducible repeat (first | apply Kd.N_alloc | apply Kd.N_drewN | apply Kd.N_drew)); exact Kd.N_mono HO239.out (fun _ hk => ⟨hk.1, hk.2.2⟩)))
   (case aS => exact (below_size (by repeat (first | (with_reducible first | exact HB.out | apply below_alloc | apply pw_below_drewN | apply below_drew1 | refine below_set ?_ GE232.out) | exact HB.out))))
   (case aL => have := LMc11.out; omega)
   intro v244 w21 ho hb hg hat
   rw [← Ny243.out] at ho
   have n0_ := Aside0.mk (Kd.V_afterv (ok := (fun k_ => ((P0_ k_ ∨ P1_10_ k_) ∨ w.heap.size ≤ k_) ∧ some k_ ≠ (.slice Ao22 y240.length co22 : Value).ownBlock ∧ k_ ≠ gb232)) (by (with_reducible repeat (first | apply Kd.V_alloc | apply Kd.V_drewN | apply Kd.V_drew)); exact Kd.V_mono HO0.out (fun _ hk => ⟨⟨hk.1, ⟨hk.2.2.1, hk.2.2.2⟩⟩, hk.2.1⟩)) hg hat)
   have n1_ := Aside0.mk (Kd.V_afterv (ok := (fun k_ => ((P0_ k_ ∨ P1_10_ k_) ∨ w.heap.size ≤ k_) ∧ some k_ ≠ (.slice Ao22 y240.length co22 : Value).ownBlock ∧ k_ ≠ gb232)) (by (with_reducible repeat (first | apply Kd.V_alloc | apply Kd.V_drewN | apply Kd.V_drew)); exact Kd.V_mono HO1_10.out (fun _ hk => ⟨⟨hk.1, ⟨hk.2.2.1, hk.2.2.2⟩⟩, hk.2.1⟩)) hg hat)
   have n2_ := Aside0.mk (blk_grown (g := gb232) (o := .cells #[.int .i64 a1_0, .int .i64 a1_1, .int .i64 a1_2, .int .i64 a1_3, .int .i64 a1_4, .int .i64 a1_5, .int .i64 a1_6, .int .i64 a1_7, .int .i64 a1_8, .int .i64 a1_9, .slice A1_10 l1_10.length c1_10, .int .i64 a1_11] 32 (0, 0)) (by (with_reducible repeat (first | refine blk_drewN ?_ _ | refine blk_drew ?_ | refine blk_alloc ?_ _)); exact BK232.out) hg (Kd.N_away HO239.out (fun _ hk => hk.2.2)))
   have n3_ := Aside0.mk (Kd.N_afterv (ok := (fun k_ => ((P0_ k_ ∨ P1_10_ k_) ∨ w.heap.size ≤ k_) ∧ k_ ≠ gb232)) (by (with_reducible repeat (first | apply Kd.N_alloc | apply Kd.N_drewN | apply Kd.N_drew)); exact Kd.N_mono HO242.out (fun _ hk => ⟨⟨hk.1, hk.2.2⟩, hk.2.1⟩)) hg hat)
   have n4_ := Aside0.mk (hb)
   have n5_ := Aside0.mk (ho)
   clear HO0
   clear HO1_10
   clear BK232
   clear HO242
   clear HB
   clear HO239
   have HO0 := n0_
   have HO1_10 := n1_
   have BK232 := n2_
   have HO242 := n3_
   have HB := n4_
   have HO245 := n5_
   clear n0_ n1_ n2_ n3_ n4_ n5_
   clear ho hb hg hat
   refine hK.out _ _ ⟨(blk_cell BK232.out 0).trans rfl, (blk_cell BK232.out 1).trans rfl, (blk_cell BK232.out 2).trans rfl, (blk_cell BK232.out 3).trans rfl, (blk_cell BK232.out 4).trans rfl, (blk_cell BK232.out 5).trans rfl, (blk_cell BK232.out 6).trans rfl, (blk_cell BK232.out 7).trans rfl, (blk_cell BK232.out 8).trans rfl, (blk_cell BK232.out 9).trans rfl, (blk_cell BK232.out 10).trans rfl, (blk_cell BK232.out 11).trans rfl⟩ (fun hHeld => ?_)
   clear hK K
   refine norm_ (a' := ?_) ?_ ?_
   rotate_left
   ·show Act.put _ (some 24) _ = _
    simp only [Act.put, List.setIfInBounds_toArray, List.set_cons_zero, List.set_cons_succ, i64_w, i32_w]
    rfl
   refine pure_ (i := 6) (N := some 6) (v := ?_) (a' := ?_) #[true, true, true, true, true, true, true, false] rfl rfl (any_of HT_.out (by kernel_rfl)) (fun _ _ _ h => h) (Or.inl ⟨by rfl, ?_⟩) ?_ ?_
   rotate_left
   ·intro w'
    go_simp
    with_reducible rfl
   rotate_left
   ·simp only [Act.put, List.setIfInBounds_toArray, List.set_cons_zero, List.set_cons_succ, i64_w, i32_w]
    rfl
   refine pure_ (i := 7) (N := some 7) (v := ?_) (a' := ?_) #[true, true, true, true, true, true, true, true] rfl rfl (any_of HT_.out (by kernel_rfl)) (fun _ _ _ h => h) (Or.inl ⟨by rfl, ?_⟩) ?_ ?_
   rotate_left
   ·intro w'
    go_simp
    with_reducible rfl
   rotate_left
   ·simp only [Act.put, List.setIfInBounds_toArray, List.set_cons_zero, List.set_cons_succ, i64_w, i32_w]
    rfl
   refine done_ (done_of HT_.out (by kernel_rfl)) ?_
   try go_wp2
   go_ret2
   exact ⟨_, by first | rfl | (simp [errW_none, errW_some] <;> rfl) | (simp [*, errW_none, errW_some] <;> rfl), Kd.N_V (by (with_reducible repeat (first | apply Kd.N_alloc | apply Kd.N_drewN | apply Kd.N_drew)); exact Kd.N_mono HO245.out (fun _ hk => hk.1)), by repeat (first | (with_reducible first | exact HB.out | apply below_alloc | apply pw_below_drewN | apply below_drew1 | refine below_set ?_ GE232.out) | exact HB.out)⟩
/-! ### ref20_Due: function 16 -/
def ref20_Due.l0 : Nat → List (S32) → Int → List (S32) → List (S32) → Int → Option ((List (S32)) × (List (S32)))
 | 0, _, _, _, _, _ => none
 | k + 1, x0, x1, x6, x7, x8 => if x8 < (x0.length : Int) then (if 0 ≤ x8 then (if ((rd_T32 x0 x8).f6) ≤ x1 then (if x6.length < 1256584717458 then (ref20_Due.l0 k x0 x1 (x6 ++ [(⟨(rd_T32 x0 x8).f0, (rd_T32 x0 x8).f1, (rd_T32 x0 x8).f2, (rd_T32 x0 x8).f3, (rd_T32 x0 x8).f4, (⟨(rd_T32 x0 x8).f5.f0, (rd_T32 x0 x8).f5.f1, (rd_T32 x0 x8).f5.f2, (rd_T32 x0 x8).f5.f3, (rd_T32 x0 x8).f5.f4, (rd_T32 x0 x8).f5.f5⟩ : S30), (rd_T32 x0 x8).f6⟩ : S32)]) x7 (wrap64 (x8 + 1))) else (none)) else (if x7.length < 1256584717458 then (ref20_Due.l0 k x0 x1 x6 (x7 ++ [(⟨(rd_T32 x0 x8).f0, (rd_T32 x0 x8).f1, (rd_T32 x0 x8).f2, (rd_T32 x0 x8).f3, (rd_T32 x0 x8).f4, (⟨(rd_T32 x0 x8).f5.f0, (rd_T32 x0 x8).f5.f1, (rd_T32 x0 x8).f5.f2, (rd_T32 x0 x8).f5.f3, (rd_T32 x0 x8).f5.f4, (rd_T32 x0 x8).f5.f5⟩ : S30), (rd_T32 x0 x8).f6⟩ : S32)]) (wrap64 (x8 + 1))) else (none))) else (none)) else (some (x6, x7))
def ref20_Due.f (k : Nat) (l0 : List (S32)) (a1 : Int) : Option ((List (S32)) × (List (S32))) := ref20_Due.l0 k l0 a1 ([] : List (S32)) ([] : List (S32)) 0
theorem ref20_Due.mono_l : ∀ k, (∀ y0 y1 y2 y3 y4, LeO (ref20_Due.l0 k y0 y1 y2 y3 y4) (ref20_Due.l0 (k + 1) y0 y1 y2 y3 y4))
 | 0 => fun _ _ _ _ _ r h => by simp [ref20_Due.l0] at h
 | k + 1 => by
  have ih0 := ref20_Due.mono_l k
  ·intro y0 y1 y2 y3 y4
   unfold ref20_Due.l0
   repeat' first
   | (with_reducible exact ih0 _ _ _ _ _)
   | (with_reducible exact LeO.refl _)
   | (with_reducible exact LeO.none _)
   | (with_reducible refine LeO.ite ?_ ?_)
   | (with_reducible refine LeO.bind ?_ (fun _ => ?_))
   | exact ih0 _ _ _ _ _
   | exact LeO.none _
   | refine LeO.ite ?_ ?_
   | refine LeO.bind ?_ (fun _ => ?_)
theorem ref20_Due.mono : ∀ a0 a1 k, LeO (ref20_Due.f k a0 a1) (ref20_Due.f (k + 1) a0 a1) := by
 intro a0 a1 k
 have ih0 := ref20_Due.mono_l k
 unfold ref20_Due.f
 repeat' first
  | (with_reducible exact ih0 _ _ _ _ _)
  | (with_reducible exact LeO.refl _)
  | (with_reducible exact LeO.none _)
  | (with_reducible refine LeO.ite ?_ ?_)
  | (with_reducible refine LeO.bind ?_ (fun _ => ?_))
  | exact ih0 _ _ _ _ _
  | exact LeO.none _
  | refine LeO.ite ?_ ?_
  | refine LeO.bind ?_ (fun _ => ?_)
set_option maxHeartbeats 8000000 in
set_option maxRecDepth 100000 in
theorem ref20_Due.calls (k : Nat) (P0_ : Nat → Prop) (A0 : Option Addr) (c0 : Nat) (l0 : List (S32)) (a1 : Int) (r1 : List (S32)) (r2 : List (S32)) (w : World) (hs0 : Kd.V k32 32 w w.heap.size (fun k_ => P0_ k_) (.slice A0 l0.length c0) l0) (h : ref20_Due.f k l0 a1 = some (r1, r2)) :
 Calls Try.prog 16 #[.slice A0 l0.length c0, .int .i64 a1] w fun e w' => ∃ v0_ v1_ : Value, e = .returned (.tuple #[v0_, v1_]) ∧ Kd.N k32 32 w' w.heap.size (fun k_ => (P0_ k_ ∨ w.heap.size ≤ k_) ∧ some k_ ≠ (v1_ : Value).ownBlock) v0_ r1 ∧ Kd.N k32 32 w' w.heap.size (fun k_ => (P0_ k_ ∨ w.heap.size ≤ k_) ∧ some k_ ≠ (v0_ : Value).ownBlock) v1_ r2 ∧ Below w.heap.size w w' := by
 have hu32 := Try.underlying32
 have HO0 := Aside0.mk (show Kd.V k32 32 w w.heap.size (fun k_ => (P0_ k_ ∨ w.heap.size ≤ k_)) (.slice A0 l0.length c0) l0 from Kd.V_mono hs0 (fun k_ hk => .inl hk))
 have HB := Aside0.mk (Below.refl w.heap.size w)
 have H : (ref20_Due.l0 k l0 a1 ([] : List (S32)) ([] : List (S32)) 0) = some (r1, r2) := h
 clear h
 have H' := Aside0.mk H
 clear H
 go_enter Try.func16, Try.ntmps16
 go_wp2
 go_loopg [6, 7, 8] k (fun kq v6 v7 v8 w' => ∃ (x6_1 : List (S32)) (x7_1 : List (S32)) (x8_1 : Int), v8 = .int .i64 x8_1 ∧ Aside0 (ref20_Due.l0 kq l0 a1 x6_1 x7_1 x8_1 = some (r1, r2)) ∧ Aside0 (kq ≤ k) ∧ Aside0 (Kd.V k32 32 w' w.heap.size (fun k_ => (P0_ k_ ∨ w.heap.size ≤ k_) ∧ some k_ ≠ (v6 : Value).ownBlock ∧ some k_ ≠ (v7 : Value).ownBlock) (.slice A0 l0.length c0) l0) ∧ Aside0 (Kd.N k32 32 w' w.heap.size (fun k_ => (P0_ k_ ∨ w.heap.size ≤ k_) ∧ some k_ ≠ (v7 : Value).ownBlock) v6 x6_1) ∧ Aside0 (Kd.N k32 32 w' w.heap.size (fun k_ => (P0_ k_ ∨ w.heap.size ≤ k_) ∧ some k_ ≠ (v6 : Value).ownBlock) v7 x7_1) ∧ Aside0 (Below w.heap.size w w'))
 case atStart => exact ⟨(([] : List (S32))), (([] : List (S32))), (0), (by first | rfl | (simp; done) | (simp [*]; done) | (simp [bne_nil_]; done)), H', ⟨Nat.le_refl _⟩, ⟨by (with_reducible repeat (first | apply Kd.V_alloc | apply Kd.V_drewN | apply Kd.V_drew)); exact Kd.V_mono HO0.out (fun _ hk => ⟨hk, ⟨(by simp [Value.ownBlock]), (by simp [Value.ownBlock])⟩⟩)⟩, ⟨by first | exact Kd.S_nil _ _ _ _ _ | exact Kd.N_nil _ _ _ _ _ | exact Kd.V_nil _ _ _ _ _ | exact Kd.Q_nil _ _ _ _ _ | exact Kd.R_nil _ _ _ _ _⟩, ⟨by first | exact Kd.S_nil _ _ _ _ _ | exact Kd.N_nil _ _ _ _ _ | exact Kd.V_nil _ _ _ _ _ | exact Kd.Q_nil _ _ _ _ _ | exact Kd.R_nil _ _ _ _ _⟩, ⟨by repeat (first | (with_reducible first | exact HB.out | apply below_alloc | apply pw_below_drewN | apply below_drew1) | exact HB.out)⟩⟩
 case round =>
  clear H'
  try clear c1
  try clear p2
  obtain ⟨x6_1, x7_1, x8_1, rfl, HA, HK1, HO_0, HO_6, HO_7, HB⟩ := hrel
  cases gk with
  | zero => exact absurd HA.out (by simp [ref20_Due.l0])
  | succ k1 =>
   have H := HA.out
   clear HA
   simp only [ref20_Due.l0] at H
   by_cases c3 : x8_1 < (l0.length : Int)
   ·rw [if_pos c3] at H
    have c3b0 : decide (x8_1 < (l0.length : Int)) = true := decide_eq_true c3
    clear c3
    by_cases c4 : 0 ≤ x8_1
    rotate_left
    ·rw [if_neg c4] at H
     exact absurd H (by simp)
    rw [if_pos c4] at H
    have c4b0 : decide (0 ≤ x8_1) = true := decide_eq_true c4
    clear c4
    by_cases c5 : ((rd_T32 l0 x8_1).f6) ≤ a1
    ·rw [if_pos c5] at H
     have c5b0 : decide (((rd_T32 l0 x8_1).f6) ≤ a1) = true := decide_eq_true c5
     clear c5
     by_cases c6 : x6_1.length < 1256584717458
     rotate_left
     ·rw [if_neg c6] at H
      exact absurd H (by simp)
     rw [if_pos c6] at H
     have LMc6 := Aside0.mk c6
     clear c6
     obtain ⟨y248, hy248⟩ : ∃ y_ : List (S32), y_ = (x6_1 ++ [(⟨(rd_T32 l0 x8_1).f0, (rd_T32 l0 x8_1).f1, (rd_T32 l0 x8_1).f2, (rd_T32 l0 x8_1).f3, (rd_T32 l0 x8_1).f4, (⟨(rd_T32 l0 x8_1).f5.f0, (rd_T32 l0 x8_1).f5.f1, (rd_T32 l0 x8_1).f5.f2, (rd_T32 l0 x8_1).f5.f3, (rd_T32 l0 x8_1).f5.f4, (rd_T32 l0 x8_1).f5.f5⟩ : S30), (rd_T32 l0 x8_1).f6⟩ : S32)]) := ⟨_, rfl⟩
     replace H : (ref20_Due.l0 k1 l0 a1 y248 x7_1 (wrap64 (x8_1 + 1))) = some (r1, r2) := by first | (rw [hy248]; with_reducible exact H) | (have H2_ := (Option.bind_some _ _).symm.trans H; rw [hy248]; with_reducible exact H2_) | (have H2_ := (Option.bind_some _ _).symm.trans H; with_reducible exact H2_) | with_reducible exact H | (rw [hy248]; exact H) | exact H
     have Ny248 := Aside0.mk hy248
     clear hy248
     have H' := Aside0.mk H
     clear H
     have p246 : 0 ≤ (x8_1 : Int) := of_decide_eq_true (by first | (with_reducible assumption) | assumption)
     have q246 : x8_1 < (l0.length : Int) := of_decide_eq_true (by first | (with_reducible assumption) | assumption)
     obtain ⟨ad246, A246_10, c246_10, e246, hx246_0, hx246_1, hx246_2, hx246_3, hx246_4, hx246_5, hx246_6, hx246_7, hx246_8, hx246_9, hx246_10, hx246_11, hl246_10, hi246_10⟩ := at_T32 (Kd.V_reads' HO_0.out).2.2 x8_1 p246 q246
     cases e246
     obtain ⟨ce246, hce246, hMe246, hcc246⟩ := Kd.V_get HO_0.out z32 x8_1 p246 (by first | exact q246 | exact of_decide_eq_true (by first | (with_reducible assumption) | assumption) | (have e_ := (Kd.V_reads' HO_0.out).1; omega))
     obtain ⟨ua246_10, uc246_10, rfl, ul246_10, ge246_10⟩ := k32_openF hMe246
     have hv246_10 := hcc246 10 _ rfl
     rw [add_field _ _ 10 (by omega)] at hv246_10
     replace hv246_10 := Option.some.inj (hv246_10.symm.trans hx246_10)
     injection hv246_10 with hva_ hvn_ hvc_
     rw [hva_] at ge246_10
     rw [hvc_] at ul246_10
     have HL246_10 := Aside0.mk (show Kd.V (Kd.int .i64) 3 _ w.heap.size _ _ ((rd_T32 l0 x8_1).f5.f5) from Kd.V_mk ul246_10 ge246_10)
     clear hva_ hvn_ hvc_ ge246_10 ul246_10
     clear hcc246 hce246
     have HR246_10 := Aside0.mk hi246_10
     have HC246_10 := Aside0.mk hl246_10
     clear hi246_10 hl246_10
     replace p246 := eq_true p246
     replace q246 := eq_true q246
     have p247 : 0 ≤ (x8_1 : Int) := of_decide_eq_true (by first | (with_reducible assumption) | assumption)
     have q247 : x8_1 < (l0.length : Int) := of_decide_eq_true (by first | (with_reducible assumption) | assumption)
     obtain ⟨ad247, A247_10, c247_10, e247, hx247_0, hx247_1, hx247_2, hx247_3, hx247_4, hx247_5, hx247_6, hx247_7, hx247_8, hx247_9, hx247_10, hx247_11, hl247_10, hi247_10⟩ := at_T32 (Kd.V_reads' HO_0.out).2.2 x8_1 p247 q247
     obtain rfl : ad246 = ad247 := (by injection e247)
     obtain ⟨ce247, hce247, hMe247, hcc247⟩ := Kd.V_get HO_0.out z32 x8_1 p247 (by first | exact q247 | exact of_decide_eq_true (by first | (with_reducible assumption) | assumption) | (have e_ := (Kd.V_reads' HO_0.out).1; omega))
     obtain ⟨ua247_10, uc247_10, rfl, ul247_10, ge247_10⟩ := k32_openF hMe247
     have hv247_10 := hcc247 10 _ rfl
     rw [add_field _ _ 10 (by omega)] at hv247_10
     replace hv247_10 := Option.some.inj (hv247_10.symm.trans hx247_10)
     injection hv247_10 with hva_ hvn_ hvc_
     rw [hva_] at ge247_10
     rw [hvc_] at ul247_10
     have HL247_10 := Aside0.mk (show Kd.V (Kd.int .i64) 3 _ w.heap.size _ _ ((rd_T32 l0 x8_1).f5.f5) from Kd.V_mk ul247_10 ge247_10)
     clear hva_ hvn_ hvc_ ge247_10 ul247_10
     clear hcc247 hce247
     have HR247_10 := Aside0.mk hi247_10
     have HC247_10 := Aside0.mk hl247_10
     clear hi247_10 hl247_10
     replace p247 := eq_true p247
     replace q247 := eq_true q247
     have ea_ := Option.some.inj (hx246_10.symm.trans hx247_10)
     injection ea_ with ea_ en_ ec_
     subst ea_
     subst ec_
     clear en_
     go_wp2_with (first | ((with_reducible refine gate_builtin (b := .append) (xs := #[.tmp 22, .tmp 27]) rfl ?_); at_builtin; refine Kd.N_append k32 (w0 := w) w.heap.size rfl (.tmp 22) (.tmp 27) 22 32 (.agg #[(.int .i64 0), (.int .i64 0), (.int .i64 0), (.int .i64 0), (.int .i64 0), (.int .i64 0), (.int .i64 0), (.int .i64 0), (.int .i64 0), (.int .i64 0), (.slice none 0 0), (.int .i64 0)]) 112 rfl Try.underlying22 info32 rfl (by decide) (by omega) u6 x6_1 (⟨(rd_T32 l0 x8_1).f0, (rd_T32 l0 x8_1).f1, (rd_T32 l0 x8_1).f2, (rd_T32 l0 x8_1).f3, (rd_T32 l0 x8_1).f4, (⟨(rd_T32 l0 x8_1).f5.f0, (rd_T32 l0 x8_1).f5.f1, (rd_T32 l0 x8_1).f5.f2, (rd_T32 l0 x8_1).f5.f3, (rd_T32 l0 x8_1).f5.f4, (rd_T32 l0 x8_1).f5.f5⟩ : S30), (rd_T32 l0 x8_1).f6⟩ : S32) [.int .i64 ((rd_T32 l0 x8_1).f0), .int .i64 ((rd_T32 l0 x8_1).f1), .int .i64 ((rd_T32 l0 x8_1).f2), .int .i64 ((rd_T32 l0 x8_1).f3), .int .i64 ((rd_T32 l0 x8_1).f4), .int .i64 ((rd_T32 l0 x8_1).f5.f0), .int .i64 ((rd_T32 l0 x8_1).f5.f1), .int .i64 ((rd_T32 l0 x8_1).f5.f2), .int .i64 ((rd_T32 l0 x8_1).f5.f3), .int .i64 ((rd_T32 l0 x8_1).f5.f4), .slice A246_10 ((rd_T32 l0 x8_1).f5.f5).length c246_10, .int .i64 ((rd_T32 l0 x8_1).f6)] (fun k_ => (P0_ k_ ∨ w.heap.size ≤ k_) ∧ some k_ ≠ (u7 : Value).ownBlock) (fun k_ => ((fun k_ => (P0_ k_ ∨ w.heap.size ≤ k_) ∧ some k_ ≠ (u7 : Value).ownBlock)) k_ ∧ some k_ ≠ (u6 : Value).ownBlock) rfl rfl ?aP (fun _ hk => hk) ?aF ?aO ?aB ?aS ?aL ?_; (case aP => exact (k32_mkF _ _ (⟨(rd_T32 l0 x8_1).f0, (rd_T32 l0 x8_1).f1, (rd_T32 l0 x8_1).f2, (rd_T32 l0 x8_1).f3, (rd_T32 l0 x8_1).f4, (⟨(rd_T32 l0 x8_1).f5.f0, (rd_T32 l0 x8_1).f5.f1, (rd_T32 l0 x8_1).f5.f2, (rd_T32 l0 x8_1).f5.f3, (rd_T32 l0 x8_1).f5.f4, (rd_T32 l0 x8_1).f5.f5⟩ : S30), (rd_T32 l0 x8_1).f6⟩ : S32) (Kd.V_reads' (Kd.V_mono (ok' := (fun k_ => ((fun k_ => (P0_ k_ ∨ w.heap.size ≤ k_) ∧ some k_ ≠ (u7 : Value).ownBlock)) k_ ∧ some k_ ≠ (u6 : Value).ownBlock)) (HL247_10.out) (fun k_ hk => ⟨⟨hk.1, hk.2.2⟩, hk.2.1⟩))).2.1 (Kd.V_F (Kd.V_mono (ok' := (fun k_ => ((fun k_ => (P0_ k_ ∨ w.heap.size ≤ k_) ∧ some k_ ≠ (u7 : Value).ownBlock)) k_ ∧ some k_ ≠ (u6 : Value).ownBlock)) (HL247_10.out) (fun k_ hk => ⟨⟨hk.1, hk.2.2⟩, hk.2.1⟩))))); (case aB => exact (by repeat (first | (with_reducible first | exact HB.out | apply below_alloc | apply pw_below_drewN | apply below_drew1) | exact HB.out))); (case aF => exact (fun k_ hk => ⟨(.inr (Nat.le_trans (below_size (by repeat (first | (with_reducible first | exact HB.out | apply below_alloc | apply pw_below_drewN | apply below_drew1) | exact HB.out))) hk)), Kd.fresh' (Kd.N_lt (by (with_reducible repeat (first | apply Kd.N_alloc | apply Kd.N_drewN | apply Kd.N_drew)); exact HO_7.out)) k_ hk⟩)); (case aO => exact (by (with_reducible repeat (first | apply Kd.N_alloc | apply Kd.N_drewN | apply Kd.N_drew)); exact HO_6.out)); (case aS => exact (below_size (by repeat (first | (with_reducible first | exact HB.out | apply below_alloc | apply pw_below_drewN | apply below_drew1) | exact HB.out)))); (case aL => have := LMc6.out; omega); intro v249 w7 ho hb hg hat; rw [← Ny248.out] at ho; have n0_ := Aside0.mk (Kd.V_afterv (ok := (fun k_ => (P0_ k_ ∨ w.heap.size ≤ k_) ∧ some k_ ≠ (u7 : Value).ownBlock)) (by (with_reducible repeat (first | apply Kd.V_alloc | apply Kd.V_drewN | apply Kd.V_drew)); exact Kd.V_mono HO_0.out (fun _ hk => ⟨⟨hk.1, hk.2.2⟩, hk.2.1⟩)) hg hat); have n1_ := Aside0.mk (Kd.N_afterv (ok := (fun k_ => (P0_ k_ ∨ w.heap.size ≤ k_))) (by (with_reducible repeat (first | apply Kd.N_alloc | apply Kd.N_drewN | apply Kd.N_drew)); exact HO_7.out) hg hat); have n2_ := Aside0.mk (Kd.V_afterv (ok := (fun k_ => (P0_ k_ ∨ w.heap.size ≤ k_) ∧ some k_ ≠ (u7 : Value).ownBlock)) (by (with_reducible repeat (first | apply Kd.V_alloc | apply Kd.V_drewN | apply Kd.V_drew)); exact Kd.V_mono HL246_10.out (fun _ hk => ⟨⟨hk.1, hk.2.2⟩, hk.2.1⟩)) hg hat); have n3_ := Aside0.mk (Kd.V_afterv (ok := (fun k_ => (P0_ k_ ∨ w.heap.size ≤ k_) ∧ some k_ ≠ (u7 : Value).ownBlock)) (by (with_reducible repeat (first | apply Kd.V_alloc | apply Kd.V_drewN | apply Kd.V_drew)); exact Kd.V_mono HL247_10.out (fun _ hk => ⟨⟨hk.1, hk.2.2⟩, hk.2.1⟩)) hg hat); have n4_ := Aside0.mk (hb); have n5_ := Aside0.mk (ho); clear HO_0; clear HO_7; clear HL246_10; clear HL247_10; clear HB; clear HO_6; have HO_0 := n0_; have HO_7 := n1_; have HL246_10 := n2_; have HL247_10 := n3_; have HB := n4_; have HO250 := n5_; clear n0_ n1_ n2_ n3_ n4_ n5_; clear ho hb hg hat))
     go_roundg k1
     case measure => have := HK1.out; omega
     case rel => exact ⟨(y248), (x7_1), (wrap64 (x8_1 + 1)), (by first | rfl | (simp; done) | (simp [*]; done) | (simp [bne_nil_]; done)), H', ⟨by have := HK1.out; omega⟩, ⟨by (with_reducible repeat (first | apply Kd.V_alloc | apply Kd.V_drewN | apply Kd.V_drew)); exact Kd.V_mono HO_0.out (fun _ hk => ⟨hk.1.1, ⟨hk.2, hk.1.2⟩⟩)⟩, ⟨by (with_reducible repeat (first | apply Kd.N_alloc | apply Kd.N_drewN | apply Kd.N_drew)); exact HO250.out⟩, ⟨by (with_reducible repeat (first | apply Kd.N_alloc | apply Kd.N_drewN | apply Kd.N_drew)); exact HO_7.out⟩, ⟨by repeat (first | (with_reducible first | exact HB.out | apply below_alloc | apply pw_below_drewN | apply below_drew1) | exact HB.out)⟩⟩
    ·rw [if_neg c5] at H
     have c5b0 : decide (((rd_T32 l0 x8_1).f6) ≤ a1) = false := decide_eq_false c5
     clear c5
     by_cases c8 : x7_1.length < 1256584717458
     rotate_left
     ·rw [if_neg c8] at H
      exact absurd H (by simp)
     rw [if_pos c8] at H
     have LMc8 := Aside0.mk c8
     clear c8
     obtain ⟨y252, hy252⟩ : ∃ y_ : List (S32), y_ = (x7_1 ++ [(⟨(rd_T32 l0 x8_1).f0, (rd_T32 l0 x8_1).f1, (rd_T32 l0 x8_1).f2, (rd_T32 l0 x8_1).f3, (rd_T32 l0 x8_1).f4, (⟨(rd_T32 l0 x8_1).f5.f0, (rd_T32 l0 x8_1).f5.f1, (rd_T32 l0 x8_1).f5.f2, (rd_T32 l0 x8_1).f5.f3, (rd_T32 l0 x8_1).f5.f4, (rd_T32 l0 x8_1).f5.f5⟩ : S30), (rd_T32 l0 x8_1).f6⟩ : S32)]) := ⟨_, rfl⟩
     replace H : (ref20_Due.l0 k1 l0 a1 x6_1 y252 (wrap64 (x8_1 + 1))) = some (r1, r2) := by first | (rw [hy252]; with_reducible exact H) | (have H2_ := (Option.bind_some _ _).symm.trans H; rw [hy252]; with_reducible exact H2_) | (have H2_ := (Option.bind_some _ _).symm.trans H; with_reducible exact H2_) | with_reducible exact H | (rw [hy252]; exact H) | exact H
     have Ny252 := Aside0.mk hy252
     clear hy252
     have H' := Aside0.mk H
     clear H
     have p246 : 0 ≤ (x8_1 : Int) := of_decide_eq_true (by first | (with_reducible assumption) | assumption)
     have q246 : x8_1 < (l0.length : Int) := of_decide_eq_true (by first | (with_reducible assumption) | assumption)
     obtain ⟨ad246, A246_10, c246_10, e246, hx246_0, hx246_1, hx246_2, hx246_3, hx246_4, hx246_5, hx246_6, hx246_7, hx246_8, hx246_9, hx246_10, hx246_11, hl246_10, hi246_10⟩ := at_T32 (Kd.V_reads' HO_0.out).2.2 x8_1 p246 q246
     cases e246
     obtain ⟨ce246, hce246, hMe246, hcc246⟩ := Kd.V_get HO_0.out z32 x8_1 p246 (by first | exact q246 | exact of_decide_eq_true (by first | (with_reducible assumption) | assumption) | (have e_ := (Kd.V_reads' HO_0.out).1; omega))
     obtain ⟨ua246_10, uc246_10, rfl, ul246_10, ge246_10⟩ := k32_openF hMe246
     have hv246_10 := hcc246 10 _ rfl
     rw [add_field _ _ 10 (by omega)] at hv246_10
     replace hv246_10 := Option.some.inj (hv246_10.symm.trans hx246_10)
     injection hv246_10 with hva_ hvn_ hvc_
     rw [hva_] at ge246_10
     rw [hvc_] at ul246_10
     have HL246_10 := Aside0.mk (show Kd.V (Kd.int .i64) 3 _ w.heap.size _ _ ((rd_T32 l0 x8_1).f5.f5) from Kd.V_mk ul246_10 ge246_10)
     clear hva_ hvn_ hvc_ ge246_10 ul246_10
     clear hcc246 hce246
     have HR246_10 := Aside0.mk hi246_10
     have HC246_10 := Aside0.mk hl246_10
     clear hi246_10 hl246_10
     replace p246 := eq_true p246
     replace q246 := eq_true q246
     have p251 : 0 ≤ (x8_1 : Int) := of_decide_eq_true (by first | (with_reducible assumption) | assumption)
     have q251 : x8_1 < (l0.length : Int) := of_decide_eq_true (by first | (with_reducible assumption) | assumption)
     obtain ⟨ad251, A251_10, c251_10, e251, hx251_0, hx251_1, hx251_2, hx251_3, hx251_4, hx251_5, hx251_6, hx251_7, hx251_8, hx251_9, hx251_10, hx251_11, hl251_10, hi251_10⟩ := at_T32 (Kd.V_reads' HO_0.out).2.2 x8_1 p251 q251
     obtain rfl : ad246 = ad251 := (by injection e251)
     obtain ⟨ce251, hce251, hMe251, hcc251⟩ := Kd.V_get HO_0.out z32 x8_1 p251 (by first | exact q251 | exact of_decide_eq_true (by first | (with_reducible assumption) | assumption) | (have e_ := (Kd.V_reads' HO_0.out).1; omega))
     obtain ⟨ua251_10, uc251_10, rfl, ul251_10, ge251_10⟩ := k32_openF hMe251
     have hv251_10 := hcc251 10 _ rfl
     rw [add_field _ _ 10 (by omega)] at hv251_10
     replace hv251_10 := Option.some.inj (hv251_10.symm.trans hx251_10)
     injection hv251_10 with hva_ hvn_ hvc_
     rw [hva_] at ge251_10
     rw [hvc_] at ul251_10
     have HL251_10 := Aside0.mk (show Kd.V (Kd.int .i64) 3 _ w.heap.size _ _ ((rd_T32 l0 x8_1).f5.f5) from Kd.V_mk ul251_10 ge251_10)
     clear hva_ hvn_ hvc_ ge251_10 ul251_10
     clear hcc251 hce251
     have HR251_10 := Aside0.mk hi251_10
     have HC251_10 := Aside0.mk hl251_10
     clear hi251_10 hl251_10
     replace p251 := eq_true p251
     replace q251 := eq_true q251
     have ea_ := Option.some.inj (hx246_10.symm.trans hx251_10)
     injection ea_ with ea_ en_ ec_
     subst ea_
     subst ec_
     clear en_
     go_wp2_with (first | ((with_reducible refine gate_builtin (b := .append) (xs := #[.tmp 29, .tmp 34]) rfl ?_); at_builtin; refine Kd.N_append k32 (w0 := w) w.heap.size rfl (.tmp 29) (.tmp 34) 22 32 (.agg #[(.int .i64 0), (.int .i64 0), (.int .i64 0), (.int .i64 0), (.int .i64 0), (.int .i64 0), (.int .i64 0), (.int .i64 0), (.int .i64 0), (.int .i64 0), (.slice none 0 0), (.int .i64 0)]) 112 rfl Try.underlying22 info32 rfl (by decide) (by omega) u7 x7_1 (⟨(rd_T32 l0 x8_1).f0, (rd_T32 l0 x8_1).f1, (rd_T32 l0 x8_1).f2, (rd_T32 l0 x8_1).f3, (rd_T32 l0 x8_1).f4, (⟨(rd_T32 l0 x8_1).f5.f0, (rd_T32 l0 x8_1).f5.f1, (rd_T32 l0 x8_1).f5.f2, (rd_T32 l0 x8_1).f5.f3, (rd_T32 l0 x8_1).f5.f4, (rd_T32 l0 x8_1).f5.f5⟩ : S30), (rd_T32 l0 x8_1).f6⟩ : S32) [.int .i64 ((rd_T32 l0 x8_1).f0), .int .i64 ((rd_T32 l0 x8_1).f1), .int .i64 ((rd_T32 l0 x8_1).f2), .int .i64 ((rd_T32 l0 x8_1).f3), .int .i64 ((rd_T32 l0 x8_1).f4), .int .i64 ((rd_T32 l0 x8_1).f5.f0), .int .i64 ((rd_T32 l0 x8_1).f5.f1), .int .i64 ((rd_T32 l0 x8_1).f5.f2), .int .i64 ((rd_T32 l0 x8_1).f5.f3), .int .i64 ((rd_T32 l0 x8_1).f5.f4), .slice A246_10 ((rd_T32 l0 x8_1).f5.f5).length c246_10, .int .i64 ((rd_T32 l0 x8_1).f6)] (fun k_ => (P0_ k_ ∨ w.heap.size ≤ k_) ∧ some k_ ≠ (u6 : Value).ownBlock) (fun k_ => ((fun k_ => (P0_ k_ ∨ w.heap.size ≤ k_) ∧ some k_ ≠ (u6 : Value).ownBlock)) k_ ∧ some k_ ≠ (u7 : Value).ownBlock) rfl rfl ?aP (fun _ hk => hk) ?aF ?aO ?aB ?aS ?aL ?_; (case aP => exact (k32_mkF _ _ (⟨(rd_T32 l0 x8_1).f0, (rd_T32 l0 x8_1).f1, (rd_T32 l0 x8_1).f2, (rd_T32 l0 x8_1).f3, (rd_T32 l0 x8_1).f4, (⟨(rd_T32 l0 x8_1).f5.f0, (rd_T32 l0 x8_1).f5.f1, (rd_T32 l0 x8_1).f5.f2, (rd_T32 l0 x8_1).f5.f3, (rd_T32 l0 x8_1).f5.f4, (rd_T32 l0 x8_1).f5.f5⟩ : S30), (rd_T32 l0 x8_1).f6⟩ : S32) (Kd.V_reads' (Kd.V_mono (ok' := (fun k_ => ((fun k_ => (P0_ k_ ∨ w.heap.size ≤ k_) ∧ some k_ ≠ (u6 : Value).ownBlock)) k_ ∧ some k_ ≠ (u7 : Value).ownBlock)) (HL251_10.out) (fun k_ hk => ⟨⟨hk.1, hk.2.1⟩, hk.2.2⟩))).2.1 (Kd.V_F (Kd.V_mono (ok' := (fun k_ => ((fun k_ => (P0_ k_ ∨ w.heap.size ≤ k_) ∧ some k_ ≠ (u6 : Value).ownBlock)) k_ ∧ some k_ ≠ (u7 : Value).ownBlock)) (HL251_10.out) (fun k_ hk => ⟨⟨hk.1, hk.2.1⟩, hk.2.2⟩))))); (case aB => exact (by repeat (first | (with_reducible first | exact HB.out | apply below_alloc | apply pw_below_drewN | apply below_drew1) | exact HB.out))); (case aF => exact (fun k_ hk => ⟨(.inr (Nat.le_trans (below_size (by repeat (first | (with_reducible first | exact HB.out | apply below_alloc | apply pw_below_drewN | apply below_drew1) | exact HB.out))) hk)), Kd.fresh' (Kd.N_lt (by (with_reducible repeat (first | apply Kd.N_alloc | apply Kd.N_drewN | apply Kd.N_drew)); exact HO_6.out)) k_ hk⟩)); (case aO => exact (by (with_reducible repeat (first | apply Kd.N_alloc | apply Kd.N_drewN | apply Kd.N_drew)); exact HO_7.out)); (case aS => exact (below_size (by repeat (first | (with_reducible first | exact HB.out | apply below_alloc | apply pw_below_drewN | apply below_drew1) | exact HB.out)))); (case aL => have := LMc8.out; omega); intro v253 w9 ho hb hg hat; rw [← Ny252.out] at ho; have n0_ := Aside0.mk (Kd.V_afterv (ok := (fun k_ => (P0_ k_ ∨ w.heap.size ≤ k_) ∧ some k_ ≠ (u6 : Value).ownBlock)) (by (with_reducible repeat (first | apply Kd.V_alloc | apply Kd.V_drewN | apply Kd.V_drew)); exact Kd.V_mono HO_0.out (fun _ hk => ⟨⟨hk.1, hk.2.1⟩, hk.2.2⟩)) hg hat); have n1_ := Aside0.mk (Kd.N_afterv (ok := (fun k_ => (P0_ k_ ∨ w.heap.size ≤ k_))) (by (with_reducible repeat (first | apply Kd.N_alloc | apply Kd.N_drewN | apply Kd.N_drew)); exact HO_6.out) hg hat); have n2_ := Aside0.mk (Kd.V_afterv (ok := (fun k_ => (P0_ k_ ∨ w.heap.size ≤ k_) ∧ some k_ ≠ (u6 : Value).ownBlock)) (by (with_reducible repeat (first | apply Kd.V_alloc | apply Kd.V_drewN | apply Kd.V_drew)); exact Kd.V_mono HL246_10.out (fun _ hk => ⟨⟨hk.1, hk.2.1⟩, hk.2.2⟩)) hg hat); have n3_ := Aside0.mk (Kd.V_afterv (ok := (fun k_ => (P0_ k_ ∨ w.heap.size ≤ k_) ∧ some k_ ≠ (u6 : Value).ownBlock)) (by (with_reducible repeat (first | apply Kd.V_alloc | apply Kd.V_drewN | apply Kd.V_drew)); exact Kd.V_mono HL251_10.out (fun _ hk => ⟨⟨hk.1, hk.2.1⟩, hk.2.2⟩)) hg hat); have n4_ := Aside0.mk (hb); have n5_ := Aside0.mk (ho); clear HO_0; clear HO_6; clear HL246_10; clear HL251_10; clear HB; clear HO_7; have HO_0 := n0_; have HO_6 := n1_; have HL246_10 := n2_; have HL251_10 := n3_; have HB := n4_; have HO254 := n5_; clear n0_ n1_ n2_ n3_ n4_ n5_; clear ho hb hg hat))
     go_roundg k1
     case measure => have := HK1.out; omega
     case rel => exact ⟨(x6_1), (y252), (wrap64 (x8_1 + 1)), (by first | rfl | (simp; done) | (simp [*]; done) | (simp [bne_nil_]; done)), H', ⟨by have := HK1.out; omega⟩, ⟨by (with_reducible repeat (first | apply Kd.V_alloc | apply Kd.V_drewN | apply Kd.V_drew)); exact Kd.V_mono HO_0.out (fun _ hk => ⟨hk.1.1, ⟨hk.1.2, hk.2⟩⟩)⟩, ⟨by (with_reducible repeat (first | apply Kd.N_alloc | apply Kd.N_drewN | apply Kd.N_drew)); exact HO_6.out⟩, ⟨by (with_reducible repeat (first | apply Kd.N_alloc | apply Kd.N_drewN | apply Kd.N_drew)); exact HO254.out⟩, ⟨by repeat (first | (with_reducible first | exact HB.out | apply below_alloc | apply pw_below_drewN | apply below_drew1) | exact HB.out)⟩⟩
   ·rw [if_neg c3] at H
    have c3b0 : decide (x8_1 < (l0.length : Int)) = false := decide_eq_false c3
    clear c3
    simp only [Option.some.injEq, Prod.mk.injEq] at H
    obtain ⟨rfl, rfl⟩ := H
    go_wp2
    go_ret2
    exact ⟨_, _, by first | rfl | (simp [errW_none, errW_some] <;> rfl) | (simp [*, errW_none, errW_some] <;> rfl), by (with_reducible repeat (first | apply Kd.N_alloc | apply Kd.N_drewN | apply Kd.N_drew)); exact HO_6.out, by (with_reducible repeat (first | apply Kd.N_alloc | apply Kd.N_drewN | apply Kd.N_drew)); exact HO_7.out, by repeat (first | (with_reducible first | exact HB.out | apply below_alloc | apply pw_below_drewN | apply below_drew1) | exact HB.out)⟩

/-! ### ref01_Ints: function 21 -/
def ref01_Ints.l0 : Nat → List Int → List Int → Int → Option (Bool)
 | 0, _, _, _ => none
 | k + 1, x0, x1, x5 => if x5 < (x0.length : Int) then (if 0 ≤ x5 then (if x5 < (x1.length : Int) then (if (rd x0 x5) = (rd x1 x5) then (ref01_Ints.l0 k x0 x1 (wrap64 (x5 + 1))) else (some false)) else (none)) else (none)) else (some true)
def ref01_Ints.f (k : Nat) (l0 : List Int) (l1 : List Int) : Option (Bool) := if (l0.length : Int) = (l1.length : Int) then (ref01_Ints.l0 k l0 l1 0) else (some false)
theorem ref01_Ints.mono_l : ∀ k, (∀ y0 y1 y2, LeO (ref01_Ints.l0 k y0 y1 y2) (ref01_Ints.l0 (k + 1) y0 y1 y2))
 | 0 => fun _ _ _ r h => by simp [ref01_Ints.l0] at h
 | k + 1 => by
  have ih0 := ref01_Ints.mono_l k
  ·intro y0 y1 y2
   unfold ref01_Ints.l0
   repeat' first
   | (with_reducible exact ih0 _ _ _)
   | (with_reducible exact LeO.refl _)
   | (with_reducible exact LeO.none _)
   | (with_reducible refine LeO.ite ?_ ?_)
   | (with_reducible refine LeO.bind ?_ (fun _ => ?_))
   | exact ih0 _ _ _
   | exact LeO.none _
   | refine LeO.ite ?_ ?_
   | refine LeO.bind ?_ (fun _ => ?_)
theorem ref01_Ints.mono : ∀ a0 a1 k, LeO (ref01_Ints.f k a0 a1) (ref01_Ints.f (k + 1) a0 a1) := by
 intro a0 a1 k
 have ih0 := ref01_Ints.mono_l k
 unfold ref01_Ints.f
 repeat' first
  | (with_reducible exact ih0 _ _ _)
  | (with_reducible exact LeO.refl _)
  | (with_reducible exact LeO.none _)
  | (with_reducible refine LeO.ite ?_ ?_)
  | (with_reducible refine LeO.bind ?_ (fun _ => ?_))
  | exact ih0 _ _ _
  | exact LeO.none _
  | refine LeO.ite ?_ ?_
  | refine LeO.bind ?_ (fun _ => ?_)
set_option maxHeartbeats 8000000 in
set_option maxRecDepth 100000 in
theorem ref01_Ints.calls (k : Nat) (A0 : Option Addr) (c0 : Nat) (l0 : List Int) (A1 : Option Addr) (c1 : Nat) (l1 : List Int) (r : Bool) (w : World) (hr0 : Kd.C (Kd.int .i64) w A0 l0.length l0) (hc0 : l0.length ≤ c0) (hr1 : Kd.C (Kd.int .i64) w A1 l1.length l1) (hc1 : l1.length ≤ c1) (h : ref01_Ints.f k l0 l1 = some r) :
 Calls Try.prog 21 #[.slice A0 l0.length c0, .slice A1 l1.length c1] w fun e w' => e = .returned (.bool r) ∧ Drawn0 w w' := by
 have HR0 := Aside0.mk hr0
 have HC0 := Aside0.mk hc0
 clear hr0 hc0
 have HR1 := Aside0.mk hr1
 have HC1 := Aside0.mk hc1
 clear hr1 hc1
 have H : (if (l0.length : Int) = (l1.length : Int) then (ref01_Ints.l0 k l0 l1 0) else (some false)) = some r := h
 clear h
 by_cases c3 : (l0.length : Int) = (l1.length : Int)
 ·rw [if_pos c3] at H
  have c3b0 : ((l0.length : Int) == (l1.length : Int)) = true := beq_iff_eq.mpr c3
  have c3b1 : ((l0.length : Int) != (l1.length : Int)) = false := bne_eq_false_iff_eq.mpr c3
  have c3b2 : (l0.length == l1.length) = true := by first | simpa using c3 | (simp at c3 ⊢; omega)
  clear c3
  have H' := Aside0.mk H
  clear H
  go_enter Try.func21, Try.ntmps21
  go_wp2
  repeat (go_quiet (fail); try go_wp2)
  go_loopg [5] k (fun kq v5 w' => ∃ (x5_1 : Int), v5 = .int .i64 x5_1 ∧ Aside0 (ref01_Ints.l0 kq l0 l1 x5_1 = some r) ∧ Aside0 (kq ≤ k) ∧ Drawn0 w w')
  case atStart => exact ⟨(0), (by first | rfl | (simp; done) | (simp [*]; done) | (simp [bne_nil_]; done)), H', ⟨Nat.le_refl _⟩, by repeat (first | exact Drawn0.refl _ | apply Drawn0.step)⟩
  case round =>
   clear H'
   try clear c1
   try clear c2
   try clear p2
   try clear c3
   try clear c3b0
   try clear c3b1
   try clear c3b2
   obtain ⟨x5_1, rfl, HA, HK1, ⟨m1, rfl⟩⟩ := hrel
   cases gk with
   | zero => exact absurd HA.out (by simp [ref01_Ints.l0])
   | succ k1 =>
    have H := HA.out
    clear HA
    simp only [ref01_Ints.l0] at H
    by_cases c4 : x5_1 < (l0.length : Int)
    ·rw [if_pos c4] at H
     have c4b0 : decide (x5_1 < (l0.length : Int)) = true := decide_eq_true c4
     clear c4
     by_cases c5 : 0 ≤ x5_1
     rotate_left
     ·rw [if_neg c5] at H
      exact absurd H (by simp)
     rw [if_pos c5] at H
     have c5b0 : decide (0 ≤ x5_1) = true := decide_eq_true c5
     clear c5
     by_cases c6 : x5_1 < (l1.length : Int)
     rotate_left
     ·rw [if_neg c6] at H
      exact absurd H (by simp)
     rw [if_pos c6] at H
     have c6b0 : decide (x5_1 < (l1.length : Int)) = true := decide_eq_true c6
     clear c6
     by_cases c7 : (rd l0 x5_1) = (rd l1 x5_1)
     ·rw [if_pos c7] at H
      have c7b0 : ((rd l0 x5_1) == (rd l1 x5_1)) = true := beq_iff_eq.mpr c7
      have c7b1 : ((rd l0 x5_1) != (rd l1 x5_1)) = false := bne_eq_false_iff_eq.mpr c7
      clear c7
      have H' := Aside0.mk H
      clear H
      have p255 : 0 ≤ (x5_1 : Int) := of_decide_eq_true (by first | (with_reducible assumption) | assumption)
      have q255 : x5_1 < (l0.length : Int) := of_decide_eq_true (by first | (with_reducible assumption) | assumption)
      obtain ⟨ad255, e255, hx255_0⟩ := Kd.at_int HR0.out x5_1 p255 q255
      cases e255
      replace p255 := eq_true p255
      replace q255 := eq_true q255
      have p256 : 0 ≤ (x5_1 : Int) := of_decide_eq_true (by first | (with_reducible assumption) | assumption)
      have q256 : x5_1 < (l1.length : Int) := of_decide_eq_true (by first | (with_reducible assumption) | assumption)
      obtain ⟨ad256, e256, hx256_0⟩ := Kd.at_int HR1.out x5_1 p256 q256
      cases e256
      replace p256 := eq_true p256
      replace q256 := eq_true q256
      go_wp2
      repeat (go_quiet (fail); try go_wp2)
      go_roundg k1
      case measure => have := HK1.out; omega
      case rel => exact ⟨(wrap64 (x5_1 + 1)), (by first | rfl | (simp; done) | (simp [*]; done) | (simp [bne_nil_]; done)), H', ⟨by have := HK1.out; omega⟩, by repeat (first | exact Drawn0.refl _ | apply Drawn0.step)⟩
     ·rw [if_neg c7] at H
      have c7b0 : ((rd l0 x5_1) == (rd l1 x5_1)) = false := beq_eq_false_iff_ne.mpr c7
      have c7b1 : ((rd l0 x5_1) != (rd l1 x5_1)) = true := bne_iff_ne.mpr c7
      obtain rfl := Option.some.inj H
      have p255 : 0 ≤ (x5_1 : Int) := of_decide_eq_true (by first | (with_reducible assumption) | assumption)
      have q255 : x5_1 < (l0.length : Int) := of_decide_eq_true (by first | (with_reducible assumption) | assumption)
      obtain ⟨ad255, e255, hx255_0⟩ := Kd.at_int HR0.out x5_1 p255 q255
      cases e255
      replace p255 := eq_true p255
      replace q255 := eq_true q255
      have p256 : 0 ≤ (x5_1 : Int) := of_decide_eq_true (by first | (with_reducible assumption) | assumption)
      have q256 : x5_1 < (l1.length : Int) := of_decide_eq_true (by first | (with_reducible assumption) | assumption)
      obtain ⟨ad256, e256, hx256_0⟩ := Kd.at_int HR1.out x5_1 p256 q256
      cases e256
      replace p256 := eq_true p256
      replace q256 := eq_true q256
      go_wp2
      repeat (go_quiet (fail); try go_wp2)
      go_ret
      exact ⟨by first | rfl | (simp; done) | (simp [*]; done), by repeat (first | exact Drawn0.refl _ | apply Drawn0.step)⟩
    ·rw [if_neg c4] at H
     have c4b0 : decide (x5_1 < (l0.length : Int)) = false := decide_eq_false c4
     clear c4
     obtain rfl := Option.some.inj H
     go_wp2
     repeat (go_quiet (fail); try go_wp2)
     go_ret
     exact ⟨by first | rfl | (simp; done) | (simp [*]; done), by repeat (first | exact Drawn0.refl _ | apply Drawn0.step)⟩
 ·rw [if_neg c3] at H
  have c3b0 : ((l0.length : Int) == (l1.length : Int)) = false := beq_eq_false_iff_ne.mpr c3
  have c3b1 : ((l0.length : Int) != (l1.length : Int)) = true := bne_iff_ne.mpr c3
  have c3b2 : (l0.length == l1.length) = false := by first | simpa using c3 | (simp at c3 ⊢; omega)
  obtain rfl := Option.some.inj H
  go_enter Try.func21, Try.ntmps21
  go_wp2
  repeat (go_quiet (fail); try go_wp2)
  go_ret
  exact ⟨by first | rfl | (simp; done) | (simp [*]; done), by repeat (first | exact Drawn0.refl _ | apply Drawn0.step)⟩

end Go.Proofs.Ytnmloapejbnejaa.P

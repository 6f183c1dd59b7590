-- Written by a program of this session (wip/mkprint.py). Not trusted: Lean checks it.
import Derived.Test.YtnmloapejbnejaaP0
import Derived.Test.YtnmloapejbnejaaP5
namespace Go.Proofs.Ytnmloapejbnejaa.P
open Go.RowKit Go.Proofs.YtnmloapejbnejaaW.PrintWords Go.Proofs.YtnmloapejbnejaaW.PrintLast Go.Proofs.YtnmloapejbnejaaW.PrintMore
attribute [local go_sem] max2_int min2_int max_two min_two max_three min_three max_four min_four   -- for this text's walks alone
set_option linter.unusedVariables false
set_option linter.unusedSimpArgs false

/-! ### ref06_Same: function 29 -/
def ref06_Same.f (k : Nat) (a0_0 : Int) (a0_1 : Int) (a0_2 : Int) (a0_3 : Int) (a0_4 : Int) (l0_5 : List Int) (a1_0 : Int) (a1_1 : Int) (a1_2 : Int) (a1_3 : Int) (a1_4 : Int) (l1_5 : List Int) : Option (Bool) := if a0_0 = a1_0 then (if a0_1 = a1_1 then (if a0_2 = a1_2 then (if a0_3 = a1_3 then (if a0_4 = a1_4 then ((ref01_Ints.f k l0_5 l1_5).bind fun t259 => (some t259)) else (some false)) else (some false)) else (some false)) else (some false)) else (some false)
theorem ref06_Same.mono : ∀ a0 a1 a2 a3 a4 a5 a6 a7 a8 a9 a10 a11 k, LeO (ref06_Same.f k a0 a1 a2 a3 a4 a5 a6 a7 a8 a9 a10 a11) (ref06_Same.f (k + 1) a0 a1 a2 a3 a4 a5 a6 a7 a8 a9 a10 a11) := by
 intro a0 a1 a2 a3 a4 a5 a6 a7 a8 a9 a10 a11 k
 unfold ref06_Same.f
 repeat' first
  | (with_reducible exact ref01_Ints.mono _ _ _)
  | (with_reducible exact LeO.refl _)
  | (with_reducible exact LeO.none _)
  | (with_reducible refine LeO.ite ?_ ?_)
  | (with_reducible refine LeO.bind ?_ (fun _ => ?_))
  | exact ref01_Ints.mono _ _ _
  | exact LeO.none _
  | refine LeO.ite ?_ ?_
  | refine LeO.bind ?_ (fun _ => ?_)
set_option maxHeartbeats 8000000 in
set_option maxRecDepth 100000 in
theorem ref06_Same.calls (k : Nat) (a0_0 : Int) (a0_1 : Int) (a0_2 : Int) (a0_3 : Int) (a0_4 : Int) (A0_5 : Option Addr) (c0_5 : Nat) (l0_5 : List Int) (a1_0 : Int) (a1_1 : Int) (a1_2 : Int) (a1_3 : Int) (a1_4 : Int) (A1_5 : Option Addr) (c1_5 : Nat) (l1_5 : List Int) (r : Bool) (w : World) (hr0_5 : Kd.C (Kd.int .i64) w A0_5 l0_5.length l0_5) (hc0_5 : l0_5.length ≤ c0_5) (hr1_5 : Kd.C (Kd.int .i64) w A1_5 l1_5.length l1_5) (hc1_5 : l1_5.length ≤ c1_5) (h : ref06_Same.f k a0_0 a0_1 a0_2 a0_3 a0_4 l0_5 a1_0 a1_1 a1_2 a1_3 a1_4 l1_5 = some r) :
 Calls Try.prog 29 #[.agg #[.int .i64 a0_0, .int .i64 a0_1, .int .i64 a0_2, .int .i64 a0_3, .int .i64 a0_4, .slice A0_5 l0_5.length c0_5], .agg #[.int .i64 a1_0, .int .i64 a1_1, .int .i64 a1_2, .int .i64 a1_3, .int .i64 a1_4, .slice A1_5 l1_5.length c1_5]] w fun e w' => e = .returned (.bool r) ∧ Below w.heap.size w w' := by
 have hu30 := Try.underlying30
 have HR0_5 := Aside0.mk hr0_5
 have HC0_5 := Aside0.mk hc0_5
 clear hr0_5 hc0_5
 have HR1_5 := Aside0.mk hr1_5
 have HC1_5 := Aside0.mk hc1_5
 clear hr1_5 hc1_5
 have HB := Aside0.mk (Below.refl w.heap.size w)
 have H : (if a0_0 = a1_0 then (if a0_1 = a1_1 then (if a0_2 = a1_2 then (if a0_3 = a1_3 then (if a0_4 = a1_4 then ((ref01_Ints.f k l0_5 l1_5).bind fun t259 => (some t259)) else (some false)) else (some false)) else (some false)) else (some false)) else (some false)) = some r := h
 clear h
 by_cases c3 : a0_0 = a1_0
 ·rw [if_pos c3] at H
  have c3b0 : (a0_0 == a1_0) = true := beq_iff_eq.mpr c3
  have c3b1 : (a0_0 != a1_0) = false := bne_eq_false_iff_eq.mpr c3
  clear c3
  by_cases c4 : a0_1 = a1_1
  ·rw [if_pos c4] at H
   have c4b0 : (a0_1 == a1_1) = true := beq_iff_eq.mpr c4
   have c4b1 : (a0_1 != a1_1) = false := bne_eq_false_iff_eq.mpr c4
   clear c4
   by_cases c5 : a0_2 = a1_2
   ·rw [if_pos c5] at H
    have c5b0 : (a0_2 == a1_2) = true := beq_iff_eq.mpr c5
    have c5b1 : (a0_2 != a1_2) = false := bne_eq_false_iff_eq.mpr c5
    clear c5
    by_cases c6 : a0_3 = a1_3
    ·rw [if_pos c6] at H
     have c6b0 : (a0_3 == a1_3) = true := beq_iff_eq.mpr c6
     have c6b1 : (a0_3 != a1_3) = false := bne_eq_false_iff_eq.mpr c6
     clear c6
     by_cases c7 : a0_4 = a1_4
     ·rw [if_pos c7] at H
      have c7b0 : (a0_4 == a1_4) = true := beq_iff_eq.mpr c7
      have c7b1 : (a0_4 != a1_4) = false := bne_eq_false_iff_eq.mpr c7
      clear c7
      replace H := Option.bind_eq_some_iff.mp H
      obtain ⟨t259, A80, H⟩ := H
      replace H : (some t259) = some r := H
      have A8 := Aside0.mk A80
      clear A80
      obtain rfl := Option.some.inj H
      go_enter Try.func29, Try.ntmps29
      go_wp2_with (first | ((with_reducible refine gate_dst (N := 2) rfl ?_); refine box_event ?hg (N := 2) ?hd (cs := #[.int .i64 a0_0, .int .i64 a0_1, .int .i64 a0_2, .int .i64 a0_3, .int .i64 a0_4, .slice A0_5 l0_5.length c0_5]) (t := 30) ?hr ?_; (case hd => rfl); (case hg => rfl); (case hr => first | (go_simp; done) | (go_simp; rfl)); intro gb257 hg w9 hbox hb; have n0_ := Aside0.mk (below_step (by repeat (first | (with_reducible first | exact HB.out | apply below_alloc | apply pw_below_drewN | apply below_drew1) | exact HB.out)) hb); have n1_ := Aside0.mk (hbox); have n2_ := Aside0.mk ((by rw [hg]; exact (below_size (by repeat (first | (with_reducible first | exact HB.out | apply below_alloc | apply pw_below_drewN | apply below_drew1) | exact HB.out))) : w.heap.size ≤ gb257)); have n3_ := Aside0.mk ((by rw [hg]; exact (below_size (by repeat (first | (with_reducible first | exact HB.out | apply below_alloc | apply pw_below_drewN | apply below_drew1) | exact HB.out))) : w.heap.size ≤ gb257)); clear HB; have HB := n0_; have BK257 := n1_; have GW257 := n2_; have GE257 := n3_; clear n0_ n1_ n2_ n3_; clear hb hbox hg) | ((with_reducible refine gate_dst (N := 3) rfl ?_); refine box_event ?hg (N := 3) ?hd (cs := #[.int .i64 a1_0, .int .i64 a1_1, .int .i64 a1_2, .int .i64 a1_3, .int .i64 a1_4, .slice A1_5 l1_5.length c1_5]) (t := 30) ?hr ?_; (case hd => rfl); (case hg => rfl); (case hr => first | (go_simp; done) | (go_simp; rfl)); intro gb258 hg w10 hbox hb; have n0_ := Aside0.mk (blk_below (g := gb257) (o := .cells #[.int .i64 a0_0, .int .i64 a0_1, .int .i64 a0_2, .int .i64 a0_3, .int .i64 a0_4, .slice A0_5 l0_5.length c0_5] 30 (0, 0)) (by (with_reducible repeat (first | refine blk_drewN ?_ _ | refine blk_drew ?_ | refine blk_alloc ?_ _)); exact BK257.out) hb); have n1_ := Aside0.mk (below_step (by repeat (first | (with_reducible first | exact HB.out | apply below_alloc | apply pw_below_drewN | apply below_drew1 | refine below_set ?_ GE257.out) | exact HB.out)) hb); have n2_ := Aside0.mk (hbox); have n3_ := Aside0.mk ((by rw [hg]; exact (below_size (by repeat (first | (with_reducible first | exact HB.out | apply below_alloc | apply pw_below_drewN | apply below_drew1 | refine below_set ?_ GE257.out) | exact HB.out))) : w.heap.size ≤ gb258)); have n4_ := Aside0.mk ((by rw [hg]; exact (below_size (by repeat (first | (with_reducible first | exact HB.out | apply below_alloc | apply pw_below_drewN | apply below_drew1 | refine below_set ?_ GE257.out) | exact HB.out))) : w.heap.size ≤ gb258)); have n5_ := Aside0.mk ((by rw [hg]; exact Nat.ne_of_lt (blk_lt (g := gb257) (o := .cells #[.int .i64 a0_0, .int .i64 a0_1, .int .i64 a0_2, .int .i64 a0_3, .int .i64 a0_4, .slice A0_5 l0_5.length c0_5] 30 (0, 0)) (by (with_reducible repeat (first | refine blk_drewN ?_ _ | refine blk_drew ?_ | refine blk_alloc ?_ _)); exact BK257.out)) : gb257 ≠ gb258)); have n6_ := Aside0.mk ((by rw [hg]; exact Nat.ne_of_gt (blk_lt (g := gb257) (o := .cells #[.int .i64 a0_0, .int .i64 a0_1, .int .i64 a0_2, .int .i64 a0_3, .int .i64 a0_4, .slice A0_5 l0_5.length c0_5] 30 (0, 0)) (by (with_reducible repeat (first | refine blk_drewN ?_ _ | refine blk_drew ?_ | refine blk_alloc ?_ _)); exact BK257.out)) : gb258 ≠ gb257)); clear BK257; clear HB; have BK257 := n0_; have HB := n1_; have BK258 := n2_; have GW258 := n3_; have GE258 := n4_; have NB257_258 := n5_; have NB258_257 := n6_; clear n0_ n1_ n2_ n3_ n4_ n5_ n6_; clear hb hbox hg; have hnb11 := NB257_258.out; have hnc11 := NB258_257.out; have hcz12_0 : w10.cell? ⟨gb257, 0, none⟩ = some (.int .i64 a0_0) := (blk_cell BK257.out 0).trans rfl; have hcz12_1 : w10.cell? ⟨gb257, 1, none⟩ = some (.int .i64 a0_1) := (blk_cell BK257.out 1).trans rfl; have hcz12_2 : w10.cell? ⟨gb257, 2, none⟩ = some (.int .i64 a0_2) := (blk_cell BK257.out 2).trans rfl; have hcz12_3 : w10.cell? ⟨gb257, 3, none⟩ = some (.int .i64 a0_3) := (blk_cell BK257.out 3).trans rfl; have hcz12_4 : w10.cell? ⟨gb257, 4, none⟩ = some (.int .i64 a0_4) := (blk_cell BK257.out 4).trans rfl; have hcz12_5 : w10.cell? ⟨gb257, 5, none⟩ = some (.slice A0_5 l0_5.length c0_5) := (blk_cell BK257.out 5).trans rfl; have hfz12_0 := blk_frozen BK257.out 0; have hfz12_1 := blk_frozen BK257.out 1; have hfz12_2 := blk_frozen BK257.out 2; have hfz12_3 := blk_frozen BK257.out 3; have hfz12_4 := blk_frozen BK257.out 4; have hfz12_5 := blk_frozen BK257.out 5; have hcz13_0 : w10.cell? ⟨gb258, 0, none⟩ = some (.int .i64 a1_0) := (blk_cell BK258.out 0).trans rfl; have hcz13_1 : w10.cell? ⟨gb258, 1, none⟩ = some (.int .i64 a1_1) := (blk_cell BK258.out 1).trans rfl; have hcz13_2 : w10.cell? ⟨gb258, 2, none⟩ = some (.int .i64 a1_2) := (blk_cell BK258.out 2).trans rfl; have hcz13_3 : w10.cell? ⟨gb258, 3, none⟩ = some (.int .i64 a1_3) := (blk_cell BK258.out 3).trans rfl; have hcz13_4 : w10.cell? ⟨gb258, 4, none⟩ = some (.int .i64 a1_4) := (blk_cell BK258.out 4).trans rfl; have hcz13_5 : w10.cell? ⟨gb258, 5, none⟩ = some (.slice A1_5 l1_5.length c1_5) := (blk_cell BK258.out 5).trans rfl; have hfz13_0 := blk_frozen BK258.out 0; have hfz13_1 := blk_frozen BK258.out 1; have hfz13_2 := blk_frozen BK258.out 2; have hfz13_3 := blk_frozen BK258.out 3; have hfz13_4 := blk_frozen BK258.out 4; have hfz13_5 := blk_frozen BK258.out 5) | (go_at_call 21; (with_reducible refine (ref01_Ints.calls k _ _ l0_5 _ _ l1_5 t259 _ ?side1 ?side2 ?side3 ?side4 A8.out).mono ?_); (case side1 => repeat (first | exact (Kd.C_below HR0_5.out HB.out) | (with_reducible refine Kd.C_alloc ?_ _) | (with_reducible refine Kd.C_drewN ?_ _) | (with_reducible refine Kd.C_drew ?_))); (case side2 => exact HC0_5.out); (case side3 => repeat (first | exact (Kd.C_below HR1_5.out HB.out) | (with_reducible refine Kd.C_alloc ?_ _) | (with_reducible refine Kd.C_drewN ?_ _) | (with_reducible refine Kd.C_drew ?_))); (case side4 => exact HC1_5.out); rintro e w' ⟨rfl, ⟨nd, rfl⟩⟩))
      go_ret
      exact ⟨by first | rfl | (simp [errW_none, errW_some] <;> rfl) | (simp [*, errW_none, errW_some] <;> rfl), by repeat (first | (with_reducible first | exact HB.out | apply below_alloc | apply pw_below_drewN | apply below_drew1 | refine below_set ?_ GE257.out | refine below_set ?_ GE258.out) | exact HB.out)⟩
     ·rw [if_neg c7] at H
      have c7b0 : (a0_4 == a1_4) = false := beq_eq_false_iff_ne.mpr c7
      have c7b1 : (a0_4 != a1_4) = true := bne_iff_ne.mpr c7
      obtain rfl := Option.some.inj H
      go_enter Try.func29, Try.ntmps29
      go_wp2_with (first | ((with_reducible refine gate_dst (N := 2) rfl ?_); refine box_event ?hg (N := 2) ?hd (cs := #[.int .i64 a0_0, .int .i64 a0_1, .int .i64 a0_2, .int .i64 a0_3, .int .i64 a0_4, .slice A0_5 l0_5.length c0_5]) (t := 30) ?hr ?_; (case hd => rfl); (case hg => rfl); (case hr => first | (go_simp; done) | (go_simp; rfl)); intro gb257 hg w14 hbox hb; have n0_ := Aside0.mk (below_step (by repeat (first | (with_reducible first | exact HB.out | apply below_alloc | apply pw_below_drewN | apply below_drew1) | exact HB.out)) hb); have n1_ := Aside0.mk (hbox); have n2_ := Aside0.mk ((by rw [hg]; exact (below_size (by repeat (first | (with_reducible first | exact HB.out | apply below_alloc | apply pw_below_drewN | apply below_drew1) | exact HB.out))) : w.heap.size ≤ gb257)); have n3_ := Aside0.mk ((by rw [hg]; exact (below_size (by repeat (first | (with_reducible first | exact HB.out | apply below_alloc | apply pw_below_drewN | apply below_drew1) | exact HB.out))) : w.heap.size ≤ gb257)); clear HB; have HB := n0_; have BK257 := n1_; have GW257 := n2_; have GE257 := n3_; clear n0_ n1_ n2_ n3_; clear hb hbox hg) | ((with_reducible refine gate_dst (N := 3) rfl ?_); refine box_event ?hg (N := 3) ?hd (cs := #[.int .i64 a1_0, .int .i64 a1_1, .int .i64 a1_2, .int .i64 a1_3, .int .i64 a1_4, .slice A1_5 l1_5.length c1_5]) (t := 30) ?hr ?_; (case hd => rfl); (case hg => rfl); (case hr => first | (go_simp; done) | (go_simp; rfl)); intro gb258 hg w15 hbox hb; have n0_ := Aside0.mk (blk_below (g := gb257) (o := .cells #[.int .i64 a0_0, .int .i64 a0_1, .int .i64 a0_2, .int .i64 a0_3, .int .i64 a0_4, .slice A0_5 l0_5.length c0_5] 30 (0, 0)) (by (with_reducible repeat (first | refine blk_drewN ?_ _ | refine blk_drew ?_ | refine blk_alloc ?_ _)); exact BK257.out) hb); have n1_ := Aside0.mk (below_step (by repeat (first | (with_reducible first | exact HB.out | apply below_alloc | apply pw_below_drewN | apply below_drew1 | refine below_set ?_ GE257.out) | exact HB.out)) hb); have n2_ := Aside0.mk (hbox); have n3_ := Aside0.mk ((by rw [hg]; exact (below_size (by repeat (first | (with_reducible first | exact HB.out | apply below_alloc | apply pw_below_drewN | apply below_drew1 | refine below_set ?_ GE257.out) | exact HB.out))) : w.heap.size ≤ gb258)); have n4_ := Aside0.mk ((by rw [hg]; exact (below_size (by repeat (first | (with_reducible first | exact HB.out | apply below_alloc | apply pw_below_drewN | apply below_drew1 | refine below_set ?_ GE257.out) | exact HB.out))) : w.heap.size ≤ gb258)); have n5_ := Aside0.mk ((by rw [hg]; exact Nat.ne_of_lt (blk_lt (g := gb257) (o := .cells #[.int .i64 a0_0, .int .i64 a0_1, .int .i64 a0_2, .int .i64 a0_3, .int .i64 a0_4, .slice A0_5 l0_5.length c0_5] 30 (0, 0)) (by (with_reducible repeat (first | refine blk_drewN ?_ _ | refine blk_drew ?_ | refine blk_alloc ?_ _)); exact BK257.out)) : gb257 ≠ gb258)); have n6_ := Aside0.mk ((by rw [hg]; exact Nat.ne_of_gt (blk_lt (g := gb257) (o := .cells #[.int .i64 a0_0, .int .i64 a0_1, .int .i64 a0_2, .int .i64 a0_3, .int .i64 a0_4, .slice A0_5 l0_5.length c0_5] 30 (0, 0)) (by (with_reducible repeat (first | refine blk_drewN ?_ _ | refine blk_drew ?_ | refine blk_alloc ?_ _)); exact BK257.out)) : gb258 ≠ gb257)); clear BK257; clear HB; have BK257 := n0_; have HB := n1_; have BK258 := n2_; have GW258 := n3_; have GE258 := n4_; have NB257_258 := n5_; have NB258_257 := n6_; clear n0_ n1_ n2_ n3_ n4_ n5_ n6_; clear hb hbox hg; have hnb16 := NB257_258.out; have hnc16 := NB258_257.out; have hcz17_0 : w15.cell? ⟨gb257, 0, none⟩ = some (.int .i64 a0_0) := (blk_cell BK257.out 0).trans rfl; have hcz17_1 : w15.cell? ⟨gb257, 1, none⟩ = some (.int .i64 a0_1) := (blk_cell BK257.out 1).trans rfl; have hcz17_2 : w15.cell? ⟨gb257, 2, none⟩ = some (.int .i64 a0_2) := (blk_cell BK257.out 2).trans rfl; have hcz17_3 : w15.cell? ⟨gb257, 3, none⟩ = some (.int .i64 a0_3) := (blk_cell BK257.out 3).trans rfl; have hcz17_4 : w15.cell? ⟨gb257, 4, none⟩ = some (.int .i64 a0_4) := (blk_cell BK257.out 4).trans rfl; have hcz17_5 : w15.cell? ⟨gb257, 5, none⟩ = some (.slice A0_5 l0_5.length c0_5) := (blk_cell BK257.out 5).trans rfl; have hfz17_0 := blk_frozen BK257.out 0; have hfz17_1 := blk_frozen BK257.out 1; have hfz17_2 := blk_frozen BK257.out 2; have hfz17_3 := blk_frozen BK257.out 3; have hfz17_4 := blk_frozen BK257.out 4; have hfz17_5 := blk_frozen BK257.out 5; have hcz18_0 : w15.cell? ⟨gb258, 0, none⟩ = some (.int .i64 a1_0) := (blk_cell BK258.out 0).trans rfl; have hcz18_1 : w15.cell? ⟨gb258, 1, none⟩ = some (.int .i64 a1_1) := (blk_cell BK258.out 1).trans rfl; have hcz18_2 : w15.cell? ⟨gb258, 2, none⟩ = some (.int .i64 a1_2) := (blk_cell BK258.out 2).trans rfl; have hcz18_3 : w15.cell? ⟨gb258, 3, none⟩ = some (.int .i64 a1_3) := (blk_cell BK258.out 3).trans rfl; have hcz18_4 : w15.cell? ⟨gb258, 4, none⟩ = some (.int .i64 a1_4) := (blk_cell BK258.out 4).trans rfl; have hcz18_5 : w15.cell? ⟨gb258, 5, none⟩ = some (.slice A1_5 l1_5.length c1_5) := (blk_cell BK258.out 5).trans rfl; have hfz18_0 := blk_frozen BK258.out 0; have hfz18_1 := blk_frozen BK258.out 1; have hfz18_2 := blk_frozen BK258.out 2; have hfz18_3 := blk_frozen BK258.out 3; have hfz18_4 := blk_frozen BK258.out 4; have hfz18_5 := blk_frozen BK258.out 5))
      go_ret
      exact ⟨by first | rfl | (simp [errW_none, errW_some] <;> rfl) | (simp [*, errW_none, errW_some] <;> rfl), by repeat (first | (with_reducible first | exact HB.out | apply below_alloc | apply pw_below_drewN | apply below_drew1 | refine below_set ?_ GE257.out | refine below_set ?_ GE258.out) | exact HB.out)⟩
    ·rw [if_neg c6] at H
     have c6b0 : (a0_3 == a1_3) = false := beq_eq_false_iff_ne.mpr c6
     have c6b1 : (a0_3 != a1_3) = true := bne_iff_ne.mpr c6
     obtain rfl := Option.some.inj H
     go_enter Try.func29, Try.ntmps29
     go_wp2_with (first | ((with_reducible refine gate_dst (N := 2) rfl ?_); refine box_event ?hg (N := 2) ?hd (cs := #[.int .i64 a0_0, .int .i64 a0_1, .int .i64 a0_2, .int .i64 a0_3, .int .i64 a0_4, .slice A0_5 l0_5.length c0_5]) (t := 30) ?hr ?_; (case hd => rfl); (case hg => rfl); (case hr => first | (go_simp; done) | (go_simp; rfl)); intro gb257 hg w19 hbox hb; have n0_ := Aside0.mk (below_step (by repeat (first | (with_reducible first | exact HB.out | apply below_alloc | apply pw_below_drewN | apply below_drew1) | exact HB.out)) hb); have n1_ := Aside0.mk (hbox); have n2_ := Aside0.mk ((by rw [hg]; exact (below_size (by repeat (first | (with_reducible first | exact HB.out | apply below_alloc | apply pw_below_drewN | apply below_drew1) | exact HB.out))) : w.heap.size ≤ gb257)); have n3_ := Aside0.mk ((by rw [hg]; exact (below_size (by repeat (first | (with_reducible first | exact HB.out | apply below_alloc | apply pw_below_drewN | apply below_drew1) | exact HB.out))) : w.heap.size ≤ gb257)); clear HB; have HB := n0_; have BK257 := n1_; have GW257 := n2_; have GE257 := n3_; clear n0_ n1_ n2_ n3_; clear hb hbox hg) | ((with_reducible refine gate_dst (N := 3) rfl ?_); refine box_event ?hg (N := 3) ?hd (cs := #[.int .i64 a1_0, .int .i64 a1_1, .int .i64 a1_2, .int .i64 a1_3, .int .i64 a1_4, .slice A1_5 l1_5.length c1_5]) (t := 30) ?hr ?_; (case hd => rfl); (case hg => rfl); (case hr => first | (go_simp; done) | (go_simp; rfl)); intro gb258 hg w20 hbox hb; have n0_ := Aside0.mk (blk_below (g := gb257) (o := .cells #[.int .i64 a0_0, .int .i64 a0_1, .int .i64 a0_2, .int .i64 a0_3, .int .i64 a0_4, .slice A0_5 l0_5.length c0_5] 30 (0, 0)) (by (with_reducible repeat (first | refine blk_drewN ?_ _ | refine blk_drew ?_ | refine blk_alloc ?_ _)); exact BK257.out) hb); have n1_ := Aside0.mk (below_step (by repeat (first | (with_reducible first | exact HB.out | apply below_alloc | apply pw_below_drewN | apply below_drew1 | refine below_set ?_ GE257.out) | exact HB.out)) hb); have n2_ := Aside0.mk (hbox); have n3_ := Aside0.mk ((by rw [hg]; exact (below_size (by repeat (first | (with_reducible first | exact HB.out | apply below_alloc | apply pw_below_drewN | apply below_drew1 | refine below_set ?_ GE257.out) | exact HB.out))) : w.heap.size ≤ gb258)); have n4_ := Aside0.mk ((by rw [hg]; exact (below_size (by repeat (first | (with_reducible first | exact HB.out | apply below_alloc | apply pw_below_drewN | apply below_drew1 | refine below_set ?_ GE257.out) | exact HB.out))) : w.heap.size ≤ gb258)); have n5_ := Aside0.mk ((by rw [hg]; exact Nat.ne_of_lt (blk_lt (g := gb257) (o := .cells #[.int .i64 a0_0, .int .i64 a0_1, .int .i64 a0_2, .int .i64 a0_3, .int .i64 a0_4, .slice A0_5 l0_5.length c0_5] 30 (0, 0)) (by (with_reducible repeat (first | refine blk_drewN ?_ _ | refine blk_drew ?_ | refine blk_alloc ?_ _)); exact BK257.out)) : gb257 ≠ gb258)); have n6_ := Aside0.mk ((by rw [hg]; exact Nat.ne_of_gt (blk_lt (g := gb257) (o := .cells #[.int .i64 a0_0, .int .i64 a0_1, .int .i64 a0_2, .int .i64 a0_3, .int .i64 a0_4, .slice A0_5 l0_5.length c0_5] 30 (0, 0)) (by (with_reducible repeat (first | refine blk_drewN ?_ _ | refine blk_drew ?_ | refine blk_alloc ?_ _)); exact BK257.out)) : gb258 ≠ gb257)); clear BK257; clear HB; have BK257 := n0_; have HB := n1_; have BK258 := n2_; have GW258 := n3_; have GE258 := n4_; have NB257_258 := n5_; have NB258_257 := n6_; clear n0_ n1_ n2_ n3_ n4_ n5_ n6_; clear hb hbox hg; have hnb21 := NB257_258.out; have hnc21 := NB258_257.out; have hcz22_0 : w20.cell? ⟨gb257, 0, none⟩ = some (.int .i64 a0_0) := (blk_cell BK257.out 0).trans rfl; have hcz22_1 : w20.cell? ⟨gb257, 1, none⟩ = some (.int .i64 a0_1) := (blk_cell BK257.out 1).trans rfl; have hcz22_2 : w20.cell? ⟨gb257, 2, none⟩ = some (.int .i64 a0_2) := (blk_cell BK257.out 2).trans rfl; have hcz22_3 : w20.cell? ⟨gb257, 3, none⟩ = some (.int .i64 a0_3) := (blk_cell BK257.out 3).trans rfl; have hcz22_4 : w20.cell? ⟨gb257, 4, none⟩ = some (.int .i64 a0_4) := (blk_cell BK257.out 4).trans rfl; have hcz22_5 : w20.cell? ⟨gb257, 5, none⟩ = some (.slice A0_5 l0_5.length c0_5) := (blk_cell BK257.out 5).trans rfl; have hfz22_0 := blk_frozen BK257.out 0; have hfz22_1 := blk_frozen BK257.out 1; have hfz22_2 := blk_frozen BK257.out 2; have hfz22_3 := blk_frozen BK257.out 3; have hfz22_4 := blk_frozen BK257.out 4; have hfz22_5 := blk_frozen BK257.out 5; have hcz23_0 : w20.cell? ⟨gb258, 0, none⟩ = some (.int .i64 a1_0) := (blk_cell BK258.out 0).trans rfl; have hcz23_1 : w20.cell? ⟨gb258, 1, none⟩ = some (.int .i64 a1_1) := (blk_cell BK258.out 1).trans rfl; have hcz23_2 : w20.cell? ⟨gb258, 2, none⟩ = some (.int .i64 a1_2) := (blk_cell BK258.out 2).trans rfl; have hcz23_3 : w20.cell? ⟨gb258, 3, none⟩ = some (.int .i64 a1_3) := (blk_cell BK258.out 3).trans rfl; have hcz23_4 : w20.cell? ⟨gb258, 4, none⟩ = some (.int .i64 a1_4) := (blk_cell BK258.out 4).trans rfl; have hcz23_5 : w20.cell? ⟨gb258, 5, none⟩ = some (.slice A1_5 l1_5.length c1_5) := (blk_cell BK258.out 5).trans rfl; have hfz23_0 := blk_frozen BK258.out 0; have hfz23_1 := blk_frozen BK258.out 1; have hfz23_2 := blk_frozen BK258.out 2; have hfz23_3 := blk_frozen BK258.out 3; have hfz23_4 := blk_frozen BK258.out 4; have hfz23_5 := blk_frozen BK258.out 5))
     go_ret
     exact ⟨by first | rfl | (simp [errW_none, errW_some] <;> rfl) | (simp [*, errW_none, errW_some] <;> rfl), by repeat (first | (with_reducible first | exact HB.out | apply below_alloc | apply pw_below_drewN | apply below_drew1 | refine below_set ?_ GE257.out | refine below_set ?_ GE258.out) | exact HB.out)⟩
   ·rw [if_neg c5] at H
    have c5b0 : (a0_2 == a1_2) = false := beq_eq_false_iff_ne.mpr c5
    have c5b1 : (a0_2 != a1_2) = true := bne_iff_ne.mpr c5
    obtain rfl := Option.some.inj H
    go_enter Try.func29, Try.ntmps29
    go_wp2_with (first | ((with_reducible refine gate_dst (N := 2) rfl ?_); refine box_event ?hg (N := 2) ?hd (cs := #[.int .i64 a0_0, .int .i64 a0_1, .int .i64 a0_2, .int .i64 a0_3, .int .i64 a0_4, .slice A0_5 l0_5.length c0_5]) (t := 30) ?hr ?_; (case hd => rfl); (case hg => rfl); (case hr => first | (go_simp; done) | (go_simp; rfl)); intro gb257 hg w24 hbox hb; have n0_ := Aside0.mk (below_step (by repeat (first | (with_reducible first | exact HB.out | apply below_alloc | apply pw_below_drewN | apply below_drew1) | exact HB.out)) hb); have n1_ := Aside0.mk (hbox); have n2_ := Aside0.mk ((by rw [hg]; exact (below_size (by repeat (first | (with_reducible first | exact HB.out | apply below_alloc | apply pw_below_drewN | apply below_drew1) | exact HB.out))) : w.heap.size ≤ gb257)); have n3_ := Aside0.mk ((by rw [hg]; exact (below_size (by repeat (first | (with_reducible first | exact HB.out | apply below_alloc | apply pw_below_drewN | apply below_drew1) | exact HB.out))) : w.heap.size ≤ gb257)); clear HB; have HB := n0_; have BK257 := n1_; have GW257 := n2_; have GE257 := n3_; clear n0_ n1_ n2_ n3_; clear hb hbox hg) | ((with_reducible refine gate_dst (N := 3) rfl ?_); refine box_event ?hg (N := 3) ?hd (cs := #[.int .i64 a1_0, .int .i64 a1_1, .int .i64 a1_2, .int .i64 a1_3, .int .i64 a1_4, .slice A1_5 l1_5.length c1_5]) (t := 30) ?hr ?_; (case hd => rfl); (case hg => rfl); (case hr => first | (go_simp; done) | (go_simp; rfl)); intro gb258 hg w25 hbox hb; have n0_ := Aside0.mk (blk_below (g := gb257) (o := .cells #[.int .i64 a0_0, .int .i64 a0_1, .int .i64 a0_2, .int .i64 a0_3, .int .i64 a0_4, .slice A0_5 l0_5.length c0_5] 30 (0, 0)) (by (with_reducible repeat (first | refine blk_drewN ?_ _ | refine blk_drew ?_ | refine blk_alloc ?_ _)); exact BK257.out) hb); have n1_ := Aside0.mk (below_step (by repeat (first | (with_reducible first | exact HB.out | apply below_alloc | apply pw_below_drewN | apply below_drew1 | refine below_set ?_ GE257.out) | exact HB.out)) hb); have n2_ := Aside0.mk (hbox); have n3_ := Aside0.mk ((by rw [hg]; exact (below_size (by repeat (first | (with_reducible first | exact HB.out | apply below_alloc | apply pw_below_drewN | apply below_drew1 | refine below_set ?_ GE257.out) | exact HB.out))) : w.heap.size ≤ gb258)); have n4_ := Aside0.mk ((by rw [hg]; exact (below_size (by repeat (first | (with_reducible first | exact HB.out | apply below_alloc | apply pw_below_drewN | apply below_drew1 | refine below_set ?_ GE257.out) | exact HB.out))) : w.heap.size ≤ gb258)); have n5_ := Aside0.mk ((by rw [hg]; exact Nat.ne_of_lt (blk_lt (g := gb257) (o := .cells #[.int .i64 a0_0, .int .i64 a0_1, .int .i64 a0_2, .int .i64 a0_3, .int .i64 a0_4, .slice A0_5 l0_5.length c0_5] 30 (0, 0)) (by (with_reducible repeat (first | refine blk_drewN ?_ _ | refine blk_drew ?_ | refine blk_alloc ?_ _)); exact BK257.out)) : gb257 ≠ gb258)); have n6_ := Aside0.mk ((by rw [hg]; exact Nat.ne_of_gt (blk_lt (g := gb257) (o := .cells #[.int .i64 a0_0, .int .i64 a0_1, .int .i64 a0_2, .int .i64 a0_3, .int .i64 a0_4, .slice A0_5 l0_5.length c0_5] 30 (0, 0)) (by (with_reducible repeat (first | refine blk_drewN ?_ _ | refine blk_drew ?_ | refine blk_alloc ?_ _)); exact BK257.out)) : gb258 ≠ gb257)); clear BK257; clear HB; have BK257 := n0_; have HB := n1_; have BK258 := n2_; have GW258 := n3_; have GE258 := n4_; have NB257_258 := n5_; have NB258_257 := n6_; clear n0_ n1_ n2_ n3_ n4_ n5_ n6_; clear hb hbox hg; have hnb26 := NB257_258.out; have hnc26 := NB258_257.out; have hcz27_0 : w25.cell? ⟨gb257, 0, none⟩ = some (.int .i64 a0_0) := (blk_cell BK257.out 0).trans rfl; have hcz27_1 : w25.cell? ⟨gb257, 1, none⟩ = some (.int .i64 a0_1) := (blk_cell BK257.out 1).trans rfl; have hcz27_2 : w25.cell? ⟨gb257, 2, none⟩ = some (.int .i64 a0_2) := (blk_cell BK257.out 2).trans rfl; have hcz27_3 : w25.cell? ⟨gb257, 3, none⟩ = some (.int .i64 a0_3) := (blk_cell BK257.out 3).trans rfl; have hcz27_4 : w25.cell? ⟨gb257, 4, none⟩ = some (.int .i64 a0_4) := (blk_cell BK257.out 4).trans rfl; have hcz27_5 : w25.cell? ⟨gb257, 5, none⟩ = some (.slice A0_5 l0_5.length c0_5) := (blk_cell BK257.out 5).trans rfl; have hfz27_0 := blk_frozen BK257.out 0; have hfz27_1 := blk_frozen BK257.out 1; have hfz27_2 := blk_frozen BK257.out 2; have hfz27_3 := blk_frozen BK257.out 3; have hfz27_4 := blk_frozen BK257.out 4; have hfz27_5 := blk_frozen BK257.out 5; have hcz28_0 : w25.cell? ⟨gb258, 0, none⟩ = some (.int .i64 a1_0) := (blk_cell BK258.out 0).trans rfl; have hcz28_1 : w25.cell? ⟨gb258, 1, none⟩ = some (.int .i64 a1_1) := (blk_cell BK258.out 1).trans rfl; have hcz28_2 : w25.cell? ⟨gb258, 2, none⟩ = some (.int .i64 a1_2) := (blk_cell BK258.out 2).trans rfl; have hcz28_3 : w25.cell? ⟨gb258, 3, none⟩ = some (.int .i64 a1_3) := (blk_cell BK258.out 3).trans rfl; have hcz28_4 : w25.cell? ⟨gb258, 4, none⟩ = some (.int .i64 a1_4) := (blk_cell BK258.out 4).trans rfl; have hcz28_5 : w25.cell? ⟨gb258, 5, none⟩ = some (.slice A1_5 l1_5.length c1_5) := (blk_cell BK258.out 5).trans rfl; have hfz28_0 := blk_frozen BK258.out 0; have hfz28_1 := blk_frozen BK258.out 1; have hfz28_2 := blk_frozen BK258.out 2; have hfz28_3 := blk_frozen BK258.out 3; have hfz28_4 := blk_frozen BK258.out 4; have hfz28_5 := blk_frozen BK258.out 5))
    go_ret
    exact ⟨by first | rfl | (simp [errW_none, errW_some] <;> rfl) | (simp [*, errW_none, errW_some] <;> rfl), by repeat (first | (with_reducible first | exact HB.out | apply below_alloc | apply pw_below_drewN | apply below_drew1 | refine below_set ?_ GE257.out | refine below_set ?_ GE258.out) | exact HB.out)⟩
  ·rw [if_neg c4] at H
   have c4b0 : (a0_1 == a1_1) = false := beq_eq_false_iff_ne.mpr c4
   have c4b1 : (a0_1 != a1_1) = true := bne_iff_ne.mpr c4
   obtain rfl := Option.some.inj H
   go_enter Try.func29, Try.ntmps29
   go_wp2_with (first | ((with_reducible refine gate_dst (N := 2) rfl ?_); refine box_event ?hg (N := 2) ?hd (cs := #[.int .i64 a0_0, .int .i64 a0_1, .int .i64 a0_2, .int .i64 a0_3, .int .i64 a0_4, .slice A0_5 l0_5.length c0_5]) (t := 30) ?hr ?_; (case hd => rfl); (case hg => rfl); (case hr => first | (go_simp; done) | (go_simp; rfl)); intro gb257 hg w29 hbox hb; have n0_ := Aside0.mk (below_step (by repeat (first | (with_reducible first | exact HB.out | apply below_alloc | apply pw_below_drewN | apply below_drew1) | exact HB.out)) hb); have n1_ := Aside0.mk (hbox); have n2_ := Aside0.mk ((by rw [hg]; exact (below_size (by repeat (first | (with_reducible first | exact HB.out | apply below_alloc | apply pw_below_drewN | apply below_drew1) | exact HB.out))) : w.heap.size ≤ gb257)); have n3_ := Aside0.mk ((by rw [hg]; exact (below_size (by repeat (first | (with_reducible first | exact HB.out | apply below_alloc | apply pw_below_drewN | apply below_drew1) | exact HB.out))) : w.heap.size ≤ gb257)); clear HB; have HB := n0_; have BK257 := n1_; have GW257 := n2_; have GE257 := n3_; clear n0_ n1_ n2_ n3_; clear hb hbox hg) | ((with_reducible refine gate_dst (N := 3) rfl ?_); refine box_event ?hg (N := 3) ?hd (cs := #[.int .i64 a1_0, .int .i64 a1_1, .int .i64 a1_2, .int .i64 a1_3, .int .i64 a1_4, .slice A1_5 l1_5.length c1_5]) (t := 30) ?hr ?_; (case hd => rfl); (case hg => rfl); (case hr => first | (go_simp; done) | (go_simp; rfl)); intro gb258 hg w30 hbox hb; have n0_ := Aside0.mk (blk_below (g := gb257) (o := .cells #[.int .i64 a0_0, .int .i64 a0_1, .int .i64 a0_2, .int .i64 a0_3, .int .i64 a0_4, .slice A0_5 l0_5.length c0_5] 30 (0, 0)) (by (with_reducible repeat (first | refine blk_drewN ?_ _ | refine blk_drew ?_ | refine blk_alloc ?_ _)); exact BK257.out) hb); have n1_ := Aside0.mk (below_step (by repeat (first | (with_reducible first | exact HB.out | apply below_alloc | apply pw_below_drewN | apply below_drew1 | refine below_set ?_ GE257.out) | exact HB.out)) hb); have n2_ := Aside0.mk (hbox); have n3_ := Aside0.mk ((by rw [hg]; exact (below_size (by repeat (first | (with_reducible first | exact HB.out | apply below_alloc | apply pw_below_drewN | apply below_drew1 | refine below_set ?_ GE257.out) | exact HB.out))) : w.heap.size ≤ gb258)); have n4_ := Aside0.mk ((by rw [hg]; exact (below_size (by repeat (first | (with_reducible first | exact HB.out | apply below_alloc | apply pw_below_drewN | apply below_drew1 | refine below_set ?_ GE257.out) | exact HB.out))) : w.heap.size ≤ gb258)); have n5_ := Aside0.mk ((by rw [hg]; exact Nat.ne_of_lt (blk_lt (g := gb257) (o := .cells #[.int .i64 a0_0, .int .i64 a0_1, .int .i64 a0_2, .int .i64 a0_3, .int .i64 a0_4, .slice A0_5 l0_5.length c0_5] 30 (0, 0)) (by (with_reducible repeat (first | refine blk_drewN ?_ _ | refine blk_drew ?_ | refine blk_alloc ?_ _)); exact BK257.out)) : gb257 ≠ gb258)); have n6_ := Aside0.mk ((by rw [hg]; exact Nat.ne_of_gt (blk_lt (g := gb257) (o := .cells #[.int .i64 a0_0, .int .i64 a0_1, .int .i64 a0_2, .int .i64 a0_3, .int .i64 a0_4, .slice A0_5 l0_5.length c0_5] 30 (0, 0)) (by (with_reducible repeat (first | refine blk_drewN ?_ _ | refine blk_drew ?_ | refine blk_alloc ?_ _)); exact BK257.out)) : gb258 ≠ gb257)); clear BK257; clear HB; have BK257 := n0_; have HB := n1_; have BK258 := n2_; have GW258 := n3_; have GE258 := n4_; have NB257_258 := n5_; have NB258_257 := n6_; clear n0_ n1_ n2_ n3_ n4_ n5_ n6_; clear hb hbox hg; have hnb31 := NB257_258.out; have hnc31 := NB258_257.out; have hcz32_0 : w30.cell? ⟨gb257, 0, none⟩ = some (.int .i64 a0_0) := (blk_cell BK257.out 0).trans rfl; have hcz32_1 : w30.cell? ⟨gb257, 1, none⟩ = some (.int .i64 a0_1) := (blk_cell BK257.out 1).trans rfl; have hcz32_2 : w30.cell? ⟨gb257, 2, none⟩ = some (.int .i64 a0_2) := (blk_cell BK257.out 2).trans rfl; have hcz32_3 : w30.cell? ⟨gb257, 3, none⟩ = some (.int .i64 a0_3) := (blk_cell BK257.out 3).trans rfl; have hcz32_4 : w30.cell? ⟨gb257, 4, none⟩ = some (.int .i64 a0_4) := (blk_cell BK257.out 4).trans rfl; have hcz32_5 : w30.cell? ⟨gb257, 5, none⟩ = some (.slice A0_5 l0_5.length c0_5) := (blk_cell BK257.out 5).trans rfl; have hfz32_0 := blk_frozen BK257.out 0; have hfz32_1 := blk_frozen BK257.out 1; have hfz32_2 := blk_frozen BK257.out 2; have hfz32_3 := blk_frozen BK257.out 3; have hfz32_4 := blk_frozen BK257.out 4; have hfz32_5 := blk_frozen BK257.out 5; have hcz33_0 : w30.cell? ⟨gb258, 0, none⟩ = some (.int .i64 a1_0) := (blk_cell BK258.out 0).trans rfl; have hcz33_1 : w30.cell? ⟨gb258, 1, none⟩ = some (.int .i64 a1_1) := (blk_cell BK258.out 1).trans rfl; have hcz33_2 : w30.cell? ⟨gb258, 2, none⟩ = some (.int .i64 a1_2) := (blk_cell BK258.out 2).trans rfl; have hcz33_3 : w30.cell? ⟨gb258, 3, none⟩ = some (.int .i64 a1_3) := (blk_cell BK258.out 3).trans rfl; have hcz33_4 : w30.cell? ⟨gb258, 4, none⟩ = some (.int .i64 a1_4) := (blk_cell BK258.out 4).trans rfl; have hcz33_5 : w30.cell? ⟨gb258, 5, none⟩ = some (.slice A1_5 l1_5.length c1_5) := (blk_cell BK258.out 5).trans rfl; have hfz33_0 := blk_frozen BK258.out 0; have hfz33_1 := blk_frozen BK258.out 1; have hfz33_2 := blk_frozen BK258.out 2; have hfz33_3 := blk_frozen BK258.out 3; have hfz33_4 := blk_frozen BK258.out 4; have hfz33_5 := blk_frozen BK258.out 5))
   go_ret
   exact ⟨by first | rfl | (simp [errW_none, errW_some] <;> rfl) | (simp [*, errW_none, errW_some] <;> rfl), by repeat (first | (with_reducible first | exact HB.out | apply below_alloc | apply pw_below_drewN | apply below_drew1 | refine below_set ?_ GE257.out | refine below_set ?_ GE258.out) | exact HB.out)⟩
 ·rw [if_neg c3] at H
  have c3b0 : (a0_0 == a1_0) = false := beq_eq_false_iff_ne.mpr c3
  have c3b1 : (a0_0 != a1_0) = true := bne_iff_ne.mpr c3
  obtain rfl := Option.some.inj H
  go_enter Try.func29, Try.ntmps29
  go_wp2_with (first | ((with_reducible refine gate_dst (N := 2) rfl ?_); refine box_event ?hg (N := 2) ?hd (cs := #[.int .i64 a0_0, .int .i64 a0_1, .int .i64 a0_2, .int .i64 a0_3, .int .i64 a0_4, .slice A0_5 l0_5.length c0_5]) (t := 30) ?hr ?_; (case hd => rfl); (case hg => rfl); (case hr => first | (go_simp; done) | (go_simp; rfl)); intro gb257 hg w34 hbox hb; have n0_ := Aside0.mk (below_step (by repeat (first | (with_reducible first | exact HB.out | apply below_alloc | apply pw_below_drewN | apply below_drew1) | exact HB.out)) hb); have n1_ := Aside0.mk (hbox); have n2_ := Aside0.mk ((by rw [hg]; exact (below_size (by repeat (first | (with_reducible first | exact HB.out | apply below_alloc | apply pw_below_drewN | apply below_drew1) | exact HB.out))) : w.heap.size ≤ gb257)); have n3_ := Aside0.mk ((by rw [hg]; exact (below_size (by repeat (first | (with_reducible first | exact HB.out | apply below_alloc | apply pw_below_drewN | apply below_drew1) | exact HB.out))) : w.heap.size ≤ gb257)); clear HB; have HB := n0_; have BK257 := n1_; have GW257 := n2_; have GE257 := n3_; clear n0_ n1_ n2_ n3_; clear hb hbox hg) | ((with_reducible refine gate_dst (N := 3) rfl ?_); refine box_event ?hg (N := 3) ?hd (cs := #[.int .i64 a1_0, .int .i64 a1_1, .int .i64 a1_2, .int .i64 a1_3, .int .i64 a1_4, .slice A1_5 l1_5.length c1_5]) (t := 30) ?hr ?_; (case hd => rfl); (case hg => rfl); (case hr => first | (go_simp; done) | (go_simp; rfl)); intro gb258 hg w35 hbox hb; have n0_ := Aside0.mk (blk_below (g := gb257) (o := .cells #[.int .i64 a0_0, .int .i64 a0_1, .int .i64 a0_2, .int .i64 a0_3, .int .i64 a0_4, .slice A0_5 l0_5.length c0_5] 30 (0, 0)) (by (with_reducible repeat (first | refine blk_drewN ?_ _ | refine blk_drew ?_ | refine blk_alloc ?_ _)); exact BK257.out) hb); have n1_ := Aside0.mk (below_step (by repeat (first | (with_reducible first | exact HB.out | apply below_alloc | apply pw_below_drewN | apply below_drew1 | refine below_set ?_ GE257.out) | exact HB.out)) hb); have n2_ := Aside0.mk (hbox); have n3_ := Aside0.mk ((by rw [hg]; exact (below_size (by repeat (first | (with_reducible first | exact HB.out | apply below_alloc | apply pw_below_drewN | apply below_drew1 | refine below_set ?_ GE257.out) | exact HB.out))) : w.heap.size ≤ gb258)); have n4_ := Aside0.mk ((by rw [hg]; exact (below_size (by repeat (first | (with_reducible first | exact HB.out | apply below_alloc | apply pw_below_drewN | apply below_drew1 | refine below_set ?_ GE257.out) | exact HB.out))) : w.heap.size ≤ gb258)); have n5_ := Aside0.mk ((by rw [hg]; exact Nat.ne_of_lt (blk_lt (g := gb257) (o := .cells #[.int .i64 a0_0, .int .i64 a0_1, .int .i64 a0_2, .int .i64 a0_3, .int .i64 a0_4, .slice A0_5 l0_5.length c0_5] 30 (0, 0)) (by (with_reducible repeat (first | refine blk_drewN ?_ _ | refine blk_drew ?_ | refine blk_alloc ?_ _)); exact BK257.out)) : gb257 ≠ gb258)); have n6_ := Aside0.mk ((by rw [hg]; exact Nat.ne_of_gt (blk_lt (g := gb257) (o := .cells #[.int .i64 a0_0, .int .i64 a0_1, .int .i64 a0_2, .int .i64 a0_3, .int .i64 a0_4, .slice A0_5 l0_5.length c0_5] 30 (0, 0)) (by (with_reducible repeat (first | refine blk_drewN ?_ _ | refine blk_drew ?_ | refine blk_alloc ?_ _)); exact BK257.out)) : gb258 ≠ gb257)); clear BK257; clear HB; have BK257 := n0_; have HB := n1_; have BK258 := n2_; have GW258 := n3_; have GE258 := n4_; have NB257_258 := n5_; have NB258_257 := n6_; clear n0_ n1_ n2_ n3_ n4_ n5_ n6_; clear hb hbox hg; have hnb36 := NB257_258.out; have hnc36 := NB258_257.out; have hcz37_0 : w35.cell? ⟨gb257, 0, none⟩ = some (.int .i64 a0_0) := (blk_cell BK257.out 0).trans rfl; have hcz37_1 : w35.cell? ⟨gb257, 1, none⟩ = some (.int .i64 a0_1) := (blk_cell BK257.out 1).trans rfl; have hcz37_2 : w35.cell? ⟨gb257, 2, none⟩ = some (.int .i64 a0_2) := (blk_cell BK257.out 2).trans rfl; have hcz37_3 : w35.cell? ⟨gb257, 3, none⟩ = some (.int .i64 a0_3) := (blk_cell BK257.out 3).trans rfl; have hcz37_4 : w35.cell? ⟨gb257, 4, none⟩ = some (.int .i64 a0_4) := (blk_cell BK257.out 4).trans rfl; have hcz37_5 : w35.cell? ⟨gb257, 5, none⟩ = some (.slice A0_5 l0_5.length c0_5) := (blk_cell BK257.out 5).trans rfl; have hfz37_0 := blk_frozen BK257.out 0; have hfz37_1 := blk_frozen BK257.out 1; have hfz37_2 := blk_frozen BK257.out 2; have hfz37_3 := blk_frozen BK257.out 3; have hfz37_4 := blk_frozen BK257.out 4; have hfz37_5 := blk_frozen BK257.out 5; have hcz38_0 : w35.cell? ⟨gb258, 0, none⟩ = some (.int .i64 a1_0) := (blk_cell BK258.out 0).trans rfl; have hcz38_1 : w35.cell? ⟨gb258, 1, none⟩ = some (.int .i64 a1_1) := (blk_cell BK258.out 1).trans rfl; have hcz38_2 : w35.cell? ⟨gb258, 2, none⟩ = some (.int .i64 a1_2) := (blk_cell BK258.out 2).trans rfl; have hcz38_3 : w35.cell? ⟨gb258, 3, none⟩ = some (.int .i64 a1_3) := (blk_cell BK258.out 3).trans rfl; have hcz38_4 : w35.cell? ⟨gb258, 4, none⟩ = some (.int .i64 a1_4) := (blk_cell BK258.out 4).trans rfl; have hcz38_5 : w35.cell? ⟨gb258, 5, none⟩ = some (.slice A1_5 l1_5.length c1_5) := (blk_cell BK258.out 5).trans rfl; have hfz38_0 := blk_frozen BK258.out 0; have hfz38_1 := blk_frozen BK258.out 1; have hfz38_2 := blk_frozen BK258.out 2; have hfz38_3 := blk_frozen BK258.out 3; have hfz38_4 := blk_frozen BK258.out 4; have hfz38_5 := blk_frozen BK258.out 5))
  go_ret
  exact ⟨by first | rfl | (simp [errW_none, errW_some] <;> rfl) | (simp [*, errW_none, errW_some] <;> rfl), by repeat (first | (with_reducible first | exact HB.out | apply below_alloc | apply pw_below_drewN | apply below_drew1 | refine below_set ?_ GE257.out | refine below_set ?_ GE258.out) | exact HB.out)⟩

/-! ### ref20_One: function 28 -/
def ref20_One.f (k : Nat) (a0_0 : Int) (a0_1 : Int) (a0_2 : Int) (a0_3 : Int) (a0_4 : Int) (a0_5 : Int) (a0_6 : Int) (a0_7 : Int) (a0_8 : Int) (a0_9 : Int) (l0_10 : List Int) (a0_11 : Int) (a1_0 : Int) (a1_1 : Int) (a1_2 : Int) (a1_3 : Int) (a1_4 : Int) (a1_5 : Int) (a1_6 : Int) (a1_7 : Int) (a1_8 : Int) (a1_9 : Int) (l1_10 : List Int) (a1_11 : Int) : Option (Bool) := if a0_0 = a1_0 then (if a0_1 = a1_1 then (if a0_2 = a1_2 then (if a0_3 = a1_3 then (if a0_4 = a1_4 then ((ref06_Same.f k a0_5 a0_6 a0_7 a0_8 a0_9 l0_10 a1_5 a1_6 a1_7 a1_8 a1_9 l1_10).bind fun t262 => (if t262 = true then (some (a0_11 == a1_11)) else (some false))) else (some false)) else (some false)) else (some false)) else (some false)) else (some false)
theorem ref20_One.mono : ∀ a0 a1 a2 a3 a4 a5 a6 a7 a8 a9 a10 a11 a12 a13 a14 a15 a16 a17 a18 a19 a20 a21 a22 a23 k, LeO (ref20_One.f k a0 a1 a2 a3 a4 a5 a6 a7 a8 a9 a10 a11 a12 a13 a14 a15 a16 a17 a18 a19 a20 a21 a22 a23) (ref20_One.f (k + 1) a0 a1 a2 a3 a4 a5 a6 a7 a8 a9 a10 a11 a12 a13 a14 a15 a16 a17 a18 a19 a20 a21 a22 a23) := by
 intro a0 a1 a2 a3 a4 a5 a6 a7 a8 a9 a10 a11 a12 a13 a14 a15 a16 a17 a18 a19 a20 a21 a22 a23 k
 unfold ref20_One.f
 repeat' first
  | (with_reducible exact ref06_Same.mono _ _ _ _ _ _ _ _ _ _ _ _ _)
  | (with_reducible exact LeO.refl _)
  | (with_reducible exact LeO.none _)
  | (with_reducible refine LeO.ite ?_ ?_)
  | (with_reducible refine LeO.bind ?_ (fun _ => ?_))
  | exact ref06_Same.mono _ _ _ _ _ _ _ _ _ _ _ _ _
  | exact LeO.none _
  | refine LeO.ite ?_ ?_
  | refine LeO.bind ?_ (fun _ => ?_)
set_option maxHeartbeats 8000000 in
set_option maxRecDepth 100000 in
theorem ref20_One.calls (k : Nat) (a0_0 : Int) (a0_1 : Int) (a0_2 : Int) (a0_3 : Int) (a0_4 : Int) (a0_5 : Int) (a0_6 : Int) (a0_7 : Int) (a0_8 : Int) (a0_9 : Int) (A0_10 : Option Addr) (c0_10 : Nat) (l0_10 : List Int) (a0_11 : Int) (a1_0 : Int) (a1_1 : Int) (a1_2 : Int) (a1_3 : Int) (a1_4 : Int) (a1_5 : Int) (a1_6 : Int) (a1_7 : Int) (a1_8 : Int) (a1_9 : Int) (A1_10 : Option Addr) (c1_10 : Nat) (l1_10 : List Int) (a1_11 : Int) (r : Bool) (w : World) (hr0_10 : Kd.C (Kd.int .i64) w A0_10 l0_10.length l0_10) (hc0_10 : l0_10.length ≤ c0_10) (hr1_10 : Kd.C (Kd.int .i64) w A1_10 l1_10.length l1_10) (hc1_10 : l1_10.length ≤ c1_10) (h : ref20_One.f k a0_0 a0_1 a0_2 a0_3 a0_4 a0_5 a0_6 a0_7 a0_8 a0_9 l0_10 a0_11 a1_0 a1_1 a1_2 a1_3 a1_4 a1_5 a1_6 a1_7 a1_8 a1_9 l1_10 a1_11 = some r) :
 Calls Try.prog 28 #[.agg #[.int .i64 a0_0, .int .i64 a0_1, .int .i64 a0_2, .int .i64 a0_3, .int .i64 a0_4, .int .i64 a0_5, .int .i64 a0_6, .int .i64 a0_7, .int .i64 a0_8, .int .i64 a0_9, .slice A0_10 l0_10.length c0_10, .int .i64 a0_11], .agg #[.int .i64 a1_0, .int .i64 a1_1, .int .i64 a1_2, .int .i64 a1_3, .int .i64 a1_4, .int .i64 a1_5, .int .i64 a1_6, .int .i64 a1_7, .int .i64 a1_8, .int .i64 a1_9, .slice A1_10 l1_10.length c1_10, .int .i64 a1_11]] w fun e w' => e = .returned (.bool r) ∧ Below w.heap.size w w' := by
 have hu32 := Try.underlying32
 have hu30 := Try.underlying30
 have HR0_10 := Aside0.mk hr0_10
 have HC0_10 := Aside0.mk hc0_10
 clear hr0_10 hc0_10
 have HR1_10 := Aside0.mk hr1_10
 have HC1_10 := Aside0.mk hc1_10
 clear hr1_10 hc1_10
 have HB := Aside0.mk (Below.refl w.heap.size w)
 have H : (if a0_0 = a1_0 then (if a0_1 = a1_1 then (if a0_2 = a1_2 then (if a0_3 = a1_3 then (if a0_4 = a1_4 then ((ref06_Same.f k a0_5 a0_6 a0_7 a0_8 a0_9 l0_10 a1_5 a1_6 a1_7 a1_8 a1_9 l1_10).bind fun t262 => (if t262 = true then (some (a0_11 == a1_11)) else (some false))) else (some false)) else (some false)) else (some false)) else (some false)) else (some false)) = some r := h
 clear h
 by_cases c3 : a0_0 = a1_0
 ·rw [if_pos c3] at H
  have c3b0 : (a0_0 == a1_0) = true := beq_iff_eq.mpr c3
  have c3b1 : (a0_0 != a1_0) = false := bne_eq_false_iff_eq.mpr c3
  clear c3
  by_cases c4 : a0_1 = a1_1
  ·rw [if_pos c4] at H
   have c4b0 : (a0_1 == a1_1) = true := beq_iff_eq.mpr c4
   have c4b1 : (a0_1 != a1_1) = false := bne_eq_false_iff_eq.mpr c4
   clear c4
   by_cases c5 : a0_2 = a1_2
   ·rw [if_pos c5] at H
    have c5b0 : (a0_2 == a1_2) = true := beq_iff_eq.mpr c5
    have c5b1 : (a0_2 != a1_2) = false := bne_eq_false_iff_eq.mpr c5
    clear c5
    by_cases c6 : a0_3 = a1_3
    ·rw [if_pos c6] at H
     have c6b0 : (a0_3 == a1_3) = true := beq_iff_eq.mpr c6
     have c6b1 : (a0_3 != a1_3) = false := bne_eq_false_iff_eq.mpr c6
     clear c6
     by_cases c7 : a0_4 = a1_4
     ·rw [if_pos c7] at H
      have c7b0 : (a0_4 == a1_4) = true := beq_iff_eq.mpr c7
      have c7b1 : (a0_4 != a1_4) = false := bne_eq_false_iff_eq.mpr c7
      clear c7
      replace H := Option.bind_eq_some_iff.mp H
      obtain ⟨t262, A80, H⟩ := H
      replace H : (if t262 = true then (some (a0_11 == a1_11)) else (some false)) = some r := H
      have A8 := Aside0.mk A80
      clear A80
      by_cases c9 : t262 = true
      ·subst c9
       have H1 : (some (a0_11 == a1_11)) = some r := by rw [if_pos rfl] at H; exact H
       clear H
       have H := H1
       clear H1
       obtain rfl := Option.some.inj H
       go_enter Try.func28, Try.ntmps28
       go_wp2_with (first | ((with_reducible refine gate_dst (N := 2) rfl ?_); refine box_event ?hg (N := 2) ?hd (cs := #[.int .i64 a0_0, .int .i64 a0_1, .int .i64 a0_2, .int .i64 a0_3, .int .i64 a0_4, .int .i64 a0_5, .int .i64 a0_6, .int .i64 a0_7, .int .i64 a0_8, .int .i64 a0_9, .slice A0_10 l0_10.length c0_10, .int .i64 a0_11]) (t := 32) ?hr ?_; (case hd => rfl); (case hg => rfl); (case hr => first | (go_simp; done) | (go_simp; rfl)); intro gb260 hg w10 hbox hb; have n0_ := Aside0.mk (below_step (by repeat (first | (with_reducible first | exact HB.out | apply below_alloc | apply pw_below_drewN | apply below_drew1) | exact HB.out)) hb); have n1_ := Aside0.mk (hbox); have n2_ := Aside0.mk ((by rw [hg]; exact (below_size (by repeat (first | (with_reducible first | exact HB.out | apply below_alloc | apply pw_below_drewN | apply below_drew1) | exact HB.out))) : w.heap.size ≤ gb260)); have n3_ := Aside0.mk ((by rw [hg]; exact (below_size (by repeat (first | (with_reducible first | exact HB.out | apply below_alloc | apply pw_below_drewN | apply below_drew1) | exact HB.out))) : w.heap.size ≤ gb260)); clear HB; have HB := n0_; have BK260 := n1_; have GW260 := n2_; have GE260 := n3_; clear n0_ n1_ n2_ n3_; clear hb hbox hg) | ((with_reducible refine gate_dst (N := 3) rfl ?_); refine box_event ?hg (N := 3) ?hd (cs := #[.int .i64 a1_0, .int .i64 a1_1, .int .i64 a1_2, .int .i64 a1_3, .int .i64 a1_4, .int .i64 a1_5, .int .i64 a1_6, .int .i64 a1_7, .int .i64 a1_8, .int .i64 a1_9, .slice A1_10 l1_10.length c1_10, .int .i64 a1_11]) (t := 32) ?hr ?_; (case hd => rfl); (case hg => rfl); (case hr => first | (go_simp; done) | (go_simp; rfl)); intro gb261 hg w11 hbox hb; have n0_ := Aside0.mk (blk_below (g := gb260) (o := .cells #[.int .i64 a0_0, .int .i64 a0_1, .int .i64 a0_2, .int .i64 a0_3, .int .i64 a0_4, .int .i64 a0_5, .int .i64 a0_6, .int .i64 a0_7, .int .i64 a0_8, .int .i64 a0_9, .slice A0_10 l0_10.length c0_10, .int .i64 a0_11] 32 (0, 0)) (by (with_reducible repeat (first | refine blk_drewN ?_ _ | refine blk_drew ?_ | refine blk_alloc ?_ _)); exact BK260.out) hb); have n1_ := Aside0.mk (below_step (by repeat (first | (with_reducible first | exact HB.out | apply below_alloc | apply pw_below_drewN | apply below_drew1 | refine below_set ?_ GE260.out) | exact HB.out)) hb); have n2_ := Aside0.mk (hbox); have n3_ := Aside0.mk ((by rw [hg]; exact (below_size (by repeat (first | (with_reducible first | exact HB.out | apply below_alloc | apply pw_below_drewN | apply below_drew1 | refine below_set ?_ GE260.out) | exact HB.out))) : w.heap.size ≤ gb261)); have n4_ := Aside0.mk ((by rw [hg]; exact (below_size (by repeat (first | (with_reducible first | exact HB.out | apply below_alloc | apply pw_below_drewN | apply below_drew1 | refine below_set ?_ GE260.out) | exact HB.out))) : w.heap.size ≤ gb261)); have n5_ := Aside0.mk ((by rw [hg]; exact Nat.ne_of_lt (blk_lt (g := gb260) (o := .cells #[.int .i64 a0_0, .int .i64 a0_1, .int .i64 a0_2, .int .i64 a0_3, .int .i64 a0_4, .int .i64 a0_5, .int .i64 a0_6, .int .i64 a0_7, .int .i64 a0_8, .int .i64 a0_9, .slice A0_10 l0_10.length c0_10, .int .i64 a0_11] 32 (0, 0)) (by (with_reducible repeat (first | refine blk_drewN ?_ _ | refine blk_drew ?_ | refine blk_alloc ?_ _)); exact BK260.out)) : gb260 ≠ gb261)); have n6_ := Aside0.mk ((by rw [hg]; exact Nat.ne_of_gt (blk_lt (g := gb260) (o := .cells #[.int .i64 a0_0, .int .i64 a0_1, .int .i64 a0_2, .int .i64 a0_3, .int .i64 a0_4, .int .i64 a0_5, .int .i64 a0_6, .int .i64 a0_7, .int .i64 a0_8, .int .i64 a0_9, .slice A0_10 l0_10.length c0_10, .int .i64 a0_11] 32 (0, 0)) (by (with_reducible repeat (first | refine blk_drewN ?_ _ | refine blk_drew ?_ | refine blk_alloc ?_ _)); exact BK260.out)) : gb261 ≠ gb260)); clear BK260; clear HB; have BK260 := n0_; have HB := n1_; have BK261 := n2_; have GW261 := n3_; have GE261 := n4_; have NB260_261 := n5_; have NB261_260 := n6_; clear n0_ n1_ n2_ n3_ n4_ n5_ n6_; clear hb hbox hg; have hnb12 := NB260_261.out; have hnc12 := NB261_260.out; have hcz13_0 : w11.cell? ⟨gb260, 0, none⟩ = some (.int .i64 a0_0) := (blk_cell BK260.out 0).trans rfl; have hcz13_1 : w11.cell? ⟨gb260, 1, none⟩ = some (.int .i64 a0_1) := (blk_cell BK260.out 1).trans rfl; have hcz13_2 : w11.cell? ⟨gb260, 2, none⟩ = some (.int .i64 a0_2) := (blk_cell BK260.out 2).trans rfl; have hcz13_3 : w11.cell? ⟨gb260, 3, none⟩ = some (.int .i64 a0_3) := (blk_cell BK260.out 3).trans rfl; have hcz13_4 : w11.cell? ⟨gb260, 4, none⟩ = some (.int .i64 a0_4) := (blk_cell BK260.out 4).trans rfl; have hcz13_5 : w11.cell? ⟨gb260, 5, none⟩ = some (.int .i64 a0_5) := (blk_cell BK260.out 5).trans rfl; have hcz13_6 : w11.cell? ⟨gb260, 6, none⟩ = some (.int .i64 a0_6) := (blk_cell BK260.out 6).trans rfl; have hcz13_7 : w11.cell? ⟨gb260, 7, none⟩ = some (.int .i64 a0_7) := (blk_cell BK260.out 7).trans rfl; have hcz13_8 : w11.cell? ⟨gb260, 8, none⟩ = some (.int .i64 a0_8) := (blk_cell BK260.out 8).trans rfl; have hcz13_9 : w11.cell? ⟨gb260, 9, none⟩ = some (.int .i64 a0_9) := (blk_cell BK260.out 9).trans rfl; have hcz13_10 : w11.cell? ⟨gb260, 10, none⟩ = some (.slice A0_10 l0_10.length c0_10) := (blk_cell BK260.out 10).trans rfl; have hcz13_11 : w11.cell? ⟨gb260, 11, none⟩ = some (.int .i64 a0_11) := (blk_cell BK260.out 11).trans rfl; have hfz13_0 := blk_frozen BK260.out 0; have hfz13_1 := blk_frozen BK260.out 1; have hfz13_2 := blk_frozen BK260.out 2; have hfz13_3 := blk_frozen BK260.out 3; have hfz13_4 := blk_frozen BK260.out 4; have hfz13_5 := blk_frozen BK260.out 5; have hfz13_6 := blk_frozen BK260.out 6; have hfz13_7 := blk_frozen BK260.out 7; have hfz13_8 := blk_frozen BK260.out 8; have hfz13_9 := blk_frozen BK260.out 9; have hfz13_10 := blk_frozen BK260.out 10; have hfz13_11 := blk_frozen BK260.out 11; have hcz14_0 : w11.cell? ⟨gb261, 0, none⟩ = some (.int .i64 a1_0) := (blk_cell BK261.out 0).trans rfl; have hcz14_1 : w11.cell? ⟨gb261, 1, none⟩ = some (.int .i64 a1_1) := (blk_cell BK261.out 1).trans rfl; have hcz14_2 : w11.cell? ⟨gb261, 2, none⟩ = some (.int .i64 a1_2) := (blk_cell BK261.out 2).trans rfl; have hcz14_3 : w11.cell? ⟨gb261, 3, none⟩ = some (.int .i64 a1_3) := (blk_cell BK261.out 3).trans rfl; have hcz14_4 : w11.cell? ⟨gb261, 4, none⟩ = some (.int .i64 a1_4) := (blk_cell BK261.out 4).trans rfl; have hcz14_5 : w11.cell? ⟨gb261, 5, none⟩ = some (.int .i64 a1_5) := (blk_cell BK261.out 5).trans rfl; have hcz14_6 : w11.cell? ⟨gb261, 6, none⟩ = some (.int .i64 a1_6) := (blk_cell BK261.out 6).trans rfl; have hcz14_7 : w11.cell? ⟨gb261, 7, none⟩ = some (.int .i64 a1_7) := (blk_cell BK261.out 7).trans rfl; have hcz14_8 : w11.cell? ⟨gb261, 8, none⟩ = some (.int .i64 a1_8) := (blk_cell BK261.out 8).trans rfl; have hcz14_9 : w11.cell? ⟨gb261, 9, none⟩ = some (.int .i64 a1_9) := (blk_cell BK261.out 9).trans rfl; have hcz14_10 : w11.cell? ⟨gb261, 10, none⟩ = some (.slice A1_10 l1_10.length c1_10) := (blk_cell BK261.out 10).trans rfl; have hcz14_11 : w11.cell? ⟨gb261, 11, none⟩ = some (.int .i64 a1_11) := (blk_cell BK261.out 11).trans rfl; have hfz14_0 := blk_frozen BK261.out 0; have hfz14_1 := blk_frozen BK261.out 1; have hfz14_2 := blk_frozen BK261.out 2; have hfz14_3 := blk_frozen BK261.out 3; have hfz14_4 := blk_frozen BK261.out 4; have hfz14_5 := blk_frozen BK261.out 5; have hfz14_6 := blk_frozen BK261.out 6; have hfz14_7 := blk_frozen BK261.out 7; have hfz14_8 := blk_frozen BK261.out 8; have hfz14_9 := blk_frozen BK261.out 9; have hfz14_10 := blk_frozen BK261.out 10; have hfz14_11 := blk_frozen BK261.out 11) | (go_at_call 29; (with_reducible refine (ref06_Same.calls k a0_5 a0_6 a0_7 a0_8 a0_9 _ _ l0_10 a1_5 a1_6 a1_7 a1_8 a1_9 _ _ l1_10 true _ ?side1 ?side2 ?side3 ?side4 A8.out).mono ?_); (case side1 => repeat (first | exact (Kd.C_below HR0_10.out HB.out) | (with_reducible refine Kd.C_alloc ?_ _) | (with_reducible refine Kd.C_drewN ?_ _) | (with_reducible refine Kd.C_drew ?_))); (case side2 => exact HC0_10.out); (case side3 => repeat (first | exact (Kd.C_below HR1_10.out HB.out) | (with_reducible refine Kd.C_alloc ?_ _) | (with_reducible refine Kd.C_drewN ?_ _) | (with_reducible refine Kd.C_drew ?_))); (case side4 => exact HC1_10.out); rintro e w15 ⟨rfl, hb⟩; have n0_ := Aside0.mk (blk_below (g := gb260) (o := .cells #[.int .i64 a0_0, .int .i64 a0_1, .int .i64 a0_2, .int .i64 a0_3, .int .i64 a0_4, .int .i64 a0_5, .int .i64 a0_6, .int .i64 a0_7, .int .i64 a0_8, .int .i64 a0_9, .slice A0_10 l0_10.length c0_10, .int .i64 a0_11] 32 (0, 0)) (by (with_reducible repeat (first | refine blk_drewN ?_ _ | refine blk_drew ?_ | refine blk_alloc ?_ _)); exact BK260.out) hb); have n1_ := Aside0.mk (blk_below (g := gb261) (o := .cells #[.int .i64 a1_0, .int .i64 a1_1, .int .i64 a1_2, .int .i64 a1_3, .int .i64 a1_4, .int .i64 a1_5, .int .i64 a1_6, .int .i64 a1_7, .int .i64 a1_8, .int .i64 a1_9, .slice A1_10 l1_10.length c1_10, .int .i64 a1_11] 32 (0, 0)) (by (with_reducible repeat (first | refine blk_drewN ?_ _ | refine blk_drew ?_ | refine blk_alloc ?_ _)); exact BK261.out) hb); have n2_ := Aside0.mk (below_step (by repeat (first | (with_reducible first | exact HB.out | apply below_alloc | apply pw_below_drewN | apply below_drew1 | refine below_set ?_ GE260.out | refine below_set ?_ GE261.out) | exact HB.out)) hb); clear BK260; clear BK261; clear HB; have BK260 := n0_; have BK261 := n1_; have HB := n2_; clear n0_ n1_ n2_; (try clear hb); (try clear hb2); (try clear hk); (try clear hi); have hcz16_0 : w15.cell? ⟨gb260, 0, none⟩ = some (.int .i64 a0_0) := (blk_cell BK260.out 0).trans rfl; have hcz16_1 : w15.cell? ⟨gb260, 1, none⟩ = some (.int .i64 a0_1) := (blk_cell BK260.out 1).trans rfl; have hcz16_2 : w15.cell? ⟨gb260, 2, none⟩ = some (.int .i64 a0_2) := (blk_cell BK260.out 2).trans rfl; have hcz16_3 : w15.cell? ⟨gb260, 3, none⟩ = some (.int .i64 a0_3) := (blk_cell BK260.out 3).trans rfl; have hcz16_4 : w15.cell? ⟨gb260, 4, none⟩ = some (.int .i64 a0_4) := (blk_cell BK260.out 4).trans rfl; have hcz16_5 : w15.cell? ⟨gb260, 5, none⟩ = some (.int .i64 a0_5) := (blk_cell BK260.out 5).trans rfl; have hcz16_6 : w15.cell? ⟨gb260, 6, none⟩ = some (.int .i64 a0_6) := (blk_cell BK260.out 6).trans rfl; have hcz16_7 : w15.cell? ⟨gb260, 7, none⟩ = some (.int .i64 a0_7) := (blk_cell BK260.out 7).trans rfl; have hcz16_8 : w15.cell? ⟨gb260, 8, none⟩ = some (.int .i64 a0_8) := (blk_cell BK260.out 8).trans rfl; have hcz16_9 : w15.cell? ⟨gb260, 9, none⟩ = some (.int .i64 a0_9) := (blk_cell BK260.out 9).trans rfl; have hcz16_10 : w15.cell? ⟨gb260, 10, none⟩ = some (.slice A0_10 l0_10.length c0_10) := (blk_cell BK260.out 10).trans rfl; have hcz16_11 : w15.cell? ⟨gb260, 11, none⟩ = some (.int .i64 a0_11) := (blk_cell BK260.out 11).trans rfl; have hfz16_0 := blk_frozen BK260.out 0; have hfz16_1 := blk_frozen BK260.out 1; have hfz16_2 := blk_frozen BK260.out 2; have hfz16_3 := blk_frozen BK260.out 3; have hfz16_4 := blk_frozen BK260.out 4; have hfz16_5 := blk_frozen BK260.out 5; have hfz16_6 := blk_frozen BK260.out 6; have hfz16_7 := blk_frozen BK260.out 7; have hfz16_8 := blk_frozen BK260.out 8; have hfz16_9 := blk_frozen BK260.out 9; have hfz16_10 := blk_frozen BK260.out 10; have hfz16_11 := blk_frozen BK260.out 11; have hcz17_0 : w15.cell? ⟨gb261, 0, none⟩ = some (.int .i64 a1_0) := (blk_cell BK261.out 0).trans rfl; have hcz17_1 : w15.cell? ⟨gb261, 1, none⟩ = some (.int .i64 a1_1) := (blk_cell BK261.out 1).trans rfl; have hcz17_2 : w15.cell? ⟨gb261, 2, none⟩ = some (.int .i64 a1_2) := (blk_cell BK261.out 2).trans rfl; have hcz17_3 : w15.cell? ⟨gb261, 3, none⟩ = some (.int .i64 a1_3) := (blk_cell BK261.out 3).trans rfl; have hcz17_4 : w15.cell? ⟨gb261, 4, none⟩ = some (.int .i64 a1_4) := (blk_cell BK261.out 4).trans rfl; have hcz17_5 : w15.cell? ⟨gb261, 5, none⟩ = some (.int .i64 a1_5) := (blk_cell BK261.out 5).trans rfl; have hcz17_6 : w15.cell? ⟨gb261, 6, none⟩ = some (.int .i64 a1_6) := (blk_cell BK261.out 6).trans rfl; have hcz17_7 : w15.cell? ⟨gb261, 7, none⟩ = some (.int .i64 a1_7) := (blk_cell BK261.out 7).trans rfl; have hcz17_8 : w15.cell? ⟨gb261, 8, none⟩ = some (.int .i64 a1_8) := (blk_cell BK261.out 8).trans rfl; have hcz17_9 : w15.cell? ⟨gb261, 9, none⟩ = some (.int .i64 a1_9) := (blk_cell BK261.out 9).trans rfl; have hcz17_10 : w15.cell? ⟨gb261, 10, none⟩ = some (.slice A1_10 l1_10.length c1_10) := (blk_cell BK261.out 10).trans rfl; have hcz17_11 : w15.cell? ⟨gb261, 11, none⟩ = some (.int .i64 a1_11) := (blk_cell BK261.out 11).trans rfl; have hfz17_0 := blk_frozen BK261.out 0; have hfz17_1 := blk_frozen BK261.out 1; have hfz17_2 := blk_frozen BK261.out 2; have hfz17_3 := blk_frozen BK261.out 3; have hfz17_4 := blk_frozen BK261.out 4; have hfz17_5 := blk_frozen BK261.out 5; have hfz17_6 := blk_frozen BK261.out 6; have hfz17_7 := blk_frozen BK261.out 7; have hfz17_8 := blk_frozen BK261.out 8; have hfz17_9 := blk_frozen BK261.out 9; have hfz17_10 := blk_frozen BK261.out 10; have hfz17_11 := blk_frozen BK261.out 11))
       go_ret
       exact ⟨by first | rfl | (simp [errW_none, errW_some] <;> rfl) | (simp [*, errW_none, errW_some] <;> rfl), by repeat (first | (with_reducible first | exact HB.out | apply below_alloc | apply pw_below_drewN | apply below_drew1 | refine below_set ?_ GE260.out | refine below_set ?_ GE261.out) | exact HB.out)⟩
      ·replace c9 := Bool.eq_false_iff.mpr c9
       subst c9
       have H1 : (some false) = some r := by rw [if_neg (show ¬ (false = true) by decide)] at H; exact H
       clear H
       have H := H1
       clear H1
       obtain rfl := Option.some.inj H
       go_enter Try.func28, Try.ntmps28
       go_wp2_with (first | ((with_reducible refine gate_dst (N := 2) rfl ?_); refine box_event ?hg (N := 2) ?hd (cs := #[.int .i64 a0_0, .int .i64 a0_1, .int .i64 a0_2, .int .i64 a0_3, .int .i64 a0_4, .int .i64 a0_5, .int .i64 a0_6, .int .i64 a0_7, .int .i64 a0_8, .int .i64 a0_9, .slice A0_10 l0_10.length c0_10, .int .i64 a0_11]) (t := 32) ?hr ?_; (case hd => rfl); (case hg => rfl); (case hr => first | (go_simp; done) | (go_simp; rfl)); intro gb260 hg w18 hbox hb; have n0_ := Aside0.mk (below_step (by repeat (first | (with_reducible first | exact HB.out | apply below_alloc | apply pw_below_drewN | apply below_drew1) | exact HB.out)) hb); have n1_ := Aside0.mk (hbox); have n2_ := Aside0.mk ((by rw [hg]; exact (below_size (by repeat (first | (with_reducible first | exact HB.out | apply below_alloc | apply pw_below_drewN | apply below_drew1) | exact HB.out))) : w.heap.size ≤ gb260)); have n3_ := Aside0.mk ((by rw [hg]; exact (below_size (by repeat (first | (with_reducible first | exact HB.out | apply below_alloc | apply pw_below_drewN | apply below_drew1) | exact HB.out))) : w.heap.size ≤ gb260)); clear HB; have HB := n0_; have BK260 := n1_; have GW260 := n2_; have GE260 := n3_; clear n0_ n1_ n2_ n3_; clear hb hbox hg) | ((with_reducible refine gate_dst (N := 3) rfl ?_); refine box_event ?hg (N := 3) ?hd (cs := #[.int .i64 a1_0, .int .i64 a1_1, .int .i64 a1_2, .int .i64 a1_3, .int .i64 a1_4, .int .i64 a1_5, .int .i64 a1_6, .int .i64 a1_7, .int .i64 a1_8, .int .i64 a1_9, .slice A1_10 l1_10.length c1_10, .int .i64 a1_11]) (t := 32) ?hr ?_; (case hd => rfl); (case hg => rfl); (case hr => first | (go_simp; done) | (go_simp; rfl)); intro gb261 hg w19 hbox hb; have n0_ := Aside0.mk (blk_below (g := gb260) (o := .cells #[.int .i64 a0_0, .int .i64 a0_1, .int .i64 a0_2, .int .i64 a0_3, .int .i64 a0_4, .int .i64 a0_5, .int .i64 a0_6, .int .i64 a0_7, .int .i64 a0_8, .int .i64 a0_9, .slice A0_10 l0_10.length c0_10, .int .i64 a0_11] 32 (0, 0)) (by (with_reducible repeat (first | refine blk_drewN ?_ _ | refine blk_drew ?_ | refine blk_alloc ?_ _)); exact BK260.out) hb); have n1_ := Aside0.mk (below_step (by repeat (first | (with_reducible first | exact HB.out | apply below_alloc | apply pw_below_drewN | apply below_drew1 | refine below_set ?_ GE260.out) | exact HB.out)) hb); have n2_ := Aside0.mk (hbox); have n3_ := Aside0.mk ((by rw [hg]; exact (below_size (by repeat (first | (with_reducible first | exact HB.out | apply below_alloc | apply pw_below_drewN | apply below_drew1 | refine below_set ?_ GE260.out) | exact HB.out))) : w.heap.size ≤ gb261)); have n4_ := Aside0.mk ((by rw [hg]; exact (below_size (by repeat (first | (with_reducible first | exact HB.out | apply below_alloc | apply pw_below_drewN | apply below_drew1 | refine below_set ?_ GE260.out) | exact HB.out))) : w.heap.size ≤ gb261)); have n5_ := Aside0.mk ((by rw [hg]; exact Nat.ne_of_lt (blk_lt (g := gb260) (o := .cells #[.int .i64 a0_0, .int .i64 a0_1, .int .i64 a0_2, .int .i64 a0_3, .int .i64 a0_4, .int .i64 a0_5, .int .i64 a0_6, .int .i64 a0_7, .int .i64 a0_8, .int .i64 a0_9, .slice A0_10 l0_10.length c0_10, .int .i64 a0_11] 32 (0, 0)) (by (with_reducible repeat (first | refine blk_drewN ?_ _ | refine blk_drew ?_ | refine blk_alloc ?_ _)); exact BK260.out)) : gb260 ≠ gb261)); have n6_ := Aside0.mk ((by rw [hg]; exact Nat.ne_of_gt (blk_lt (g := gb260) (o := .cells #[.int .i64 a0_0, .int .i64 a0_1, .int .i64 a0_2, .int .i64 a0_3, .int .i64 a0_4, .int .i64 a0_5, .int .i64 a0_6, .int .i64 a0_7, .int .i64 a0_8, .int .i64 a0_9, .slice A0_10 l0_10.length c0_10, .int .i64 a0_11] 32 (0, 0)) (by (with_reducible repeat (first | refine blk_drewN ?_ _ | refine blk_drew ?_ | refine blk_alloc ?_ _)); exact BK260.out)) : gb261 ≠ gb260)); clear BK260; clear HB; have BK260 := n0_; have HB := n1_; have BK261 := n2_; have GW261 := n3_; have GE261 := n4_; have NB260_261 := n5_; have NB261_260 := n6_; clear n0_ n1_ n2_ n3_ n4_ n5_ n6_; clear hb hbox hg; have hnb20 := NB260_261.out; have hnc20 := NB261_260.out; have hcz21_0 : w19.cell? ⟨gb260, 0, none⟩ = some (.int .i64 a0_0) := (blk_cell BK260.out 0).trans rfl; have hcz21_1 : w19.cell? ⟨gb260, 1, none⟩ = some (.int .i64 a0_1) := (blk_cell BK260.out 1).trans rfl; have hcz21_2 : w19.cell? ⟨gb260, 2, none⟩ = some (.int .i64 a0_2) := (blk_cell BK260.out 2).trans rfl; have hcz21_3 : w19.cell? ⟨gb260, 3, none⟩ = some (.int .i64 a0_3) := (blk_cell BK260.out 3).trans rfl; have hcz21_4 : w19.cell? ⟨gb260, 4, none⟩ = some (.int .i64 a0_4) := (blk_cell BK260.out 4).trans rfl; have hcz21_5 : w19.cell? ⟨gb260, 5, none⟩ = some (.int .i64 a0_5) := (blk_cell BK260.out 5).trans rfl; have hcz21_6 : w19.cell? ⟨gb260, 6, none⟩ = some (.int .i64 a0_6) := (blk_cell BK260.out 6).trans rfl; have hcz21_7 : w19.cell? ⟨gb260, 7, none⟩ = some (.int .i64 a0_7) := (blk_cell BK260.out 7).trans rfl; have hcz21_8 : w19.cell? ⟨gb260, 8, none⟩ = some (.int .i64 a0_8) := (blk_cell BK260.out 8).trans rfl; have hcz21_9 : w19.cell? ⟨gb260, 9, none⟩ = some (.int .i64 a0_9) := (blk_cell BK260.out 9).trans rfl; have hcz21_10 : w19.cell? ⟨gb260, 10, none⟩ = some (.slice A0_10 l0_10.length c0_10) := (blk_cell BK260.out 10).trans rfl; have hcz21_11 : w19.cell? ⟨gb260, 11, none⟩ = some (.int .i64 a0_11) := (blk_cell BK260.out 11).trans rfl; have hfz21_0 := blk_frozen BK260.out 0; have hfz21_1 := blk_frozen BK260.out 1; have hfz21_2 := blk_frozen BK260.out 2; have hfz21_3 := blk_frozen BK260.out 3; have hfz21_4 := blk_frozen BK260.out 4; have hfz21_5 := blk_frozen BK260.out 5; have hfz21_6 := blk_frozen BK260.out 6; have hfz21_7 := blk_frozen BK260.out 7; have hfz21_8 := blk_frozen BK260.out 8; have hfz21_9 := blk_frozen BK260.out 9; have hfz21_10 := blk_frozen BK260.out 10; have hfz21_11 := blk_frozen BK260.out 11; have hcz22_0 : w19.cell? ⟨gb261, 0, none⟩ = some (.int .i64 a1_0) := (blk_cell BK261.out 0).trans rfl; have hcz22_1 : w19.cell? ⟨gb261, 1, none⟩ = some (.int .i64 a1_1) := (blk_cell BK261.out 1).trans rfl; have hcz22_2 : w19.cell? ⟨gb261, 2, none⟩ = some (.int .i64 a1_2) := (blk_cell BK261.out 2).trans rfl; have hcz22_3 : w19.cell? ⟨gb261, 3, none⟩ = some (.int .i64 a1_3) := (blk_cell BK261.out 3).trans rfl; have hcz22_4 : w19.cell? ⟨gb261, 4, none⟩ = some (.int .i64 a1_4) := (blk_cell BK261.out 4).trans rfl; have hcz22_5 : w19.cell? ⟨gb261, 5, none⟩ = some (.int .i64 a1_5) := (blk_cell BK261.out 5).trans rfl; have hcz22_6 : w19.cell? ⟨gb261, 6, none⟩ = some (.int .i64 a1_6) := (blk_cell BK261.out 6).trans rfl; have hcz22_7 : w19.cell? ⟨gb261, 7, none⟩ = some (.int .i64 a1_7) := (blk_cell BK261.out 7).trans rfl; have hcz22_8 : w19.cell? ⟨gb261, 8, none⟩ = some (.int .i64 a1_8) := (blk_cell BK261.out 8).trans rfl; have hcz22_9 : w19.cell? ⟨gb261, 9, none⟩ = some (.int .i64 a1_9) := (blk_cell BK261.out 9).trans rfl; have hcz22_10 : w19.cell? ⟨gb261, 10, none⟩ = some (.slice A1_10 l1_10.length c1_10) := (blk_cell BK261.out 10).trans rfl; have hcz22_11 : w19.cell? ⟨gb261, 11, none⟩ = some (.int .i64 a1_11) := (blk_cell BK261.out 11).trans rfl; have hfz22_0 := blk_frozen BK261.out 0; have hfz22_1 := blk_frozen BK261.out 1; have hfz22_2 := blk_frozen BK261.out 2; have hfz22_3 := blk_frozen BK261.out 3; have hfz22_4 := blk_frozen BK261.out 4; have hfz22_5 := blk_frozen BK261.out 5; have hfz22_6 := blk_frozen BK261.out 6; have hfz22_7 := blk_frozen BK261.out 7; have hfz22_8 := blk_frozen BK261.out 8; have hfz22_9 := blk_frozen BK261.out 9; have hfz22_10 := blk_frozen BK261.out 10; have hfz22_11 := blk_frozen BK261.out 11) | (go_at_call 29; (with_reducible refine (ref06_Same.calls k a0_5 a0_6 a0_7 a0_8 a0_9 _ _ l0_10 a1_5 a1_6 a1_7 a1_8 a1_9 _ _ l1_10 false _ ?side1 ?side2 ?side3 ?side4 A8.out).mono ?_); (case side1 => repeat (first | exact (Kd.C_below HR0_10.out HB.out) | (with_reducible refine Kd.C_alloc ?_ _) | (with_reducible refine Kd.C_drewN ?_ _) | (with_reducible refine Kd.C_drew ?_))); (case side2 => exact HC0_10.out); (case side3 => repeat (first | exact (Kd.C_below HR1_10.out HB.out) | (with_reducible refine Kd.C_alloc ?_ _) | (with_reducible refine Kd.C_drewN ?_ _) | (with_reducible refine Kd.C_drew ?_))); (case side4 => exact HC1_10.out); rintro e w23 ⟨rfl, hb⟩; have n0_ := Aside0.mk (blk_below (g := gb260) (o := .cells #[.int .i64 a0_0, .int .i64 a0_1, .int .i64 a0_2, .int .i64 a0_3, .int .i64 a0_4, .int .i64 a0_5, .int .i64 a0_6, .int .i64 a0_7, .int .i64 a0_8, .int .i64 a0_9, .slice A0_10 l0_10.length c0_10, .int .i64 a0_11] 32 (0, 0)) (by (with_reducible repeat (first | refine blk_drewN ?_ _ | refine blk_drew ?_ | refine blk_alloc ?_ _)); exact BK260.out) hb); have n1_ := Aside0.mk (blk_below (g := gb261) (o := .cells #[.int .i64 a1_0, .int .i64 a1_1, .int .i64 a1_2, .int .i64 a1_3, .int .i64 a1_4, .int .i64 a1_5, .int .i64 a1_6, .int .i64 a1_7, .int .i64 a1_8, .int .i64 a1_9, .slice A1_10 l1_10.length c1_10, .int .i64 a1_11] 32 (0, 0)) (by (with_reducible repeat (first | refine blk_drewN ?_ _ | refine blk_drew ?_ | refine blk_alloc ?_ _)); exact BK261.out) hb); have n2_ := Aside0.mk (below_step (by repeat (first | (with_reducible first | exact HB.out | apply below_alloc | apply pw_below_drewN | apply below_drew1 | refine below_set ?_ GE260.out | refine below_set ?_ GE261.out) | exact HB.out)) hb); clear BK260; clear BK261; clear HB; have BK260 := n0_; have BK261 := n1_; have HB := n2_; clear n0_ n1_ n2_; (try clear hb); (try clear hb2); (try clear hk); (try clear hi)))
       go_ret
       exact ⟨by first | rfl | (simp [errW_none, errW_some] <;> rfl) | (simp [*, errW_none, errW_some] <;> rfl), by repeat (first | (with_reducible first | exact HB.out | apply below_alloc | apply pw_below_drewN | apply below_drew1 | refine below_set ?_ GE260.out | refine below_set ?_ GE261.out) | exact HB.out)⟩
     ·rw [if_neg c7] at H
      have c7b0 : (a0_4 == a1_4) = false := beq_eq_false_iff_ne.mpr c7
      have c7b1 : (a0_4 != a1_4) = true := bne_iff_ne.mpr c7
      obtain rfl := Option.some.inj H
      go_enter Try.func28, Try.ntmps28
      go_wp2_with (first | ((with_reducible refine gate_dst (N := 2) rfl ?_); refine box_event ?hg (N := 2) ?hd (cs := #[.int .i64 a0_0, .int .i64 a0_1, .int .i64 a0_2, .int .i64 a0_3, .int .i64 a0_4, .int .i64 a0_5, .int .i64 a0_6, .int .i64 a0_7, .int .i64 a0_8, .int .i64 a0_9, .slice A0_10 l0_10.length c0_10, .int .i64 a0_11]) (t := 32) ?hr ?_; (case hd => rfl); (case hg => rfl); (case hr => first | (go_simp; done) | (go_simp; rfl)); intro gb260 hg w24 hbox hb; have n0_ := Aside0.mk (below_step (by repeat (first | (with_reducible first | exact HB.out | apply below_alloc | apply pw_below_drewN | apply below_drew1) | exact HB.out)) hb); have n1_ := Aside0.mk (hbox); have n2_ := Aside0.mk ((by rw [hg]; exact (below_size (by repeat (first | (with_reducible first | exact HB.out | apply below_alloc | apply pw_below_drewN | apply below_drew1) | exact HB.out))) : w.heap.size ≤ gb260)); have n3_ := Aside0.mk ((by rw [hg]; exact (below_size (by repeat (first | (with_reducible first | exact HB.out | apply below_alloc | apply pw_below_drewN | apply below_drew1) | exact HB.out))) : w.heap.size ≤ gb260)); clear HB; have HB := n0_; have BK260 := n1_; have GW260 := n2_; have GE260 := n3_; clear n0_ n1_ n2_ n3_; clear hb hbox hg) | ((with_reducible refine gate_dst (N := 3) rfl ?_); refine box_event ?hg (N := 3) ?hd (cs := #[.int .i64 a1_0, .int .i64 a1_1, .int .i64 a1_2, .int .i64 a1_3, .int .i64 a1_4, .int .i64 a1_5, .int .i64 a1_6, .int .i64 a1_7, .int .i64 a1_8, .int .i64 a1_9, .slice A1_10 l1_10.length c1_10, .int .i64 a1_11]) (t := 32) ?hr ?_; (case hd => rfl); (case hg => rfl); (case hr => first | (go_simp; done) | (go_simp; rfl)); intro gb261 hg w25 hbox hb; have n0_ := Aside0.mk (blk_below (g := gb260) (o := .cells #[.int .i64 a0_0, .int .i64 a0_1, .int .i64 a0_2, .int .i64 a0_3, .int .i64 a0_4, .int .i64 a0_5, .int .i64 a0_6, .int .i64 a0_7, .int .i64 a0_8, .int .i64 a0_9, .slice A0_10 l0_10.length c0_10, .int .i64 a0_11] 32 (0, 0)) (by (with_reducible repeat (first | refine blk_drewN ?_ _ | refine blk_drew ?_ | refine blk_alloc ?_ _)); exact BK260.out) hb); have n1_ := Aside0.mk (below_step (by repeat (first | (with_reducible first | exact HB.out | apply below_alloc | apply pw_below_drewN | apply below_drew1 | refine below_set ?_ GE260.out) | exact HB.out)) hb); have n2_ := Aside0.mk (hbox); have n3_ := Aside0.mk ((by rw [hg]; exact (below_size (by repeat (first | (with_reducible first | exact HB.out | apply below_alloc | apply pw_below_drewN | apply below_drew1 | refine below_set ?_ GE260.out) | exact HB.out))) : w.heap.size ≤ gb261)); have n4_ := Aside0.mk ((by rw [hg]; exact (below_size (by repeat (first | (with_reducible first | exact HB.out | apply below_alloc | apply pw_below_drewN | apply below_drew1 | refine below_set ?_ GE260.out) | exact HB.out))) : w.heap.size ≤ gb261)); have n5_ := Aside0.mk ((by rw [hg]; exact Nat.ne_of_lt (blk_lt (g := gb260) (o := .cells #[.int .i64 a0_0, .int .i64 a0_1, .int .i64 a0_2, .int .i64 a0_3, .int .i64 a0_4, .int .i64 a0_5, .int .i64 a0_6, .int .i64 a0_7, .int .i64 a0_8, .int .i64 a0_9, .slice A0_10 l0_10.length c0_10, .int .i64 a0_11] 32 (0, 0)) (by (with_reducible repeat (first | refine blk_drewN ?_ _ | refine blk_drew ?_ | refine blk_alloc ?_ _)); exact BK260.out)) : gb260 ≠ gb261)); have n6_ := Aside0.mk ((by rw [hg]; exact Nat.ne_of_gt (blk_lt (g := gb260) (o := .cells #[.int .i64 a0_0, .int .i64 a0_1, .int .i64 a0_2, .int .i64 a0_3, .int .i64 a0_4, .int .i64 a0_5, .int .i64 a0_6, .int .i64 a0_7, .int .i64 a0_8, .int .i64 a0_9, .slice A0_10 l0_10.length c0_10, .int .i64 a0_11] 32 (0, 0)) (by (with_reducible repeat (first | refine blk_drewN ?_ _ | refine blk_drew ?_ | refine blk_alloc ?_ _)); exact BK260.out)) : gb261 ≠ gb260)); clear BK260; clear HB; have BK260 := n0_; have HB := n1_; have BK261 := n2_; have GW261 := n3_; have GE261 := n4_; have NB260_261 := n5_; have NB261_260 := n6_; clear n0_ n1_ n2_ n3_ n4_ n5_ n6_; clear hb hbox hg; have hnb26 := NB260_261.out; have hnc26 := NB261_260.out; have hcz27_0 : w25.cell? ⟨gb260, 0, none⟩ = some (.int .i64 a0_0) := (blk_cell BK260.out 0).trans rfl; have hcz27_1 : w25.cell? ⟨gb260, 1, none⟩ = some (.int .i64 a0_1) := (blk_cell BK260.out 1).trans rfl; have hcz27_2 : w25.cell? ⟨gb260, 2, none⟩ = some (.int .i64 a0_2) := (blk_cell BK260.out 2).trans rfl; have hcz27_3 : w25.cell? ⟨gb260, 3, none⟩ = some (.int .i64 a0_3) := (blk_cell BK260.out 3).trans rfl; have hcz27_4 : w25.cell? ⟨gb260, 4, none⟩ = some (.int .i64 a0_4) := (blk_cell BK260.out 4).trans rfl; have hcz27_5 : w25.cell? ⟨gb260, 5, none⟩ = some (.int .i64 a0_5) := (blk_cell BK260.out 5).trans rfl; have hcz27_6 : w25.cell? ⟨gb260, 6, none⟩ = some (.int .i64 a0_6) := (blk_cell BK260.out 6).trans rfl; have hcz27_7 : w25.cell? ⟨gb260, 7, none⟩ = some (.int .i64 a0_7) := (blk_cell BK260.out 7).trans rfl; have hcz27_8 : w25.cell? ⟨gb260, 8, none⟩ = some (.int .i64 a0_8) := (blk_cell BK260.out 8).trans rfl; have hcz27_9 : w25.cell? ⟨gb260, 9, none⟩ = some (.int .i64 a0_9) := (blk_cell BK260.out 9).trans rfl; have hcz27_10 : w25.cell? ⟨gb260, 10, none⟩ = some (.slice A0_10 l0_10.length c0_10) := (blk_cell BK260.out 10).trans rfl; have hcz27_11 : w25.cell? ⟨gb260, 11, none⟩ = some (.int .i64 a0_11) := (blk_cell BK260.out 11).trans rfl; have hfz27_0 := blk_frozen BK260.out 0; have hfz27_1 := blk_frozen BK260.out 1; have hfz27_2 := blk_frozen BK260.out 2; have hfz27_3 := blk_frozen BK260.out 3; have hfz27_4 := blk_frozen BK260.out 4; have hfz27_5 := blk_frozen BK260.out 5; have hfz27_6 := blk_frozen BK260.out 6; have hfz27_7 := blk_frozen BK260.out 7; have hfz27_8 := blk_frozen BK260.out 8; have hfz27_9 := blk_frozen BK260.out 9; have hfz27_10 := blk_frozen BK260.out 10; have hfz27_11 := blk_frozen BK260.out 11; have hcz28_0 : w25.cell? ⟨gb261, 0, none⟩ = some (.int .i64 a1_0) := (blk_cell BK261.out 0).trans rfl; have hcz28_1 : w25.cell? ⟨gb261, 1, none⟩ = some (.int .i64 a1_1) := (blk_cell BK261.out 1).trans rfl; have hcz28_2 : w25.cell? ⟨gb261, 2, none⟩ = some (.int .i64 a1_2) := (blk_cell BK261.out 2).trans rfl; have hcz28_3 : w25.cell? ⟨gb261, 3, none⟩ = some (.int .i64 a1_3) := (blk_cell BK261.out 3).trans rfl; have hcz28_4 : w25.cell? ⟨gb261, 4, none⟩ = some (.int .i64 a1_4) := (blk_cell BK261.out 4).trans rfl; have hcz28_5 : w25.cell? ⟨gb261, 5, none⟩ = some (.int .i64 a1_5) := (blk_cell BK261.out 5).trans rfl; have hcz28_6 : w25.cell? ⟨gb261, 6, none⟩ = some (.int .i64 a1_6) := (blk_cell BK261.out 6).trans rfl; have hcz28_7 : w25.cell? ⟨gb261, 7, none⟩ = some (.int .i64 a1_7) := (blk_cell BK261.out 7).trans rfl; have hcz28_8 : w25.cell? ⟨gb261, 8, none⟩ = some (.int .i64 a1_8) := (blk_cell BK261.out 8).trans rfl; have hcz28_9 : w25.cell? ⟨gb261, 9, none⟩ = some (.int .i64 a1_9) := (blk_cell BK261.out 9).trans rfl; have hcz28_10 : w25.cell? ⟨gb261, 10, none⟩ = some (.slice A1_10 l1_10.length c1_10) := (blk_cell BK261.out 10).trans rfl; have hcz28_11 : w25.cell? ⟨gb261, 11, none⟩ = some (.int .i64 a1_11) := (blk_cell BK261.out 11).trans rfl; have hfz28_0 := blk_frozen BK261.out 0; have hfz28_1 := blk_frozen BK261.out 1; have hfz28_2 := blk_frozen BK261.out 2; have hfz28_3 := blk_frozen BK261.out 3; have hfz28_4 := blk_frozen BK261.out 4; have hfz28_5 := blk_frozen BK261.out 5; have hfz28_6 := blk_frozen BK261.out 6; have hfz28_7 := blk_frozen BK261.out 7; have hfz28_8 := blk_frozen BK261.out 8; have hfz28_9 := blk_frozen BK261.out 9; have hfz28_10 := blk_frozen BK261.out 10; have hfz28_11 := blk_frozen BK261.out 11))
      go_ret
      exact ⟨by first | rfl | (simp [errW_none, errW_some] <;> rfl) | (simp [*, errW_none, errW_some] <;> rfl), by repeat (first | (with_reducible first | exact HB.out | apply below_alloc | apply pw_below_drewN | apply below_drew1 | refine below_set ?_ GE260.out | refine below_set ?_ GE261.out) | exact HB.out)⟩
    ·rw [if_neg c6] at H
     have c6b0 : (a0_3 == a1_3) = false := beq_eq_false_iff_ne.mpr c6
     have c6b1 : (a0_3 != a1_3) = true := bne_iff_ne.mpr c6
     obtain rfl := Option.some.inj H
     go_enter Try.func28, Try.ntmps28
     go_wp2_with (first | ((with_reducible refine gate_dst (N := 2) rfl ?_); refine box_event ?hg (N := 2) ?hd (cs := #[.int .i64 a0_0, .int .i64 a0_1, .int .i64 a0_2, .int .i64 a0_3, .int .i64 a0_4, .int .i64 a0_5, .int .i64 a0_6, .int .i64 a0_7, .int .i64 a0_8, .int .i64 a0_9, .slice A0_10 l0_10.length c0_10, .int .i64 a0_11]) (t := 32) ?hr ?_; (case hd => rfl); (case hg => rfl); (case hr => first | (go_simp; done) | (go_simp; rfl)); intro gb260 hg w29 hbox hb; have n0_ := Aside0.mk (below_step (by repeat (first | (with_reducible first | exact HB.out | apply below_alloc | apply pw_below_drewN | apply below_drew1) | exact HB.out)) hb); have n1_ := Aside0.mk (hbox); have n2_ := Aside0.mk ((by rw [hg]; exact (below_size (by repeat (first | (with_reducible first | exact HB.out | apply below_alloc | apply pw_below_drewN | apply below_drew1) | exact HB.out))) : w.heap.size ≤ gb260)); have n3_ := Aside0.mk ((by rw [hg]; exact (below_size (by repeat (first | (with_reducible first | exact HB.out | apply below_alloc | apply pw_below_drewN | apply below_drew1) | exact HB.out))) : w.heap.size ≤ gb260)); clear HB; have HB := n0_; have BK260 := n1_; have GW260 := n2_; have GE260 := n3_; clear n0_ n1_ n2_ n3_; clear hb hbox hg) | ((with_reducible refine gate_dst (N := 3) rfl ?_); refine box_event ?hg (N := 3) ?hd (cs := #[.int .i64 a1_0, .int .i64 a1_1, .int .i64 a1_2, .int .i64 a1_3, .int .i64 a1_4, .int .i64 a1_5, .int .i64 a1_6, .int .i64 a1_7, .int .i64 a1_8, .int .i64 a1_9, .slice A1_10 l1_10.length c1_10, .int .i64 a1_11]) (t := 32) ?hr ?_; (case hd => rfl); (case hg => rfl); (case hr => first | (go_simp; done) | (go_simp; rfl)); intro gb261 hg w30 hbox hb; have n0_ := Aside0.mk (blk_below (g := gb260) (o := .cells #[.int .i64 a0_0, .int .i64 a0_1, .int .i64 a0_2, .int .i64 a0_3, .int .i64 a0_4, .int .i64 a0_5, .int .i64 a0_6, .int .i64 a0_7, .int .i64 a0_8, .int .i64 a0_9, .slice A0_10 l0_10.length c0_10, .int .i64 a0_11] 32 (0, 0)) (by (with_reducible repeat (first | refine blk_drewN ?_ _ | refine blk_drew ?_ | refine blk_alloc ?_ _)); exact BK260.out) hb); have n1_ := Aside0.mk (below_step (by repeat (first | (with_reducible first | exact HB.out | apply below_alloc | apply pw_below_drewN | apply below_drew1 | refine below_set ?_ GE260.out) | exact HB.out)) hb); have n2_ := Aside0.mk (hbox); have n3_ := Aside0.mk ((by rw [hg]; exact (below_size (by repeat (first | (with_reducible first | exact HB.out | apply below_alloc | apply pw_below_drewN | apply below_drew1 | refine below_set ?_ GE260.out) | exact HB.out))) : w.heap.size ≤ gb261)); have n4_ := Aside0.mk ((by rw [hg]; exact (below_size (by repeat (first | (with_reducible first | exact HB.out | apply below_alloc | apply pw_below_drewN | apply below_drew1 | refine below_set ?_ GE260.out) | exact HB.out))) : w.heap.size ≤ gb261)); have n5_ := Aside0.mk ((by rw [hg]; exact Nat.ne_of_lt (blk_lt (g := gb260) (o := .cells #[.int .i64 a0_0, .int .i64 a0_1, .int .i64 a0_2, .int .i64 a0_3, .int .i64 a0_4, .int .i64 a0_5, .int .i64 a0_6, .int .i64 a0_7, .int .i64 a0_8, .int .i64 a0_9, .slice A0_10 l0_10.length c0_10, .int .i64 a0_11] 32 (0, 0)) (by (with_reducible repeat (first | refine blk_drewN ?_ _ | refine blk_drew ?_ | refine blk_alloc ?_ _)); exact BK260.out)) : gb260 ≠ gb261)); have n6_ := Aside0.mk ((by rw [hg]; exact Nat.ne_of_gt (blk_lt (g := gb260) (o := .cells #[.int .i64 a0_0, .int .i64 a0_1, .int .i64 a0_2, .int .i64 a0_3, .int .i64 a0_4, .int .i64 a0_5, .int .i64 a0_6, .int .i64 a0_7, .int .i64 a0_8, .int .i64 a0_9, .slice A0_10 l0_10.length c0_10, .int .i64 a0_11] 32 (0, 0)) (by (with_reducible repeat (first | refine blk_drewN ?_ _ | refine blk_drew ?_ | refine blk_alloc ?_ _)); exact BK260.out)) : gb261 ≠ gb260)); clear BK260; clear HB; have BK260 := n0_; have HB := n1_; have BK261 := n2_; have GW261 := n3_; have GE261 := n4_; have NB260_261 := n5_; have NB261_260 := n6_; clear n0_ n1_ n2_ n3_ n4_ n5_ n6_; clear hb hbox hg; have hnb31 := NB260_261.out; have hnc31 := NB261_260.out; have hcz32_0 : w30.cell? ⟨gb260, 0, none⟩ = some (.int .i64 a0_0) := (blk_cell BK260.out 0).trans rfl; have hcz32_1 : w30.cell? ⟨gb260, 1, none⟩ = some (.int .i64 a0_1) := (blk_cell BK260.out 1).trans rfl; have hcz32_2 : w30.cell? ⟨gb260, 2, none⟩ = some (.int .i64 a0_2) := (blk_cell BK260.out 2).trans rfl; have hcz32_3 : w30.cell? ⟨gb260, 3, none⟩ = some (.int .i64 a0_3) := (blk_cell BK260.out 3).trans rfl; have hcz32_4 : w30.cell? ⟨gb260, 4, none⟩ = some (.int .i64 a0_4) := (blk_cell BK260.out 4).trans rfl; have hcz32_5 : w30.cell? ⟨gb260, 5, none⟩ = some (.int .i64 a0_5) := (blk_cell BK260.out 5).trans rfl; have hcz32_6 : w30.cell? ⟨gb260, 6, none⟩ = some (.int .i64 a0_6) := (blk_cell BK260.out 6).trans rfl; have hcz32_7 : w30.cell? ⟨gb260, 7, none⟩ = some (.int .i64 a0_7) := (blk_cell BK260.out 7).trans rfl; have hcz32_8 : w30.cell? ⟨gb260, 8, none⟩ = some (.int .i64 a0_8) := (blk_cell BK260.out 8).trans rfl; have hcz32_9 : w30.cell? ⟨gb260, 9, none⟩ = some (.int .i64 a0_9) := (blk_cell BK260.out 9).trans rfl; have hcz32_10 : w30.cell? ⟨gb260, 10, none⟩ = some (.slice A0_10 l0_10.length c0_10) := (blk_cell BK260.out 10).trans rfl; have hcz32_11 : w30.cell? ⟨gb260, 11, none⟩ = some (.int .i64 a0_11) := (blk_cell BK260.out 11).trans rfl; have hfz32_0 := blk_frozen BK260.out 0; have hfz32_1 := blk_frozen BK260.out 1; have hfz32_2 := blk_frozen BK260.out 2; have hfz32_3 := blk_frozen BK260.out 3; have hfz32_4 := blk_frozen BK260.out 4; have hfz32_5 := blk_frozen BK260.out 5; have hfz32_6 := blk_frozen BK260.out 6; have hfz32_7 := blk_frozen BK260.out 7; have hfz32_8 := blk_frozen BK260.out 8; have hfz32_9 := blk_frozen BK260.out 9; have hfz32_10 := blk_frozen BK260.out 10; have hfz32_11 := blk_frozen BK260.out 11; have hcz33_0 : w30.cell? ⟨gb261, 0, none⟩ = some (.int .i64 a1_0) := (blk_cell BK261.out 0).trans rfl; have hcz33_1 : w30.cell? ⟨gb261, 1, none⟩ = some (.int .i64 a1_1) := (blk_cell BK261.out 1).trans rfl; have hcz33_2 : w30.cell? ⟨gb261, 2, none⟩ = some (.int .i64 a1_2) := (blk_cell BK261.out 2).trans rfl; have hcz33_3 : w30.cell? ⟨gb261, 3, none⟩ = some (.int .i64 a1_3) := (blk_cell BK261.out 3).trans rfl; have hcz33_4 : w30.cell? ⟨gb261, 4, none⟩ = some (.int .i64 a1_4) := (blk_cell BK261.out 4).trans rfl; have hcz33_5 : w30.cell? ⟨gb261, 5, none⟩ = some (.int .i64 a1_5) := (blk_cell BK261.out 5).trans rfl; have hcz33_6 : w30.cell? ⟨gb261, 6, none⟩ = some (.int .i64 a1_6) := (blk_cell BK261.out 6).trans rfl; have hcz33_7 : w30.cell? ⟨gb261, 7, none⟩ = some (.int .i64 a1_7) := (blk_cell BK261.out 7).trans rfl; have hcz33_8 : w30.cell? ⟨gb261, 8, none⟩ = some (.int .i64 a1_8) := (blk_cell BK261.out 8).trans rfl; have hcz33_9 : w30.cell? ⟨gb261, 9, none⟩ = some (.int .i64 a1_9) := (blk_cell BK261.out 9).trans rfl; have hcz33_10 : w30.cell? ⟨gb261, 10, none⟩ = some (.slice A1_10 l1_10.length c1_10) := (blk_cell BK261.out 10).trans rfl; have hcz33_11 : w30.cell? ⟨gb261, 11, none⟩ = some (.int .i64 a1_11) := (blk_cell BK261.out 11).trans rfl; have hfz33_0 := blk_frozen BK261.out 0; have hfz33_1 := blk_frozen BK261.out 1; have hfz33_2 := blk_frozen BK261.out 2; have hfz33_3 := blk_frozen BK261.out 3; have hfz33_4 := blk_frozen BK261.out 4; have hfz33_5 := blk_frozen BK261.out 5; have hfz33_6 := blk_frozen BK261.out 6; have hfz33_7 := blk_frozen BK261.out 7; have hfz33_8 := blk_frozen BK261.out 8; have hfz33_9 := blk_frozen BK261.out 9; have hfz33_10 := blk_frozen BK261.out 10; have hfz33_11 := blk_frozen BK261.out 11))
     go_ret
     exact ⟨by first | rfl | (simp [errW_none, errW_some] <;> rfl) | (simp [*, errW_none, errW_some] <;> rfl), by repeat (first | (with_reducible first | exact HB.out | apply below_alloc | apply pw_below_drewN | apply below_drew1 | refine below_set ?_ GE260.out | refine below_set ?_ GE261.out) | exact HB.out)⟩
   ·rw [if_neg c5] at H
    have c5b0 : (a0_2 == a1_2) = false := beq_eq_false_iff_ne.mpr c5
    have c5b1 : (a0_2 != a1_2) = true := bne_iff_ne.mpr c5
    obtain rfl := Option.some.inj H
    go_enter Try.func28, Try.ntmps28
    go_wp2_with (first | ((with_reducible refine gate_dst (N := 2) rfl ?_); refine box_event ?hg (N := 2) ?hd (cs := #[.int .i64 a0_0, .int .i64 a0_1, .int .i64 a0_2, .int .i64 a0_3, .int .i64 a0_4, .int .i64 a0_5, .int .i64 a0_6, .int .i64 a0_7, .int .i64 a0_8, .int .i64 a0_9, .slice A0_10 l0_10.length c0_10, .int .i64 a0_11]) (t := 32) ?hr ?_; (case hd => rfl); (case hg => rfl); (case hr => first | (go_simp; done) | (go_simp; rfl)); intro gb260 hg w34 hbox hb; have n0_ := Aside0.mk (below_step (by repeat (first | (with_reducible first | exact HB.out | apply below_alloc | apply pw_below_drewN | apply below_drew1) | exact HB.out)) hb); have n1_ := Aside0.mk (hbox); have n2_ := Aside0.mk ((by rw [hg]; exact (below_size (by repeat (first | (with_reducible first | exact HB.out | apply below_alloc | apply pw_below_drewN | apply below_drew1) | exact HB.out))) : w.heap.size ≤ gb260)); have n3_ := Aside0.mk ((by rw [hg]; exact (below_size (by repeat (first | (with_reducible first | exact HB.out | apply below_alloc | apply pw_below_drewN | apply below_drew1) | exact HB.out))) : w.heap.size ≤ gb260)); clear HB; have HB := n0_; have BK260 := n1_; have GW260 := n2_; have GE260 := n3_; clear n0_ n1_ n2_ n3_; clear hb hbox hg) | ((with_reducible refine gate_dst (N := 3) rfl ?_); refine box_event ?hg (N := 3) ?hd (cs := #[.int .i64 a1_0, .int .i64 a1_1, .int .i64 a1_2, .int .i64 a1_3, .int .i64 a1_4, .int .i64 a1_5, .int .i64 a1_6, .int .i64 a1_7, .int .i64 a1_8, .int .i64 a1_9, .slice A1_10 l1_10.length c1_10, .int .i64 a1_11]) (t := 32) ?hr ?_; (case hd => rfl); (case hg => rfl); (case hr => first | (go_simp; done) | (go_simp; rfl)); intro gb261 hg w35 hbox hb; have n0_ := Aside0.mk (blk_below (g := gb260) (o := .cells #[.int .i64 a0_0, .int .i64 a0_1, .int .i64 a0_2, .int .i64 a0_3, .int .i64 a0_4, .int .i64 a0_5, .int .i64 a0_6, .int .i64 a0_7, .int .i64 a0_8, .int .i64 a0_9, .slice A0_10 l0_10.length c0_10, .int .i64 a0_11] 32 (0, 0)) (by (with_reducible repeat (first | refine blk_drewN ?_ _ | refine blk_drew ?_ | refine blk_alloc ?_ _)); exact BK260.out) hb); have n1_ := Aside0.mk (below_step (by repeat (first | (with_reducible first | exact HB.out | apply below_alloc | apply pw_below_drewN | apply below_drew1 | refine below_set ?_ GE260.out) | exact HB.out)) hb); have n2_ := Aside0.mk (hbox); have n3_ := Aside0.mk ((by rw [hg]; exact (below_size (by repeat (first | (with_reducible first | exact HB.out | apply below_alloc | apply pw_below_drewN | apply below_drew1 | refine below_set ?_ GE260.out) | exact HB.out))) : w.heap.size ≤ gb261)); have n4_ := Aside0.mk ((by rw [hg]; exact (below_size (by repeat (first | (with_reducible first | exact HB.out | apply below_alloc | apply pw_below_drewN | apply below_drew1 | refine below_set ?_ GE260.out) | exact HB.out))) : w.heap.size ≤ gb261)); have n5_ := Aside0.mk ((by rw [hg]; exact Nat.ne_of_lt (blk_lt (g := gb260) (o := .cells #[.int .i64 a0_0, .int .i64 a0_1, .int .i64 a0_2, .int .i64 a0_3, .int .i64 a0_4, .int .i64 a0_5, .int .i64 a0_6, .int .i64 a0_7, .int .i64 a0_8, .int .i64 a0_9, .slice A0_10 l0_10.length c0_10, .int .i64 a0_11] 32 (0, 0)) (by (with_reducible repeat (first | refine blk_drewN ?_ _ | refine blk_drew ?_ | refine blk_alloc ?_ _)); exact BK260.out)) : gb260 ≠ gb261)); have n6_ := Aside0.mk ((by rw [hg]; exact Nat.ne_of_gt (blk_lt (g := gb260) (o := .cells #[.int .i64 a0_0, .int .i64 a0_1, .int .i64 a0_2, .int .i64 a0_3, .int .i64 a0_4, .int .i64 a0_5, .int .i64 a0_6, .int .i64 a0_7, .int .i64 a0_8, .int .i64 a0_9, .slice A0_10 l0_10.length c0_10, .int .i64 a0_11] 32 (0, 0)) (by (with_reducible repeat (first | refine blk_drewN ?_ _ | refine blk_drew ?_ | refine blk_alloc ?_ _)); exact BK260.out)) : gb261 ≠ gb260)); clear BK260; clear HB; have BK260 := n0_; have HB := n1_; have BK261 := n2_; have GW261 := n3_; have GE261 := n4_; have NB260_261 := n5_; have NB261_260 := n6_; clear n0_ n1_ n2_ n3_ n4_ n5_ n6_; clear hb hbox hg; have hnb36 := NB260_261.out; have hnc36 := NB261_260.out; have hcz37_0 : w35.cell? ⟨gb260, 0, none⟩ = some (.int .i64 a0_0) := (blk_cell BK260.out 0).trans rfl; have hcz37_1 : w35.cell? ⟨gb260, 1, none⟩ = some (.int .i64 a0_1) := (blk_cell BK260.out 1).trans rfl; have hcz37_2 : w35.cell? ⟨gb260, 2, none⟩ = some (.int .i64 a0_2) := (blk_cell BK260.out 2).trans rfl; have hcz37_3 : w35.cell? ⟨gb260, 3, none⟩ = some (.int .i64 a0_3) := (blk_cell BK260.out 3).trans rfl; have hcz37_4 : w35.cell? ⟨gb260, 4, none⟩ = some (.int .i64 a0_4) := (blk_cell BK260.out 4).trans rfl; have hcz37_5 : w35.cell? ⟨gb260, 5, none⟩ = some (.int .i64 a0_5) := (blk_cell BK260.out 5).trans rfl; have hcz37_6 : w35.cell? ⟨gb260, 6, none⟩ = some (.int .i64 a0_6) := (blk_cell BK260.out 6).trans rfl; have hcz37_7 : w35.cell? ⟨gb260, 7, none⟩ = some (.int .i64 a0_7) := (blk_cell BK260.out 7).trans rfl; have hcz37_8 : w35.cell? ⟨gb260, 8, none⟩ = some (.int .i64 a0_8) := (blk_cell BK260.out 8).trans rfl; have hcz37_9 : w35.cell? ⟨gb260, 9, none⟩ = some (.int .i64 a0_9) := (blk_cell BK260.out 9).trans rfl; have hcz37_10 : w35.cell? ⟨gb260, 10, none⟩ = some (.slice A0_10 l0_10.length c0_10) := (blk_cell BK260.out 10).trans rfl; have hcz37_11 : w35.cell? ⟨gb260, 11, none⟩ = some (.int .i64 a0_11) := (blk_cell BK260.out 11).trans rfl; have hfz37_0 := blk_frozen BK260.out 0; have hfz37_1 := blk_frozen BK260.out 1; have hfz37_2 := blk_frozen BK260.out 2; have hfz37_3 := blk_frozen BK260.out 3; have hfz37_4 := blk_frozen BK260.out 4; have hfz37_5 := blk_frozen BK260.out 5; have hfz37_6 := blk_frozen BK260.out 6; have hfz37_7 := blk_frozen BK260.out 7; have hfz37_8 := blk_frozen BK260.out 8; have hfz37_9 := blk_frozen BK260.out 9; have hfz37_10 := blk_frozen BK260.out 10; have hfz37_11 := blk_frozen BK260.out 11; have hcz38_0 : w35.cell? ⟨gb261, 0, none⟩ = some (.int .i64 a1_0) := (blk_cell BK261.out 0).trans rfl; have hcz38_1 : w35.cell? ⟨gb261, 1, none⟩ = some (.int .i64 a1_1) := (blk_cell BK261.out 1).trans rfl; have hcz38_2 : w35.cell? ⟨gb261, 2, none⟩ = some (.int .i64 a1_2) := (blk_cell BK261.out 2).trans rfl; have hcz38_3 : w35.cell? ⟨gb261, 3, none⟩ = some (.int .i64 a1_3) := (blk_cell BK261.out 3).trans rfl; have hcz38_4 : w35.cell? ⟨gb261, 4, none⟩ = some (.int .i64 a1_4) := (blk_cell BK261.out 4).trans rfl; have hcz38_5 : w35.cell? ⟨gb261, 5, none⟩ = some (.int .i64 a1_5) := (blk_cell BK261.out 5).trans rfl; have hcz38_6 : w35.cell? ⟨gb261, 6, none⟩ = some (.int .i64 a1_6) := (blk_cell BK261.out 6).trans rfl; have hcz38_7 : w35.cell? ⟨gb261, 7, none⟩ = some (.int .i64 a1_7) := (blk_cell BK261.out 7).trans rfl; have hcz38_8 : w35.cell? ⟨gb261, 8, none⟩ = some (.int .i64 a1_8) := (blk_cell BK261.out 8).trans rfl; have hcz38_9 : w35.cell? ⟨gb261, 9, none⟩ = some (.int .i64 a1_9) := (blk_cell BK261.out 9).trans rfl; have hcz38_10 : w35.cell? ⟨gb261, 10, none⟩ = some (.slice A1_10 l1_10.length c1_10) := (blk_cell BK261.out 10).trans rfl; have hcz38_11 : w35.cell? ⟨gb261, 11, none⟩ = some (.int .i64 a1_11) := (blk_cell BK261.out 11).trans rfl; have hfz38_0 := blk_frozen BK261.out 0; have hfz38_1 := blk_frozen BK261.out 1; have hfz38_2 := blk_frozen BK261.out 2; have hfz38_3 := blk_frozen BK261.out 3; have hfz38_4 := blk_frozen BK261.out 4; have hfz38_5 := blk_frozen BK261.out 5; have hfz38_6 := blk_frozen BK261.out 6; have hfz38_7 := blk_frozen BK261.out 7; have hfz38_8 := blk_frozen BK261.out 8; have hfz38_9 := blk_frozen BK261.out 9; have hfz38_10 := blk_frozen BK261.out 10; have hfz38_11 := blk_frozen BK261.out 11))
    go_ret
    exact ⟨by first | rfl | (simp [errW_none, errW_some] <;> rfl) | (simp [*, errW_none, errW_some] <;> rfl), by repeat (first | (with_reducible first | exact HB.out | apply below_alloc | apply pw_below_drewN | apply below_drew1 | refine below_set ?_ GE260.out | refine below_set ?_ GE261.out) | exact HB.out)⟩
  ·rw [if_neg c4] at H
   have c4b0 : (a0_1 == a1_1) = false := beq_eq_false_iff_ne.mpr c4
   have c4b1 : (a0_1 != a1_1) = true := bne_iff_ne.mpr c4
   obtain rfl := Option.some.inj H
   go_enter Try.func28, Try.ntmps28
   go_wp2_with (first | ((with_reducible refine gate_dst (N := 2) rfl ?_); refine box_event ?hg (N := 2) ?hd (cs := #[.int .i64 a0_0, .int .i64 a0_1, .int .i64 a0_2, .int .i64 a0_3, .int .i64 a0_4, .int .i64 a0_5, .int .i64 a0_6, .int .i64 a0_7, .int .i64 a0_8, .int .i64 a0_9, .slice A0_10 l0_10.length c0_10, .int .i64 a0_11]) (t := 32) ?hr ?_; (case hd => rfl); (case hg => rfl); (case hr => first | (go_simp; done) | (go_simp; rfl)); intro gb260 hg w39 hbox hb; have n0_ := Aside0.mk (below_step (by repeat (first | (with_reducible first | exact HB.out | apply below_alloc | apply pw_below_drewN | apply below_drew1) | exact HB.out)) hb); have n1_ := Aside0.mk (hbox); have n2_ := Aside0.mk ((by rw [hg]; exact (below_size (by repeat (first | (with_reducible first | exact HB.out | apply below_alloc | apply pw_below_drewN | apply below_drew1) | exact HB.out))) : w.heap.size ≤ gb260)); have n3_ := Aside0.mk ((by rw [hg]; exact (below_size (by repeat (first | (with_reducible first | exact HB.out | apply below_alloc | apply pw_below_drewN | apply below_drew1) | exact HB.out))) : w.heap.size ≤ gb260)); clear HB; have HB := n0_; have BK260 := n1_; have GW260 := n2_; have GE260 := n3_; clear n0_ n1_ n2_ n3_; clear hb hbox hg) | ((with_reducible refine gate_dst (N := 3) rfl ?_); refine box_event ?hg (N := 3) ?hd (cs := #[.int .i64 a1_0, .int .i64 a1_1, .int .i64 a1_2, .int .i64 a1_3, .int .i64 a1_4, .int .i64 a1_5, .int .i64 a1_6, .int .i64 a1_7, .int .i64 a1_8, .int .i64 a1_9, .slice A1_10 l1_10.length c1_10, .int .i64 a1_11]) (t := 32) ?hr ?_; (case hd => rfl); (case hg => rfl); (case hr => first | (go_simp; done) | (go_simp; rfl)); intro gb261 hg w40 hbox hb; have n0_ := Aside0.mk (blk_below (g := gb260) (o := .cells #[.int .i64 a0_0, .int .i64 a0_1, .int .i64 a0_2, .int .i64 a0_3, .int .i64 a0_4, .int .i64 a0_5, .int .i64 a0_6, .int .i64 a0_7, .int .i64 a0_8, .int .i64 a0_9, .slice A0_10 l0_10.length c0_10, .int .i64 a0_11] 32 (0, 0)) (by (with_reducible repeat (first | refine blk_drewN ?_ _ | refine blk_drew ?_ | refine blk_alloc ?_ _)); exact BK260.out) hb); have n1_ := Aside0.mk (below_step (by repeat (first | (with_reducible first | exact HB.out | apply below_alloc | apply pw_below_drewN | apply below_drew1 | refine below_set ?_ GE260.out) | exact HB.out)) hb); have n2_ := Aside0.mk (hbox); have n3_ := Aside0.mk ((by rw [hg]; exact (below_size (by repeat (first | (with_reducible first | exact HB.out | apply below_alloc | apply pw_below_drewN | apply below_drew1 | refine below_set ?_ GE260.out) | exact HB.out))) : w.heap.size ≤ gb261)); have n4_ := Aside0.mk ((by rw [hg]; exact (below_size (by repeat (first | (with_reducible first | exact HB.out | apply below_alloc | apply pw_below_drewN | apply below_drew1 | refine below_set ?_ GE260.out) | exact HB.out))) : w.heap.size ≤ gb261)); have n5_ := Aside0.mk ((by rw [hg]; exact Nat.ne_of_lt (blk_lt (g := gb260) (o := .cells #[.int .i64 a0_0, .int .i64 a0_1, .int .i64 a0_2, .int .i64 a0_3, .int .i64 a0_4, .int .i64 a0_5, .int .i64 a0_6, .int .i64 a0_7, .int .i64 a0_8, .int .i64 a0_9, .slice A0_10 l0_10.length c0_10, .int .i64 a0_11] 32 (0, 0)) (by (with_reducible repeat (first | refine blk_drewN ?_ _ | refine blk_drew ?_ | refine blk_alloc ?_ _)); exact BK260.out)) : gb260 ≠ gb261)); have n6_ := Aside0.mk ((by rw [hg]; exact Nat.ne_of_gt (blk_lt (g := gb260) (o := .cells #[.int .i64 a0_0, .int .i64 a0_1, .int .i64 a0_2, .int .i64 a0_3, .int .i64 a0_4, .int .i64 a0_5, .int .i64 a0_6, .int .i64 a0_7, .int .i64 a0_8, .int .i64 a0_9, .slice A0_10 l0_10.length c0_10, .int .i64 a0_11] 32 (0, 0)) (by (with_reducible repeat (first | refine blk_drewN ?_ _ | refine blk_drew ?_ | refine blk_alloc ?_ _)); exact BK260.out)) : gb261 ≠ gb260)); clear BK260; clear HB; have BK260 := n0_; have HB := n1_; have BK261 := n2_; have GW261 := n3_; have GE261 := n4_; have NB260_261 := n5_; have NB261_260 := n6_; clear n0_ n1_ n2_ n3_ n4_ n5_ n6_; clear hb hbox hg; have hnb41 := NB260_261.out; have hnc41 := NB261_260.out; have hcz42_0 : w40.cell? ⟨gb260, 0, none⟩ = some (.int .i64 a0_0) := (blk_cell BK260.out 0).trans rfl; have hcz42_1 : w40.cell? ⟨gb260, 1, none⟩ = some (.int .i64 a0_1) := (blk_cell BK260.out 1).trans rfl; have hcz42_2 : w40.cell? ⟨gb260, 2, none⟩ = some (.int .i64 a0_2) := (blk_cell BK260.out 2).trans rfl; have hcz42_3 : w40.cell? ⟨gb260, 3, none⟩ = some (.int .i64 a0_3) := (blk_cell BK260.out 3).trans rfl; have hcz42_4 : w40.cell? ⟨gb260, 4, none⟩ = some (.int .i64 a0_4) := (blk_cell BK260.out 4).trans rfl; have hcz42_5 : w40.cell? ⟨gb260, 5, none⟩ = some (.int .i64 a0_5) := (blk_cell BK260.out 5).trans rfl; have hcz42_6 : w40.cell? ⟨gb260, 6, none⟩ = some (.int .i64 a0_6) := (blk_cell BK260.out 6).trans rfl; have hcz42_7 : w40.cell? ⟨gb260, 7, none⟩ = some (.int .i64 a0_7) := (blk_cell BK260.out 7).trans rfl; have hcz42_8 : w40.cell? ⟨gb260, 8, none⟩ = some (.int .i64 a0_8) := (blk_cell BK260.out 8).trans rfl; have hcz42_9 : w40.cell? ⟨gb260, 9, none⟩ = some (.int .i64 a0_9) := (blk_cell BK260.out 9).trans rfl; have hcz42_10 : w40.cell? ⟨gb260, 10, none⟩ = some (.slice A0_10 l0_10.length c0_10) := (blk_cell BK260.out 10).trans rfl; have hcz42_11 : w40.cell? ⟨gb260, 11, none⟩ = some (.int .i64 a0_11) := (blk_cell BK260.out 11).trans rfl; have hfz42_0 := blk_frozen BK260.out 0; have hfz42_1 := blk_frozen BK260.out 1; have hfz42_2 := blk_frozen BK260.out 2; have hfz42_3 := blk_frozen BK260.out 3; have hfz42_4 := blk_frozen BK260.out 4; have hfz42_5 := blk_frozen BK260.out 5; have hfz42_6 := blk_frozen BK260.out 6; have hfz42_7 := blk_frozen BK260.out 7; have hfz42_8 := blk_frozen BK260.out 8; have hfz42_9 := blk_frozen BK260.out 9; have hfz42_10 := blk_frozen BK260.out 10; have hfz42_11 := blk_frozen BK260.out 11; have hcz43_0 : w40.cell? ⟨gb261, 0, none⟩ = some (.int .i64 a1_0) := (blk_cell BK261.out 0).trans rfl; have hcz43_1 : w40.cell? ⟨gb261, 1, none⟩ = some (.int .i64 a1_1) := (blk_cell BK261.out 1).trans rfl; have hcz43_2 : w40.cell? ⟨gb261, 2, none⟩ = some (.int .i64 a1_2) := (blk_cell BK261.out 2).trans rfl; have hcz43_3 : w40.cell? ⟨gb261, 3, none⟩ = some (.int .i64 a1_3) := (blk_cell BK261.out 3).trans rfl; have hcz43_4 : w40.cell? ⟨gb261, 4, none⟩ = some (.int .i64 a1_4) := (blk_cell BK261.out 4).trans rfl; have hcz43_5 : w40.cell? ⟨gb261, 5, none⟩ = some (.int .i64 a1_5) := (blk_cell BK261.out 5).trans rfl; have hcz43_6 : w40.cell? ⟨gb261, 6, none⟩ = some (.int .i64 a1_6) := (blk_cell BK261.out 6).trans rfl; have hcz43_7 : w40.cell? ⟨gb261, 7, none⟩ = some (.int .i64 a1_7) := (blk_cell BK261.out 7).trans rfl; have hcz43_8 : w40.cell? ⟨gb261, 8, none⟩ = some (.int .i64 a1_8) := (blk_cell BK261.out 8).trans rfl; have hcz43_9 : w40.cell? ⟨gb261, 9, none⟩ = some (.int .i64 a1_9) := (blk_cell BK261.out 9).trans rfl; have hcz43_10 : w40.cell? ⟨gb261, 10, none⟩ = some (.slice A1_10 l1_10.length c1_10) := (blk_cell BK261.out 10).trans rfl; have hcz43_11 : w40.cell? ⟨gb261, 11, none⟩ = some (.int .i64 a1_11) := (blk_cell BK261.out 11).trans rfl; have hfz43_0 := blk_frozen BK261.out 0; have hfz43_1 := blk_frozen BK261.out 1; have hfz43_2 := blk_frozen BK261.out 2; have hfz43_3 := blk_frozen BK261.out 3; have hfz43_4 := blk_frozen BK261.out 4; have hfz43_5 := blk_frozen BK261.out 5; have hfz43_6 := blk_frozen BK261.out 6; have hfz43_7 := blk_frozen BK261.out 7; have hfz43_8 := blk_frozen BK261.out 8; have hfz43_9 := blk_frozen BK261.out 9; have hfz43_10 := blk_frozen BK261.out 10; have hfz43_11 := blk_frozen BK261.out 11))
   go_ret
   exact ⟨by first | rfl | (simp [errW_none, errW_some] <;> rfl) | (simp [*, errW_none, errW_some] <;> rfl), by repeat (first | (with_reducible first | exact HB.out | apply below_alloc | apply pw_below_drewN | apply below_drew1 | refine below_set ?_ GE260.out | refine below_set ?_ GE261.out) | exact HB.out)⟩
 ·rw [if_neg c3] at H
  have c3b0 : (a0_0 == a1_0) = false := beq_eq_false_iff_ne.mpr c3
  have c3b1 : (a0_0 != a1_0) = true := bne_iff_ne.mpr c3
  obtain rfl := Option.some.inj H
  go_enter Try.func28, Try.ntmps28
  go_wp2_with (first | ((with_reducible refine gate_dst (N := 2) rfl ?_); refine box_event ?hg (N := 2) ?hd (cs := #[.int .i64 a0_0, .int .i64 a0_1, .int .i64 a0_2, .int .i64 a0_3, .int .i64 a0_4, .int .i64 a0_5, .int .i64 a0_6, .int .i64 a0_7, .int .i64 a0_8, .int .i64 a0_9, .slice A0_10 l0_10.length c0_10, .int .i64 a0_11]) (t := 32) ?hr ?_; (case hd => rfl); (case hg => rfl); (case hr => first | (go_simp; done) | (go_simp; rfl)); intro gb260 hg w44 hbox hb; have n0_ := Aside0.mk (below_step (by repeat (first | (with_reducible first | exact HB.out | apply below_alloc | apply pw_below_drewN | apply below_drew1) | exact HB.out)) hb); have n1_ := Aside0.mk (hbox); have n2_ := Aside0.mk ((by rw [hg]; exact (below_size (by repeat (first | (with_reducible first | exact HB.out | apply below_alloc | apply pw_below_drewN | apply below_drew1) | exact HB.out))) : w.heap.size ≤ gb260)); have n3_ := Aside0.mk ((by rw [hg]; exact (below_size (by repeat (first | (with_reducible first | exact HB.out | apply below_alloc | apply pw_below_drewN | apply below_drew1) | exact HB.out))) : w.heap.size ≤ gb260)); clear HB; have HB := n0_; have BK260 := n1_; have GW260 := n2_; have GE260 := n3_; clear n0_ n1_ n2_ n3_; clear hb hbox hg) | ((with_reducible refine gate_dst (N := 3) rfl ?_); refine box_event ?hg (N := 3) ?hd (cs := #[.int .i64 a1_0, .int .i64 a1_1, .int .i64 a1_2, .int .i64 a1_3, .int .i64 a1_4, .int .i64 a1_5, .int .i64 a1_6, .int .i64 a1_7, .int .i64 a1_8, .int .i64 a1_9, .slice A1_10 l1_10.length c1_10, .int .i64 a1_11]) (t := 32) ?hr ?_; (case hd => rfl); (case hg => rfl); (case hr => first | (go_simp; done) | (go_simp; rfl)); intro gb261 hg w45 hbox hb; have n0_ := Aside0.mk (blk_below (g := gb260) (o := .cells #[.int .i64 a0_0, .int .i64 a0_1, .int .i64 a0_2, .int .i64 a0_3, .int .i64 a0_4, .int .i64 a0_5, .int .i64 a0_6, .int .i64 a0_7, .int .i64 a0_8, .int .i64 a0_9, .slice A0_10 l0_10.length c0_10, .int .i64 a0_11] 32 (0, 0)) (by (with_reducible repeat (first | refine blk_drewN ?_ _ | refine blk_drew ?_ | refine blk_alloc ?_ _)); exact BK260.out) hb); have n1_ := Aside0.mk (below_step (by repeat (first | (with_reducible first | exact HB.out | apply below_alloc | apply pw_below_drewN | apply below_drew1 | refine below_set ?_ GE260.out) | exact HB.out)) hb); have n2_ := Aside0.mk (hbox); have n3_ := Aside0.mk ((by rw [hg]; exact (below_size (by repeat (first | (with_reducible first | exact HB.out | apply below_alloc | apply pw_below_drewN | apply below_drew1 | refine below_set ?_ GE260.out) | exact HB.out))) : w.heap.size ≤ gb261)); have n4_ := Aside0.mk ((by rw [hg]; exact (below_size (by repeat (first | (with_reducible first | exact HB.out | apply below_alloc | apply pw_below_drewN | apply below_drew1 | refine below_set ?_ GE260.out) | exact HB.out))) : w.heap.size ≤ gb261)); have n5_ := Aside0.mk ((by rw [hg]; exact Nat.ne_of_lt (blk_lt (g := gb260) (o := .cells #[.int .i64 a0_0, .int .i64 a0_1, .int .i64 a0_2, .int .i64 a0_3, .int .i64 a0_4, .int .i64 a0_5, .int .i64 a0_6, .int .i64 a0_7, .int .i64 a0_8, .int .i64 a0_9, .slice A0_10 l0_10.length c0_10, .int .i64 a0_11] 32 (0, 0)) (by (with_reducible repeat (first | refine blk_drewN ?_ _ | refine blk_drew ?_ | refine blk_alloc ?_ _)); exact BK260.out)) : gb260 ≠ gb261)); have n6_ := Aside0.mk ((by rw [hg]; exact Nat.ne_of_gt (blk_lt (g := gb260) (o := .cells #[.int .i64 a0_0, .int .i64 a0_1, .int .i64 a0_2, .int .i64 a0_3, .int .i64 a0_4, .int .i64 a0_5, .int .i64 a0_6, .int .i64 a0_7, .int .i64 a0_8, .int .i64 a0_9, .slice A0_10 l0_10.length c0_10, .int .i64 a0_11] 32 (0, 0)) (by (with_reducible repeat (first | refine blk_drewN ?_ _ | refine blk_drew ?_ | refine blk_alloc ?_ _)); exact BK260.out)) : gb261 ≠ gb260)); clear BK260; clear HB; have BK260 := n0_; have HB := n1_; have BK261 := n2_; have GW261 := n3_; have GE261 := n4_; have NB260_261 := n5_; have NB261_260 := n6_; clear n0_ n1_ n2_ n3_ n4_ n5_ n6_; clear hb hbox hg; have hnb46 := NB260_261.out; have hnc46 := NB261_260.out; have hcz47_0 : w45.cell? ⟨gb260, 0, none⟩ = some (.int .i64 a0_0) := (blk_cell BK260.out 0).trans rfl; have hcz47_1 : w45.cell? ⟨gb260, 1, none⟩ = some (.int .i64 a0_1) := (blk_cell BK260.out 1).trans rfl; have hcz47_2 : w45.cell? ⟨gb260, 2, none⟩ = some (.int .i64 a0_2) := (blk_cell BK260.out 2).trans rfl; have hcz47_3 : w45.cell? ⟨gb260, 3, none⟩ = some (.int .i64 a0_3) := (blk_cell BK260.out 3).trans rfl; have hcz47_4 : w45.cell? ⟨gb260, 4, none⟩ = some (.int .i64 a0_4) := (blk_cell BK260.out 4).trans rfl; have hcz47_5 : w45.cell? ⟨gb260, 5, none⟩ = some (.int .i64 a0_5) := (blk_cell BK260.out 5).trans rfl; have hcz47_6 : w45.cell? ⟨gb260, 6, none⟩ = some (.int .i64 a0_6) := (blk_cell BK260.out 6).trans rfl; have hcz47_7 : w45.cell? ⟨gb260, 7, none⟩ = some (.int .i64 a0_7) := (blk_cell BK260.out 7).trans rfl; have hcz47_8 : w45.cell? ⟨gb260, 8, none⟩ = some (.int .i64 a0_8) := (blk_cell BK260.out 8).trans rfl; have hcz47_9 : w45.cell? ⟨gb260, 9, none⟩ = some (.int .i64 a0_9) := (blk_cell BK260.out 9).trans rfl; have hcz47_10 : w45.cell? ⟨gb260, 10, none⟩ = some (.slice A0_10 l0_10.length c0_10) := (blk_cell BK260.out 10).trans rfl; have hcz47_11 : w45.cell? ⟨gb260, 11, none⟩ = some (.int .i64 a0_11) := (blk_cell BK260.out 11).trans rfl; have hfz47_0 := blk_frozen BK260.out 0; have hfz47_1 := blk_frozen BK260.out 1; have hfz47_2 := blk_frozen BK260.out 2; have hfz47_3 := blk_frozen BK260.out 3; have hfz47_4 := blk_frozen BK260.out 4; have hfz47_5 := blk_frozen BK260.out 5; have hfz47_6 := blk_frozen BK260.out 6; have hfz47_7 := blk_frozen BK260.out 7; have hfz47_8 := blk_frozen BK260.out 8; have hfz47_9 := blk_frozen BK260.out 9; have hfz47_10 := blk_frozen BK260.out 10; have hfz47_11 := blk_frozen BK260.out 11; have hcz48_0 : w45.cell? ⟨gb261, 0, none⟩ = some (.int .i64 a1_0) := (blk_cell BK261.out 0).trans rfl; have hcz48_1 : w45.cell? ⟨gb261, 1, none⟩ = some (.int .i64 a1_1) := (blk_cell BK261.out 1).trans rfl; have hcz48_2 : w45.cell? ⟨gb261, 2, none⟩ = some (.int .i64 a1_2) := (blk_cell BK261.out 2).trans rfl; have hcz48_3 : w45.cell? ⟨gb261, 3, none⟩ = some (.int .i64 a1_3) := (blk_cell BK261.out 3).trans rfl; have hcz48_4 : w45.cell? ⟨gb261, 4, none⟩ = some (.int .i64 a1_4) := (blk_cell BK261.out 4).trans rfl; have hcz48_5 : w45.cell? ⟨gb261, 5, none⟩ = some (.int .i64 a1_5) := (blk_cell BK261.out 5).trans rfl; have hcz48_6 : w45.cell? ⟨gb261, 6, none⟩ = some (.int .i64 a1_6) := (blk_cell BK261.out 6).trans rfl; have hcz48_7 : w45.cell? ⟨gb261, 7, none⟩ = some (.int .i64 a1_7) := (blk_cell BK261.out 7).trans rfl; have hcz48_8 : w45.cell? ⟨gb261, 8, none⟩ = some (.int .i64 a1_8) := (blk_cell BK261.out 8).trans rfl; have hcz48_9 : w45.cell? ⟨gb261, 9, none⟩ = some (.int .i64 a1_9) := (blk_cell BK261.out 9).trans rfl; have hcz48_10 : w45.cell? ⟨gb261, 10, none⟩ = some (.slice A1_10 l1_10.length c1_10) := (blk_cell BK261.out 10).trans rfl; have hcz48_11 : w45.cell? ⟨gb261, 11, none⟩ = some (.int .i64 a1_11) := (blk_cell BK261.out 11).trans rfl; have hfz48_0 := blk_frozen BK261.out 0; have hfz48_1 := blk_frozen BK261.out 1; have hfz48_2 := blk_frozen BK261.out 2; have hfz48_3 := blk_frozen BK261.out 3; have hfz48_4 := blk_frozen BK261.out 4; have hfz48_5 := blk_frozen BK261.out 5; have hfz48_6 := blk_frozen BK261.out 6; have hfz48_7 := blk_frozen BK261.out 7; have hfz48_8 := blk_frozen BK261.out 8; have hfz48_9 := blk_frozen BK261.out 9; have hfz48_10 := blk_frozen BK261.out 10; have hfz48_11 := blk_frozen BK261.out 11))
  go_ret
  exact ⟨by first | rfl | (simp [errW_none, errW_some] <;> rfl) | (simp [*, errW_none, errW_some] <;> rfl), by repeat (first | (with_reducible first | exact HB.out | apply below_alloc | apply pw_below_drewN | apply below_drew1 | refine below_set ?_ GE260.out | refine below_set ?_ GE261.out) | exact HB.out)⟩

/-! ### ref20_Same: function 17 -/
def ref20_Same.l0 : Nat → List (S32) → List (S32) → Int → Option (Bool)
 | 0, _, _, _ => none
 | k + 1, x0, x1, x5 => if x5 < (x0.length : Int) then (if 0 ≤ x5 then (if x5 < (x1.length : Int) then ((ref20_One.f k ((rd_T32 x0 x5).f0) ((rd_T32 x0 x5).f1) ((rd_T32 x0 x5).f2) ((rd_T32 x0 x5).f3) ((rd_T32 x0 x5).f4) ((rd_T32 x0 x5).f5.f0) ((rd_T32 x0 x5).f5.f1) ((rd_T32 x0 x5).f5.f2) ((rd_T32 x0 x5).f5.f3) ((rd_T32 x0 x5).f5.f4) ((rd_T32 x0 x5).f5.f5) ((rd_T32 x0 x5).f6) ((rd_T32 x1 x5).f0) ((rd_T32 x1 x5).f1) ((rd_T32 x1 x5).f2) ((rd_T32 x1 x5).f3) ((rd_T32 x1 x5).f4) ((rd_T32 x1 x5).f5.f0) ((rd_T32 x1 x5).f5.f1) ((rd_T32 x1 x5).f5.f2) ((rd_T32 x1 x5).f5.f3) ((rd_T32 x1 x5).f5.f4) ((rd_T32 x1 x5).f5.f5) ((rd_T32 x1 x5).f6)).bind fun t265 => (if t265 = true then (ref20_Same.l0 k x0 x1 (wrap64 (x5 + 1))) else (some false))) else (none)) else (none)) else (some true)
def ref20_Same.f (k : Nat) (l0 : List (S32)) (l1 : List (S32)) : Option (Bool) := if (l0.length : Int) = (l1.length : Int) then (ref20_Same.l0 k l0 l1 0) else (some false)
theorem ref20_Same.mono_l : ∀ k, (∀ y0 y1 y2, LeO (ref20_Same.l0 k y0 y1 y2) (ref20_Same.l0 (k + 1) y0 y1 y2))
 | 0 => fun _ _ _ r h => by simp [ref20_Same.l0] at h
 | k + 1 => by
  have ih0 := ref20_Same.mono_l k
  ·intro y0 y1 y2
   unfold ref20_Same.l0
   repeat' first
   | (with_reducible exact ih0 _ _ _)
   | (with_reducible exact ref20_One.mono _ _ _ _ _ _ _ _ _ _ _ _ _ _ _ _ _ _ _ _ _ _ _ _ _)
   | (with_reducible exact LeO.refl _)
   | (with_reducible exact LeO.none _)
   | (with_reducible refine LeO.ite ?_ ?_)
   | (with_reducible refine LeO.bind ?_ (fun _ => ?_))
   | exact ih0 _ _ _
   | exact ref20_One.mono _ _ _ _ _ _ _ _ _ _ _ _ _ _ _ _ _ _ _ _ _ _ _ _ _
   | exact LeO.none _
   | refine LeO.ite ?_ ?_
   | refine LeO.bind ?_ (fun _ => ?_)
theorem ref20_Same.mono : ∀ a0 a1 k, LeO (ref20_Same.f k a0 a1) (ref20_Same.f (k + 1) a0 a1) := by
 intro a0 a1 k
 have ih0 := ref20_Same.mono_l k
 unfold ref20_Same.f
 repeat' first
  | (with_reducible exact ih0 _ _ _)
  | (with_reducible exact ref20_One.mono _ _ _ _ _ _ _ _ _ _ _ _ _ _ _ _ _ _ _ _ _ _ _ _ _)
  | (with_reducible exact LeO.refl _)
  | (with_reducible exact LeO.none _)
  | (with_reducible refine LeO.ite ?_ ?_)
  | (with_reducible refine LeO.bind ?_ (fun _ => ?_))
  | exact ih0 _ _ _
  | exact ref20_One.mono _ _ _ _ _ _ _ _ _ _ _ _ _ _ _ _ _ _ _ _ _ _ _ _ _
  | exact LeO.none _
  | refine LeO.ite ?_ ?_
  | refine LeO.bind ?_ (fun _ => ?_)
def ref20_Same.T6 : Bool × List (List Nat × List Nat) := (true, [([], []), ([], []), ([0, 1], [0, 1]), ([2], [2]), ([], []), ([], []), ([4, 5], [4, 5]), ([6], [6]), ([3, 7], [3, 7]), ([8], [8])])
def ref20_Same.B6 : List Nat := [0, 0, 3, 7, 0, 0, 48, 112, 255, 511]
theorem ref20_Same.tab6 : rtab .any (opsOf Try.f17 6) = ref20_Same.T6 := by kernel_rfl
theorem ref20_Same.bits6 : waitsOk ref20_Same.T6.2 ref20_Same.B6 = true := by kernel_rfl
set_option maxHeartbeats 8000000 in
set_option maxRecDepth 100000 in
theorem ref20_Same.calls (k : Nat) (A0 : Option Addr) (c0 : Nat) (l0 : List (S32)) (A1 : Option Addr) (c1 : Nat) (l1 : List (S32)) (r : Bool) (w : World) (hr0 : Kd.C k32 w A0 l0.length l0) (hc0 : l0.length ≤ c0) (hr1 : Kd.C k32 w A1 l1.length l1) (hc1 : l1.length ≤ c1) (h : ref20_Same.f k l0 l1 = some r) :
 Calls Try.prog 17 #[.slice A0 l0.length c0, .slice A1 l1.length c1] w fun e w' => e = .returned (.bool r) ∧ Below w.heap.size w w' := by
 have hu32 := Try.underlying32
 have HR0 := Aside0.mk hr0
 have HC0 := Aside0.mk hc0
 clear hr0 hc0
 have HR1 := Aside0.mk hr1
 have HC1 := Aside0.mk hc1
 clear hr1 hc1
 have HB := Aside0.mk (Below.refl w.heap.size w)
 have H : (if (l0.length : Int) = (l1.length : Int) then (ref20_Same.l0 k l0 l1 0) else (some false)) = some r := h
 clear h
 by_cases c3 : (l0.length : Int) = (l1.length : Int)
 ·rw [if_pos c3] at H
  have c3b0 : ((l0.length : Int) == (l1.length : Int)) = true := beq_iff_eq.mpr c3
  have c3b1 : ((l0.length : Int) != (l1.length : Int)) = false := bne_eq_false_iff_eq.mpr c3
  have c3b2 : (l0.length == l1.length) = true := by first | simpa using c3 | (simp at c3 ⊢; omega)
  clear c3
  have H' := Aside0.mk H
  clear H
  go_enter Try.func17, Try.ntmps17
  go_wp2
  go_loopg [5] k (fun kq v5 w' => ∃ (x5_1 : Int), v5 = .int .i64 x5_1 ∧ Aside0 (ref20_Same.l0 kq l0 l1 x5_1 = some r) ∧ Aside0 (kq ≤ k) ∧ Aside0 (Below w.heap.size w w'))
  case atStart => exact ⟨(0), (by first | rfl | (simp; done) | (simp [*]; done) | (simp [bne_nil_]; done)), H', ⟨Nat.le_refl _⟩, ⟨by repeat (first | (with_reducible first | exact HB.out | apply below_alloc | apply pw_below_drewN | apply below_drew1) | exact HB.out)⟩⟩
  case round =>
   clear H'
   try clear c1
   try clear p2
   try clear c3
   try clear c3b0
   try clear c3b1
   try clear c3b2
   obtain ⟨x5_1, rfl, HA, HK1, HB⟩ := hrel
   cases gk with
   | zero => exact absurd HA.out (by simp [ref20_Same.l0])
   | succ k1 =>
    have H := HA.out
    clear HA
    simp only [ref20_Same.l0] at H
    by_cases c4 : x5_1 < (l0.length : Int)
    ·rw [if_pos c4] at H
     have c4b0 : decide (x5_1 < (l0.length : Int)) = true := decide_eq_true c4
     clear c4
     by_cases c5 : 0 ≤ x5_1
     rotate_left
     ·rw [if_neg c5] at H
      exact absurd H (by simp)
     rw [if_pos c5] at H
     have c5b0 : decide (0 ≤ x5_1) = true := decide_eq_true c5
     clear c5
     by_cases c6 : x5_1 < (l1.length : Int)
     rotate_left
     ·rw [if_neg c6] at H
      exact absurd H (by simp)
     rw [if_pos c6] at H
     have c6b0 : decide (x5_1 < (l1.length : Int)) = true := decide_eq_true c6
     clear c6
     replace H := Option.bind_eq_some_iff.mp H
     obtain ⟨t265, A70, H⟩ := H
     replace H : (if t265 = true then (ref20_Same.l0 k1 l0 l1 (wrap64 (x5_1 + 1))) else (some false)) = some r := H
     have A7 := Aside0.mk A70
     clear A70
     by_cases c8 : t265 = true
     ·subst c8
      have H1 : (ref20_Same.l0 k1 l0 l1 (wrap64 (x5_1 + 1))) = some r := by rw [if_pos rfl] at H; exact H
      clear H
      have H := H1
      clear H1
      have H' := Aside0.mk H
      clear H
      try go_wp2
      have n0_ := Aside0.mk (below_drew1 HB.out)
      clear HB
      have HB := n0_
      clear n0_
      have p263 : 0 ≤ (x5_1 : Int) := of_decide_eq_true (by first | (with_reducible assumption) | assumption)
      have q263 : x5_1 < (l0.length : Int) := of_decide_eq_true (by first | (with_reducible assumption) | assumption)
      obtain ⟨ad263, A263_10, c263_10, e263, hx263_0, hx263_1, hx263_2, hx263_3, hx263_4, hx263_5, hx263_6, hx263_7, hx263_8, hx263_9, hx263_10, hx263_11, hl263_10, hi263_10⟩ := at_T32 HR0.out x5_1 p263 q263
      have hw263_11 := hx263_11
      have hw263_10 := hx263_10
      have hw263_9 := hx263_9
      have hw263_8 := hx263_8
      have hw263_7 := hx263_7
      have hw263_6 := hx263_6
      have hw263_5 := hx263_5
      have hw263_4 := hx263_4
      have hw263_3 := hx263_3
      have hw263_2 := hx263_2
      have hw263_1 := hx263_1
      have hw263_0 := hx263_0
      cases e263
      replace hx263_0 := (HB.out.cell (World.block_lt_of_cell? w _ hx263_0)).trans hx263_0
      replace hx263_1 := (HB.out.cell (World.block_lt_of_cell? w _ hx263_1)).trans hx263_1
      replace hx263_2 := (HB.out.cell (World.block_lt_of_cell? w _ hx263_2)).trans hx263_2
      replace hx263_3 := (HB.out.cell (World.block_lt_of_cell? w _ hx263_3)).trans hx263_3
      replace hx263_4 := (HB.out.cell (World.block_lt_of_cell? w _ hx263_4)).trans hx263_4
      replace hx263_5 := (HB.out.cell (World.block_lt_of_cell? w _ hx263_5)).trans hx263_5
      replace hx263_6 := (HB.out.cell (World.block_lt_of_cell? w _ hx263_6)).trans hx263_6
      replace hx263_7 := (HB.out.cell (World.block_lt_of_cell? w _ hx263_7)).trans hx263_7
      replace hx263_8 := (HB.out.cell (World.block_lt_of_cell? w _ hx263_8)).trans hx263_8
      replace hx263_9 := (HB.out.cell (World.block_lt_of_cell? w _ hx263_9)).trans hx263_9
      replace hx263_10 := (HB.out.cell (World.block_lt_of_cell? w _ hx263_10)).trans hx263_10
      replace hx263_11 := (HB.out.cell (World.block_lt_of_cell? w _ hx263_11)).trans hx263_11
      have HR263_10 := Aside0.mk hi263_10
      have HC263_10 := Aside0.mk hl263_10
      clear hi263_10 hl263_10
      replace p263 := eq_true p263
      replace q263 := eq_true q263
      have p264 : 0 ≤ (x5_1 : Int) := of_decide_eq_true (by first | (with_reducible assumption) | assumption)
      have q264 : x5_1 < (l1.length : Int) := of_decide_eq_true (by first | (with_reducible assumption) | assumption)
      obtain ⟨ad264, A264_10, c264_10, e264, hx264_0, hx264_1, hx264_2, hx264_3, hx264_4, hx264_5, hx264_6, hx264_7, hx264_8, hx264_9, hx264_10, hx264_11, hl264_10, hi264_10⟩ := at_T32 HR1.out x5_1 p264 q264
      have hw264_11 := hx264_11
      have hw264_10 := hx264_10
      have hw264_9 := hx264_9
      have hw264_8 := hx264_8
      have hw264_7 := hx264_7
      have hw264_6 := hx264_6
      have hw264_5 := hx264_5
      have hw264_4 := hx264_4
      have hw264_3 := hx264_3
      have hw264_2 := hx264_2
      have hw264_1 := hx264_1
      have hw264_0 := hx264_0
      cases e264
      replace hx264_0 := (HB.out.cell (World.block_lt_of_cell? w _ hx264_0)).trans hx264_0
      replace hx264_1 := (HB.out.cell (World.block_lt_of_cell? w _ hx264_1)).trans hx264_1
      replace hx264_2 := (HB.out.cell (World.block_lt_of_cell? w _ hx264_2)).trans hx264_2
      replace hx264_3 := (HB.out.cell (World.block_lt_of_cell? w _ hx264_3)).trans hx264_3
      replace hx264_4 := (HB.out.cell (World.block_lt_of_cell? w _ hx264_4)).trans hx264_4
      replace hx264_5 := (HB.out.cell (World.block_lt_of_cell? w _ hx264_5)).trans hx264_5
      replace hx264_6 := (HB.out.cell (World.block_lt_of_cell? w _ hx264_6)).trans hx264_6
      replace hx264_7 := (HB.out.cell (World.block_lt_of_cell? w _ hx264_7)).trans hx264_7
      replace hx264_8 := (HB.out.cell (World.block_lt_of_cell? w _ hx264_8)).trans hx264_8
      replace hx264_9 := (HB.out.cell (World.block_lt_of_cell? w _ hx264_9)).trans hx264_9
      replace hx264_10 := (HB.out.cell (World.block_lt_of_cell? w _ hx264_10)).trans hx264_10
      replace hx264_11 := (HB.out.cell (World.block_lt_of_cell? w _ hx264_11)).trans hx264_11
      have HR264_10 := Aside0.mk hi264_10
      have HC264_10 := Aside0.mk hl264_10
      clear hi264_10 hl264_10
      replace p264 := eq_true p264
      replace q264 := eq_true q264
      refine start_ (n := 10) (S := fun w' => w'.cell? (ad263.add ((x5_1).toNat * 12)) = some (.int .i64 ((rd_T32 l0 x5_1).f0)) ∧ w'.cell? ⟨(ad263.add ((x5_1).toNat * 12)).block, (ad263.add ((x5_1).toNat * 12)).off + 1, none⟩ = some (.int .i64 ((rd_T32 l0 x5_1).f1)) ∧ w'.cell? ⟨(ad263.add ((x5_1).toNat * 12)).block, (ad263.add ((x5_1).toNat * 12)).off + 2, none⟩ = some (.int .i64 ((rd_T32 l0 x5_1).f2)) ∧ w'.cell? ⟨(ad263.add ((x5_1).toNat * 12)).block, (ad263.add ((x5_1).toNat * 12)).off + 3, none⟩ = some (.int .i64 ((rd_T32 l0 x5_1).f3)) ∧ w'.cell? ⟨(ad263.add ((x5_1).toNat * 12)).block, (ad263.add ((x5_1).toNat * 12)).off + 4, none⟩ = some (.int .i64 ((rd_T32 l0 x5_1).f4)) ∧ w'.cell? ⟨(ad263.add ((x5_1).toNat * 12)).block, (ad263.add ((x5_1).toNat * 12)).off + 5, none⟩ = some (.int .i64 ((rd_T32 l0 x5_1).f5.f0)) ∧ w'.cell? ⟨(ad263.add ((x5_1).toNat * 12)).block, (ad263.add ((x5_1).toNat * 12)).off + 6, none⟩ = some (.int .i64 ((rd_T32 l0 x5_1).f5.f1)) ∧ w'.cell? ⟨(ad263.add ((x5_1).toNat * 12)).block, (ad263.add ((x5_1).toNat * 12)).off + 7, none⟩ = some (.int .i64 ((rd_T32 l0 x5_1).f5.f2)) ∧ w'.cell? ⟨(ad263.add ((x5_1).toNat * 12)).block, (ad263.add ((x5_1).toNat * 12)).off + 8, none⟩ = some (.int .i64 ((rd_T32 l0 x5_1).f5.f3)) ∧ w'.cell? ⟨(ad263.add ((x5_1).toNat * 12)).block, (ad263.add ((x5_1).toNat * 12)).off + 9, none⟩ = some (.int .i64 ((rd_T32 l0 x5_1).f5.f4)) ∧ w'.cell? ⟨(ad263.add ((x5_1).toNat * 12)).block, (ad263.add ((x5_1).toNat * 12)).off + 10, none⟩ = some (.slice A263_10 ((rd_T32 l0 x5_1).f5.f5).length c263_10) ∧ w'.cell? ⟨(ad263.add ((x5_1).toNat * 12)).block, (ad263.add ((x5_1).toNat * 12)).off + 11, none⟩ = some (.int .i64 ((rd_T32 l0 x5_1).f6)) ∧ w'.cell? (ad264.add ((x5_1).toNat * 12)) = some (.int .i64 ((rd_T32 l1 x5_1).f0)) ∧ w'.cell? ⟨(ad264.add ((x5_1).toNat * 12)).block, (ad264.add ((x5_1).toNat * 12)).off + 1, none⟩ = some (.int .i64 ((rd_T32 l1 x5_1).f1)) ∧ w'.cell? ⟨(ad264.add ((x5_1).toNat * 12)).block, (ad264.add ((x5_1).toNat * 12)).off + 2, none⟩ = some (.int .i64 ((rd_T32 l1 x5_1).f2)) ∧ w'.cell? ⟨(ad264.add ((x5_1).toNat * 12)).block, (ad264.add ((x5_1).toNat * 12)).off + 3, none⟩ = some (.int .i64 ((rd_T32 l1 x5_1).f3)) ∧ w'.cell? ⟨(ad264.add ((x5_1).toNat * 12)).block, (ad264.add ((x5_1).toNat * 12)).off + 4, none⟩ = some (.int .i64 ((rd_T32 l1 x5_1).f4)) ∧ w'.cell? ⟨(ad264.add ((x5_1).toNat * 12)).block, (ad264.add ((x5_1).toNat * 12)).off + 5, none⟩ = some (.int .i64 ((rd_T32 l1 x5_1).f5.f0)) ∧ w'.cell? ⟨(ad264.add ((x5_1).toNat * 12)).block, (ad264.add ((x5_1).toNat * 12)).off + 6, none⟩ = some (.int .i64 ((rd_T32 l1 x5_1).f5.f1)) ∧ w'.cell? ⟨(ad264.add ((x5_1).toNat * 12)).block, (ad264.add ((x5_1).toNat * 12)).off + 7, none⟩ = some (.int .i64 ((rd_T32 l1 x5_1).f5.f2)) ∧ w'.cell? ⟨(ad264.add ((x5_1).toNat * 12)).block, (ad264.add ((x5_1).toNat * 12)).off + 8, none⟩ = some (.int .i64 ((rd_T32 l1 x5_1).f5.f3)) ∧ w'.cell? ⟨(ad264.add ((x5_1).toNat * 12)).block, (ad264.add ((x5_1).toNat * 12)).off + 9, none⟩ = some (.int .i64 ((rd_T32 l1 x5_1).f5.f4)) ∧ w'.cell? ⟨(ad264.add ((x5_1).toNat * 12)).block, (ad264.add ((x5_1).toNat * 12)).off + 10, none⟩ = some (.slice A264_10 ((rd_T32 l1 x5_1).f5.f5).length c264_10) ∧ w'.cell? ⟨(ad264.add ((x5_1).toNat * 12)).block, (ad264.add ((x5_1).toNat * 12)).off + 11, none⟩ = some (.int .i64 ((rd_T32 l1 x5_1).f6))) (ds := []) #[false, false, false, false, false, false, false, false, false, false] (by kernel_rfl) rfl rfl ⟨((HB.out.cell (World.block_lt_of_cell? w _ hw263_0)).trans hw263_0), ((HB.out.cell (World.block_lt_of_cell? w _ hw263_1)).trans hw263_1), ((HB.out.cell (World.block_lt_of_cell? w _ hw263_2)).trans hw263_2), ((HB.out.cell (World.block_lt_of_cell? w _ hw263_3)).trans hw263_3), ((HB.out.cell (World.block_lt_of_cell? w _ hw263_4)).trans hw263_4), ((HB.out.cell (World.block_lt_of_cell? w _ hw263_5)).trans hw263_5), ((HB.out.cell (World.block_lt_of_cell? w _ hw263_6)).trans hw263_6), ((HB.out.cell (World.block_lt_of_cell? w _ hw263_7)).trans hw263_7), ((HB.out.cell (World.block_lt_of_cell? w _ hw263_8)).trans hw263_8), ((HB.out.cell (World.block_lt_of_cell? w _ hw263_9)).trans hw263_9), ((HB.out.cell (World.block_lt_of_cell? w _ hw263_10)).trans hw263_10), ((HB.out.cell (World.block_lt_of_cell? w _ hw263_11)).trans hw263_11), ((HB.out.cell (World.block_lt_of_cell? w _ hw264_0)).trans hw264_0), ((HB.out.cell (World.block_lt_of_cell? w _ hw264_1)).trans hw264_1), ((HB.out.cell (World.block_lt_of_cell? w _ hw264_2)).trans hw264_2), ((HB.out.cell (World.block_lt_of_cell? w _ hw264_3)).trans hw264_3), ((HB.out.cell (World.block_lt_of_cell? w _ hw264_4)).trans hw264_4), ((HB.out.cell (World.block_lt_of_cell? w _ hw264_5)).trans hw264_5), ((HB.out.cell (World.block_lt_of_cell? w _ hw264_6)).trans hw264_6), ((HB.out.cell (World.block_lt_of_cell? w _ hw264_7)).trans hw264_7), ((HB.out.cell (World.block_lt_of_cell? w _ hw264_8)).trans hw264_8), ((HB.out.cell (World.block_lt_of_cell? w _ hw264_9)).trans hw264_9), ((HB.out.cell (World.block_lt_of_cell? w _ hw264_10)).trans hw264_10), ((HB.out.cell (World.block_lt_of_cell? w _ hw264_11)).trans hw264_11)⟩ (fun hHeld => ?_); refine with_tabW ref20_Same.tab6 ref20_Same.bits6 (fun HT_ HW_ => ?_)
      generalize wr.drew = w9 at HB HR263_10 HR264_10 hx263_0 hx263_1 hx263_10 hx263_11 hx263_2 hx263_3 hx263_4 hx263_5 hx263_6 hx263_7 hx263_8 hx263_9 hx264_0 hx264_1 hx264_10 hx264_11 hx264_2 hx264_3 hx264_4 hx264_5 hx264_6 hx264_7 hx264_8 hx264_9 hHeld ⊢
      refine pure_ (i := 0) (N := some 17) (v := ?_) (a' := ?_) #[true, false, false, false, false, false, false, false, false, false] rfl rfl (any_of HT_.out (by kernel_rfl)) (fun _ _ _ h => h) (Or.inl ⟨by rfl, ?_⟩) ?_ ?_
      rotate_left
      ·intro w'
       go_simp
       with_reducible rfl
      rotate_left
      ·simp only [Act.put, List.setIfInBounds_toArray, List.set_cons_zero, List.set_cons_succ, i64_w, i32_w]
       rfl
      refine pure_ (i := 1) (N := some 18) (v := ?_) (a' := ?_) #[true, true, false, false, false, false, false, false, false, false] rfl rfl (any_of HT_.out (by kernel_rfl)) (fun _ _ _ h => h) (Or.inl ⟨by rfl, ?_⟩) ?_ ?_
      rotate_left
      ·intro w'
       go_simp
       with_reducible rfl
      rotate_left
      ·simp only [Act.put, List.setIfInBounds_toArray, List.set_cons_zero, List.set_cons_succ, i64_w, i32_w]
       rfl
      refine pure_ (i := 2) (N := some 19) (v := ?_) (a' := ?_) #[true, true, true, false, false, false, false, false, false, false] rfl rfl (any_of HT_.out (by kernel_rfl)) (fun _ _ _ h => h) (Or.inl ⟨by rfl, ?_⟩) ?_ ?_
      rotate_left
      ·intro w'
       go_simp
       with_reducible rfl
      rotate_left
      ·simp only [Act.put, List.setIfInBounds_toArray, List.set_cons_zero, List.set_cons_succ, i64_w, i32_w]
       rfl
      refine pure_ (i := 4) (N := some 21) (v := ?_) (a' := ?_) #[true, true, true, false, true, false, false, false, false, false] rfl rfl (any_of HT_.out (by kernel_rfl)) (fun _ _ _ h => h) (Or.inl ⟨by rfl, ?_⟩) ?_ ?_
      rotate_left
      ·intro w'
       go_simp
       with_reducible rfl
      rotate_left
      ·simp only [Act.put, List.setIfInBounds_toArray, List.set_cons_zero, List.set_cons_succ, i64_w, i32_w]
       rfl
      refine pure_ (i := 5) (N := some 22) (v := ?_) (a' := ?_) #[true, true, true, false, true, true, false, false, false, false] rfl rfl (any_of HT_.out (by kernel_rfl)) (fun _ _ _ h => h) (Or.inl ⟨by rfl, ?_⟩) ?_ ?_
      rotate_left
      ·intro w'
       go_simp
       with_reducible rfl
      rotate_left
      ·simp only [Act.put, List.setIfInBounds_toArray, List.set_cons_zero, List.set_cons_succ, i64_w, i32_w]
       rfl
      refine pure_ (i := 6) (N := some 23) (v := ?_) (a' := ?_) #[true, true, true, false, true, true, true, false, false, false] rfl rfl (any_of HT_.out (by kernel_rfl)) (fun _ _ _ h => h) (Or.inl ⟨by rfl, ?_⟩) ?_ ?_
      rotate_left
      ·intro w'
       go_simp
       with_reducible rfl
      rotate_left
      ·simp only [Act.put, List.setIfInBounds_toArray, List.set_cons_zero, List.set_cons_succ, i64_w, i32_w]
       rfl
      refine take_ (i := 3) (N := some 20) (v := ?_) (a' := ?_) #[true, true, true, true, true, true, true, false, false, false] rfl rfl (take_ofW HT_.out HW_.out (by kernel_rfl)) (fun _ _ _ h => h) (Or.inl ⟨by rfl, ?_⟩) hHeld ?_ ?_
      rotate_left
      ·rintro w' ⟨s0, s1, s2, s3, s4, s5, s6, s7, s8, s9, s10, s11, s12, s13, s14, s15, s16, s17, s18, s19, s20, s21, s22, s23⟩
       go_simp
       with_reducible rfl
      rotate_left
      ·simp only [Act.put, List.setIfInBounds_toArray, List.set_cons_zero, List.set_cons_succ, i64_w, i32_w]
       rfl
      refine take_ (i := 7) (N := some 24) (v := ?_) (a' := ?_) #[true, true, true, true, true, true, true, true, false, false] rfl rfl (take_ofW HT_.out HW_.out (by kernel_rfl)) (fun _ _ _ h => h) (Or.inl ⟨by rfl, ?_⟩) hHeld ?_ ?_
      rotate_left
      ·rintro w' ⟨s0, s1, s2, s3, s4, s5, s6, s7, s8, s9, s10, s11, s12, s13, s14, s15, s16, s17, s18, s19, s20, s21, s22, s23⟩
       go_simp
       with_reducible rfl
      rotate_left
      ·simp only [Act.put, List.setIfInBounds_toArray, List.set_cons_zero, List.set_cons_succ, i64_w, i32_w]
       rfl
      refine one_ (i := 8) (N := some 25) #[true, true, true, true, true, true, true, true, true, false] rfl rfl (one_of HT_.out (by kernel_rfl)) (by decide) (fun K hK => ?_)
      refine goes_ Try.func28 (by kernel_rfl) rfl #[.agg #[.int .i64 ((rd_T32 l0 x5_1).f0), .int .i64 ((rd_T32 l0 x5_1).f1), .int .i64 ((rd_T32 l0 x5_1).f2), .int .i64 ((rd_T32 l0 x5_1).f3), .int .i64 ((rd_T32 l0 x5_1).f4), .int .i64 ((rd_T32 l0 x5_1).f5.f0), .int .i64 ((rd_T32 l0 x5_1).f5.f1), .int .i64 ((rd_T32 l0 x5_1).f5.f2), .int .i64 ((rd_T32 l0 x5_1).f5.f3), .int .i64 ((rd_T32 l0 x5_1).f5.f4), .slice A263_10 ((rd_T32 l0 x5_1).f5.f5).length c263_10, .int .i64 ((rd_T32 l0 x5_1).f6)], .agg #[.int .i64 ((rd_T32 l1 x5_1).f0), .int .i64 ((rd_T32 l1 x5_1).f1), .int .i64 ((rd_T32 l1 x5_1).f2), .int .i64 ((rd_T32 l1 x5_1).f3), .int .i64 ((rd_T32 l1 x5_1).f4), .int .i64 ((rd_T32 l1 x5_1).f5.f0), .int .i64 ((rd_T32 l1 x5_1).f5.f1), .int .i64 ((rd_T32 l1 x5_1).f5.f2), .int .i64 ((rd_T32 l1 x5_1).f5.f3), .int .i64 ((rd_T32 l1 x5_1).f5.f4), .slice A264_10 ((rd_T32 l1 x5_1).f5.f5).length c264_10, .int .i64 ((rd_T32 l1 x5_1).f6)]] (by rfl) rfl rfl (by (try simp only [List.map_toArray, List.map_cons, List.map_nil]); first | done | rfl | (simp only [List.length_drop, List.length_take]; rfl)) ?_
      with_reducible refine (ref20_One.calls k1 ((rd_T32 l0 x5_1).f0) ((rd_T32 l0 x5_1).f1) ((rd_T32 l0 x5_1).f2) ((rd_T32 l0 x5_1).f3) ((rd_T32 l0 x5_1).f4) ((rd_T32 l0 x5_1).f5.f0) ((rd_T32 l0 x5_1).f5.f1) ((rd_T32 l0 x5_1).f5.f2) ((rd_T32 l0 x5_1).f5.f3) ((rd_T32 l0 x5_1).f5.f4) _ _ ((rd_T32 l0 x5_1).f5.f5) ((rd_T32 l0 x5_1).f6) ((rd_T32 l1 x5_1).f0) ((rd_T32 l1 x5_1).f1) ((rd_T32 l1 x5_1).f2) ((rd_T32 l1 x5_1).f3) ((rd_T32 l1 x5_1).f4) ((rd_T32 l1 x5_1).f5.f0) ((rd_T32 l1 x5_1).f5.f1) ((rd_T32 l1 x5_1).f5.f2) ((rd_T32 l1 x5_1).f5.f3) ((rd_T32 l1 x5_1).f5.f4) _ _ ((rd_T32 l1 x5_1).f5.f5) ((rd_T32 l1 x5_1).f6) true _ ?side1 ?side2 ?side3 ?side4 A7.out).mono ?_
      (case side1 => repeat (first | exact (Kd.C_below HR263_10.out HB.out) | (with_reducible refine Kd.C_alloc ?_ _) | (with_reducible refine Kd.C_drewN ?_ _) | (with_reducible refine Kd.C_drew ?_)))
      (case side2 => exact HC263_10.out)
      (case side3 => repeat (first | exact (Kd.C_below HR264_10.out HB.out) | (with_reducible refine Kd.C_alloc ?_ _) | (with_reducible refine Kd.C_drewN ?_ _) | (with_reducible refine Kd.C_drew ?_)))
      (case side4 => exact HC264_10.out)
      rintro e w10 ⟨rfl, hb⟩
      refine ⟨_, rfl, ?_⟩
      have n0_ := Aside0.mk (below_step (by repeat (first | (with_reducible first | exact HB.out | apply below_alloc | apply pw_below_drewN | apply below_drew1) | exact HB.out)) hb)
      clear HB
      have HB := n0_
      clear n0_
      (try clear hb)
      (try clear hb2)
      (try clear hk)
      (try clear hi)
      refine hK.out _ _ ⟨((HB.out.cell (World.block_lt_of_cell? w _ hw263_0)).trans hw263_0), ((HB.out.cell (World.block_lt_of_cell? w _ hw263_1)).trans hw263_1), ((HB.out.cell (World.block_lt_of_cell? w _ hw263_2)).trans hw263_2), ((HB.out.cell (World.block_lt_of_cell? w _ hw263_3)).trans hw263_3), ((HB.out.cell (World.block_lt_of_cell? w _ hw263_4)).trans hw263_4), ((HB.out.cell (World.block_lt_of_cell? w _ hw263_5)).trans hw263_5), ((HB.out.cell (World.block_lt_of_cell? w _ hw263_6)).trans hw263_6), ((HB.out.cell (World.block_lt_of_cell? w _ hw263_7)).trans hw263_7), ((HB.out.cell (World.block_lt_of_cell? w _ hw263_8)).trans hw263_8), ((HB.out.cell (World.block_lt_of_cell? w _ hw263_9)).trans hw263_9), ((HB.out.cell (World.block_lt_of_cell? w _ hw263_10)).trans hw263_10), ((HB.out.cell (World.block_lt_of_cell? w _ hw263_11)).trans hw263_11), ((HB.out.cell (World.block_lt_of_cell? w _ hw264_0)).trans hw264_0), ((HB.out.cell (World.block_lt_of_cell? w _ hw264_1)).trans hw264_1), ((HB.out.cell (World.block_lt_of_cell? w _ hw264_2)).trans hw264_2), ((HB.out.cell (World.block_lt_of_cell? w _ hw264_3)).trans hw264_3), ((HB.out.cell (World.block_lt_of_cell? w _ hw264_4)).trans hw264_4), ((HB.out.cell (World.block_lt_of_cell? w _ hw264_5)).trans hw264_5), ((HB.out.cell (World.block_lt_of_cell? w _ hw264_6)).trans hw264_6), ((HB.out.cell (World.block_lt_of_cell? w _ hw264_7)).trans hw264_7), ((HB.out.cell (World.block_lt_of_cell? w _ hw264_8)).trans hw264_8), ((HB.out.cell (World.block_lt_of_cell? w _ hw264_9)).trans hw264_9), ((HB.out.cell (World.block_lt_of_cell? w _ hw264_10)).trans hw264_10), ((HB.out.cell (World.block_lt_of_cell? w _ hw264_11)).trans hw264_11)⟩ (fun hHeld => ?_)
      clear hK K
      refine norm_ (a' := ?_) ?_ ?_
      rotate_left
      ·show Act.put _ (some 25) _ = _
       simp only [Act.put, List.setIfInBounds_toArray, List.set_cons_zero, List.set_cons_succ, i64_w, i32_w]
       rfl
      refine pure_ (i := 9) (N := some 26) (v := ?_) (a' := ?_) #[true, true, true, true, true, true, true, true, true, true] rfl rfl (any_of HT_.out (by kernel_rfl)) (fun _ _ _ h => h) (Or.inl ⟨by rfl, ?_⟩) ?_ ?_
      rotate_left
      ·intro w'
       go_simp
       with_reducible rfl
      rotate_left
      ·simp only [Act.put, List.setIfInBounds_toArray, List.set_cons_zero, List.set_cons_succ, i64_w, i32_w]
       rfl
      refine done_ (done_of HT_.out (by kernel_rfl)) ?_
      try go_wp2
      go_roundg k1
      case measure => have := HK1.out; omega
      case rel => exact ⟨(wrap64 (x5_1 + 1)), (by first | rfl | (simp; done) | (simp [*]; done) | (simp [bne_nil_]; done)), H', ⟨by have := HK1.out; omega⟩, ⟨by repeat (first | (with_reducible first | exact HB.out | apply below_alloc | apply pw_below_drewN | apply below_drew1) | exact HB.out)⟩⟩
     ·replace c8 := Bool.eq_false_iff.mpr c8
      subst c8
      have H1 : (some false) = some r := by rw [if_neg (show ¬ (false = true) by decide)] at H; exact H
      clear H
      have H := H1
      clear H1
      obtain rfl := Option.some.inj H
      try go_wp2
      have n0_ := Aside0.mk (below_drew1 HB.out)
      clear HB
      have HB := n0_
      clear n0_
      have p263 : 0 ≤ (x5_1 : Int) := of_decide_eq_true (by first | (with_reducible assumption) | assumption)
      have q263 : x5_1 < (l0.length : Int) := of_decide_eq_true (by first | (with_reducible assumption) | assumption)
      obtain ⟨ad263, A263_10, c263_10, e263, hx263_0, hx263_1, hx263_2, hx263_3, hx263_4, hx263_5, hx263_6, hx263_7, hx263_8, hx263_9, hx263_10, hx263_11, hl263_10, hi263_10⟩ := at_T32 HR0.out x5_1 p263 q263
      have hw263_11 := hx263_11
      have hw263_10 := hx263_10
      have hw263_9 := hx263_9
      have hw263_8 := hx263_8
      have hw263_7 := hx263_7
      have hw263_6 := hx263_6
      have hw263_5 := hx263_5
      have hw263_4 := hx263_4
      have hw263_3 := hx263_3
      have hw263_2 := hx263_2
      have hw263_1 := hx263_1
      have hw263_0 := hx263_0
      cases e263
      replace hx263_0 := (HB.out.cell (World.block_lt_of_cell? w _ hx263_0)).trans hx263_0
      replace hx263_1 := (HB.out.cell (World.block_lt_of_cell? w _ hx263_1)).trans hx263_1
      replace hx263_2 := (HB.out.cell (World.block_lt_of_cell? w _ hx263_2)).trans hx263_2
      replace hx263_3 := (HB.out.cell (World.block_lt_of_cell? w _ hx263_3)).trans hx263_3
      replace hx263_4 := (HB.out.cell (World.block_lt_of_cell? w _ hx263_4)).trans hx263_4
      replace hx263_5 := (HB.out.cell (World.block_lt_of_cell? w _ hx263_5)).trans hx263_5
      replace hx263_6 := (HB.out.cell (World.block_lt_of_cell? w _ hx263_6)).trans hx263_6
      replace hx263_7 := (HB.out.cell (World.block_lt_of_cell? w _ hx263_7)).trans hx263_7
      replace hx263_8 := (HB.out.cell (World.block_lt_of_cell? w _ hx263_8)).trans hx263_8
      replace hx263_9 := (HB.out.cell (World.block_lt_of_cell? w _ hx263_9)).trans hx263_9
      replace hx263_10 := (HB.out.cell (World.block_lt_of_cell? w _ hx263_10)).trans hx263_10
      replace hx263_11 := (HB.out.cell (World.block_lt_of_cell? w _ hx263_11)).trans hx263_11
      have HR263_10 := Aside0.mk hi263_10
      have HC263_10 := Aside0.mk hl263_10
      clear hi263_10 hl263_10
      replace p263 := eq_true p263
      replace q263 := eq_true q263
      have p264 : 0 ≤ (x5_1 : Int) := of_decide_eq_true (by first | (with_reducible assumption) | assumption)
      have q264 : x5_1 < (l1.length : Int) := of_decide_eq_true (by first | (with_reducible assumption) | assumption)
      obtain ⟨ad264, A264_10, c264_10, e264, hx264_0, hx264_1, hx264_2, hx264_3, hx264_4, hx264_5, hx264_6, hx264_7, hx264_8, hx264_9, hx264_10, hx264_11, hl264_10, hi264_10⟩ := at_T32 HR1.out x5_1 p264 q264
      have hw264_11 := hx264_11
      have hw264_10 := hx264_10
      have hw264_9 := hx264_9
      have hw264_8 := hx264_8
      have hw264_7 := hx264_7
      have hw264_6 := hx264_6
      have hw264_5 := hx264_5
      have hw264_4 := hx264_4
      have hw264_3 := hx264_3
      have hw264_2 := hx264_2
      have hw264_1 := hx264_1
      have hw264_0 := hx264_0
      cases e264
      replace hx264_0 := (HB.out.cell (World.block_lt_of_cell? w _ hx264_0)).trans hx264_0
      replace hx264_1 := (HB.out.cell (World.block_lt_of_cell? w _ hx264_1)).trans hx264_1
      replace hx264_2 := (HB.out.cell (World.block_lt_of_cell? w _ hx264_2)).trans hx264_2
      replace hx264_3 := (HB.out.cell (World.block_lt_of_cell? w _ hx264_3)).trans hx264_3
      replace hx264_4 := (HB.out.cell (World.block_lt_of_cell? w _ hx264_4)).trans hx264_4
      replace hx264_5 := (HB.out.cell (World.block_lt_of_cell? w _ hx264_5)).trans hx264_5
      replace hx264_6 := (HB.out.cell (World.block_lt_of_cell? w _ hx264_6)).trans hx264_6
      replace hx264_7 := (HB.out.cell (World.block_lt_of_cell? w _ hx264_7)).trans hx264_7
      replace hx264_8 := (HB.out.cell (World.block_lt_of_cell? w _ hx264_8)).trans hx264_8
      replace hx264_9 := (HB.out.cell (World.block_lt_of_cell? w _ hx264_9)).trans hx264_9
      replace hx264_10 := (HB.out.cell (World.block_lt_of_cell? w _ hx264_10)).trans hx264_10
      replace hx264_11 := (HB.out.cell (World.block_lt_of_cell? w _ hx264_11)).trans hx264_11
      have HR264_10 := Aside0.mk hi264_10
      have HC264_10 := Aside0.mk hl264_10
      clear hi264_10 hl264_10
      replace p264 := eq_true p264
      replace q264 := eq_true q264
      refine start_ (n := 10) (S := fun w' => w'.cell? (ad263.add ((x5_1).toNat * 12)) = some (.int .i64 ((rd_T32 l0 x5_1).f0)) ∧ w'.cell? ⟨(ad263.add ((x5_1).toNat * 12)).block, (ad263.add ((x5_1).toNat * 12)).off + 1, none⟩ = some (.int .i64 ((rd_T32 l0 x5_1).f1)) ∧ w'.cell? ⟨(ad263.add ((x5_1).toNat * 12)).block, (ad263.add ((x5_1).toNat * 12)).off + 2, none⟩ = some (.int .i64 ((rd_T32 l0 x5_1).f2)) ∧ w'.cell? ⟨(ad263.add ((x5_1).toNat * 12)).block, (ad263.add ((x5_1).toNat * 12)).off + 3, none⟩ = some (.int .i64 ((rd_T32 l0 x5_1).f3)) ∧ w'.cell? ⟨(ad263.add ((x5_1).toNat * 12)).block, (ad263.add ((x5_1).toNat * 12)).off + 4, none⟩ = some (.int .i64 ((rd_T32 l0 x5_1).f4)) ∧ w'.cell? ⟨(ad263.add ((x5_1).toNat * 12)).block, (ad263.add ((x5_1).toNat * 12)).off + 5, none⟩ = some (.int .i64 ((rd_T32 l0 x5_1).f5.f0)) ∧ w'.cell? ⟨(ad263.add ((x5_1).toNat * 12)).block, (ad263.add ((x5_1).toNat * 12)).off + 6, none⟩ = some (.int .i64 ((rd_T32 l0 x5_1).f5.f1)) ∧ w'.cell? ⟨(ad263.add ((x5_1).toNat * 12)).block, (ad263.add ((x5_1).toNat * 12)).off + 7, none⟩ = some (.int .i64 ((rd_T32 l0 x5_1).f5.f2)) ∧ w'.cell? ⟨(ad263.add ((x5_1).toNat * 12)).block, (ad263.add ((x5_1).toNat * 12)).off + 8, none⟩ = some (.int .i64 ((rd_T32 l0 x5_1).f5.f3)) ∧ w'.cell? ⟨(ad263.add ((x5_1).toNat * 12)).block, (ad263.add ((x5_1).toNat * 12)).off + 9, none⟩ = some (.int .i64 ((rd_T32 l0 x5_1).f5.f4)) ∧ w'.cell? ⟨(ad263.add ((x5_1).toNat * 12)).block, (ad263.add ((x5_1).toNat * 12)).off + 10, none⟩ = some (.slice A263_10 ((rd_T32 l0 x5_1).f5.f5).length c263_10) ∧ w'.cell? ⟨(ad263.add ((x5_1).toNat * 12)).block, (ad263.add ((x5_1).toNat * 12)).off + 11, none⟩ = some (.int .i64 ((rd_T32 l0 x5_1).f6)) ∧ w'.cell? (ad264.add ((x5_1).toNat * 12)) = some (.int .i64 ((rd_T32 l1 x5_1).f0)) ∧ w'.cell? ⟨(ad264.add ((x5_1).toNat * 12)).block, (ad264.add ((x5_1).toNat * 12)).off + 1, none⟩ = some (.int .i64 ((rd_T32 l1 x5_1).f1)) ∧ w'.cell? ⟨(ad264.add ((x5_1).toNat * 12)).block, (ad264.add ((x5_1).toNat * 12)).off + 2, none⟩ = some (.int .i64 ((rd_T32 l1 x5_1).f2)) ∧ w'.cell? ⟨(ad264.add ((x5_1).toNat * 12)).block, (ad264.add ((x5_1).toNat * 12)).off + 3, none⟩ = some (.int .i64 ((rd_T32 l1 x5_1).f3)) ∧ w'.cell? ⟨(ad264.add ((x5_1).toNat * 12)).block, (ad264.add ((x5_1).toNat * 12)).off + 4, none⟩ = some (.int .i64 ((rd_T32 l1 x5_1).f4)) ∧ w'.cell? ⟨(ad264.add ((x5_1).toNat * 12)).block, (ad264.add ((x5_1).toNat * 12)).off + 5, none⟩ = some (.int .i64 ((rd_T32 l1 x5_1).f5.f0)) ∧ w'.cell? ⟨(ad264.add ((x5_1).toNat * 12)).block, (ad264.add ((x5_1).toNat * 12)).off + 6, none⟩ = some (.int .i64 ((rd_T32 l1 x5_1).f5.f1)) ∧ w'.cell? ⟨(ad264.add ((x5_1).toNat * 12)).block, (ad264.add ((x5_1).toNat * 12)).off + 7, none⟩ = some (.int .i64 ((rd_T32 l1 x5_1).f5.f2)) ∧ w'.cell? ⟨(ad264.add ((x5_1).toNat * 12)).block, (ad264.add ((x5_1).toNat * 12)).off + 8, none⟩ = some (.int .i64 ((rd_T32 l1 x5_1).f5.f3)) ∧ w'.cell? ⟨(ad264.add ((x5_1).toNat * 12)).block, (ad264.add ((x5_1).toNat * 12)).off + 9, none⟩ = some (.int .i64 ((rd_T32 l1 x5_1).f5.f4)) ∧ w'.cell? ⟨(ad264.add ((x5_1).toNat * 12)).block, (ad264.add ((x5_1).toNat * 12)).off + 10, none⟩ = some (.slice A264_10 ((rd_T32 l1 x5_1).f5.f5).length c264_10) ∧ w'.cell? ⟨(ad264.add ((x5_1).toNat * 12)).block, (ad264.add ((x5_1).toNat * 12)).off + 11, none⟩ = some (.int .i64 ((rd_T32 l1 x5_1).f6))) (ds := []) #[false, false, false, false, false, false, false, false, false, false] (by kernel_rfl) rfl rfl ⟨((HB.out.cell (World.block_lt_of_cell? w _ hw263_0)).trans hw263_0), ((HB.out.cell (World.block_lt_of_cell? w _ hw263_1)).trans hw263_1), ((HB.out.cell (World.block_lt_of_cell? w _ hw263_2)).trans hw263_2), ((HB.out.cell (World.block_lt_of_cell? w _ hw263_3)).trans hw263_3), ((HB.out.cell (World.block_lt_of_cell? w _ hw263_4)).trans hw263_4), ((HB.out.cell (World.block_lt_of_cell? w _ hw263_5)).trans hw263_5), ((HB.out.cell (World.block_lt_of_cell? w _ hw263_6)).trans hw263_6), ((HB.out.cell (World.block_lt_of_cell? w _ hw263_7)).trans hw263_7), ((HB.out.cell (World.block_lt_of_cell? w _ hw263_8)).trans hw263_8), ((HB.out.cell (World.block_lt_of_cell? w _ hw263_9)).trans hw263_9), ((HB.out.cell (World.block_lt_of_cell? w _ hw263_10)).trans hw263_10), ((HB.out.cell (World.block_lt_of_cell? w _ hw263_11)).trans hw263_11), ((HB.out.cell (World.block_lt_of_cell? w _ hw264_0)).trans hw264_0), ((HB.out.cell (World.block_lt_of_cell? w _ hw264_1)).trans hw264_1), ((HB.out.cell (World.block_lt_of_cell? w _ hw264_2)).trans hw264_2), ((HB.out.cell (World.block_lt_of_cell? w _ hw264_3)).trans hw264_3), ((HB.out.cell (World.block_lt_of_cell? w _ hw264_4)).trans hw264_4), ((HB.out.cell (World.block_lt_of_cell? w _ hw264_5)).trans hw264_5), ((HB.out.cell (World.block_lt_of_cell? w _ hw264_6)).trans hw264_6), ((HB.out.cell (World.block_lt_of_cell? w _ hw264_7)).trans hw264_7), ((HB.out.cell (World.block_lt_of_cell? w _ hw264_8)).trans hw264_8), ((HB.out.cell (World.block_lt_of_cell? w _ hw264_9)).trans hw264_9), ((HB.out.cell (World.block_lt_of_cell? w _ hw264_10)).trans hw264_10), ((HB.out.cell (World.block_lt_of_cell? w _ hw264_11)).trans hw264_11)⟩ (fun hHeld => ?_); refine with_tabW ref20_Same.tab6 ref20_Same.bits6 (fun HT_ HW_ => ?_)
      generalize wr.drew = w11 at HB HR263_10 HR264_10 hx263_0 hx263_1 hx263_10 hx263_11 hx263_2 hx263_3 hx263_4 hx263_5 hx263_6 hx263_7 hx263_8 hx263_9 hx264_0 hx264_1 hx264_10 hx264_11 hx264_2 hx264_3 hx264_4 hx264_5 hx264_6 hx264_7 hx264_8 hx264_9 hHeld ⊢
      refine pure_ (i := 0) (N := some 17) (v := ?_) (a' := ?_) #[true, false, false, false, false, false, false, false, false, false] rfl rfl (any_of HT_.out (by kernel_rfl)) (fun _ _ _ h => h) (Or.inl ⟨by rfl, ?_⟩) ?_ ?_
      rotate_left
      ·intro w'
       go_simp
       with_reducible rfl
      rotate_left
      ·simp only [Act.put, List.setIfInBounds_toArray, List.set_cons_zero, List.set_cons_succ, i64_w, i32_w]
       rfl
      refine pure_ (i := 1) (N := some 18) (v := ?_) (a' := ?_) #[true, true, false, false, false, false, false, false, false, false] rfl rfl (any_of HT_.out (by kernel_rfl)) (fun _ _ _ h => h) (Or.inl ⟨by rfl, ?_⟩) ?_ ?_
      rotate_left
      ·intro w'
       go_simp
       with_reducible rfl
      rotate_left
      ·simp only [Act.put, List.setIfInBounds_toArray, List.set_cons_zero, List.set_cons_succ, i64_w, i32_w]
       rfl
      refine pure_ (i := 2) (N := some 19) (v := ?_) (a' := ?_) #[true, true, true, false, false, false, false, false, false, false] rfl rfl (any_of HT_.out (by kernel_rfl)) (fun _ _ _ h => h) (Or.inl ⟨by rfl, ?_⟩) ?_ ?_
      rotate_left
      ·intro w'
       go_simp
       with_reducible rfl
      rotate_left
      ·simp only [Act.put, List.setIfInBounds_toArray, List.set_cons_zero, List.set_cons_succ, i64_w, i32_w]
       rfl
      refine pure_ (i := 4) (N := some 21) (v := ?_) (a' := ?_) #[true, true, true, false, true, false, false, false, false, false] rfl rfl (any_of HT_.out (by kernel_rfl)) (fun _ _ _ h => h) (Or.inl ⟨by rfl, ?_⟩) ?_ ?_
      rotate_left
      ·intro w'
       go_simp
       with_reducible rfl
      rotate_left
      ·simp only [Act.put, List.setIfInBounds_toArray, List.set_cons_zero, List.set_cons_succ, i64_w, i32_w]
       rfl
      refine pure_ (i := 5) (N := some 22) (v := ?_) (a' := ?_) #[true, true, true, false, true, true, false, false, false, false] rfl rfl (any_of HT_.out (by kernel_rfl)) (fun _ _ _ h => h) (Or.inl ⟨by rfl, ?_⟩) ?_ ?_
      rotate_left
      ·intro w'
       go_simp
       with_reducible rfl
      rotate_left
      ·simp only [Act.put, List.setIfInBounds_toArray, List.set_cons_zero, List.set_cons_succ, i64_w, i32_w]
       rfl
      refine pure_ (i := 6) (N := some 23) (v := ?_) (a' := ?_) #[true, true, true, false, true, true, true, false, false, false] rfl rfl (any_of HT_.out (by kernel_rfl)) (fun _ _ _ h => h) (Or.inl ⟨by rfl, ?_⟩) ?_ ?_
      rotate_left
      ·intro w'
       go_simp
       with_reducible rfl
      rotate_left
      ·simp only [Act.put, List.setIfInBounds_toArray, List.set_cons_zero, List.set_cons_succ, i64_w, i32_w]
       rfl
      refine take_ (i := 3) (N := some 20) (v := ?_) (a' := ?_) #[true, true, true, true, true, true, true, false, false, false] rfl rfl (take_ofW HT_.out HW_.out (by kernel_rfl)) (fun _ _ _ h => h) (Or.inl ⟨by rfl, ?_⟩) hHeld ?_ ?_
      rotate_left
      ·rintro w' ⟨s0, s1, s2, s3, s4, s5, s6, s7, s8, s9, s10, s11, s12, s13, s14, s15, s16, s17, s18, s19, s20, s21, s22, s23⟩
       go_simp
       with_reducible rfl
      rotate_left
      ·simp only [Act.put, List.setIfInBounds_toArray, List.set_cons_zero, List.set_cons_succ, i64_w, i32_w]
       rfl
      refine take_ (i := 7) (N := some 24) (v := ?_) (a' := ?_) #[true, true, true, true, true, true, true, true, false, false] rfl rfl (take_ofW HT_.out HW_.out (by kernel_rfl)) (fun _ _ _ h => h) (Or.inl ⟨by rfl, ?_⟩) hHeld ?_ ?_
      rotate_left
      ·rintro w' ⟨s0, s1, s2, s3, s4, s5, s6, s7, s8, s9, s10, s11, s12, s13, s14, s15, s16, s17, s18, s19, s20, s21, s22, s23⟩
       go_simp
       with_reducible rfl
      rotate_left
      ·simp only [Act.put, List.setIfInBounds_toArray, List.set_cons_zero, List.set_cons_succ, i64_w, i32_w]
       rfl
      refine one_ (i := 8) (N := some 25) #[true, true, true, true, true, true, true, true, true, false] rfl rfl (one_of HT_.out (by kernel_rfl)) (by decide) (fun K hK => ?_)
      refine goes_ Try.func28 (by kernel_rfl) rfl #[.agg #[.int .i64 ((rd_T32 l0 x5_1).f0), .int .i64 ((rd_T32 l0 x5_1).f1), .int .i64 ((rd_T32 l0 x5_1).f2), .int .i64 ((rd_T32 l0 x5_1).f3), .int .i64 ((rd_T32 l0 x5_1).f4), .int .i64 ((rd_T32 l0 x5_1).f5.f0), .int .i64 ((rd_T32 l0 x5_1).f5.f1), .int .i64 ((rd_T32 l0 x5_1).f5.f2), .int .i64 ((rd_T32 l0 x5_1).f5.f3), .int .i64 ((rd_T32 l0 x5_1).f5.f4), .slice A263_10 ((rd_T32 l0 x5_1).f5.f5).length c263_10, .int .i64 ((rd_T32 l0 x5_1).f6)], .agg #[.int .i64 ((rd_T32 l1 x5_1).f0), .int .i64 ((rd_T32 l1 x5_1).f1), .int .i64 ((rd_T32 l1 x5_1).f2), .int .i64 ((rd_T32 l1 x5_1).f3), .int .i64 ((rd_T32 l1 x5_1).f4), .int .i64 ((rd_T32 l1 x5_1).f5.f0), .int .i64 ((rd_T32 l1 x5_1).f5.f1), .int .i64 ((rd_T32 l1 x5_1).f5.f2), .int .i64 ((rd_T32 l1 x5_1).f5.f3), .int .i64 ((rd_T32 l1 x5_1).f5.f4), .slice A264_10 ((rd_T32 l1 x5_1).f5.f5).length c264_10, .int .i64 ((rd_T32 l1 x5_1).f6)]] (by rfl) rfl rfl (by (try simp only [List.map_toArray, List.map_cons, List.map_nil]); first | done | rfl | (simp only [List.length_drop, List.length_take]; rfl)) ?_
      with_reducible refine (ref20_One.calls k1 ((rd_T32 l0 x5_1).f0) ((rd_T32 l0 x5_1).f1) ((rd_T32 l0 x5_1).f2) ((rd_T32 l0 x5_1).f3) ((rd_T32 l0 x5_1).f4) ((rd_T32 l0 x5_1).f5.f0) ((rd_T32 l0 x5_1).f5.f1) ((rd_T32 l0 x5_1).f5.f2) ((rd_T32 l0 x5_1).f5.f3) ((rd_T32 l0 x5_1).f5.f4) _ _ ((rd_T32 l0 x5_1).f5.f5) ((rd_T32 l0 x5_1).f6) ((rd_T32 l1 x5_1).f0) ((rd_T32 l1 x5_1).f1) ((rd_T32 l1 x5_1).f2) ((rd_T32 l1 x5_1).f3) ((rd_T32 l1 x5_1).f4) ((rd_T32 l1 x5_1).f5.f0) ((rd_T32 l1 x5_1).f5.f1) ((rd_T32 l1 x5_1).f5.f2) ((rd_T32 l1 x5_1).f5.f3) ((rd_T32 l1 x5_1).f5.f4) _ _ ((rd_T32 l1 x5_1).f5.f5) ((rd_T32 l1 x5_1).f6) false _ ?side1 ?side2 ?side3 ?side4 A7.out).mono ?_
      (case side1 => repeat (first | exact (Kd.C_below HR263_10.out HB.out) | (with_reducible refine Kd.C_alloc ?_ _) | (with_reducible refine Kd.C_drewN ?_ _) | (with_reducible refine Kd.C_drew ?_)))
      (case side2 => exact HC263_10.out)
      (case side3 => repeat (first | exact (Kd.C_below HR264_10.out HB.out) | (with_reducible refine Kd.C_alloc ?_ _) | (with_reducible refine Kd.C_drewN ?_ _) | (with_reducible refine Kd.C_drew ?_)))
      (case side4 => exact HC264_10.out)
      rintro e w12 ⟨rfl, hb⟩
      refine ⟨_, rfl, ?_⟩
      have n0_ := Aside0.mk (below_step (by repeat (first | (with_reducible first | exact HB.out | apply below_alloc | apply pw_below_drewN | apply below_drew1) | exact HB.out)) hb)
      clear HB
      have HB := n0_
      clear n0_
      (try clear hb)
      (try clear hb2)
      (try clear hk)
      (try clear hi)
      refine hK.out _ _ ⟨((HB.out.cell (World.block_lt_of_cell? w _ hw263_0)).trans hw263_0), ((HB.out.cell (World.block_lt_of_cell? w _ hw263_1)).trans hw263_1), ((HB.out.cell (World.block_lt_of_cell? w _ hw263_2)).trans hw263_2), ((HB.out.cell (World.block_lt_of_cell? w _ hw263_3)).trans hw263_3), ((HB.out.cell (World.block_lt_of_cell? w _ hw263_4)).trans hw263_4), ((HB.out.cell (World.block_lt_of_cell? w _ hw263_5)).trans hw263_5), ((HB.out.cell (World.block_lt_of_cell? w _ hw263_6)).trans hw263_6), ((HB.out.cell (World.block_lt_of_cell? w _ hw263_7)).trans hw263_7), ((HB.out.cell (World.block_lt_of_cell? w _ hw263_8)).trans hw263_8), ((HB.out.cell (World.block_lt_of_cell? w _ hw263_9)).trans hw263_9), ((HB.out.cell (World.block_lt_of_cell? w _ hw263_10)).trans hw263_10), ((HB.out.cell (World.block_lt_of_cell? w _ hw263_11)).trans hw263_11), ((HB.out.cell (World.block_lt_of_cell? w _ hw264_0)).trans hw264_0), ((HB.out.cell (World.block_lt_of_cell? w _ hw264_1)).trans hw264_1), ((HB.out.cell (World.block_lt_of_cell? w _ hw264_2)).trans hw264_2), ((HB.out.cell (World.block_lt_of_cell? w _ hw264_3)).trans hw264_3), ((HB.out.cell (World.block_lt_of_cell? w _ hw264_4)).trans hw264_4), ((HB.out.cell (World.block_lt_of_cell? w _ hw264_5)).trans hw264_5), ((HB.out.cell (World.block_lt_of_cell? w _ hw264_6)).trans hw264_6), ((HB.out.cell (World.block_lt_of_cell? w _ hw264_7)).trans hw264_7), ((HB.out.cell (World.block_lt_of_cell? w _ hw264_8)).trans hw264_8), ((HB.out.cell (World.block_lt_of_cell? w _ hw264_9)).trans hw264_9), ((HB.out.cell (World.block_lt_of_cell? w _ hw264_10)).trans hw264_10), ((HB.out.cell (World.block_lt_of_cell? w _ hw264_11)).trans hw264_11)⟩ (fun hHeld => ?_)
      clear hK K
      refine norm_ (a' := ?_) ?_ ?_
      rotate_left
      ·show Act.put _ (some 25) _ = _
       simp only [Act.put, List.setIfInBounds_toArray, List.set_cons_zero, List.set_cons_succ, i64_w, i32_w]
       rfl
      refine pure_ (i := 9) (N := some 26) (v := ?_) (a' := ?_) #[true, true, true, true, true, true, true, true, true, true] rfl rfl (any_of HT_.out (by kernel_rfl)) (fun _ _ _ h => h) (Or.inl ⟨by rfl, ?_⟩) ?_ ?_
      rotate_left
      ·intro w'
       go_simp
       with_reducible rfl
      rotate_left
      ·simp only [Act.put, List.setIfInBounds_toArray, List.set_cons_zero, List.set_cons_succ, i64_w, i32_w]
       rfl
      refine done_ (done_of HT_.out (by kernel_rfl)) ?_
      try go_wp2
      go_ret
      exact ⟨by first | rfl | (simp [errW_none, errW_some] <;> rfl) | (simp [*, errW_none, errW_some] <;> rfl), by repeat (first | (with_reducible first | exact HB.out | apply below_alloc | apply pw_below_drewN | apply below_drew1) | exact HB.out)⟩
    ·rw [if_neg c4] at H
     have c4b0 : decide (x5_1 < (l0.length : Int)) = false := decide_eq_false c4
     clear c4
     obtain rfl := Option.some.inj H
     go_wp2
     go_ret
     exact ⟨by first | rfl | (simp [errW_none, errW_some] <;> rfl) | (simp [*, errW_none, errW_some] <;> rfl), by repeat (first | (with_reducible first | exact HB.out | apply below_alloc | apply pw_below_drewN | apply below_drew1) | exact HB.out)⟩
 ·rw [if_neg c3] at H
  have c3b0 : ((l0.length : Int) == (l1.length : Int)) = false := beq_eq_false_iff_ne.mpr c3
  have c3b1 : ((l0.length : Int) != (l1.length : Int)) = true := bne_iff_ne.mpr c3
  have c3b2 : (l0.length == l1.length) = false := by first | simpa using c3 | (simp at c3 ⊢; omega)
  obtain rfl := Option.some.inj H
  go_enter Try.func17, Try.ntmps17
  go_wp2
  go_ret
  exact ⟨by first | rfl | (simp [errW_none, errW_some] <;> rfl) | (simp [*, errW_none, errW_some] <;> rfl), by repeat (first | (with_reducible first | exact HB.out | apply below_alloc | apply pw_below_drewN | apply below_drew1) | exact HB.out)⟩

/-! ### ref20_Drop: function 19 -/
def ref20_Drop.l0 : Nat → List (S32) → Int → List (S32) → Int → Option ((List (S32)))
 | 0, _, _, _, _ => none
 | k + 1, x0, x1, x5, x6 => if x6 < (x0.length : Int) then (if x6 = x1 then (ref20_Drop.l0 k x0 x1 x5 (wrap64 (x6 + 1))) else (if 0 ≤ x6 then (if x5.length < 1256584717458 then (ref20_Drop.l0 k x0 x1 (x5 ++ [(⟨(rd_T32 x0 x6).f0, (rd_T32 x0 x6).f1, (rd_T32 x0 x6).f2, (rd_T32 x0 x6).f3, (rd_T32 x0 x6).f4, (⟨(rd_T32 x0 x6).f5.f0, (rd_T32 x0 x6).f5.f1, (rd_T32 x0 x6).f5.f2, (rd_T32 x0 x6).f5.f3, (rd_T32 x0 x6).f5.f4, (rd_T32 x0 x6).f5.f5⟩ : S30), (rd_T32 x0 x6).f6⟩ : S32)]) (wrap64 (x6 + 1))) else (none)) else (none))) else (some x5)
def ref20_Drop.f (k : Nat) (l0 : List (S32)) (a1 : Int) : Option ((List (S32))) := ref20_Drop.l0 k l0 a1 ([] : List (S32)) 0
theorem ref20_Drop.mono_l : ∀ k, (∀ y0 y1 y2 y3, LeO (ref20_Drop.l0 k y0 y1 y2 y3) (ref20_Drop.l0 (k + 1) y0 y1 y2 y3))
 | 0 => fun _ _ _ _ r h => by simp [ref20_Drop.l0] at h
 | k + 1 => by
  have ih0 := ref20_Drop.mono_l k
  ·intro y0 y1 y2 y3
   unfold ref20_Drop.l0
   repeat' first
   | (with_reducible exact ih0 _ _ _ _)
   | (with_reducible exact LeO.refl _)
   | (with_reducible exact LeO.none _)
   | (with_reducible refine LeO.ite ?_ ?_)
   | (with_reducible refine LeO.bind ?_ (fun _ => ?_))
   | exact ih0 _ _ _ _
   | exact LeO.none _
   | refine LeO.ite ?_ ?_
   | refine LeO.bind ?_ (fun _ => ?_)
theorem ref20_Drop.mono : ∀ a0 a1 k, LeO (ref20_Drop.f k a0 a1) (ref20_Drop.f (k + 1) a0 a1) := by
 intro a0 a1 k
 have ih0 := ref20_Drop.mono_l k
 unfold ref20_Drop.f
 repeat' first
  | (with_reducible exact ih0 _ _ _ _)
  | (with_reducible exact LeO.refl _)
  | (with_reducible exact LeO.none _)
  | (with_reducible refine LeO.ite ?_ ?_)
  | (with_reducible refine LeO.bind ?_ (fun _ => ?_))
  | exact ih0 _ _ _ _
  | exact LeO.none _
  | refine LeO.ite ?_ ?_
  | refine LeO.bind ?_ (fun _ => ?_)
set_option maxHeartbeats 8000000 in
set_option maxRecDepth 100000 in
theorem ref20_Drop.calls (k : Nat) (P0_ : Nat → Prop) (A0 : Option Addr) (c0 : Nat) (l0 : List (S32)) (a1 : Int) (r : List (S32)) (w : World) (hs0 : Kd.V k32 32 w w.heap.size (fun k_ => P0_ k_) (.slice A0 l0.length c0) l0) (h : ref20_Drop.f k l0 a1 = some r) :
 Calls Try.prog 19 #[.slice A0 l0.length c0, .int .i64 a1] w fun e w' => ∃ v0_ : Value, e = .returned (v0_) ∧ Kd.N k32 32 w' w.heap.size (fun k_ => (P0_ k_ ∨ w.heap.size ≤ k_)) v0_ r ∧ Below w.heap.size w w' := by
 have hu32 := Try.underlying32
 have HO0 := Aside0.mk (show Kd.V k32 32 w w.heap.size (fun k_ => (P0_ k_ ∨ w.heap.size ≤ k_)) (.slice A0 l0.length c0) l0 from Kd.V_mono hs0 (fun k_ hk => .inl hk))
 have HB := Aside0.mk (Below.refl w.heap.size w)
 have H : (ref20_Drop.l0 k l0 a1 ([] : List (S32)) 0) = some r := h
 clear h
 have H' := Aside0.mk H
 clear H
 go_enter Try.func19, Try.ntmps19
 go_wp2
 go_loopg [5, 6] k (fun kq v5 v6 w' => ∃ (x5_1 : List (S32)) (x6_1 : Int), v6 = .int .i64 x6_1 ∧ Aside0 (ref20_Drop.l0 kq l0 a1 x5_1 x6_1 = some r) ∧ Aside0 (kq ≤ k) ∧ Aside0 (Kd.V k32 32 w' w.heap.size (fun k_ => (P0_ k_ ∨ w.heap.size ≤ k_) ∧ some k_ ≠ (v5 : Value).ownBlock) (.slice A0 l0.length c0) l0) ∧ Aside0 (Kd.N k32 32 w' w.heap.size (fun k_ => (P0_ k_ ∨ w.heap.size ≤ k_)) v5 x5_1) ∧ Aside0 (Below w.heap.size w w'))
 case atStart => exact ⟨(([] : List (S32))), (0), (by first | rfl | (simp; done) | (simp [*]; done) | (simp [bne_nil_]; done)), H', ⟨Nat.le_refl _⟩, ⟨by (with_reducible repeat (first | apply Kd.V_alloc | apply Kd.V_drewN | apply Kd.V_drew)); exact Kd.V_mono HO0.out (fun _ hk => ⟨hk, (by simp [Value.ownBlock])⟩)⟩, ⟨by first | exact Kd.S_nil _ _ _ _ _ | exact Kd.N_nil _ _ _ _ _ | exact Kd.V_nil _ _ _ _ _ | exact Kd.Q_nil _ _ _ _ _ | exact Kd.R_nil _ _ _ _ _⟩, ⟨by repeat (first | (with_reducible first | exact HB.out | apply below_alloc | apply pw_below_drewN | apply below_drew1) | exact HB.out)⟩⟩
 case round =>
  clear H'
  try clear c1
  try clear p2
  obtain ⟨x5_1, x6_1, rfl, HA, HK1, HO_0, HO_5, HB⟩ := hrel
  cases gk with
  | zero => exact absurd HA.out (by simp [ref20_Drop.l0])
  | succ k1 =>
   have H := HA.out
   clear HA
   simp only [ref20_Drop.l0] at H
   by_cases c3 : x6_1 < (l0.length : Int)
   ·rw [if_pos c3] at H
    have c3b0 : decide (x6_1 < (l0.length : Int)) = true := decide_eq_true c3
    clear c3
    by_cases c4 : x6_1 = a1
    ·rw [if_pos c4] at H
     have c4b0 : (x6_1 == a1) = true := beq_iff_eq.mpr c4
     have c4b1 : (x6_1 != a1) = false := bne_eq_false_iff_eq.mpr c4
     clear c4
     have H' := Aside0.mk H
     clear H
     go_wp2
     go_roundg k1
     case measure => have := HK1.out; omega
     case rel => exact ⟨(x5_1), (wrap64 (x6_1 + 1)), (by first | rfl | (simp; done) | (simp [*]; done) | (simp [bne_nil_]; done)), H', ⟨by have := HK1.out; omega⟩, ⟨by (with_reducible repeat (first | apply Kd.V_alloc | apply Kd.V_drewN | apply Kd.V_drew)); exact HO_0.out⟩, ⟨by (with_reducible repeat (first | apply Kd.N_alloc | apply Kd.N_drewN | apply Kd.N_drew)); exact HO_5.out⟩, ⟨by repeat (first | (with_reducible first | exact HB.out | apply below_alloc | apply pw_below_drewN | apply below_drew1) | exact HB.out)⟩⟩
    ·rw [if_neg c4] at H
     have c4b0 : (x6_1 == a1) = false := beq_eq_false_iff_ne.mpr c4
     have c4b1 : (x6_1 != a1) = true := bne_iff_ne.mpr c4
     by_cases c5 : 0 ≤ x6_1
     rotate_left
     ·rw [if_neg c5] at H
      exact absurd H (by simp)
     rw [if_pos c5] at H
     have c5b0 : decide (0 ≤ x6_1) = true := decide_eq_true c5
     clear c5
     by_cases c6 : x5_1.length < 1256584717458
     rotate_left
     ·rw [if_neg c6] at H
      exact absurd H (by simp)
     rw [if_pos c6] at H
     have LMc6 := Aside0.mk c6
     clear c6
     obtain ⟨y267, hy267⟩ : ∃ y_ : List (S32), y_ = (x5_1 ++ [(⟨(rd_T32 l0 x6_1).f0, (rd_T32 l0 x6_1).f1, (rd_T32 l0 x6_1).f2, (rd_T32 l0 x6_1).f3, (rd_T32 l0 x6_1).f4, (⟨(rd_T32 l0 x6_1).f5.f0, (rd_T32 l0 x6_1).f5.f1, (rd_T32 l0 x6_1).f5.f2, (rd_T32 l0 x6_1).f5.f3, (rd_T32 l0 x6_1).f5.f4, (rd_T32 l0 x6_1).f5.f5⟩ : S30), (rd_T32 l0 x6_1).f6⟩ : S32)]) := ⟨_, rfl⟩
     replace H : (ref20_Drop.l0 k1 l0 a1 y267 (wrap64 (x6_1 + 1))) = some r := by first | (rw [hy267]; with_reducible exact H) | (have H2_ := (Option.bind_some _ _).symm.trans H; rw [hy267]; with_reducible exact H2_) | (have H2_ := (Option.bind_some _ _).symm.trans H; with_reducible exact H2_) | with_reducible exact H | (rw [hy267]; exact H) | exact H
     have Ny267 := Aside0.mk hy267
     clear hy267
     have H' := Aside0.mk H
     clear H
     have p266 : 0 ≤ (x6_1 : Int) := of_decide_eq_true (by first | (with_reducible assumption) | assumption)
     have q266 : x6_1 < (l0.length : Int) := of_decide_eq_true (by first | (with_reducible assumption) | assumption)
     obtain ⟨ad266, A266_10, c266_10, e266, hx266_0, hx266_1, hx266_2, hx266_3, hx266_4, hx266_5, hx266_6, hx266_7, hx266_8, hx266_9, hx266_10, hx266_11, hl266_10, hi266_10⟩ := at_T32 (Kd.V_reads' HO_0.out).2.2 x6_1 p266 q266
     cases e266
     obtain ⟨ce266, hce266, hMe266, hcc266⟩ := Kd.V_get HO_0.out z32 x6_1 p266 (by first | exact q266 | exact of_decide_eq_true (by first | (with_reducible assumption) | assumption) | (have e_ := (Kd.V_reads' HO_0.out).1; omega))
     obtain ⟨ua266_10, uc266_10, rfl, ul266_10, ge266_10⟩ := k32_openF hMe266
     have hv266_10 := hcc266 10 _ rfl
     rw [add_field _ _ 10 (by omega)] at hv266_10
     replace hv266_10 := Option.some.inj (hv266_10.symm.trans hx266_10)
     injection hv266_10 with hva_ hvn_ hvc_
     rw [hva_] at ge266_10
     rw [hvc_] at ul266_10
     have HL266_10 := Aside0.mk (show Kd.V (Kd.int .i64) 3 _ w.heap.size _ _ ((rd_T32 l0 x6_1).f5.f5) from Kd.V_mk ul266_10 ge266_10)
     clear hva_ hvn_ hvc_ ge266_10 ul266_10
     clear hcc266 hce266
     have HR266_10 := Aside0.mk hi266_10
     have HC266_10 := Aside0.mk hl266_10
     clear hi266_10 hl266_10
     replace p266 := eq_true p266
     replace q266 := eq_true q266
     go_wp2_with (first | ((with_reducible refine gate_builtin (b := .append) (xs := #[.tmp 16, .tmp 21]) rfl ?_); at_builtin; refine Kd.N_append k32 (w0 := w) w.heap.size rfl (.tmp 16) (.tmp 21) 22 32 (.agg #[(.int .i64 0), (.int .i64 0), (.int .i64 0), (.int .i64 0), (.int .i64 0), (.int .i64 0), (.int .i64 0), (.int .i64 0), (.int .i64 0), (.int .i64 0), (.slice none 0 0), (.int .i64 0)]) 112 rfl Try.underlying22 info32 rfl (by decide) (by omega) u5 x5_1 (⟨(rd_T32 l0 x6_1).f0, (rd_T32 l0 x6_1).f1, (rd_T32 l0 x6_1).f2, (rd_T32 l0 x6_1).f3, (rd_T32 l0 x6_1).f4, (⟨(rd_T32 l0 x6_1).f5.f0, (rd_T32 l0 x6_1).f5.f1, (rd_T32 l0 x6_1).f5.f2, (rd_T32 l0 x6_1).f5.f3, (rd_T32 l0 x6_1).f5.f4, (rd_T32 l0 x6_1).f5.f5⟩ : S30), (rd_T32 l0 x6_1).f6⟩ : S32) [.int .i64 ((rd_T32 l0 x6_1).f0), .int .i64 ((rd_T32 l0 x6_1).f1), .int .i64 ((rd_T32 l0 x6_1).f2), .int .i64 ((rd_T32 l0 x6_1).f3), .int .i64 ((rd_T32 l0 x6_1).f4), .int .i64 ((rd_T32 l0 x6_1).f5.f0), .int .i64 ((rd_T32 l0 x6_1).f5.f1), .int .i64 ((rd_T32 l0 x6_1).f5.f2), .int .i64 ((rd_T32 l0 x6_1).f5.f3), .int .i64 ((rd_T32 l0 x6_1).f5.f4), .slice A266_10 ((rd_T32 l0 x6_1).f5.f5).length c266_10, .int .i64 ((rd_T32 l0 x6_1).f6)] (fun k_ => (P0_ k_ ∨ w.heap.size ≤ k_)) (fun k_ => ((fun k_ => (P0_ k_ ∨ w.heap.size ≤ k_))) k_ ∧ some k_ ≠ (u5 : Value).ownBlock) rfl rfl ?aP (fun _ hk => hk) ?aF ?aO ?aB ?aS ?aL ?_; (case aP => exact (k32_mkF _ _ (⟨(rd_T32 l0 x6_1).f0, (rd_T32 l0 x6_1).f1, (rd_T32 l0 x6_1).f2, (rd_T32 l0 x6_1).f3, (rd_T32 l0 x6_1).f4, (⟨(rd_T32 l0 x6_1).f5.f0, (rd_T32 l0 x6_1).f5.f1, (rd_T32 l0 x6_1).f5.f2, (rd_T32 l0 x6_1).f5.f3, (rd_T32 l0 x6_1).f5.f4, (rd_T32 l0 x6_1).f5.f5⟩ : S30), (rd_T32 l0 x6_1).f6⟩ : S32) (Kd.V_reads' (Kd.V_mono (ok' := (fun k_ => ((fun k_ => (P0_ k_ ∨ w.heap.size ≤ k_))) k_ ∧ some k_ ≠ (u5 : Value).ownBlock)) (HL266_10.out) (fun k_ hk => ⟨hk.1, hk.2⟩))).2.1 (Kd.V_F (Kd.V_mono (ok' := (fun k_ => ((fun k_ => (P0_ k_ ∨ w.heap.size ≤ k_))) k_ ∧ some k_ ≠ (u5 : Value).ownBlock)) (HL266_10.out) (fun k_ hk => ⟨hk.1, hk.2⟩))))); (case aB => exact (by repeat (first | (with_reducible first | exact HB.out | apply below_alloc | apply pw_below_drewN | apply below_drew1) | exact HB.out))); (case aF => exact (fun k_ hk => (.inr (Nat.le_trans (below_size (by repeat (first | (with_reducible first | exact HB.out | apply below_alloc | apply pw_below_drewN | apply below_drew1) | exact HB.out))) hk)))); (case aO => exact (by (with_reducible repeat (first | apply Kd.N_alloc | apply Kd.N_drewN | apply Kd.N_drew)); exact HO_5.out)); (case aS => exact (below_size (by repeat (first | (with_reducible first | exact HB.out | apply below_alloc | apply pw_below_drewN | apply below_drew1) | exact HB.out)))); (case aL => have := LMc6.out; omega); intro v268 w7 ho hb hg hat; rw [← Ny267.out] at ho; have n0_ := Aside0.mk (Kd.V_afterv (ok := (fun k_ => (P0_ k_ ∨ w.heap.size ≤ k_))) (by (with_reducible repeat (first | apply Kd.V_alloc | apply Kd.V_drewN | apply Kd.V_drew)); exact HO_0.out) hg hat); have n1_ := Aside0.mk (Kd.V_afterv (ok := (fun k_ => (P0_ k_ ∨ w.heap.size ≤ k_))) (by (with_reducible repeat (first | apply Kd.V_alloc | apply Kd.V_drewN | apply Kd.V_drew)); exact HL266_10.out) hg hat); have n2_ := Aside0.mk (hb); have n3_ := Aside0.mk (ho); clear HO_0; clear HL266_10; clear HB; clear HO_5; have HO_0 := n0_; have HL266_10 := n1_; have HB := n2_; have HO269 := n3_; clear n0_ n1_ n2_ n3_; clear ho hb hg hat))
     go_roundg k1
     case measure => have := HK1.out; omega
     case rel => exact ⟨(y267), (wrap64 (x6_1 + 1)), (by first | rfl | (simp; done) | (simp [*]; done) | (simp [bne_nil_]; done)), H', ⟨by have := HK1.out; omega⟩, ⟨by (with_reducible repeat (first | apply Kd.V_alloc | apply Kd.V_drewN | apply Kd.V_drew)); exact HO_0.out⟩, ⟨by (with_reducible repeat (first | apply Kd.N_alloc | apply Kd.N_drewN | apply Kd.N_drew)); exact HO269.out⟩, ⟨by repeat (first | (with_reducible first | exact HB.out | apply below_alloc | apply pw_below_drewN | apply below_drew1) | exact HB.out)⟩⟩
   ·rw [if_neg c3] at H
    have c3b0 : decide (x6_1 < (l0.length : Int)) = false := decide_eq_false c3
    clear c3
    obtain rfl := Option.some.inj H
    go_wp2
    go_ret
    exact ⟨_, by first | rfl | (simp [errW_none, errW_some] <;> rfl) | (simp [*, errW_none, errW_some] <;> rfl), by (with_reducible repeat (first | apply Kd.N_alloc | apply Kd.N_drewN | apply Kd.N_drew)); exact HO_5.out, by repeat (first | (with_reducible first | exact HB.out | apply below_alloc | apply pw_below_drewN | apply below_drew1) | exact HB.out)⟩

end Go.Proofs.Ytnmloapejbnejaa.P

-- Written by a program of this session (wip/mkprint.py). Not trusted: Lean checks it.
import Derived.Test.YtfapfpkijeaapaaP0
import Derived.Test.YtfapfpkijeaapaaP4
import Derived.Test.YtfapfpkijeaapaaP9
import Derived.Test.YtfapfpkijeaapaaP11
import Derived.Test.YtfapfpkijeaapaaP12
import Derived.Test.YtfapfpkijeaapaaP13
import Derived.Test.YtfapfpkijeaapaaP14
import Derived.Test.YtfapfpkijeaapaaHandRec
import Derived.Test.YtfapfpkijeaapaaHandTrace
namespace Go.Proofs.Ytfapfpkijeaapaa.P
open Go.RowKit Go.Proofs.YtfapfpkijeaapaaW.PrintWords Go.Proofs.YtfapfpkijeaapaaW.PrintLast Go.Proofs.YtfapfpkijeaapaaW.PrintMore
attribute [local go_sem] max2_int min2_int max_two min_two max_three min_three max_four min_four   -- for this text's walks alone
set_option linter.unusedVariables false
set_option linter.unusedSimpArgs false

/-! ### ref23_All: function 30 -/
def ref23_All.l0 : Nat → ByteArray → List (S48) → Int → Option ((List (S48)) × Bool)
 | 0, _, _, _ => none
 | k + 1, x0, x4, x5 => if x5 < (x0.size : Int) then (if 0 ≤ x5 then (if x5 ≤ (wrap64 (x5 + 20)) then (if (wrap64 (x5 + 20)) ≤ (x0.size : Int) then ((ref23_Get.f (x0.extract (x5 : Int).toNat ((wrap64 (x5 + 20)) : Int).toNat)).bind fun bt306 => (if bt306.2.2.2.2.2.2.2.2.2 = true then (if x4.length < 1954687338268 then (ref23_All.l0 k x0 (x4 ++ [(⟨bt306.1, bt306.2.1, bt306.2.2.1, bt306.2.2.2.1, bt306.2.2.2.2.1, bt306.2.2.2.2.2.1, bt306.2.2.2.2.2.2.1, bt306.2.2.2.2.2.2.2.1, bt306.2.2.2.2.2.2.2.2.1⟩ : S48)]) (wrap64 (x5 + 20))) else (none)) else (some (([] : List (S48)), false)))) else (none)) else (none)) else (none)) else (some (x4, true))
def ref23_All.f (k : Nat) (a0 : ByteArray) : Option ((List (S48)) × Bool) := if ((a0.size : Int) % 20) = 0 then (ref23_All.l0 k a0 ([] : List (S48)) 0) else (some (([] : List (S48)), false))
theorem ref23_All.mono_l : ∀ k, (∀ y0 y1 y2, LeO (ref23_All.l0 k y0 y1 y2) (ref23_All.l0 (k + 1) y0 y1 y2))
 | 0 => fun _ _ _ r h => by simp [ref23_All.l0] at h
 | k + 1 => by
  have ih0 := ref23_All.mono_l k
  ·intro y0 y1 y2
   unfold ref23_All.l0
   repeat' first
   | (with_reducible exact ih0 _ _ _)
   | (with_reducible exact LeO.refl _)
   | (with_reducible exact LeO.none _)
   | (with_reducible refine LeO.ite ?_ ?_)
   | (with_reducible refine LeO.bind ?_ (fun _ => ?_))
   | exact ih0 _ _ _
   | exact LeO.none _
   | refine LeO.ite ?_ ?_
   | refine LeO.bind ?_ (fun _ => ?_)
theorem ref23_All.mono : ∀ a0 k, LeO (ref23_All.f k a0) (ref23_All.f (k + 1) a0) := by
 intro a0 k
 have ih0 := ref23_All.mono_l k
 unfold ref23_All.f
 repeat' first
  | (with_reducible exact ih0 _ _ _)
  | (with_reducible exact LeO.refl _)
  | (with_reducible exact LeO.none _)
  | (with_reducible refine LeO.ite ?_ ?_)
  | (with_reducible refine LeO.bind ?_ (fun _ => ?_))
  | exact ih0 _ _ _
  | exact LeO.none _
  | refine LeO.ite ?_ ?_
  | refine LeO.bind ?_ (fun _ => ?_)
set_option maxHeartbeats 8000000 in
set_option maxRecDepth 100000 in
theorem ref23_All.calls (k : Nat) (a0 : ByteArray) (r1 : List (S48)) (r2 : Bool) (w : World) (h : ref23_All.f k a0 = some (r1, r2)) :
 Calls Try.prog 30 #[.string a0] w fun e w' => ∃ v0_ : Value, e = .returned (.tuple #[v0_, .bool r2]) ∧ Kd.R k48 48 w' w.heap.size (fun _ => True) v0_ r1 ∧ Below w.heap.size w w' := by
 have hu48 := Try.underlying48
 have HB := Aside0.mk (Below.refl w.heap.size w)
 have H : (if ((a0.size : Int) % 20) = 0 then (ref23_All.l0 k a0 ([] : List (S48)) 0) else (some (([] : List (S48)), false))) = some (r1, r2) := h
 clear h
 by_cases c2 : ((a0.size : Int) % 20) = 0
 ·rw [if_pos c2] at H
  have c2b0 : (((a0.size : Int) % 20) == 0) = true := beq_iff_eq.mpr c2
  have c2b1 : (((a0.size : Int) % 20) != 0) = false := bne_eq_false_iff_eq.mpr c2
  clear c2
  have H' := Aside0.mk H
  clear H
  go_enter Try.func30, Try.ntmps30
  go_wp2
  go_loopg [4, 5] k (fun kq v4 v5 w' => ∃ (x4_1 : List (S48)) (x5_1 : Int), v5 = .int .i64 x5_1 ∧ Aside0 (ref23_All.l0 kq a0 x4_1 x5_1 = some (r1, r2)) ∧ Aside0 (kq ≤ k) ∧ Aside0 (Kd.R k48 48 w' w.heap.size (fun _ => True) v4 x4_1) ∧ Aside0 (Below w.heap.size w w'))
  case atStart => exact ⟨(([] : List (S48))), (0), (by first | rfl | (simp; done) | (simp [*]; done) | (simp [bne_nil_]; done)), H', ⟨Nat.le_refl _⟩, ⟨by first | exact Kd.R_nil _ _ _ _ _ | exact Kd.N_nil _ _ _ _ _ | exact Kd.V_nil _ _ _ _ _ | exact Kd.Q_nil _ _ _ _ _ | exact Kd.S_nil _ _ _ _ _⟩, ⟨by repeat (first | (with_reducible first | exact HB.out | apply zF | apply zD | apply zE) | exact HB.out)⟩⟩
  case round =>
   clear H'
   try clear c2
   try clear c2b0
   try clear c2b1
   try clear p2
   obtain ⟨x4_1, x5_1, rfl, HA, HK1, HO_4, HB⟩ := hrel
   cases gk with
   | zero => exact absurd HA.out (by simp [ref23_All.l0])
   | succ k1 =>
    have H := HA.out
    clear HA
    simp only [ref23_All.l0] at H
    by_cases c3 : x5_1 < (a0.size : Int)
    ·rw [if_pos c3] at H
     have c3b0 : decide (x5_1 < (a0.size : Int)) = true := zW c3
     clear c3
     by_cases c4 : 0 ≤ x5_1
     rotate_left
     ·rw [if_neg c4] at H
      exact absurd H (by simp)
     rw [if_pos c4] at H
     have c4b0 := eq_true c4
     have c4b1 : decide (0 ≤ x5_1) = true := zW c4
     clear c4
     by_cases c5 : x5_1 ≤ (wrap64 (x5_1 + 20))
     rotate_left
     ·rw [if_neg c5] at H
      exact absurd H (by simp)
     rw [if_pos c5] at H
     have c5b0 := eq_true c5
     have c5b1 : decide (x5_1 ≤ (wrap64 (x5_1 + 20))) = true := zW c5
     by_cases c6 : (wrap64 (x5_1 + 20)) ≤ (a0.size : Int)
     rotate_left
     ·rw [if_neg c6] at H
      exact absurd H (by simp)
     rw [if_pos c6] at H
     have c6b0 := eq_true c6
     have c6b1 : decide ((wrap64 (x5_1 + 20)) ≤ (a0.size : Int)) = true := zW c6
     replace H := Option.bind_eq_some_iff.mp H
     obtain ⟨⟨t306, t307, t308, t309, t310, t311, t312, t313, t314, t315⟩, A70, H⟩ := H
     replace H : (if t315 = true then (if x4_1.length < 1954687338268 then (ref23_All.l0 k1 a0 (x4_1 ++ [(⟨t306, t307, t308, t309, t310, t311, t312, t313, t314⟩ : S48)]) (wrap64 (x5_1 + 20))) else (none)) else (some (([] : List (S48)), false))) = some (r1, r2) := H
     have A7 := Aside0.mk A70
     clear A70
     by_cases c8 : t315 = true
     ·subst c8
      have H1 : (if x4_1.length < 1954687338268 then (ref23_All.l0 k1 a0 (x4_1 ++ [(⟨t306, t307, t308, t309, t310, t311, t312, t313, t314⟩ : S48)]) (wrap64 (x5_1 + 20))) else (none)) = some (r1, r2) := by rw [if_pos rfl] at H; exact H
      clear H
      have H := H1
      clear H1
      by_cases c9 : x4_1.length < 1954687338268
      rotate_left
      ·rw [if_neg c9] at H
       exact absurd H (by simp)
      rw [if_pos c9] at H
      have LMc9 := Aside0.mk c9
      clear c9
      obtain ⟨y317, hy317⟩ : ∃ y_ : List (S48), y_ = (x4_1 ++ [(⟨t306, t307, t308, t309, t310, t311, t312, t313, t314⟩ : S48)]) := ⟨_, rfl⟩
      replace H : (ref23_All.l0 k1 a0 y317 (wrap64 (x5_1 + 20))) = some (r1, r2) := by first | (rw [hy317]; with_reducible exact H) | (have H2_ := (Option.bind_some _ _).symm.trans H; rw [hy317]; with_reducible exact H2_) | (have H2_ := (Option.bind_some _ _).symm.trans H; with_reducible exact H2_) | with_reducible exact H | (rw [hy317]; exact H) | exact H
      have Ny317 := Aside0.mk hy317
      clear hy317
      have H' := Aside0.mk H
      clear H
      go_wp2_with (first | ((with_reducible refine gate_callee (f := 42) rfl ?_); refine goesL_ (some 24) rfl rfl Try.func42 (by kernel_rfl) rfl #[.string (a0.extract (x5_1 : Int).toNat ((wrap64 (x5_1 + 20)) : Int).toNat)] rfl (by (try simp only [zO, zP, zQ]); first | done | rfl | (simp only [zS, zR]; rfl)) ?_; (with_reducible refine (ref23_Get.calls (a0.extract (x5_1 : Int).toNat ((wrap64 (x5_1 + 20)) : Int).toNat) t306 t307 t308 t309 t310 t311 t312 t313 t314 true _ A7.out).mono ?_); rintro e w10 ⟨rfl, hb⟩; refine ⟨_, rfl, ?_⟩; have n0_ := Aside0.mk (Kd.R_below (by (with_reducible repeat (first | apply zY | apply zX | apply zZ)); exact HO_4.out) hb); have n1_ := Aside0.mk (zU (by repeat (first | (with_reducible first | exact HB.out | apply zF | apply zD | apply zE) | exact HB.out)) hb); clear HO_4; clear HB; have HO_4 := n0_; have HB := n1_; clear n0_ n1_; (try clear hb); (try clear hb2); (try clear hk); (try clear hi)) | ((with_reducible refine gate_dst (N := 6) rfl ?_); refine box_event ?hg (N := 6) ?hd (cs := #[.int .i64 0, .int .i64 0, .int .i64 0, .int .i64 0, .int .i64 0, .int .i64 0, .int .i64 0, .int .i64 0, .int .i64 0]) (t := 48) ?hr ?_; (case hd => rfl); (case hg => rfl); (case hr => first | (go_simp; done) | (go_simp; rfl)); intro gb316 hg w11 hbox hb; have n0_ := Aside0.mk (Kd.R_below (Kd.R_elderB (by (with_reducible repeat (first | apply zY | apply zX | apply zZ)); exact HO_4.out) gb316 (Nat.le_of_eq hg.symm)) hb); have n1_ := Aside0.mk (zU (by repeat (first | (with_reducible first | exact HB.out | apply zF | apply zD | apply zE) | exact HB.out)) hb); have n2_ := Aside0.mk (hbox); have n3_ := Aside0.mk ((by rw [hg]; exact (zT (by repeat (first | (with_reducible first | exact HB.out | apply zF | apply zD | apply zE) | exact HB.out))) : w.heap.size ≤ gb316)); have n4_ := Aside0.mk ((by rw [hg]; exact (zT (by repeat (first | (with_reducible first | exact HB.out | apply zF | apply zD | apply zE) | exact HB.out))) : w.heap.size ≤ gb316)); clear HO_4; clear HB; have HO_4 := n0_; have HB := n1_; have BK316 := n2_; have GW316 := n3_; have GE316 := n4_; clear n0_ n1_ n2_ n3_ n4_; clear hb hbox hg; have hcz12_0 : w11.cell? ⟨gb316, 0, none⟩ = some (.int .i64 0) := (zK BK316.out 0).trans rfl; have hcz12_1 : w11.cell? ⟨gb316, 1, none⟩ = some (.int .i64 0) := (zK BK316.out 1).trans rfl; have hcz12_2 : w11.cell? ⟨gb316, 2, none⟩ = some (.int .i64 0) := (zK BK316.out 2).trans rfl; have hcz12_3 : w11.cell? ⟨gb316, 3, none⟩ = some (.int .i64 0) := (zK BK316.out 3).trans rfl; have hcz12_4 : w11.cell? ⟨gb316, 4, none⟩ = some (.int .i64 0) := (zK BK316.out 4).trans rfl; have hcz12_5 : w11.cell? ⟨gb316, 5, none⟩ = some (.int .i64 0) := (zK BK316.out 5).trans rfl; have hcz12_6 : w11.cell? ⟨gb316, 6, none⟩ = some (.int .i64 0) := (zK BK316.out 6).trans rfl; have hcz12_7 : w11.cell? ⟨gb316, 7, none⟩ = some (.int .i64 0) := (zK BK316.out 7).trans rfl; have hcz12_8 : w11.cell? ⟨gb316, 8, none⟩ = some (.int .i64 0) := (zK BK316.out 8).trans rfl; have hfz12_0 := zL BK316.out 0; have hfz12_1 := zL BK316.out 1; have hfz12_2 := zL BK316.out 2; have hfz12_3 := zL BK316.out 3; have hfz12_4 := zL BK316.out 4; have hfz12_5 := zL BK316.out 5; have hfz12_6 := zL BK316.out 6; have hfz12_7 := zL BK316.out 7; have hfz12_8 := zL BK316.out 8) | ((with_reducible refine gate_builtin (b := .append) (xs := #[.tmp 29, .tmp 31]) rfl ?_); at_builtin; refine Kd.R_append k48 (w0 := w) w.heap.size rfl (.tmp 29) (.tmp 31) 27 48 (.agg #[(.int .i64 0), (.int .i64 0), (.int .i64 0), (.int .i64 0), (.int .i64 0), (.int .i64 0), (.int .i64 0), (.int .i64 0), (.int .i64 0)]) 72 rfl Try.underlying27 info48 rfl (by decide) (by omega) u4 x4_1 (⟨t306, t307, t308, t309, t310, t311, t312, t313, t314⟩ : S48) [.int .i64 t306, .int .i64 t307, .int .i64 t308, .int .i64 t309, .int .i64 t310, .int .i64 t311, .int .i64 t312, .int .i64 t313, .int .i64 t314] (fun k_ => k_ ≠ gb316) (fun _ => False) rfl (by first | (go_simp; done) | (go_simp; rfl)) ?aP (fun _ hk => hk.elim) ?aF ?aO ?aB ?aS ?aL ?_; (case aP => exact k48_mkM _ _ _ (⟨t306, t307, t308, t309, t310, t311, t312, t313, t314⟩ : S48)); (case aB => exact (by repeat (first | (with_reducible first | exact HB.out | apply zF | apply zD | apply zE | refine zJ ?_ GE316.out) | exact HB.out))); (case aF => exact (fun k_ hk => Kd.freshB (g := gb316) (o := .cells #[.int .i64 t306, .int .i64 t307, .int .i64 t308, .int .i64 t309, .int .i64 t310, .int .i64 t311, .int .i64 t312, .int .i64 t313, .int .i64 t314] 48 (0, 0)) (by (with_reducible repeat (first | refine zH ?_ _ | refine zI ?_ | refine zG ?_ _)); refine blk_put (cs := #[.int .i64 t306, .int .i64 t307, .int .i64 t308, .int .i64 t309, .int .i64 t310, .int .i64 t311, .int .i64 t312, .int .i64 t313, .int .i64 0]) ?_ 8 _ rfl; (with_reducible repeat (first | refine zH ?_ _ | refine zI ?_ | refine zG ?_ _)); refine blk_put (cs := #[.int .i64 t306, .int .i64 t307, .int .i64 t308, .int .i64 t309, .int .i64 t310, .int .i64 t311, .int .i64 t312, .int .i64 0, .int .i64 0]) ?_ 7 _ rfl; (with_reducible repeat (first | refine zH ?_ _ | refine zI ?_ | refine zG ?_ _)); refine blk_put (cs := #[.int .i64 t306, .int .i64 t307, .int .i64 t308, .int .i64 t309, .int .i64 t310, .int .i64 t311, .int .i64 0, .int .i64 0, .int .i64 0]) ?_ 6 _ rfl; (with_reducible repeat (first | refine zH ?_ _ | refine zI ?_ | refine zG ?_ _)); refine blk_put (cs := #[.int .i64 t306, .int .i64 t307, .int .i64 t308, .int .i64 t309, .int .i64 t310, .int .i64 0, .int .i64 0, .int .i64 0, .int .i64 0]) ?_ 5 _ rfl; (with_reducible repeat (first | refine zH ?_ _ | refine zI ?_ | refine zG ?_ _)); refine blk_put (cs := #[.int .i64 t306, .int .i64 t307, .int .i64 t308, .int .i64 t309, .int .i64 0, .int .i64 0, .int .i64 0, .int .i64 0, .int .i64 0]) ?_ 4 _ rfl; (with_reducible repeat (first | refine zH ?_ _ | refine zI ?_ | refine zG ?_ _)); refine blk_put (cs := #[.int .i64 t306, .int .i64 t307, .int .i64 t308, .int .i64 0, .int .i64 0, .int .i64 0, .int .i64 0, .int .i64 0, .int .i64 0]) ?_ 3 _ rfl; (with_reducible repeat (first | refine zH ?_ _ | refine zI ?_ | refine zG ?_ _)); refine blk_put (cs := #[.int .i64 t306, .int .i64 t307, .int .i64 0, .int .i64 0, .int .i64 0, .int .i64 0, .int .i64 0, .int .i64 0, .int .i64 0]) ?_ 2 _ rfl; (with_reducible repeat (first | refine zH ?_ _ | refine zI ?_ | refine zG ?_ _)); refine blk_put (cs := #[.int .i64 t306, .int .i64 0, .int .i64 0, .int .i64 0, .int .i64 0, .int .i64 0, .int .i64 0, .int .i64 0, .int .i64 0]) ?_ 1 _ rfl; (with_reducible repeat (first | refine zH ?_ _ | refine zI ?_ | refine zG ?_ _)); refine blk_put (cs := #[.int .i64 0, .int .i64 0, .int .i64 0, .int .i64 0, .int .i64 0, .int .i64 0, .int .i64 0, .int .i64 0, .int .i64 0]) ?_ 0 _ rfl; (with_reducible repeat (first | refine zH ?_ _ | refine zI ?_ | refine zG ?_ _)); exact BK316.out) k_ hk)); (case aO => exact (by (with_reducible repeat (first | apply zY | apply zX | apply zZ)); exact Kd.R_mono (Kd.R_far (p := ⟨gb316, 8, none⟩) (Kd.R_far (p := ⟨gb316, 7, none⟩) (Kd.R_far (p := ⟨gb316, 6, none⟩) (Kd.R_far (p := ⟨gb316, 5, none⟩) (Kd.R_far (p := ⟨gb316, 4, none⟩) (Kd.R_far (p := ⟨gb316, 3, none⟩) (Kd.R_far (p := ⟨gb316, 2, none⟩) (Kd.R_far (p := ⟨gb316, 1, none⟩) (Kd.R_far (p := ⟨gb316, 0, none⟩) (Kd.R_mono HO_4.out (fun k_ hk => (⟨hk, hk.2⟩ : _ ∧ k_ ≠ gb316))) (fun _ hk => hk.2) (.int .i64 t306)) (fun _ hk => hk.2) (.int .i64 t307)) (fun _ hk => hk.2) (.int .i64 t308)) (fun _ hk => hk.2) (.int .i64 t309)) (fun _ hk => hk.2) (.int .i64 t310)) (fun _ hk => hk.2) (.int .i64 t311)) (fun _ hk => hk.2) (.int .i64 t312)) (fun _ hk => hk.2) (.int .i64 t313)) (fun _ hk => hk.2) (.int .i64 t314)) (fun _ hk => hk.1.2))); (case aS => exact (zT (by repeat (first | (with_reducible first | exact HB.out | apply zF | apply zD | apply zE | refine zJ ?_ GE316.out) | exact HB.out)))); (case aL => have := LMc9.out; omega); intro v318 w13 ho hb hg hat; rw [← Ny317.out] at ho; have n0_ := Aside0.mk (blk_grown (g := gb316) (o := .cells #[.int .i64 t306, .int .i64 t307, .int .i64 t308, .int .i64 t309, .int .i64 t310, .int .i64 t311, .int .i64 t312, .int .i64 t313, .int .i64 t314] 48 (0, 0)) (by (with_reducible repeat (first | refine zH ?_ _ | refine zI ?_ | refine zG ?_ _)); refine blk_put (cs := #[.int .i64 t306, .int .i64 t307, .int .i64 t308, .int .i64 t309, .int .i64 t310, .int .i64 t311, .int .i64 t312, .int .i64 t313, .int .i64 0]) ?_ 8 _ rfl; (with_reducible repeat (first | refine zH ?_ _ | refine zI ?_ | refine zG ?_ _)); refine blk_put (cs := #[.int .i64 t306, .int .i64 t307, .int .i64 t308, .int .i64 t309, .int .i64 t310, .int .i64 t311, .int .i64 t312, .int .i64 0, .int .i64 0]) ?_ 7 _ rfl; (with_reducible repeat (first | refine zH ?_ _ | refine zI ?_ | refine zG ?_ _)); refine blk_put (cs := #[.int .i64 t306, .int .i64 t307, .int .i64 t308, .int .i64 t309, .int .i64 t310, .int .i64 t311, .int .i64 0, .int .i64 0, .int .i64 0]) ?_ 6 _ rfl; (with_reducible repeat (first | refine zH ?_ _ | refine zI ?_ | refine zG ?_ _)); refine blk_put (cs := #[.int .i64 t306, .int .i64 t307, .int .i64 t308, .int .i64 t309, .int .i64 t310, .int .i64 0, .int .i64 0, .int .i64 0, .int .i64 0]) ?_ 5 _ rfl; (with_reducible repeat (first | refine zH ?_ _ | refine zI ?_ | refine zG ?_ _)); refine blk_put (cs := #[.int .i64 t306, .int .i64 t307, .int .i64 t308, .int .i64 t309, .int .i64 0, .int .i64 0, .int .i64 0, .int .i64 0, .int .i64 0]) ?_ 4 _ rfl; (with_reducible repeat (first | refine zH ?_ _ | refine zI ?_ | refine zG ?_ _)); refine blk_put (cs := #[.int .i64 t306, .int .i64 t307, .int .i64 t308, .int .i64 0, .int .i64 0, .int .i64 0, .int .i64 0, .int .i64 0, .int .i64 0]) ?_ 3 _ rfl; (with_reducible repeat (first | refine zH ?_ _ | refine zI ?_ | refine zG ?_ _)); refine blk_put (cs := #[.int .i64 t306, .int .i64 t307, .int .i64 0, .int .i64 0, .int .i64 0, .int .i64 0, .int .i64 0, .int .i64 0, .int .i64 0]) ?_ 2 _ rfl; (with_reducible repeat (first | refine zH ?_ _ | refine zI ?_ | refine zG ?_ _)); refine blk_put (cs := #[.int .i64 t306, .int .i64 0, .int .i64 0, .int .i64 0, .int .i64 0, .int .i64 0, .int .i64 0, .int .i64 0, .int .i64 0]) ?_ 1 _ rfl; (with_reducible repeat (first | refine zH ?_ _ | refine zI ?_ | refine zG ?_ _)); refine blk_put (cs := #[.int .i64 0, .int .i64 0, .int .i64 0, .int .i64 0, .int .i64 0, .int .i64 0, .int .i64 0, .int .i64 0, .int .i64 0]) ?_ 0 _ rfl; (with_reducible repeat (first | refine zH ?_ _ | refine zI ?_ | refine zG ?_ _)); exact BK316.out) hg (Kd.R_away HO_4.out (fun _ hk => hk.2))); have n1_ := Aside0.mk (hb); have n2_ := Aside0.mk (ho); clear BK316; clear HB; clear HO_4; have BK316 := n0_; have HB := n1_; have HO319 := n2_; clear n0_ n1_ n2_; clear ho hb hg hat))
      go_roundg k1
      case measure => have := HK1.out; omega
      case rel => exact ⟨(y317), (wrap64 (x5_1 + 20)), (by first | rfl | (simp; done) | (simp [*]; done) | (simp [bne_nil_]; done)), H', ⟨by have := HK1.out; omega⟩, ⟨by (with_reducible repeat (first | apply zY | apply zX | apply zZ)); exact Kd.R_mono HO319.out (fun _ hk => trivial)⟩, ⟨by repeat (first | (with_reducible first | exact HB.out | apply zF | apply zD | apply zE | refine zJ ?_ GE316.out) | exact HB.out)⟩⟩
     ·replace c8 := Bool.eq_false_iff.mpr c8
      subst c8
      have H1 : (some (([] : List (S48)), false)) = some (r1, r2) := by rw [if_neg (show ¬ (false = true) by decide)] at H; exact H
      clear H
      have H := H1
      clear H1
      simp only [Option.some.injEq, Prod.mk.injEq] at H
      obtain ⟨rfl, rfl⟩ := H
      go_wp2_with (first | ((with_reducible refine gate_callee (f := 42) rfl ?_); refine goesL_ (some 24) rfl rfl Try.func42 (by kernel_rfl) rfl #[.string (a0.extract (x5_1 : Int).toNat ((wrap64 (x5_1 + 20)) : Int).toNat)] rfl (by (try simp only [zO, zP, zQ]); first | done | rfl | (simp only [zS, zR]; rfl)) ?_; (with_reducible refine (ref23_Get.calls (a0.extract (x5_1 : Int).toNat ((wrap64 (x5_1 + 20)) : Int).toNat) t306 t307 t308 t309 t310 t311 t312 t313 t314 false _ A7.out).mono ?_); rintro e w14 ⟨rfl, hb⟩; refine ⟨_, rfl, ?_⟩; have n0_ := Aside0.mk (Kd.R_below (by (with_reducible repeat (first | apply zY | apply zX | apply zZ)); exact HO_4.out) hb); have n1_ := Aside0.mk (zU (by repeat (first | (with_reducible first | exact HB.out | apply zF | apply zD | apply zE) | exact HB.out)) hb); clear HO_4; clear HB; have HO_4 := n0_; have HB := n1_; clear n0_ n1_; (try clear hb); (try clear hb2); (try clear hk); (try clear hi)) | ((with_reducible refine gate_dst (N := 6) rfl ?_); refine box_event ?hg (N := 6) ?hd (cs := #[.int .i64 0, .int .i64 0, .int .i64 0, .int .i64 0, .int .i64 0, .int .i64 0, .int .i64 0, .int .i64 0, .int .i64 0]) (t := 48) ?hr ?_; (case hd => rfl); (case hg => rfl); (case hr => first | (go_simp; done) | (go_simp; rfl)); intro gb316 hg w15 hbox hb; have n0_ := Aside0.mk (Kd.R_below (Kd.R_elderB (by (with_reducible repeat (first | apply zY | apply zX | apply zZ)); exact HO_4.out) gb316 (Nat.le_of_eq hg.symm)) hb); have n1_ := Aside0.mk (zU (by repeat (first | (with_reducible first | exact HB.out | apply zF | apply zD | apply zE) | exact HB.out)) hb); have n2_ := Aside0.mk (hbox); have n3_ := Aside0.mk ((by rw [hg]; exact (zT (by repeat (first | (with_reducible first | exact HB.out | apply zF | apply zD | apply zE) | exact HB.out))) : w.heap.size ≤ gb316)); have n4_ := Aside0.mk ((by rw [hg]; exact (zT (by repeat (first | (with_reducible first | exact HB.out | apply zF | apply zD | apply zE) | exact HB.out))) : w.heap.size ≤ gb316)); clear HO_4; clear HB; have HO_4 := n0_; have HB := n1_; have BK316 := n2_; have GW316 := n3_; have GE316 := n4_; clear n0_ n1_ n2_ n3_ n4_; clear hb hbox hg; have hcz16_0 : w15.cell? ⟨gb316, 0, none⟩ = some (.int .i64 0) := (zK BK316.out 0).trans rfl; have hcz16_1 : w15.cell? ⟨gb316, 1, none⟩ = some (.int .i64 0) := (zK BK316.out 1).trans rfl; have hcz16_2 : w15.cell? ⟨gb316, 2, none⟩ = some (.int .i64 0) := (zK BK316.out 2).trans rfl; have hcz16_3 : w15.cell? ⟨gb316, 3, none⟩ = some (.int .i64 0) := (zK BK316.out 3).trans rfl; have hcz16_4 : w15.cell? ⟨gb316, 4, none⟩ = some (.int .i64 0) := (zK BK316.out 4).trans rfl; have hcz16_5 : w15.cell? ⟨gb316, 5, none⟩ = some (.int .i64 0) := (zK BK316.out 5).trans rfl; have hcz16_6 : w15.cell? ⟨gb316, 6, none⟩ = some (.int .i64 0) := (zK BK316.out 6).trans rfl; have hcz16_7 : w15.cell? ⟨gb316, 7, none⟩ = some (.int .i64 0) := (zK BK316.out 7).trans rfl; have hcz16_8 : w15.cell? ⟨gb316, 8, none⟩ = some (.int .i64 0) := (zK BK316.out 8).trans rfl; have hfz16_0 := zL BK316.out 0; have hfz16_1 := zL BK316.out 1; have hfz16_2 := zL BK316.out 2; have hfz16_3 := zL BK316.out 3; have hfz16_4 := zL BK316.out 4; have hfz16_5 := zL BK316.out 5; have hfz16_6 := zL BK316.out 6; have hfz16_7 := zL BK316.out 7; have hfz16_8 := zL BK316.out 8))
      go_ret2
      exact ⟨_, by first | rfl | (simp [errW_none, errW_some] <;> rfl) | (simp [*, errW_none, errW_some] <;> rfl), by first | exact Kd.R_nil _ _ _ _ _ | exact Kd.N_nil _ _ _ _ _ | exact Kd.V_nil _ _ _ _ _ | exact Kd.Q_nil _ _ _ _ _ | exact Kd.S_nil _ _ _ _ _, by repeat (first | (with_reducible first | exact HB.out | apply zF | apply zD | apply zE | refine zJ ?_ GE316.out) | exact HB.out)⟩
    ·rw [if_neg c3] at H
     have c3b0 : decide (x5_1 < (a0.size : Int)) = false := decide_eq_false c3
     clear c3
     simp only [Option.some.injEq, Prod.mk.injEq] at H
     obtain ⟨rfl, rfl⟩ := H
     go_wp2
     go_ret2
     exact ⟨_, by first | rfl | (simp [errW_none, errW_some] <;> rfl) | (simp [*, errW_none, errW_some] <;> rfl), by (with_reducible repeat (first | apply zY | apply zX | apply zZ)); exact HO_4.out, by repeat (first | (with_reducible first | exact HB.out | apply zF | apply zD | apply zE) | exact HB.out)⟩
 ·rw [if_neg c2] at H
  have c2b0 : (((a0.size : Int) % 20) == 0) = false := beq_eq_false_iff_ne.mpr c2
  have c2b1 : (((a0.size : Int) % 20) != 0) = true := bne_iff_ne.mpr c2
  simp only [Option.some.injEq, Prod.mk.injEq] at H
  obtain ⟨rfl, rfl⟩ := H
  go_enter Try.func30, Try.ntmps30
  go_wp2
  go_ret2
  exact ⟨_, by first | rfl | (simp [errW_none, errW_some] <;> rfl) | (simp [*, errW_none, errW_some] <;> rfl), by first | exact Kd.R_nil _ _ _ _ _ | exact Kd.N_nil _ _ _ _ _ | exact Kd.V_nil _ _ _ _ _ | exact Kd.Q_nil _ _ _ _ _ | exact Kd.S_nil _ _ _ _ _, by repeat (first | (with_reducible first | exact HB.out | apply zF | apply zD | apply zE) | exact HB.out)⟩

/-! ### ref27_Records: function 16 -/
def ref27_Records.l0 : Nat → List (S40) → ByteArray → Int → Option ((List (S48)) × Bool)
 | 0, _, _, _ => none
 | k + 1, x0, x4, x5 => if x5 < (x0.length : Int) then (if 0 ≤ x5 then (if ((rd_T40 x0 x5).f0) = 5 then (if x4.size + (((rd_T40 x0 x5).f2).size) ≤ 9223372036854775807 then (ref27_Records.l0 k x0 (x4 ++ ((rd_T40 x0 x5).f2)) (wrap64 (x5 + 1))) else (none)) else (ref27_Records.l0 k x0 x4 (wrap64 (x5 + 1)))) else (none)) else ((ref23_All.f k x4).bind fun bt322 => (some (bt322.1, bt322.2)))
def ref27_Records.f (k : Nat) (l0 : List (S40)) : Option ((List (S48)) × Bool) := ref27_Records.l0 k l0 (⟨#[]⟩ : ByteArray) 0
theorem ref27_Records.mono_l : ∀ k, (∀ y0 y1 y2, LeO (ref27_Records.l0 k y0 y1 y2) (ref27_Records.l0 (k + 1) y0 y1 y2))
 | 0 => fun _ _ _ r h => by simp [ref27_Records.l0] at h
 | k + 1 => by
  have ih0 := ref27_Records.mono_l k
  ·intro y0 y1 y2
   unfold ref27_Records.l0
   repeat' first
   | (with_reducible exact ih0 _ _ _)
   | (with_reducible exact ref23_All.mono _ _)
   | (with_reducible exact LeO.refl _)
   | (with_reducible exact LeO.none _)
   | (with_reducible refine LeO.ite ?_ ?_)
   | (with_reducible refine LeO.bind ?_ (fun _ => ?_))
   | exact ih0 _ _ _
   | exact ref23_All.mono _ _
   | exact LeO.none _
   | refine LeO.ite ?_ ?_
   | refine LeO.bind ?_ (fun _ => ?_)
theorem ref27_Records.mono : ∀ a0 k, LeO (ref27_Records.f k a0) (ref27_Records.f (k + 1) a0) := by
 intro a0 k
 have ih0 := ref27_Records.mono_l k
 unfold ref27_Records.f
 repeat' first
  | (with_reducible exact ih0 _ _ _)
  | (with_reducible exact ref23_All.mono _ _)
  | (with_reducible exact LeO.refl _)
  | (with_reducible exact LeO.none _)
  | (with_reducible refine LeO.ite ?_ ?_)
  | (with_reducible refine LeO.bind ?_ (fun _ => ?_))
  | exact ih0 _ _ _
  | exact ref23_All.mono _ _
  | exact LeO.none _
  | refine LeO.ite ?_ ?_
  | refine LeO.bind ?_ (fun _ => ?_)
set_option maxHeartbeats 8000000 in
set_option maxRecDepth 100000 in
theorem ref27_Records.calls (k : Nat) (A0 : Option Addr) (c0 : Nat) (l0 : List (S40)) (r1 : List (S48)) (r2 : Bool) (w : World) (hr0 : Kd.C k40 w A0 l0.length l0) (hc0 : l0.length ≤ c0) (h : ref27_Records.f k l0 = some (r1, r2)) :
 Calls Try.prog 16 #[.slice A0 l0.length c0] w fun e w' => ∃ v0_ : Value, e = .returned (.tuple #[v0_, .bool r2]) ∧ Kd.R k48 48 w' w.heap.size (fun _ => True) v0_ r1 ∧ Below w.heap.size w w' := by
 have HR0 := Aside0.mk hr0
 have HC0 := Aside0.mk hc0
 clear hr0 hc0
 have HB := Aside0.mk (Below.refl w.heap.size w)
 have H : (ref27_Records.l0 k l0 (⟨#[]⟩ : ByteArray) 0) = some (r1, r2) := h
 clear h
 have H' := Aside0.mk H
 clear H
 go_enter Try.func16, Try.ntmps16
 go_wp2
 go_loopg [4, 5] k (fun kq v4 v5 w' => ∃ (x4_1 : ByteArray) (x5_1 : Int), v4 = .string x4_1 ∧ v5 = .int .i64 x5_1 ∧ Aside0 (ref27_Records.l0 kq l0 x4_1 x5_1 = some (r1, r2)) ∧ Aside0 (kq ≤ k) ∧ Aside0 (Below w.heap.size w w'))
 case atStart => exact ⟨((⟨#[]⟩ : ByteArray)), (0), (by first | rfl | (simp; done) | (simp [*]; done) | (simp [bne_nil_]; done)), (by first | rfl | (simp; done) | (simp [*]; done) | (simp [bne_nil_]; done)), H', ⟨Nat.le_refl _⟩, ⟨by repeat (first | (with_reducible first | exact HB.out | apply zF | apply zD | apply zE) | exact HB.out)⟩⟩
 case round =>
  clear H'
  try clear c1
  obtain ⟨x4_1, x5_1, rfl, rfl, HA, HK1, HB⟩ := hrel
  cases gk with
  | zero => exact absurd HA.out (by simp [ref27_Records.l0])
  | succ k1 =>
   have H := HA.out
   clear HA
   simp only [ref27_Records.l0] at H
   by_cases c2 : x5_1 < (l0.length : Int)
   ·rw [if_pos c2] at H
    have c2b0 : decide (x5_1 < (l0.length : Int)) = true := zW c2
    clear c2
    by_cases c3 : 0 ≤ x5_1
    rotate_left
    ·rw [if_neg c3] at H
     exact absurd H (by simp)
    rw [if_pos c3] at H
    have c3b0 : decide (0 ≤ x5_1) = true := zW c3
    clear c3
    by_cases c4 : ((rd_T40 l0 x5_1).f0) = 5
    ·rw [if_pos c4] at H
     have c4b0 : (((rd_T40 l0 x5_1).f0) == 5) = true := beq_iff_eq.mpr c4
     have c4b1 : (((rd_T40 l0 x5_1).f0) != 5) = false := bne_eq_false_iff_eq.mpr c4
     clear c4
     by_cases c5 : x4_1.size + (((rd_T40 l0 x5_1).f2).size) ≤ 9223372036854775807
     rotate_left
     ·rw [if_neg c5] at H
      exact absurd H (by simp)
     rw [if_pos c5] at H
     have c5b0 := eq_true c5
     have c5b1 : decide (x4_1.size + (((rd_T40 l0 x5_1).f2).size) ≤ 9223372036854775807) = true := zW c5
     try have c5b2 : (9223372036854775807 < x4_1.size + (((rd_T40 l0 x5_1).f2).size)) = False := eq_false (Nat.not_lt.2 c5)
     have H' := Aside0.mk H
     clear H
     have p320 : 0 ≤ (x5_1 : Int) := zV (by first | (with_reducible assumption) | assumption)
     have q320 : x5_1 < (l0.length : Int) := zV (by first | (with_reducible assumption) | assumption)
     obtain ⟨ad320, e320, hx320_0, hx320_1, hx320_2⟩ := at_T40 HR0.out x5_1 p320 q320
     cases e320
     replace hx320_0 := (HB.out.cell (World.block_lt_of_cell? w _ hx320_0)).trans hx320_0
     replace hx320_1 := (HB.out.cell (World.block_lt_of_cell? w _ hx320_1)).trans hx320_1
     replace hx320_2 := (HB.out.cell (World.block_lt_of_cell? w _ hx320_2)).trans hx320_2
     replace p320 := eq_true p320
     replace q320 := eq_true q320
     have p321 : 0 ≤ (x5_1 : Int) := zV (by first | (with_reducible assumption) | assumption)
     have q321 : x5_1 < (l0.length : Int) := zV (by first | (with_reducible assumption) | assumption)
     obtain ⟨ad321, e321, hx321_0, hx321_1, hx321_2⟩ := at_T40 HR0.out x5_1 p321 q321
     obtain rfl : ad320 = ad321 := (by injection e321)
     replace hx321_0 := (HB.out.cell (World.block_lt_of_cell? w _ hx321_0)).trans hx321_0
     replace hx321_1 := (HB.out.cell (World.block_lt_of_cell? w _ hx321_1)).trans hx321_1
     replace hx321_2 := (HB.out.cell (World.block_lt_of_cell? w _ hx321_2)).trans hx321_2
     replace p321 := eq_true p321
     replace q321 := eq_true q321
     go_wp2
     go_roundg k1
     case measure => have := HK1.out; omega
     case rel => exact ⟨(x4_1 ++ ((rd_T40 l0 x5_1).f2)), (wrap64 (x5_1 + 1)), (by first | rfl | (simp; done) | (simp [*]; done) | (simp [bne_nil_]; done)), (by first | rfl | (simp; done) | (simp [*]; done) | (simp [bne_nil_]; done)), H', ⟨by have := HK1.out; omega⟩, ⟨by repeat (first | (with_reducible first | exact HB.out | apply zF | apply zD | apply zE) | exact HB.out)⟩⟩
    ·rw [if_neg c4] at H
     have c4b0 : (((rd_T40 l0 x5_1).f0) == 5) = false := beq_eq_false_iff_ne.mpr c4
     have c4b1 : (((rd_T40 l0 x5_1).f0) != 5) = true := bne_iff_ne.mpr c4
     have H' := Aside0.mk H
     clear H
     have p320 : 0 ≤ (x5_1 : Int) := zV (by first | (with_reducible assumption) | assumption)
     have q320 : x5_1 < (l0.length : Int) := zV (by first | (with_reducible assumption) | assumption)
     obtain ⟨ad320, e320, hx320_0, hx320_1, hx320_2⟩ := at_T40 HR0.out x5_1 p320 q320
     cases e320
     replace hx320_0 := (HB.out.cell (World.block_lt_of_cell? w _ hx320_0)).trans hx320_0
     replace hx320_1 := (HB.out.cell (World.block_lt_of_cell? w _ hx320_1)).trans hx320_1
     replace hx320_2 := (HB.out.cell (World.block_lt_of_cell? w _ hx320_2)).trans hx320_2
     replace p320 := eq_true p320
     replace q320 := eq_true q320
     go_wp2
     go_roundg k1
     case measure => have := HK1.out; omega
     case rel => exact ⟨(x4_1), (wrap64 (x5_1 + 1)), (by first | rfl | (simp; done) | (simp [*]; done) | (simp [bne_nil_]; done)), (by first | rfl | (simp; done) | (simp [*]; done) | (simp [bne_nil_]; done)), H', ⟨by have := HK1.out; omega⟩, ⟨by repeat (first | (with_reducible first | exact HB.out | apply zF | apply zD | apply zE) | exact HB.out)⟩⟩
   ·rw [if_neg c2] at H
    have c2b0 : decide (x5_1 < (l0.length : Int)) = false := decide_eq_false c2
    clear c2
    replace H := Option.bind_eq_some_iff.mp H
    obtain ⟨⟨t322, t323⟩, A60, H⟩ := H
    replace H : (some (t322, t323)) = some (r1, r2) := H
    have A6 := Aside0.mk A60
    clear A60
    simp only [Option.some.injEq, Prod.mk.injEq] at H
    obtain ⟨rfl, rfl⟩ := H
    go_wp2_with (first | ((with_reducible refine gate_callee (f := 30) rfl ?_); refine goesL_ (some 26) rfl rfl Try.func30 (by kernel_rfl) rfl #[.string x4_1] rfl (by (try simp only [zO, zP, zQ]); first | done | rfl | (simp only [zS, zR]; rfl)) ?_; (with_reducible refine (ref23_All.calls k1 x4_1 t322 t323 _ A6.out).mono ?_); rintro e w7 ⟨v324, rfl, ho0, hb⟩; refine ⟨_, rfl, ?_⟩; have n0_ := Aside0.mk (Kd.R_lower ho0 (zT (by repeat (first | (with_reducible first | exact HB.out | apply zF | apply zD | apply zE) | exact HB.out)))); have n1_ := Aside0.mk (zU (by repeat (first | (with_reducible first | exact HB.out | apply zF | apply zD | apply zE) | exact HB.out)) hb); clear HB; have HO325 := n0_; have HB := n1_; clear n0_ n1_; (try clear hb); (try clear hb2); (try clear hk); (try clear hi); (try clear ho0)))
    go_ret2
    exact ⟨_, by first | rfl | (simp [errW_none, errW_some] <;> rfl) | (simp [*, errW_none, errW_some] <;> rfl), by (with_reducible repeat (first | apply zY | apply zX | apply zZ)); exact HO325.out, by repeat (first | (with_reducible first | exact HB.out | apply zF | apply zD | apply zE) | exact HB.out)⟩

/-! ### ref27_Closes: function 18 -/
def ref27_Closes.l0 : Nat → List (S40) → Int → Int → Int → Option (Int)
 | 0, _, _, _, _ => none
 | k + 1, x0, x1, x5, x6 => if x6 < (x0.length : Int) then (if 0 ≤ x6 then (if ((rd_T40 x0 x6).f0) = 3 then (if ((rd_T40 x0 x6).f1) = x1 then (ref27_Closes.l0 k x0 x1 (wrap64 (x5 + 1)) (wrap64 (x6 + 1))) else (if ((rd_T40 x0 x6).f0) = 4 then (ref27_Closes.l0 k x0 x1 (wrap64 (x5 + 1)) (wrap64 (x6 + 1))) else (ref27_Closes.l0 k x0 x1 x5 (wrap64 (x6 + 1))))) else (if ((rd_T40 x0 x6).f0) = 4 then (ref27_Closes.l0 k x0 x1 (wrap64 (x5 + 1)) (wrap64 (x6 + 1))) else (ref27_Closes.l0 k x0 x1 x5 (wrap64 (x6 + 1))))) else (none)) else (some x5)
def ref27_Closes.f (k : Nat) (l0 : List (S40)) (a1 : Int) : Option (Int) := ref27_Closes.l0 k l0 a1 0 0
theorem ref27_Closes.mono_l : ∀ k, (∀ y0 y1 y2 y3, LeO (ref27_Closes.l0 k y0 y1 y2 y3) (ref27_Closes.l0 (k + 1) y0 y1 y2 y3))
 | 0 => fun _ _ _ _ r h => by simp [ref27_Closes.l0] at h
 | k + 1 => by
  have ih0 := ref27_Closes.mono_l k
  ·intro y0 y1 y2 y3
   unfold ref27_Closes.l0
   repeat' first
   | (with_reducible exact ih0 _ _ _ _)
   | (with_reducible exact LeO.refl _)
   | (with_reducible exact LeO.none _)
   | (with_reducible refine LeO.ite ?_ ?_)
   | (with_reducible refine LeO.bind ?_ (fun _ => ?_))
   | exact ih0 _ _ _ _
   | exact LeO.none _
   | refine LeO.ite ?_ ?_
   | refine LeO.bind ?_ (fun _ => ?_)
theorem ref27_Closes.mono : ∀ a0 a1 k, LeO (ref27_Closes.f k a0 a1) (ref27_Closes.f (k + 1) a0 a1) := by
 intro a0 a1 k
 have ih0 := ref27_Closes.mono_l k
 unfold ref27_Closes.f
 repeat' first
  | (with_reducible exact ih0 _ _ _ _)
  | (with_reducible exact LeO.refl _)
  | (with_reducible exact LeO.none _)
  | (with_reducible refine LeO.ite ?_ ?_)
  | (with_reducible refine LeO.bind ?_ (fun _ => ?_))
  | exact ih0 _ _ _ _
  | exact LeO.none _
  | refine LeO.ite ?_ ?_
  | refine LeO.bind ?_ (fun _ => ?_)
set_option maxHeartbeats 8000000 in
set_option maxRecDepth 100000 in
theorem ref27_Closes.calls (k : Nat) (A0 : Option Addr) (c0 : Nat) (l0 : List (S40)) (a1 : Int) (r : Int) (w : World) (hr0 : Kd.C k40 w A0 l0.length l0) (hc0 : l0.length ≤ c0) (h : ref27_Closes.f k l0 a1 = some r) :
 Calls Try.prog 18 #[.slice A0 l0.length c0, .int .i64 a1] w fun e w' => e = .returned (.int .i64 r) ∧ Drawn0 w w' := by
 have HR0 := Aside0.mk hr0
 have HC0 := Aside0.mk hc0
 clear hr0 hc0
 have H : (ref27_Closes.l0 k l0 a1 0 0) = some r := h
 clear h
 have H' := Aside0.mk H
 clear H
 go_enter Try.func18, Try.ntmps18
 go_wp2
 go_loopg [5, 6] k (fun kq v5 v6 w' => ∃ (x5_1 : Int) (x6_1 : Int), v5 = .int .i64 x5_1 ∧ v6 = .int .i64 x6_1 ∧ Aside0 (ref27_Closes.l0 kq l0 a1 x5_1 x6_1 = some r) ∧ Aside0 (kq ≤ k) ∧ Drawn0 w w')
 case atStart => exact ⟨(0), (0), (by first | rfl | (simp; done) | (simp [*]; done) | (simp [bne_nil_]; done)), (by first | rfl | (simp; done) | (simp [*]; done) | (simp [bne_nil_]; done)), H', ⟨Nat.le_refl _⟩, by repeat (first | exact Drawn0.refl _ | apply Drawn0.step)⟩
 case round =>
  clear H'
  try clear c1
  try clear p2
  obtain ⟨x5_1, x6_1, rfl, rfl, HA, HK1, ⟨m1, rfl⟩⟩ := hrel
  cases gk with
  | zero => exact absurd HA.out (by simp [ref27_Closes.l0])
  | succ k1 =>
   have H := HA.out
   clear HA
   simp only [ref27_Closes.l0] at H
   by_cases c3 : x6_1 < (l0.length : Int)
   ·rw [if_pos c3] at H
    have c3b0 : decide (x6_1 < (l0.length : Int)) = true := zW c3
    clear c3
    by_cases c4 : 0 ≤ x6_1
    rotate_left
    ·rw [if_neg c4] at H
     exact absurd H (by simp)
    rw [if_pos c4] at H
    have c4b0 : decide (0 ≤ x6_1) = true := zW c4
    clear c4
    by_cases c5 : ((rd_T40 l0 x6_1).f0) = 3
    ·rw [if_pos c5] at H
     have c5b0 : (((rd_T40 l0 x6_1).f0) == 3) = true := beq_iff_eq.mpr c5
     have c5b1 : (((rd_T40 l0 x6_1).f0) != 3) = false := bne_eq_false_iff_eq.mpr c5
     clear c5
     by_cases c6 : ((rd_T40 l0 x6_1).f1) = a1
     ·rw [if_pos c6] at H
      have c6b0 : (((rd_T40 l0 x6_1).f1) == a1) = true := beq_iff_eq.mpr c6
      have c6b1 : (((rd_T40 l0 x6_1).f1) != a1) = false := bne_eq_false_iff_eq.mpr c6
      clear c6
      have H' := Aside0.mk H
      clear H
      have p326 : 0 ≤ (x6_1 : Int) := zV (by first | (with_reducible assumption) | assumption)
      have q326 : x6_1 < (l0.length : Int) := zV (by first | (with_reducible assumption) | assumption)
      obtain ⟨ad326, e326, hx326_0, hx326_1, hx326_2⟩ := at_T40 HR0.out x6_1 p326 q326
      cases e326
      replace p326 := eq_true p326
      replace q326 := eq_true q326
      have p327 : 0 ≤ (x6_1 : Int) := zV (by first | (with_reducible assumption) | assumption)
      have q327 : x6_1 < (l0.length : Int) := zV (by first | (with_reducible assumption) | assumption)
      obtain ⟨ad327, e327, hx327_0, hx327_1, hx327_2⟩ := at_T40 HR0.out x6_1 p327 q327
      obtain rfl : ad326 = ad327 := (by injection e327)
      replace p327 := eq_true p327
      replace q327 := eq_true q327
      go_wp2
      go_roundg k1
      case measure => have := HK1.out; omega
      case rel => exact ⟨(wrap64 (x5_1 + 1)), (wrap64 (x6_1 + 1)), (by first | rfl | (simp; done) | (simp [*]; done) | (simp [bne_nil_]; done)), (by first | rfl | (simp; done) | (simp [*]; done) | (simp [bne_nil_]; done)), H', ⟨by have := HK1.out; omega⟩, by repeat (first | exact Drawn0.refl _ | apply Drawn0.step)⟩
     ·rw [if_neg c6] at H
      have c6b0 : (((rd_T40 l0 x6_1).f1) == a1) = false := beq_eq_false_iff_ne.mpr c6
      have c6b1 : (((rd_T40 l0 x6_1).f1) != a1) = true := bne_iff_ne.mpr c6
      by_cases c7 : ((rd_T40 l0 x6_1).f0) = 4
      ·rw [if_pos c7] at H
       have c7b0 : (((rd_T40 l0 x6_1).f0) == 4) = true := beq_iff_eq.mpr c7
       have c7b1 : (((rd_T40 l0 x6_1).f0) != 4) = false := bne_eq_false_iff_eq.mpr c7
       clear c7
       have H' := Aside0.mk H
       clear H
       have p326 : 0 ≤ (x6_1 : Int) := zV (by first | (with_reducible assumption) | assumption)
       have q326 : x6_1 < (l0.length : Int) := zV (by first | (with_reducible assumption) | assumption)
       obtain ⟨ad326, e326, hx326_0, hx326_1, hx326_2⟩ := at_T40 HR0.out x6_1 p326 q326
       cases e326
       replace p326 := eq_true p326
       replace q326 := eq_true q326
       have p327 : 0 ≤ (x6_1 : Int) := zV (by first | (with_reducible assumption) | assumption)
       have q327 : x6_1 < (l0.length : Int) := zV (by first | (with_reducible assumption) | assumption)
       obtain ⟨ad327, e327, hx327_0, hx327_1, hx327_2⟩ := at_T40 HR0.out x6_1 p327 q327
       obtain rfl : ad326 = ad327 := (by injection e327)
       replace p327 := eq_true p327
       replace q327 := eq_true q327
       have p328 : 0 ≤ (x6_1 : Int) := zV (by first | (with_reducible assumption) | assumption)
       have q328 : x6_1 < (l0.length : Int) := zV (by first | (with_reducible assumption) | assumption)
       obtain ⟨ad328, e328, hx328_0, hx328_1, hx328_2⟩ := at_T40 HR0.out x6_1 p328 q328
       obtain rfl : ad326 = ad328 := (by injection e328)
       replace p328 := eq_true p328
       replace q328 := eq_true q328
       go_wp2
       go_roundg k1
       case measure => have := HK1.out; omega
       case rel => exact ⟨(wrap64 (x5_1 + 1)), (wrap64 (x6_1 + 1)), (by first | rfl | (simp; done) | (simp [*]; done) | (simp [bne_nil_]; done)), (by first | rfl | (simp; done) | (simp [*]; done) | (simp [bne_nil_]; done)), H', ⟨by have := HK1.out; omega⟩, by repeat (first | exact Drawn0.refl _ | apply Drawn0.step)⟩
      ·rw [if_neg c7] at H
       have c7b0 : (((rd_T40 l0 x6_1).f0) == 4) = false := beq_eq_false_iff_ne.mpr c7
       have c7b1 : (((rd_T40 l0 x6_1).f0) != 4) = true := bne_iff_ne.mpr c7
       have H' := Aside0.mk H
       clear H
       have p326 : 0 ≤ (x6_1 : Int) := zV (by first | (with_reducible assumption) | assumption)
       have q326 : x6_1 < (l0.length : Int) := zV (by first | (with_reducible assumption) | assumption)
       obtain ⟨ad326, e326, hx326_0, hx326_1, hx326_2⟩ := at_T40 HR0.out x6_1 p326 q326
       cases e326
       replace p326 := eq_true p326
       replace q326 := eq_true q326
       have p327 : 0 ≤ (x6_1 : Int) := zV (by first | (with_reducible assumption) | assumption)
       have q327 : x6_1 < (l0.length : Int) := zV (by first | (with_reducible assumption) | assumption)
       obtain ⟨ad327, e327, hx327_0, hx327_1, hx327_2⟩ := at_T40 HR0.out x6_1 p327 q327
       obtain rfl : ad326 = ad327 := (by injection e327)
       replace p327 := eq_true p327
       replace q327 := eq_true q327
       have p328 : 0 ≤ (x6_1 : Int) := zV (by first | (with_reducible assumption) | assumption)
       have q328 : x6_1 < (l0.length : Int) := zV (by first | (with_reducible assumption) | assumption)
       obtain ⟨ad328, e328, hx328_0, hx328_1, hx328_2⟩ := at_T40 HR0.out x6_1 p328 q328
       obtain rfl : ad326 = ad328 := (by injection e328)
       replace p328 := eq_true p328
       replace q328 := eq_true q328
       go_wp2
       go_roundg k1
       case measure => have := HK1.out; omega
       case rel => exact ⟨(x5_1), (wrap64 (x6_1 + 1)), (by first | rfl | (simp; done) | (simp [*]; done) | (simp [bne_nil_]; done)), (by first | rfl | (simp; done) | (simp [*]; done) | (simp [bne_nil_]; done)), H', ⟨by have := HK1.out; omega⟩, by repeat (first | exact Drawn0.refl _ | apply Drawn0.step)⟩
    ·rw [if_neg c5] at H
     have c5b0 : (((rd_T40 l0 x6_1).f0) == 3) = false := beq_eq_false_iff_ne.mpr c5
     have c5b1 : (((rd_T40 l0 x6_1).f0) != 3) = true := bne_iff_ne.mpr c5
     by_cases c8 : ((rd_T40 l0 x6_1).f0) = 4
     ·rw [if_pos c8] at H
      have c8b0 : (((rd_T40 l0 x6_1).f0) == 4) = true := beq_iff_eq.mpr c8
      have c8b1 : (((rd_T40 l0 x6_1).f0) != 4) = false := bne_eq_false_iff_eq.mpr c8
      clear c8
      have H' := Aside0.mk H
      clear H
      have p326 : 0 ≤ (x6_1 : Int) := zV (by first | (with_reducible assumption) | assumption)
      have q326 : x6_1 < (l0.length : Int) := zV (by first | (with_reducible assumption) | assumption)
      obtain ⟨ad326, e326, hx326_0, hx326_1, hx326_2⟩ := at_T40 HR0.out x6_1 p326 q326
      cases e326
      replace p326 := eq_true p326
      replace q326 := eq_true q326
      have p329 : 0 ≤ (x6_1 : Int) := zV (by first | (with_reducible assumption) | assumption)
      have q329 : x6_1 < (l0.length : Int) := zV (by first | (with_reducible assumption) | assumption)
      obtain ⟨ad329, e329, hx329_0, hx329_1, hx329_2⟩ := at_T40 HR0.out x6_1 p329 q329
      obtain rfl : ad326 = ad329 := (by injection e329)
      replace p329 := eq_true p329
      replace q329 := eq_true q329
      go_wp2
      go_roundg k1
      case measure => have := HK1.out; omega
      case rel => exact ⟨(wrap64 (x5_1 + 1)), (wrap64 (x6_1 + 1)), (by first | rfl | (simp; done) | (simp [*]; done) | (simp [bne_nil_]; done)), (by first | rfl | (simp; done) | (simp [*]; done) | (simp [bne_nil_]; done)), H', ⟨by have := HK1.out; omega⟩, by repeat (first | exact Drawn0.refl _ | apply Drawn0.step)⟩
     ·rw [if_neg c8] at H
      have c8b0 : (((rd_T40 l0 x6_1).f0) == 4) = false := beq_eq_false_iff_ne.mpr c8
      have c8b1 : (((rd_T40 l0 x6_1).f0) != 4) = true := bne_iff_ne.mpr c8
      have H' := Aside0.mk H
      clear H
      have p326 : 0 ≤ (x6_1 : Int) := zV (by first | (with_reducible assumption) | assumption)
      have q326 : x6_1 < (l0.length : Int) := zV (by first | (with_reducible assumption) | assumption)
      obtain ⟨ad326, e326, hx326_0, hx326_1, hx326_2⟩ := at_T40 HR0.out x6_1 p326 q326
      cases e326
      replace p326 := eq_true p326
      replace q326 := eq_true q326
      have p329 : 0 ≤ (x6_1 : Int) := zV (by first | (with_reducible assumption) | assumption)
      have q329 : x6_1 < (l0.length : Int) := zV (by first | (with_reducible assumption) | assumption)
      obtain ⟨ad329, e329, hx329_0, hx329_1, hx329_2⟩ := at_T40 HR0.out x6_1 p329 q329
      obtain rfl : ad326 = ad329 := (by injection e329)
      replace p329 := eq_true p329
      replace q329 := eq_true q329
      go_wp2
      go_roundg k1
      case measure => have := HK1.out; omega
      case rel => exact ⟨(x5_1), (wrap64 (x6_1 + 1)), (by first | rfl | (simp; done) | (simp [*]; done) | (simp [bne_nil_]; done)), (by first | rfl | (simp; done) | (simp [*]; done) | (simp [bne_nil_]; done)), H', ⟨by have := HK1.out; omega⟩, by repeat (first | exact Drawn0.refl _ | apply Drawn0.step)⟩
   ·rw [if_neg c3] at H
    have c3b0 : decide (x6_1 < (l0.length : Int)) = false := decide_eq_false c3
    clear c3
    obtain rfl := Option.some.inj H
    go_wp2
    go_ret
    exact ⟨by first | rfl | (simp; done) | (simp [*]; done), by repeat (first | exact Drawn0.refl _ | apply Drawn0.step)⟩

/-! ### law27_TraceTells: function 5 -/
def law27_TraceTells.f (k : Nat) (l0 : List (S40)) (a1 : Int) (a2 : Int) : Option (Bool) := (law27_few.f k l0).bind fun t330 => (if t330 = true then ((trace_Frames.f k l0 a1 a2).bind fun bt332 => ((ref27_Frames.f k l0 a1 a2).bind fun bt336 => ((trace_Records.f k l0).bind fun bt340 => ((ref27_Records.f k l0).bind fun bt344 => ((law27_awake.f k).bind fun t348 => (if t348 = true then ((trace_Bytes.f l0 a1 a2).bind fun t349 => ((ref27_Bytes.f k l0 a1 a2).bind fun t350 => (if t349.toList = t350.toList then ((ref08_Frames.f k bt332.1 bt336.1).bind fun t351 => (if t351 = true then (if (bt332.2 == bt336.2) = true then ((ref23_Same.f k bt340.1 bt344.1).bind fun t352 => (if t352 = true then (if (bt340.2 == bt344.2) = true then ((trace_Closes.f l0 a2).bind fun t353 => ((ref27_Closes.f k l0 a2).bind fun t354 => (some (t353 == t354)))) else (none)) else (none))) else (none)) else (none))) else (none)))) else (none))))))) else ((law27_awake.f k).bind fun t331 => (some t331)))
theorem law27_TraceTells.mono : ∀ a0 a1 a2 k, LeO (law27_TraceTells.f k a0 a1 a2) (law27_TraceTells.f (k + 1) a0 a1 a2) := by
 intro a0 a1 a2 k
 unfold law27_TraceTells.f
 repeat' first
  | (with_reducible exact law27_awake.mono _)
  | (with_reducible exact law27_few.mono _ _)
  | (with_reducible exact ref08_Frames.mono _ _ _)
  | (with_reducible exact ref23_Same.mono _ _ _)
  | (with_reducible exact ref27_Bytes.mono _ _ _ _)
  | (with_reducible exact ref27_Closes.mono _ _ _)
  | (with_reducible exact ref27_Frames.mono _ _ _ _)
  | (with_reducible exact ref27_Records.mono _ _)
  | (with_reducible exact trace_Frames.mono _ _ _ _)
  | (with_reducible exact trace_Records.mono _ _)
  | (with_reducible exact LeO.refl _)
  | (with_reducible exact LeO.none _)
  | (with_reducible refine LeO.ite ?_ ?_)
  | (with_reducible refine LeO.bind ?_ (fun _ => ?_))
  | exact law27_awake.mono _
  | exact law27_few.mono _ _
  | exact ref08_Frames.mono _ _ _
  | exact ref23_Same.mono _ _ _
  | exact ref27_Bytes.mono _ _ _ _
  | exact ref27_Closes.mono _ _ _
  | exact ref27_Frames.mono _ _ _ _
  | exact ref27_Records.mono _ _
  | exact trace_Frames.mono _ _ _ _
  | exact trace_Records.mono _ _
  | exact LeO.none _
  | refine LeO.ite ?_ ?_
  | refine LeO.bind ?_ (fun _ => ?_)
set_option maxHeartbeats 8000000 in
set_option maxRecDepth 100000 in
theorem law27_TraceTells.calls (k : Nat) (A0 : Option Addr) (c0 : Nat) (l0 : List (S40)) (a1 : Int) (a2 : Int) (r : Bool) (w : World) (hr0 : Kd.C k40 w A0 l0.length l0) (hc0 : l0.length ≤ c0) (h : law27_TraceTells.f k l0 a1 a2 = some r) :
 Calls Try.prog 5 #[.slice A0 l0.length c0, .int .i64 a1, .int .i64 a2] w fun e w' => e = .returned (.bool r) ∧ Below w.heap.size w w' := by
 have HR0 := Aside0.mk hr0
 have HC0 := Aside0.mk hc0
 clear hr0 hc0
 have HB := Aside0.mk (Below.refl w.heap.size w)
 have H : ((law27_few.f k l0).bind fun t330 => (if t330 = true then ((trace_Frames.f k l0 a1 a2).bind fun bt332 => ((ref27_Frames.f k l0 a1 a2).bind fun bt336 => ((trace_Records.f k l0).bind fun bt340 => ((ref27_Records.f k l0).bind fun bt344 => ((law27_awake.f k).bind fun t348 => (if t348 = true then ((trace_Bytes.f l0 a1 a2).bind fun t349 => ((ref27_Bytes.f k l0 a1 a2).bind fun t350 => (if t349.toList = t350.toList then ((ref08_Frames.f k bt332.1 bt336.1).bind fun t351 => (if t351 = true then (if (bt332.2 == bt336.2) = true then ((ref23_Same.f k bt340.1 bt344.1).bind fun t352 => (if t352 = true then (if (bt340.2 == bt344.2) = true then ((trace_Closes.f l0 a2).bind fun t353 => ((ref27_Closes.f k l0 a2).bind fun t354 => (some (t353 == t354)))) else (none)) else (none))) else (none)) else (none))) else (none)))) else (none))))))) else ((law27_awake.f k).bind fun t331 => (some t331)))) = some r := h
 clear h
 replace H := Option.bind_eq_some_iff.mp H
 obtain ⟨t330, A40, H⟩ := H
 replace H : (if t330 = true then ((trace_Frames.f k l0 a1 a2).bind fun bt332 => ((ref27_Frames.f k l0 a1 a2).bind fun bt336 => ((trace_Records.f k l0).bind fun bt340 => ((ref27_Records.f k l0).bind fun bt344 => ((law27_awake.f k).bind fun t348 => (if t348 = true then ((trace_Bytes.f l0 a1 a2).bind fun t349 => ((ref27_Bytes.f k l0 a1 a2).bind fun t350 => (if t349.toList = t350.toList then ((ref08_Frames.f k bt332.1 bt336.1).bind fun t351 => (if t351 = true then (if (bt332.2 == bt336.2) = true then ((ref23_Same.f k bt340.1 bt344.1).bind fun t352 => (if t352 = true then (if (bt340.2 == bt344.2) = true then ((trace_Closes.f l0 a2).bind fun t353 => ((ref27_Closes.f k l0 a2).bind fun t354 => (some (t353 == t354)))) else (none)) else (none))) else (none)) else (none))) else (none)))) else (none))))))) else ((law27_awake.f k).bind fun t331 => (some t331))) = some r := H
 have A4 := Aside0.mk A40
 clear A40
 by_cases c5 : t330 = true
 ·subst c5
  have H1 : ((trace_Frames.f k l0 a1 a2).bind fun bt332 => ((ref27_Frames.f k l0 a1 a2).bind fun bt336 => ((trace_Records.f k l0).bind fun bt340 => ((ref27_Records.f k l0).bind fun bt344 => ((law27_awake.f k).bind fun t348 => (if t348 = true then ((trace_Bytes.f l0 a1 a2).bind fun t349 => ((ref27_Bytes.f k l0 a1 a2).bind fun t350 => (if t349.toList = t350.toList then ((ref08_Frames.f k bt332.1 bt336.1).bind fun t351 => (if t351 = true then (if (bt332.2 == bt336.2) = true then ((ref23_Same.f k bt340.1 bt344.1).bind fun t352 => (if t352 = true then (if (bt340.2 == bt344.2) = true then ((trace_Closes.f l0 a2).bind fun t353 => ((ref27_Closes.f k l0 a2).bind fun t354 => (some (t353 == t354)))) else (none)) else (none))) else (none)) else (none))) else (none)))) else (none))))))) = some r := by rw [if_pos rfl] at H; exact H
  clear H
  have H := H1
  clear H1
  replace H := Option.bind_eq_some_iff.mp H
  obtain ⟨⟨t332, t333⟩, A60, H⟩ := H
  replace H : ((ref27_Frames.f k l0 a1 a2).bind fun bt336 => ((trace_Records.f k l0).bind fun bt340 => ((ref27_Records.f k l0).bind fun bt344 => ((law27_awake.f k).bind fun t348 => (if t348 = true then ((trace_Bytes.f l0 a1 a2).bind fun t349 => ((ref27_Bytes.f k l0 a1 a2).bind fun t350 => (if t349.toList = t350.toList then ((ref08_Frames.f k t332 bt336.1).bind fun t351 => (if t351 = true then (if (t333 == bt336.2) = true then ((ref23_Same.f k bt340.1 bt344.1).bind fun t352 => (if t352 = true then (if (bt340.2 == bt344.2) = true then ((trace_Closes.f l0 a2).bind fun t353 => ((ref27_Closes.f k l0 a2).bind fun t354 => (some (t353 == t354)))) else (none)) else (none))) else (none)) else (none))) else (none)))) else (none)))))) = some r := H
  have A6 := Aside0.mk A60
  clear A60
  replace H := Option.bind_eq_some_iff.mp H
  obtain ⟨⟨t336, t337⟩, A70, H⟩ := H
  replace H : ((trace_Records.f k l0).bind fun bt340 => ((ref27_Records.f k l0).bind fun bt344 => ((law27_awake.f k).bind fun t348 => (if t348 = true then ((trace_Bytes.f l0 a1 a2).bind fun t349 => ((ref27_Bytes.f k l0 a1 a2).bind fun t350 => (if t349.toList = t350.toList then ((ref08_Frames.f k t332 t336).bind fun t351 => (if t351 = true then (if (t333 == t337) = true then ((ref23_Same.f k bt340.1 bt344.1).bind fun t352 => (if t352 = true then (if (bt340.2 == bt344.2) = true then ((trace_Closes.f l0 a2).bind fun t353 => ((ref27_Closes.f k l0 a2).bind fun t354 => (some (t353 == t354)))) else (none)) else (none))) else (none)) else (none))) else (none)))) else (none))))) = some r := H
  have A7 := Aside0.mk A70
  clear A70
  replace H := Option.bind_eq_some_iff.mp H
  obtain ⟨⟨t340, t341⟩, A80, H⟩ := H
  replace H : ((ref27_Records.f k l0).bind fun bt344 => ((law27_awake.f k).bind fun t348 => (if t348 = true then ((trace_Bytes.f l0 a1 a2).bind fun t349 => ((ref27_Bytes.f k l0 a1 a2).bind fun t350 => (if t349.toList = t350.toList then ((ref08_Frames.f k t332 t336).bind fun t351 => (if t351 = true then (if (t333 == t337) = true then ((ref23_Same.f k t340 bt344.1).bind fun t352 => (if t352 = true then (if (t341 == bt344.2) = true then ((trace_Closes.f l0 a2).bind fun t353 => ((ref27_Closes.f k l0 a2).bind fun t354 => (some (t353 == t354)))) else (none)) else (none))) else (none)) else (none))) else (none)))) else (none)))) = some r := H
  have A8 := Aside0.mk A80
  clear A80
  replace H := Option.bind_eq_some_iff.mp H
  obtain ⟨⟨t344, t345⟩, A90, H⟩ := H
  replace H : ((law27_awake.f k).bind fun t348 => (if t348 = true then ((trace_Bytes.f l0 a1 a2).bind fun t349 => ((ref27_Bytes.f k l0 a1 a2).bind fun t350 => (if t349.toList = t350.toList then ((ref08_Frames.f k t332 t336).bind fun t351 => (if t351 = true then (if (t333 == t337) = true then ((ref23_Same.f k t340 t344).bind fun t352 => (if t352 = true then (if (t341 == t345) = true then ((trace_Closes.f l0 a2).bind fun t353 => ((ref27_Closes.f k l0 a2).bind fun t354 => (some (t353 == t354)))) else (none)) else (none))) else (none)) else (none))) else (none)))) else (none))) = some r := H
  have A9 := Aside0.mk A90
  clear A90
  replace H := Option.bind_eq_some_iff.mp H
  obtain ⟨t348, A100, H⟩ := H
  replace H : (if t348 = true then ((trace_Bytes.f l0 a1 a2).bind fun t349 => ((ref27_Bytes.f k l0 a1 a2).bind fun t350 => (if t349.toList = t350.toList then ((ref08_Frames.f k t332 t336).bind fun t351 => (if t351 = true then (if (t333 == t337) = true then ((ref23_Same.f k t340 t344).bind fun t352 => (if t352 = true then (if (t341 == t345) = true then ((trace_Closes.f l0 a2).bind fun t353 => ((ref27_Closes.f k l0 a2).bind fun t354 => (some (t353 == t354)))) else (none)) else (none))) else (none)) else (none))) else (none)))) else (none)) = some r := H
  have A10 := Aside0.mk A100
  clear A100
  by_cases c11 : t348 = true
  ·subst c11
   have H1 : ((trace_Bytes.f l0 a1 a2).bind fun t349 => ((ref27_Bytes.f k l0 a1 a2).bind fun t350 => (if t349.toList = t350.toList then ((ref08_Frames.f k t332 t336).bind fun t351 => (if t351 = true then (if (t333 == t337) = true then ((ref23_Same.f k t340 t344).bind fun t352 => (if t352 = true then (if (t341 == t345) = true then ((trace_Closes.f l0 a2).bind fun t353 => ((ref27_Closes.f k l0 a2).bind fun t354 => (some (t353 == t354)))) else (none)) else (none))) else (none)) else (none))) else (none)))) = some r := by rw [if_pos rfl] at H; exact H
   clear H
   have H := H1
   clear H1
   replace H := Option.bind_eq_some_iff.mp H
   obtain ⟨t349, A120, H⟩ := H
   replace H : ((ref27_Bytes.f k l0 a1 a2).bind fun t350 => (if t349.toList = t350.toList then ((ref08_Frames.f k t332 t336).bind fun t351 => (if t351 = true then (if (t333 == t337) = true then ((ref23_Same.f k t340 t344).bind fun t352 => (if t352 = true then (if (t341 == t345) = true then ((trace_Closes.f l0 a2).bind fun t353 => ((ref27_Closes.f k l0 a2).bind fun t354 => (some (t353 == t354)))) else (none)) else (none))) else (none)) else (none))) else (none))) = some r := H
   have A12 := Aside0.mk A120
   clear A120
   replace H := Option.bind_eq_some_iff.mp H
   obtain ⟨t350, A130, H⟩ := H
   replace H : (if t349.toList = t350.toList then ((ref08_Frames.f k t332 t336).bind fun t351 => (if t351 = true then (if (t333 == t337) = true then ((ref23_Same.f k t340 t344).bind fun t352 => (if t352 = true then (if (t341 == t345) = true then ((trace_Closes.f l0 a2).bind fun t353 => ((ref27_Closes.f k l0 a2).bind fun t354 => (some (t353 == t354)))) else (none)) else (none))) else (none)) else (none))) else (none)) = some r := H
   have A13 := Aside0.mk A130
   clear A130
   by_cases c14 : t349.toList = t350.toList
   rotate_left
   ·rw [if_neg c14] at H
    exact absurd H (by simp)
   rw [if_pos c14] at H
   have c14b0 : (t349.toList == t350.toList) = true := beq_iff_eq.mpr c14
   have c14b1 : (t349.toList != t350.toList) = false := bne_eq_false_iff_eq.mpr c14
   clear c14
   replace H := Option.bind_eq_some_iff.mp H
   obtain ⟨t351, A150, H⟩ := H
   replace H : (if t351 = true then (if (t333 == t337) = true then ((ref23_Same.f k t340 t344).bind fun t352 => (if t352 = true then (if (t341 == t345) = true then ((trace_Closes.f l0 a2).bind fun t353 => ((ref27_Closes.f k l0 a2).bind fun t354 => (some (t353 == t354)))) else (none)) else (none))) else (none)) else (none)) = some r := H
   have A15 := Aside0.mk A150
   clear A150
   by_cases c16 : t351 = true
   ·subst c16
    have H1 : (if (t333 == t337) = true then ((ref23_Same.f k t340 t344).bind fun t352 => (if t352 = true then (if (t341 == t345) = true then ((trace_Closes.f l0 a2).bind fun t353 => ((ref27_Closes.f k l0 a2).bind fun t354 => (some (t353 == t354)))) else (none)) else (none))) else (none)) = some r := by rw [if_pos rfl] at H; exact H
    clear H
    have H := H1
    clear H1
    by_cases c17 : (t333 == t337) = true
    rotate_left
    ·rw [if_neg c17] at H
     exact absurd H (by simp)
    rw [if_pos c17] at H
    have c17b0 : (t333 == t337) = true := c17
    (try (have c17b1 : decide (t333 = t337) = true := by simpa using c17))
    (try (have c17b2 : (t333 == t337) = true := by simpa using c17))
    clear c17
    replace H := Option.bind_eq_some_iff.mp H
    obtain ⟨t352, A180, H⟩ := H
    replace H : (if t352 = true then (if (t341 == t345) = true then ((trace_Closes.f l0 a2).bind fun t353 => ((ref27_Closes.f k l0 a2).bind fun t354 => (some (t353 == t354)))) else (none)) else (none)) = some r := H
    have A18 := Aside0.mk A180
    clear A180
    by_cases c19 : t352 = true
    ·subst c19
     have H1 : (if (t341 == t345) = true then ((trace_Closes.f l0 a2).bind fun t353 => ((ref27_Closes.f k l0 a2).bind fun t354 => (some (t353 == t354)))) else (none)) = some r := by rw [if_pos rfl] at H; exact H
     clear H
     have H := H1
     clear H1
     by_cases c20 : (t341 == t345) = true
     rotate_left
     ·rw [if_neg c20] at H
      exact absurd H (by simp)
     rw [if_pos c20] at H
     have c20b0 : (t341 == t345) = true := c20
     (try (have c20b1 : decide (t341 = t345) = true := by simpa using c20))
     (try (have c20b2 : (t341 == t345) = true := by simpa using c20))
     clear c20
     replace H := Option.bind_eq_some_iff.mp H
     obtain ⟨t353, A210, H⟩ := H
     replace H : ((ref27_Closes.f k l0 a2).bind fun t354 => (some (t353 == t354))) = some r := H
     have A21 := Aside0.mk A210
     clear A210
     replace H := Option.bind_eq_some_iff.mp H
     obtain ⟨t354, A220, H⟩ := H
     replace H : (some (t353 == t354)) = some r := H
     have A22 := Aside0.mk A220
     clear A220
     obtain rfl := Option.some.inj H
     go_enter Try.func5, Try.ntmps5
     go_wp2_with (first | ((with_reducible refine gate_callee (f := 6) rfl ?_); refine goesL_ (some 16) rfl rfl Try.func6 (by kernel_rfl) rfl #[.slice A0 l0.length c0] rfl (by (try simp only [zO, zP, zQ]); first | done | rfl | (simp only [zS, zR]; rfl)) ?_; (with_reducible refine (law27_few.calls k _ _ l0 true _ ?side1 ?side2 A4.out).mono ?_); (case side1 => repeat (first | exact HR0.out | (with_reducible refine Kd.C_alloc ?_ _) | (with_reducible refine Kd.C_drewN ?_ _) | (with_reducible refine Kd.C_drew ?_))); (case side2 => exact HC0.out); rintro e w' ⟨rfl, ⟨nd, rfl⟩⟩; refine ⟨_, rfl, ?_⟩) | ((with_reducible refine gate_callee (f := 13) rfl ?_); refine goesL_ (some 23) rfl rfl Try.func13 (by kernel_rfl) rfl #[.slice A0 l0.length c0, .int .i64 a1, .int .i64 a2] rfl (by (try simp only [zO, zP, zQ]); first | done | rfl | (simp only [zS, zR]; rfl)) ?_; (with_reducible refine (trace_Frames.calls k _ _ l0 a1 a2 t332 t333 _ ?side1 ?side2 A6.out).mono ?_); (case side1 => repeat (first | exact HR0.out | (with_reducible refine Kd.C_alloc ?_ _) | (with_reducible refine Kd.C_drewN ?_ _) | (with_reducible refine Kd.C_drew ?_))); (case side2 => exact HC0.out); rintro e w23 ⟨v334, rfl, ho0, hb⟩; refine ⟨_, rfl, ?_⟩; have n0_ := Aside0.mk (Kd.R_lower ho0 (zT (by repeat (first | (with_reducible first | exact HB.out | apply zF | apply zD | apply zE) | exact HB.out)))); have n1_ := Aside0.mk (zU (by repeat (first | (with_reducible first | exact HB.out | apply zF | apply zD | apply zE) | exact HB.out)) hb); clear HB; have HO335 := n0_; have HB := n1_; clear n0_ n1_; (try clear hb); (try clear hb2); (try clear hk); (try clear hi); (try clear ho0)) | ((with_reducible refine gate_callee (f := 15) rfl ?_); refine goesL_ (some 30) rfl rfl Try.func15 (by kernel_rfl) rfl #[.slice A0 l0.length c0, .int .i64 a1, .int .i64 a2] rfl (by (try simp only [zO, zP, zQ]); first | done | rfl | (simp only [zS, zR]; rfl)) ?_; (with_reducible refine (ref27_Frames.calls k _ _ l0 a1 a2 t336 t337 _ ?side1 ?side2 A7.out).mono ?_); (case side1 => repeat (first | exact (Kd.C_below HR0.out HB.out) | (with_reducible refine Kd.C_alloc ?_ _) | (with_reducible refine Kd.C_drewN ?_ _) | (with_reducible refine Kd.C_drew ?_))); (case side2 => exact HC0.out); rintro e w24 ⟨v338, rfl, ho0, hb⟩; refine ⟨_, rfl, ?_⟩; have n0_ := Aside0.mk (Kd.R_elder' (by (with_reducible repeat (first | apply zY | apply zX | apply zZ)); exact HO335.out) (Kd.R_base ho0) hb); have n1_ := Aside0.mk (Kd.R_lower (Kd.R_new' ho0 (Kd.R_lt (by (with_reducible repeat (first | apply zY | apply zX | apply zZ)); exact HO335.out))) (zT (by repeat (first | (with_reducible first | exact HB.out | apply zF | apply zD | apply zE) | exact HB.out)))); have n2_ := Aside0.mk (zU (by repeat (first | (with_reducible first | exact HB.out | apply zF | apply zD | apply zE) | exact HB.out)) hb); clear HO335; clear HB; have HO335 := n0_; have HO339 := n1_; have HB := n2_; clear n0_ n1_ n2_; (try clear hb); (try clear hb2); (try clear hk); (try clear hi); (try clear ho0)) | ((with_reducible refine gate_callee (f := 8) rfl ?_); refine goesL_ (some 35) rfl rfl Try.func8 (by kernel_rfl) rfl #[.slice A0 l0.length c0] rfl (by (try simp only [zO, zP, zQ]); first | done | rfl | (simp only [zS, zR]; rfl)) ?_; (with_reducible refine (trace_Records.calls k _ _ l0 t340 t341 _ ?side1 ?side2 A8.out).mono ?_); (case side1 => repeat (first | exact (Kd.C_below HR0.out HB.out) | (with_reducible refine Kd.C_alloc ?_ _) | (with_reducible refine Kd.C_drewN ?_ _) | (with_reducible refine Kd.C_drew ?_))); (case side2 => exact HC0.out); rintro e w25 ⟨v342, rfl, ho0, hb⟩; refine ⟨_, rfl, ?_⟩; have n0_ := Aside0.mk (Kd.R_below (by (with_reducible repeat (first | apply zY | apply zX | apply zZ)); exact HO335.out) hb); have n1_ := Aside0.mk (Kd.R_below (by (with_reducible repeat (first | apply zY | apply zX | apply zZ)); exact HO339.out) hb); have n2_ := Aside0.mk (Kd.R_lower ho0 (zT (by repeat (first | (with_reducible first | exact HB.out | apply zF | apply zD | apply zE) | exact HB.out)))); have n3_ := Aside0.mk (zU (by repeat (first | (with_reducible first | exact HB.out | apply zF | apply zD | apply zE) | exact HB.out)) hb); clear HO335; clear HO339; clear HB; have HO335 := n0_; have HO339 := n1_; have HO343 := n2_; have HB := n3_; clear n0_ n1_ n2_ n3_; (try clear hb); (try clear hb2); (try clear hk); (try clear hi); (try clear ho0)) | ((with_reducible refine gate_callee (f := 16) rfl ?_); refine goesL_ (some 40) rfl rfl Try.func16 (by kernel_rfl) rfl #[.slice A0 l0.length c0] rfl (by (try simp only [zO, zP, zQ]); first | done | rfl | (simp only [zS, zR]; rfl)) ?_; (with_reducible refine (ref27_Records.calls k _ _ l0 t344 t345 _ ?side1 ?side2 A9.out).mono ?_); (case side1 => repeat (first | exact (Kd.C_below HR0.out HB.out) | (with_reducible refine Kd.C_alloc ?_ _) | (with_reducible refine Kd.C_drewN ?_ _) | (with_reducible refine Kd.C_drew ?_))); (case side2 => exact HC0.out); rintro e w26 ⟨v346, rfl, ho0, hb⟩; refine ⟨_, rfl, ?_⟩; have n0_ := Aside0.mk (Kd.R_below (by (with_reducible repeat (first | apply zY | apply zX | apply zZ)); exact HO335.out) hb); have n1_ := Aside0.mk (Kd.R_below (by (with_reducible repeat (first | apply zY | apply zX | apply zZ)); exact HO339.out) hb); have n2_ := Aside0.mk (Kd.R_elder' (by (with_reducible repeat (first | apply zY | apply zX | apply zZ)); exact HO343.out) (Kd.R_base ho0) hb); have n3_ := Aside0.mk (Kd.R_lower (Kd.R_new' ho0 (Kd.R_lt (by (with_reducible repeat (first | apply zY | apply zX | apply zZ)); exact HO343.out))) (zT (by repeat (first | (with_reducible first | exact HB.out | apply zF | apply zD | apply zE) | exact HB.out)))); have n4_ := Aside0.mk (zU (by repeat (first | (with_reducible first | exact HB.out | apply zF | apply zD | apply zE) | exact HB.out)) hb); clear HO335; clear HO339; clear HO343; clear HB; have HO335 := n0_; have HO339 := n1_; have HO343 := n2_; have HO347 := n3_; have HB := n4_; clear n0_ n1_ n2_ n3_ n4_; (try clear hb); (try clear hb2); (try clear hk); (try clear hi); (try clear ho0)) | ((with_reducible refine gate_callee (f := 7) rfl ?_); refine goesL_ (some 43) rfl rfl Try.func7 (by kernel_rfl) rfl #[] rfl (by (try simp only [zO, zP, zQ]); first | done | rfl | (simp only [zS, zR]; rfl)) ?_; (with_reducible refine (law27_awake.calls k  true _ A10.out).mono ?_); rintro e w27 ⟨rfl, hb⟩; refine ⟨_, rfl, ?_⟩; have n0_ := Aside0.mk (Kd.R_below (by (with_reducible repeat (first | apply zY | apply zX | apply zZ)); exact HO335.out) hb); have n1_ := Aside0.mk (Kd.R_below (by (with_reducible repeat (first | apply zY | apply zX | apply zZ)); exact HO339.out) hb); have n2_ := Aside0.mk (Kd.R_below (by (with_reducible repeat (first | apply zY | apply zX | apply zZ)); exact HO343.out) hb); have n3_ := Aside0.mk (Kd.R_below (by (with_reducible repeat (first | apply zY | apply zX | apply zZ)); exact HO347.out) hb); have n4_ := Aside0.mk (zU (by repeat (first | (with_reducible first | exact HB.out | apply zF | apply zD | apply zE) | exact HB.out)) hb); clear HO335; clear HO339; clear HO343; clear HO347; clear HB; have HO335 := n0_; have HO339 := n1_; have HO343 := n2_; have HO347 := n3_; have HB := n4_; clear n0_ n1_ n2_ n3_ n4_; (try clear hb); (try clear hb2); (try clear hk); (try clear hi)) | (go_at_call 9; (with_reducible refine (trace_Bytes.calls _ _ l0 a1 a2 t349 _ ?side1 ?side2 A12.out).mono ?_); (case side1 => repeat (first | exact (Kd.C_below HR0.out HB.out) | (with_reducible refine Kd.C_alloc ?_ _) | (with_reducible refine Kd.C_drewN ?_ _) | (with_reducible refine Kd.C_drew ?_))); (case side2 => exact HC0.out); rintro e w28 ⟨rfl, hb⟩; have n0_ := Aside0.mk (Kd.R_below (by (with_reducible repeat (first | apply zY | apply zX | apply zZ)); exact HO335.out) hb); have n1_ := Aside0.mk (Kd.R_below (by (with_reducible repeat (first | apply zY | apply zX | apply zZ)); exact HO339.out) hb); have n2_ := Aside0.mk (Kd.R_below (by (with_reducible repeat (first | apply zY | apply zX | apply zZ)); exact HO343.out) hb); have n3_ := Aside0.mk (Kd.R_below (by (with_reducible repeat (first | apply zY | apply zX | apply zZ)); exact HO347.out) hb); have n4_ := Aside0.mk (zU (by repeat (first | (with_reducible first | exact HB.out | apply zF | apply zD | apply zE) | exact HB.out)) hb); clear HO335; clear HO339; clear HO343; clear HO347; clear HB; have HO335 := n0_; have HO339 := n1_; have HO343 := n2_; have HO347 := n3_; have HB := n4_; clear n0_ n1_ n2_ n3_ n4_; (try clear hb); (try clear hb2); (try clear hk); (try clear hi)) | (go_at_call 17; (with_reducible refine (ref27_Bytes.calls k _ _ l0 a1 a2 t350 _ ?side1 ?side2 A13.out).mono ?_); (case side1 => repeat (first | exact (Kd.C_below HR0.out HB.out) | (with_reducible refine Kd.C_alloc ?_ _) | (with_reducible refine Kd.C_drewN ?_ _) | (with_reducible refine Kd.C_drew ?_))); (case side2 => exact HC0.out); rintro e w' ⟨rfl, ⟨nd, rfl⟩⟩; obtain ⟨Ao29, co29, eo29⟩ := Kd.R_slice HO335.out; subst eo29; obtain ⟨Ao30, co30, eo30⟩ := Kd.R_slice HO339.out; subst eo30) | (go_at_call 14; (with_reducible refine (ref08_Frames.calls k _ _ t332 _ _ t336 true _ ?side1 ?side2 ?side3 ?side4 A15.out).mono ?_); (case side1 => repeat (first | exact (Kd.R_reads' HO335.out).2.2 | (with_reducible refine Kd.C_alloc ?_ _) | (with_reducible refine Kd.C_drewN ?_ _) | (with_reducible refine Kd.C_drew ?_))); (case side2 => exact (Kd.R_reads' HO335.out).2.1); (case side3 => repeat (first | exact (Kd.R_reads' HO339.out).2.2 | (with_reducible refine Kd.C_alloc ?_ _) | (with_reducible refine Kd.C_drewN ?_ _) | (with_reducible refine Kd.C_drew ?_))); (case side4 => exact (Kd.R_reads' HO339.out).2.1); rintro e w' ⟨rfl, ⟨nd, rfl⟩⟩; obtain ⟨Ao31, co31, eo31⟩ := Kd.R_slice HO343.out; subst eo31; obtain ⟨Ao32, co32, eo32⟩ := Kd.R_slice HO347.out; subst eo32) | (go_at_call 11; (with_reducible refine (ref23_Same.calls k _ _ t340 _ _ t344 true _ ?side1 ?side2 ?side3 ?side4 A18.out).mono ?_); (case side1 => repeat (first | exact (Kd.R_reads' HO343.out).2.2 | (with_reducible refine Kd.C_alloc ?_ _) | (with_reducible refine Kd.C_drewN ?_ _) | (with_reducible refine Kd.C_drew ?_))); (case side2 => exact (Kd.R_reads' HO343.out).2.1); (case side3 => repeat (first | exact (Kd.R_reads' HO347.out).2.2 | (with_reducible refine Kd.C_alloc ?_ _) | (with_reducible refine Kd.C_drewN ?_ _) | (with_reducible refine Kd.C_drew ?_))); (case side4 => exact (Kd.R_reads' HO347.out).2.1); rintro e w' ⟨rfl, ⟨nd, rfl⟩⟩) | (go_at_call 10; (with_reducible refine (trace_Closes.calls _ _ l0 a2 t353 _ ?side1 ?side2 A21.out).mono ?_); (case side1 => repeat (first | exact (Kd.C_below HR0.out (by repeat (first | (with_reducible first | exact HB.out | apply zF | apply zD | apply zE) | exact HB.out))) | (with_reducible refine Kd.C_alloc ?_ _) | (with_reducible refine Kd.C_drewN ?_ _) | (with_reducible refine Kd.C_drew ?_))); (case side2 => exact HC0.out); rintro e w33 ⟨rfl, hb⟩; have n0_ := Aside0.mk (Kd.R_below (by (with_reducible repeat (first | apply zY | apply zX | apply zZ)); exact HO335.out) hb); have n1_ := Aside0.mk (Kd.R_below (by (with_reducible repeat (first | apply zY | apply zX | apply zZ)); exact HO339.out) hb); have n2_ := Aside0.mk (Kd.R_below (by (with_reducible repeat (first | apply zY | apply zX | apply zZ)); exact HO343.out) hb); have n3_ := Aside0.mk (Kd.R_below (by (with_reducible repeat (first | apply zY | apply zX | apply zZ)); exact HO347.out) hb); have n4_ := Aside0.mk (zU (by repeat (first | (with_reducible first | exact HB.out | apply zF | apply zD | apply zE) | exact HB.out)) hb); clear HO335; clear HO339; clear HO343; clear HO347; clear HB; have HO335 := n0_; have HO339 := n1_; have HO343 := n2_; have HO347 := n3_; have HB := n4_; clear n0_ n1_ n2_ n3_ n4_; (try clear hb); (try clear hb2); (try clear hk); (try clear hi)) | (go_at_call 18; (with_reducible refine (ref27_Closes.calls k _ _ l0 a2 t354 _ ?side1 ?side2 A22.out).mono ?_); (case side1 => repeat (first | exact (Kd.C_below HR0.out HB.out) | (with_reducible refine Kd.C_alloc ?_ _) | (with_reducible refine Kd.C_drewN ?_ _) | (with_reducible refine Kd.C_drew ?_))); (case side2 => exact HC0.out); rintro e w' ⟨rfl, ⟨nd, rfl⟩⟩))
     go_ret
     exact ⟨by first | rfl | (simp [errW_none, errW_some] <;> rfl) | (simp [*, errW_none, errW_some] <;> rfl), by repeat (first | (with_reducible first | exact HB.out | apply zF | apply zD | apply zE) | exact HB.out)⟩
    ·replace c19 := Bool.eq_false_iff.mpr c19
     subst c19
     have H1 : (none) = some r := by rw [if_neg (show ¬ (false = true) by decide)] at H; exact H
     clear H
     have H := H1
     clear H1
     exact absurd H (by simp)
   ·replace c16 := Bool.eq_false_iff.mpr c16
    subst c16
    have H1 : (none) = some r := by rw [if_neg (show ¬ (false = true) by decide)] at H; exact H
    clear H
    have H := H1
    clear H1
    exact absurd H (by simp)
  ·replace c11 := Bool.eq_false_iff.mpr c11
   subst c11
   have H1 : (none) = some r := by rw [if_neg (show ¬ (false = true) by decide)] at H; exact H
   clear H
   have H := H1
   clear H1
   exact absurd H (by simp)
 ·replace c5 := Bool.eq_false_iff.mpr c5
  subst c5
  have H1 : ((law27_awake.f k).bind fun t331 => (some t331)) = some r := by rw [if_neg (show ¬ (false = true) by decide)] at H; exact H
  clear H
  have H := H1
  clear H1
  replace H := Option.bind_eq_some_iff.mp H
  obtain ⟨t331, A340, H⟩ := H
  replace H : (some t331) = some r := H
  have A34 := Aside0.mk A340
  clear A340
  obtain rfl := Option.some.inj H
  go_enter Try.func5, Try.ntmps5
  go_wp2_with (first | ((with_reducible refine gate_callee (f := 6) rfl ?_); refine goesL_ (some 16) rfl rfl Try.func6 (by kernel_rfl) rfl #[.slice A0 l0.length c0] rfl (by (try simp only [zO, zP, zQ]); first | done | rfl | (simp only [zS, zR]; rfl)) ?_; (with_reducible refine (law27_few.calls k _ _ l0 false _ ?side1 ?side2 A4.out).mono ?_); (case side1 => repeat (first | exact HR0.out | (with_reducible refine Kd.C_alloc ?_ _) | (with_reducible refine Kd.C_drewN ?_ _) | (with_reducible refine Kd.C_drew ?_))); (case side2 => exact HC0.out); rintro e w' ⟨rfl, ⟨nd, rfl⟩⟩; refine ⟨_, rfl, ?_⟩) | ((with_reducible refine gate_callee (f := 7) rfl ?_); refine goesL_ (some 18) rfl rfl Try.func7 (by kernel_rfl) rfl #[] rfl (by (try simp only [zO, zP, zQ]); first | done | rfl | (simp only [zS, zR]; rfl)) ?_; (with_reducible refine (law27_awake.calls k  t331 _ A34.out).mono ?_); rintro e w35 ⟨rfl, hb⟩; refine ⟨_, rfl, ?_⟩; have n0_ := Aside0.mk (zU (by repeat (first | (with_reducible first | exact HB.out | apply zF | apply zD | apply zE) | exact HB.out)) hb); clear HB; have HB := n0_; clear n0_; (try clear hb); (try clear hb2); (try clear hk); (try clear hi)))
  go_ret
  exact ⟨by first | rfl | (simp [errW_none, errW_some] <;> rfl) | (simp [*, errW_none, errW_some] <;> rfl), by repeat (first | (with_reducible first | exact HB.out | apply zF | apply zD | apply zE) | exact HB.out)⟩

end Go.Proofs.Ytfapfpkijeaapaa.P

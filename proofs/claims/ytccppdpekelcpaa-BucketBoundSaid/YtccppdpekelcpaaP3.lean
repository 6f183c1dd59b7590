-- Written by a program of this session (wip/mkprint.py). Not trusted: Lean checks it.
import Derived.Test.YtccppdpekelcpaaP0
import Derived.Test.YtccppdpekelcpaaP1
namespace Go.Proofs.Ytccppdpekelcpaa.P
open Go.RowKit Go.Proofs.YtccppdpekelcpaaW.PrintWords Go.Proofs.YtccppdpekelcpaaW.PrintLast Go.Proofs.YtccppdpekelcpaaW.PrintMore
attribute [local go_sem] max2_int min2_int max_two min_two max_three min_three max_four min_four   -- for this text's walks alone
set_option linter.unusedVariables false
set_option linter.unusedSimpArgs false

/-! ### law18_BucketBound: function 4 -/
mutual
def law18_BucketBound.j0 : Nat → List Bool → Int → Bool → Int → Int → Int → Option (Bool)
  | 0, _, _, _, _, _, _ => none
  | k + 1, x1, x2, x20, x132000, x132001, x132002 => if x20 = true then ((law18_awake.f).bind fun t133 => (some t133)) else ((bucket_Full.f x132000 x132001 x132002).bind fun t134 => (law18_BucketBound.l0 k x1 x2 t134 0 0 0 x132000 x132001 x132002))
def law18_BucketBound.l0 : Nat → List Bool → Int → Int → Int → Int → Int → Int → Int → Int → Option (Bool)
  | 0, _, _, _, _, _, _, _, _, _ => none
  | k + 1, x1, x2, x7, x8, x9, x10, x132000, x132001, x132002 => if x10 < (x1.length : Int) then (if 0 ≤ x10 then (if rdOf false x1 x10 = true then ((bucket_Tick.f x7 x132000 x132001 x132002).bind fun t137 => (if x10 ≥ (wrap64 (x2)) then (if t137 < 0 then (some false) else ((bucket_Full.f x132000 x132001 x132002).bind fun t138 => (if t137 > t138 then (some false) else (if (wrap64 (x8 * x132001)) > (wrap64 ((wrap64 (x132002 * x132001)) + (wrap64 ((wrap64 (x9 + 1)) * x132000)))) then (some false) else (law18_BucketBound.l0 k x1 x2 t137 x8 (wrap64 (x9 + 1)) (wrap64 (x10 + 1)) x132000 x132001 x132002))))) else (if t137 < 0 then (some false) else ((bucket_Full.f x132000 x132001 x132002).bind fun t139 => (if t137 > t139 then (some false) else (if (wrap64 (x8 * x132001)) > (wrap64 ((wrap64 (x132002 * x132001)) + (wrap64 (x9 * x132000)))) then (some false) else (law18_BucketBound.l0 k x1 x2 t137 x8 x9 (wrap64 (x10 + 1)) x132000 x132001 x132002))))))) else ((bucket_Take.f x7 x132000 x132001 x132002).bind fun bt140 => (if (bt140.2 != (decide (x7 ≥ x132001))) = true then (some false) else (if bt140.2 = true then (law18_BucketBound.j2 k x1 x2 bt140.1 x8 x9 x10 (decide (x10 ≥ (wrap64 (x2)))) x132000 x132001 x132002) else (law18_BucketBound.j2 k x1 x2 bt140.1 x8 x9 x10 false x132000 x132001 x132002))))) else (none)) else ((law18_awake.f).bind fun t135 => (some t135))
def law18_BucketBound.j2 : Nat → List Bool → Int → Int → Int → Int → Int → Bool → Int → Int → Int → Option (Bool)
  | 0, _, _, _, _, _, _, _, _, _, _ => none
  | k + 1, x1, x2, x7, x8, x9, x10, x62, x132000, x132001, x132002 => if x62 = true then (if x7 < 0 then (some false) else ((bucket_Full.f x132000 x132001 x132002).bind fun t142 => (if x7 > t142 then (some false) else (if (wrap64 ((wrap64 (x8 + 1)) * x132001)) > (wrap64 ((wrap64 (x132002 * x132001)) + (wrap64 (x9 * x132000)))) then (some false) else (law18_BucketBound.l0 k x1 x2 x7 (wrap64 (x8 + 1)) x9 (wrap64 (x10 + 1)) x132000 x132001 x132002))))) else (if x7 < 0 then (some false) else ((bucket_Full.f x132000 x132001 x132002).bind fun t143 => (if x7 > t143 then (some false) else (if (wrap64 (x8 * x132001)) > (wrap64 ((wrap64 (x132002 * x132001)) + (wrap64 (x9 * x132000)))) then (some false) else (law18_BucketBound.l0 k x1 x2 x7 x8 x9 (wrap64 (x10 + 1)) x132000 x132001 x132002)))))
end
def law18_BucketBound.f (k : Nat) (a0_0 : Int) (a0_1 : Int) (a0_2 : Int) (l1 : List Bool) (a2 : Int) : Option (Bool) := (ref18_Right.f a0_0 a0_1 a0_2).bind fun t132 => (if t132 = true then (law18_BucketBound.j0 k l1 a2 (decide ((l1.length : Int) > 200)) a0_0 a0_1 a0_2) else (law18_BucketBound.j0 k l1 a2 true a0_0 a0_1 a0_2))
theorem law18_BucketBound.mono_l : ∀ k, (∀ y0 y1 y2 y3 y4 y5, LeO (law18_BucketBound.j0 k y0 y1 y2 y3 y4 y5) (law18_BucketBound.j0 (k + 1) y0 y1 y2 y3 y4 y5)) ∧ (∀ y0 y1 y2 y3 y4 y5 y6 y7 y8, LeO (law18_BucketBound.l0 k y0 y1 y2 y3 y4 y5 y6 y7 y8) (law18_BucketBound.l0 (k + 1) y0 y1 y2 y3 y4 y5 y6 y7 y8)) ∧ (∀ y0 y1 y2 y3 y4 y5 y6 y7 y8 y9, LeO (law18_BucketBound.j2 k y0 y1 y2 y3 y4 y5 y6 y7 y8 y9) (law18_BucketBound.j2 (k + 1) y0 y1 y2 y3 y4 y5 y6 y7 y8 y9))
  | 0 => ⟨fun _ _ _ _ _ _ r h => by simp [law18_BucketBound.j0] at h, fun _ _ _ _ _ _ _ _ _ r h => by simp [law18_BucketBound.l0] at h, fun _ _ _ _ _ _ _ _ _ _ r h => by simp [law18_BucketBound.j2] at h⟩
  | k + 1 => by
    obtain ⟨ih0, ih1, ih2⟩ := law18_BucketBound.mono_l k
    refine ⟨?_, ?_, ?_⟩
    · intro y0 y1 y2 y3 y4 y5
      unfold law18_BucketBound.j0
      repeat' first
      | (with_reducible exact ih0 _ _ _ _ _ _)
      | (with_reducible exact ih1 _ _ _ _ _ _ _ _ _)
      | (with_reducible exact ih2 _ _ _ _ _ _ _ _ _ _)
      | (with_reducible exact LeO.refl _)
      | (with_reducible exact LeO.none _)
      | (with_reducible refine LeO.ite ?_ ?_)
      | (with_reducible refine LeO.bind ?_ (fun _ => ?_))
      | exact ih0 _ _ _ _ _ _
      | exact ih1 _ _ _ _ _ _ _ _ _
      | exact ih2 _ _ _ _ _ _ _ _ _ _
      | exact LeO.none _
      | refine LeO.ite ?_ ?_
      | refine LeO.bind ?_ (fun _ => ?_)
    · intro y0 y1 y2 y3 y4 y5 y6 y7 y8
      unfold law18_BucketBound.l0
      repeat' first
      | (with_reducible exact ih0 _ _ _ _ _ _)
      | (with_reducible exact ih1 _ _ _ _ _ _ _ _ _)
      | (with_reducible exact ih2 _ _ _ _ _ _ _ _ _ _)
      | (with_reducible exact LeO.refl _)
      | (with_reducible exact LeO.none _)
      | (with_reducible refine LeO.ite ?_ ?_)
      | (with_reducible refine LeO.bind ?_ (fun _ => ?_))
      | exact ih0 _ _ _ _ _ _
      | exact ih1 _ _ _ _ _ _ _ _ _
      | exact ih2 _ _ _ _ _ _ _ _ _ _
      | exact LeO.none _
      | refine LeO.ite ?_ ?_
      | refine LeO.bind ?_ (fun _ => ?_)
    · intro y0 y1 y2 y3 y4 y5 y6 y7 y8 y9
      unfold law18_BucketBound.j2
      repeat' first
      | (with_reducible exact ih0 _ _ _ _ _ _)
      | (with_reducible exact ih1 _ _ _ _ _ _ _ _ _)
      | (with_reducible exact ih2 _ _ _ _ _ _ _ _ _ _)
      | (with_reducible exact LeO.refl _)
      | (with_reducible exact LeO.none _)
      | (with_reducible refine LeO.ite ?_ ?_)
      | (with_reducible refine LeO.bind ?_ (fun _ => ?_))
      | exact ih0 _ _ _ _ _ _
      | exact ih1 _ _ _ _ _ _ _ _ _
      | exact ih2 _ _ _ _ _ _ _ _ _ _
      | exact LeO.none _
      | refine LeO.ite ?_ ?_
      | refine LeO.bind ?_ (fun _ => ?_)
theorem law18_BucketBound.mono : ∀ a0 a1 a2 a3 a4 k, LeO (law18_BucketBound.f k a0 a1 a2 a3 a4) (law18_BucketBound.f (k + 1) a0 a1 a2 a3 a4) := by
  intro a0 a1 a2 a3 a4 k
  obtain ⟨ih0, ih1, ih2⟩ := law18_BucketBound.mono_l k
  unfold law18_BucketBound.f
  repeat' first
      | (with_reducible exact ih0 _ _ _ _ _ _)
      | (with_reducible exact ih1 _ _ _ _ _ _ _ _ _)
      | (with_reducible exact ih2 _ _ _ _ _ _ _ _ _ _)
      | (with_reducible exact LeO.refl _)
      | (with_reducible exact LeO.none _)
      | (with_reducible refine LeO.ite ?_ ?_)
      | (with_reducible refine LeO.bind ?_ (fun _ => ?_))
      | exact ih0 _ _ _ _ _ _
      | exact ih1 _ _ _ _ _ _ _ _ _
      | exact ih2 _ _ _ _ _ _ _ _ _ _
      | exact LeO.none _
      | refine LeO.ite ?_ ?_
      | refine LeO.bind ?_ (fun _ => ?_)
set_option maxHeartbeats 8000000 in
set_option maxRecDepth 100000 in
theorem law18_BucketBound.calls (k : Nat) (a0_0 : Int) (a0_1 : Int) (a0_2 : Int) (A1 : Option Addr) (c1 : Nat) (l1 : List Bool) (a2 : Int) (r : Bool) (w : World) (hr1 : Kd.C Kd.bool w A1 l1.length l1) (hc1 : l1.length ≤ c1) (h : law18_BucketBound.f k a0_0 a0_1 a0_2 l1 a2 = some r) :
    Calls Try.prog 4 #[.agg #[.int .i64 a0_0, .int .i64 a0_1, .int .i64 a0_2], .slice A1 l1.length c1, .int .u8 a2] w fun e w' => e = .returned (.bool r) ∧ Below w.heap.size w w' := by
  have hu23 := Try.underlying23
  have HR1 := Aside0.mk hr1
  have HC1 := Aside0.mk hc1
  clear hr1 hc1
  have HB := Aside0.mk (Below.refl w.heap.size w)
  have H : ((ref18_Right.f a0_0 a0_1 a0_2).bind fun t132 => (if t132 = true then (law18_BucketBound.j0 k l1 a2 (decide ((l1.length : Int) > 200)) a0_0 a0_1 a0_2) else (law18_BucketBound.j0 k l1 a2 true a0_0 a0_1 a0_2))) = some r := h
  clear h
  have HC4 := Aside0.mk H
  clear H
  go_enter Try.func4, Try.ntmps4
  go_upto_region 1 with (first | ((with_reducible refine gate_dst (N := 3) rfl ?_); (try (refine gate_guard (by rfl) ?_; dsimp only)); refine box_event ?hg (N := 3) ?hd (cs := #[.int .i64 a0_0, .int .i64 a0_1, .int .i64 a0_2]) (t := 23) ?hr ?_; (case hd => rfl); (case hg => rfl); (case hr => first | (go_simp; done) | (go_simp; rfl)); intro gb131 hg w5 hbox hb; have n0_ := Aside0.mk (below_step (by repeat (first | (with_reducible first | exact HB.out | apply below_alloc | apply pw_below_drewN | apply below_drew1) | exact HB.out)) hb); have n1_ := Aside0.mk (hbox); have n2_ := Aside0.mk ((by rw [hg]; exact (below_size (by repeat (first | (with_reducible first | exact HB.out | apply below_alloc | apply pw_below_drewN | apply below_drew1) | exact HB.out))) : w.heap.size ≤ gb131)); have n3_ := Aside0.mk ((by rw [hg]; exact (below_size (by repeat (first | (with_reducible first | exact HB.out | apply below_alloc | apply pw_below_drewN | apply below_drew1) | exact HB.out))) : w.heap.size ≤ gb131)); clear HB; have HB := n0_; have BK131 := n1_; have GW131 := n2_; have GE131 := n3_; clear n0_ n1_ n2_ n3_; clear hb hbox hg))
  (try simp only [Act.put, List.setIfInBounds_toArray, List.set_cons_zero, List.set_cons_succ])
  go_cut [20] (fun v20 wc => ∃ (kq : Nat) (x20_3 : Bool), v20 = .bool x20_3 ∧ Aside0 (law18_BucketBound.j0 kq l1 a2 x20_3 a0_0 a0_1 a0_2 = some r) ∧ Aside0 (kq ≤ k) ∧ Aside0 (wc.heap[gb131]? = some (.cells #[.int .i64 a0_0, .int .i64 a0_1, .int .i64 a0_2] 23 (0, 0))) ∧ Aside0 (Below w.heap.size w wc))
  case first =>
    have H := HC4.out
    clear HC4
    replace H := Option.bind_eq_some_iff.mp H
    obtain ⟨t132, A60, H⟩ := H
    replace H : (if t132 = true then (law18_BucketBound.j0 k l1 a2 (decide ((l1.length : Int) > 200)) a0_0 a0_1 a0_2) else (law18_BucketBound.j0 k l1 a2 true a0_0 a0_1 a0_2)) = some r := H
    have A6 := Aside0.mk A60
    clear A60
    by_cases c7 : t132 = true
    · subst c7
      have H1 : (law18_BucketBound.j0 k l1 a2 (decide ((l1.length : Int) > 200)) a0_0 a0_1 a0_2) = some r := by rw [if_pos rfl] at H; exact H
      clear H
      have H := H1
      clear H1
      have H' := Aside0.mk H
      clear H
      have hcz8_0 : w5.cell? ⟨gb131, 0, none⟩ = some (.int .i64 a0_0) := (blk_cell BK131.out 0).trans rfl
      have hcz8_1 : w5.cell? ⟨gb131, 1, none⟩ = some (.int .i64 a0_1) := (blk_cell BK131.out 1).trans rfl
      have hcz8_2 : w5.cell? ⟨gb131, 2, none⟩ = some (.int .i64 a0_2) := (blk_cell BK131.out 2).trans rfl
      have hfz8_0 := blk_frozen BK131.out 0
      have hfz8_1 := blk_frozen BK131.out 1
      have hfz8_2 := blk_frozen BK131.out 2
      go_wp2_with (first | ((with_reducible refine gate_callee (f := 6) rfl ?_); refine goesL_ (some 14) rfl rfl Try.func6 (by kernel_rfl) rfl #[.agg #[.int .i64 a0_0, .int .i64 a0_1, .int .i64 a0_2]] rfl (by (try simp only [List.map_toArray, List.map_cons, List.map_nil]); first | done | rfl | (simp only [List.length_drop, List.length_take]; rfl)) ?_; (with_reducible refine (ref18_Right.calls a0_0 a0_1 a0_2 true _ A6.out).mono ?_); rintro e w9 ⟨rfl, hb⟩; refine ⟨_, rfl, ?_⟩; have n0_ := Aside0.mk (blk_below (g := gb131) (o := .cells #[.int .i64 a0_0, .int .i64 a0_1, .int .i64 a0_2] 23 (0, 0)) (by (with_reducible repeat (first | refine blk_drewN ?_ _ | refine blk_drew ?_ | refine blk_alloc ?_ _)); exact BK131.out) hb); have n1_ := Aside0.mk (below_step (by repeat (first | (with_reducible first | exact HB.out | apply below_alloc | apply pw_below_drewN | apply below_drew1 | refine below_set ?_ GE131.out) | exact HB.out)) hb); clear BK131; clear HB; have BK131 := n0_; have HB := n1_; clear n0_ n1_; (try clear hb); (try clear hb2); (try clear hk); (try clear hi)))
      go_meet
      case rel => exact ⟨_, (decide ((l1.length : Int) > 200)), (by first | rfl | (simp; done) | (simp [*]; done)), H', ⟨by first | omega | exact Nat.le_refl _⟩, ⟨by (with_reducible repeat (first | refine blk_drewN ?_ _ | refine blk_drew ?_ | refine blk_alloc ?_ _)); exact BK131.out⟩, ⟨by repeat (first | (with_reducible first | exact HB.out | apply below_alloc | apply pw_below_drewN | apply below_drew1 | refine below_set ?_ GE131.out) | exact HB.out)⟩⟩
    · replace c7 := Bool.eq_false_iff.mpr c7
      subst c7
      have H1 : (law18_BucketBound.j0 k l1 a2 true a0_0 a0_1 a0_2) = some r := by rw [if_neg (show ¬ (false = true) by decide)] at H; exact H
      clear H
      have H := H1
      clear H1
      have H' := Aside0.mk H
      clear H
      have hcz10_0 : w5.cell? ⟨gb131, 0, none⟩ = some (.int .i64 a0_0) := (blk_cell BK131.out 0).trans rfl
      have hcz10_1 : w5.cell? ⟨gb131, 1, none⟩ = some (.int .i64 a0_1) := (blk_cell BK131.out 1).trans rfl
      have hcz10_2 : w5.cell? ⟨gb131, 2, none⟩ = some (.int .i64 a0_2) := (blk_cell BK131.out 2).trans rfl
      have hfz10_0 := blk_frozen BK131.out 0
      have hfz10_1 := blk_frozen BK131.out 1
      have hfz10_2 := blk_frozen BK131.out 2
      go_wp2_with (first | ((with_reducible refine gate_callee (f := 6) rfl ?_); refine goesL_ (some 14) rfl rfl Try.func6 (by kernel_rfl) rfl #[.agg #[.int .i64 a0_0, .int .i64 a0_1, .int .i64 a0_2]] rfl (by (try simp only [List.map_toArray, List.map_cons, List.map_nil]); first | done | rfl | (simp only [List.length_drop, List.length_take]; rfl)) ?_; (with_reducible refine (ref18_Right.calls a0_0 a0_1 a0_2 false _ A6.out).mono ?_); rintro e w11 ⟨rfl, hb⟩; refine ⟨_, rfl, ?_⟩; have n0_ := Aside0.mk (blk_below (g := gb131) (o := .cells #[.int .i64 a0_0, .int .i64 a0_1, .int .i64 a0_2] 23 (0, 0)) (by (with_reducible repeat (first | refine blk_drewN ?_ _ | refine blk_drew ?_ | refine blk_alloc ?_ _)); exact BK131.out) hb); have n1_ := Aside0.mk (below_step (by repeat (first | (with_reducible first | exact HB.out | apply below_alloc | apply pw_below_drewN | apply below_drew1 | refine below_set ?_ GE131.out) | exact HB.out)) hb); clear BK131; clear HB; have BK131 := n0_; have HB := n1_; clear n0_ n1_; (try clear hb); (try clear hb2); (try clear hk); (try clear hi)))
      go_meet
      case rel => exact ⟨_, (true), (by first | rfl | (simp; done) | (simp [*]; done)), H', ⟨by first | omega | exact Nat.le_refl _⟩, ⟨by (with_reducible repeat (first | refine blk_drewN ?_ _ | refine blk_drew ?_ | refine blk_alloc ?_ _)); exact BK131.out⟩, ⟨by repeat (first | (with_reducible first | exact HB.out | apply below_alloc | apply pw_below_drewN | apply below_drew1 | refine below_set ?_ GE131.out) | exact HB.out)⟩⟩
  case rest =>
    clear HC4
    try clear c1
    try clear p2
    try clear c4
    try clear c6
    try clear c7
    try clear hcz10_0
    try clear hcz10_1
    try clear hcz10_2
    try clear hcz8_0
    try clear hcz8_1
    try clear hcz8_2
    try clear hfz10_0
    try clear hfz10_1
    try clear hfz10_2
    try clear hfz8_0
    try clear hfz8_1
    try clear hfz8_2
    obtain ⟨kq, x20_3, rfl, HA, HJ3, BK131, HB⟩ := hcut
    cases kq with
    | zero => exact absurd HA.out (by simp [law18_BucketBound.j0])
    | succ kj3 =>
      have H := HA.out
      clear HA
      simp only [law18_BucketBound.j0] at H
      by_cases c12 : x20_3 = true
      · subst c12
        have H1 : ((law18_awake.f).bind fun t133 => (some t133)) = some r := by rw [if_pos rfl] at H; exact H
        clear H
        have H := H1
        clear H1
        replace H := Option.bind_eq_some_iff.mp H
        obtain ⟨t133, A130, H⟩ := H
        replace H : (some t133) = some r := H
        have A13 := Aside0.mk A130
        clear A130
        obtain rfl := Option.some.inj H
        go_wp2_with (first | ((with_reducible refine gate_callee (f := 8) rfl ?_); refine goesL_ (some 21) rfl rfl Try.func8 (by kernel_rfl) rfl #[] rfl (by (try simp only [List.map_toArray, List.map_cons, List.map_nil]); first | done | rfl | (simp only [List.length_drop, List.length_take]; rfl)) ?_; (with_reducible refine (law18_awake.calls  t133 _ A13.out).mono ?_); rintro e w14 ⟨rfl, hb⟩; refine ⟨_, rfl, ?_⟩; have n0_ := Aside0.mk (blk_below (g := gb131) (o := .cells #[.int .i64 a0_0, .int .i64 a0_1, .int .i64 a0_2] 23 (0, 0)) (by (with_reducible repeat (first | refine blk_drewN ?_ _ | refine blk_drew ?_ | refine blk_alloc ?_ _)); exact BK131.out) hb); have n1_ := Aside0.mk (below_step (by repeat (first | (with_reducible first | exact HB.out | apply below_alloc | apply pw_below_drewN | apply below_drew1 | refine below_set ?_ GE131.out) | exact HB.out)) hb); clear BK131; clear HB; have BK131 := n0_; have HB := n1_; clear n0_ n1_; (try clear hb); (try clear hb2); (try clear hk); (try clear hi)))
        go_ret
        exact ⟨by first | rfl | (simp [errW_none, errW_some] <;> rfl) | (simp [*, errW_none, errW_some] <;> rfl), by repeat (first | (with_reducible first | exact HB.out | apply below_alloc | apply pw_below_drewN | apply below_drew1 | refine below_set ?_ GE131.out) | exact HB.out)⟩
      · replace c12 := Bool.eq_false_iff.mpr c12
        subst c12
        have H1 : ((bucket_Full.f a0_0 a0_1 a0_2).bind fun t134 => (law18_BucketBound.l0 kj3 l1 a2 t134 0 0 0 a0_0 a0_1 a0_2)) = some r := by rw [if_neg (show ¬ (false = true) by decide)] at H; exact H
        clear H
        have H := H1
        clear H1
        replace H := Option.bind_eq_some_iff.mp H
        obtain ⟨t134, A150, H⟩ := H
        replace H : (law18_BucketBound.l0 kj3 l1 a2 t134 0 0 0 a0_0 a0_1 a0_2) = some r := H
        have A15 := Aside0.mk A150
        clear A150
        have H' := Aside0.mk H
        clear H
        have hcz16_0 : wc.cell? ⟨gb131, 0, none⟩ = some (.int .i64 a0_0) := (blk_cell BK131.out 0).trans rfl
        have hcz16_1 : wc.cell? ⟨gb131, 1, none⟩ = some (.int .i64 a0_1) := (blk_cell BK131.out 1).trans rfl
        have hcz16_2 : wc.cell? ⟨gb131, 2, none⟩ = some (.int .i64 a0_2) := (blk_cell BK131.out 2).trans rfl
        have hfz16_0 := blk_frozen BK131.out 0
        have hfz16_1 := blk_frozen BK131.out 1
        have hfz16_2 := blk_frozen BK131.out 2
        go_wp2_with (first | ((with_reducible refine gate_callee (f := 11) rfl ?_); refine goesL_ (some 23) rfl rfl Try.func11 (by kernel_rfl) rfl #[.agg #[.int .i64 a0_0, .int .i64 a0_1, .int .i64 a0_2]] rfl (by (try simp only [List.map_toArray, List.map_cons, List.map_nil]); first | done | rfl | (simp only [List.length_drop, List.length_take]; rfl)) ?_; (with_reducible refine (bucket_Full.calls a0_0 a0_1 a0_2 t134 _ A15.out).mono ?_); rintro e w17 ⟨rfl, hb⟩; refine ⟨_, rfl, ?_⟩; have n0_ := Aside0.mk (blk_below (g := gb131) (o := .cells #[.int .i64 a0_0, .int .i64 a0_1, .int .i64 a0_2] 23 (0, 0)) (by (with_reducible repeat (first | refine blk_drewN ?_ _ | refine blk_drew ?_ | refine blk_alloc ?_ _)); exact BK131.out) hb); have n1_ := Aside0.mk (below_step (by repeat (first | (with_reducible first | exact HB.out | apply below_alloc | apply pw_below_drewN | apply below_drew1 | refine below_set ?_ GE131.out) | exact HB.out)) hb); clear BK131; clear HB; have BK131 := n0_; have HB := n1_; clear n0_ n1_; (try clear hb); (try clear hb2); (try clear hk); (try clear hi)))
        go_loopg [7, 8, 9, 10] kj3 (fun kq v7 v8 v9 v10 w' => ∃ (x7_2 : Int) (x8_2 : Int) (x9_2 : Int) (x10_2 : Int), v7 = .int .i64 x7_2 ∧ v8 = .int .i64 x8_2 ∧ v9 = .int .i64 x9_2 ∧ v10 = .int .i64 x10_2 ∧ Aside0 (law18_BucketBound.l0 kq l1 a2 x7_2 x8_2 x9_2 x10_2 a0_0 a0_1 a0_2 = some r) ∧ Aside0 (kq ≤ kj3) ∧ Aside0 (w'.heap[gb131]? = some (.cells #[.int .i64 a0_0, .int .i64 a0_1, .int .i64 a0_2] 23 (0, 0))) ∧ Aside0 (Below w.heap.size w w'))
        case atStart => exact ⟨(t134), (0), (0), (0), (by first | rfl | (simp; done) | (simp [*]; done)), (by first | rfl | (simp; done) | (simp [*]; done)), (by first | rfl | (simp; done) | (simp [*]; done)), (by first | rfl | (simp; done) | (simp [*]; done)), H', ⟨Nat.le_refl _⟩, ⟨by (with_reducible repeat (first | refine blk_drewN ?_ _ | refine blk_drew ?_ | refine blk_alloc ?_ _)); exact BK131.out⟩, ⟨by repeat (first | (with_reducible first | exact HB.out | apply below_alloc | apply pw_below_drewN | apply below_drew1 | refine below_set ?_ GE131.out) | exact HB.out)⟩⟩
        case round =>
          clear H'
          try clear c1
          try clear p2
          try clear c4
          try clear c6
          try clear c7
          try clear c8
          try clear c11
          try clear c12
          try clear hcz10_0
          try clear hcz10_1
          try clear hcz10_2
          try clear hcz16_0
          try clear hcz16_1
          try clear hcz16_2
          try clear hcz8_0
          try clear hcz8_1
          try clear hcz8_2
          try clear hfz10_0
          try clear hfz10_1
          try clear hfz10_2
          try clear hfz16_0
          try clear hfz16_1
          try clear hfz16_2
          try clear hfz8_0
          try clear hfz8_1
          try clear hfz8_2
          try clear p2
          obtain ⟨x7_2, x8_2, x9_2, x10_2, rfl, rfl, rfl, rfl, HA, HK2, BK131, HB⟩ := hrel
          cases gk with
          | zero => exact absurd HA.out (by simp [law18_BucketBound.l0])
          | succ k2 =>
            have H := HA.out
            clear HA
            simp only [law18_BucketBound.l0] at H
            by_cases c18 : x10_2 < (l1.length : Int)
            · rw [if_pos c18] at H
              have c18b0 : decide (x10_2 < (l1.length : Int)) = true := decide_eq_true c18
              clear c18
              by_cases c19 : 0 ≤ x10_2
              · rw [if_pos c19] at H
                have c19b0 : decide (0 ≤ x10_2) = true := decide_eq_true c19
                clear c19
                obtain ⟨bq20, hbq20⟩ : ∃ b_ : Bool, b_ = (rdOf false l1 x10_2) := ⟨_, rfl⟩
                replace H : (if bq20 = true then ((bucket_Tick.f x7_2 a0_0 a0_1 a0_2).bind fun t137 => (if x10_2 ≥ (wrap64 (a2)) then (if t137 < 0 then (some false) else ((bucket_Full.f a0_0 a0_1 a0_2).bind fun t138 => (if t137 > t138 then (some false) else (if (wrap64 (x8_2 * a0_1)) > (wrap64 ((wrap64 (a0_2 * a0_1)) + (wrap64 ((wrap64 (x9_2 + 1)) * a0_0)))) then (some false) else (law18_BucketBound.l0 k2 l1 a2 t137 x8_2 (wrap64 (x9_2 + 1)) (wrap64 (x10_2 + 1)) a0_0 a0_1 a0_2))))) else (if t137 < 0 then (some false) else ((bucket_Full.f a0_0 a0_1 a0_2).bind fun t139 => (if t137 > t139 then (some false) else (if (wrap64 (x8_2 * a0_1)) > (wrap64 ((wrap64 (a0_2 * a0_1)) + (wrap64 (x9_2 * a0_0)))) then (some false) else (law18_BucketBound.l0 k2 l1 a2 t137 x8_2 x9_2 (wrap64 (x10_2 + 1)) a0_0 a0_1 a0_2))))))) else ((bucket_Take.f x7_2 a0_0 a0_1 a0_2).bind fun bt140 => (if (bt140.2 != (decide (x7_2 ≥ a0_1))) = true then (some false) else (if bt140.2 = true then (law18_BucketBound.j2 k2 l1 a2 bt140.1 x8_2 x9_2 x10_2 (decide (x10_2 ≥ (wrap64 (a2)))) a0_0 a0_1 a0_2) else (law18_BucketBound.j2 k2 l1 a2 bt140.1 x8_2 x9_2 x10_2 false a0_0 a0_1 a0_2))))) = some r := by rw [← hbq20] at H; exact H
                have Nbq20 := Aside0.mk hbq20
                clear hbq20
                by_cases c21 : bq20 = true
                · subst c21
                  have H1 : ((bucket_Tick.f x7_2 a0_0 a0_1 a0_2).bind fun t137 => (if x10_2 ≥ (wrap64 (a2)) then (if t137 < 0 then (some false) else ((bucket_Full.f a0_0 a0_1 a0_2).bind fun t138 => (if t137 > t138 then (some false) else (if (wrap64 (x8_2 * a0_1)) > (wrap64 ((wrap64 (a0_2 * a0_1)) + (wrap64 ((wrap64 (x9_2 + 1)) * a0_0)))) then (some false) else (law18_BucketBound.l0 k2 l1 a2 t137 x8_2 (wrap64 (x9_2 + 1)) (wrap64 (x10_2 + 1)) a0_0 a0_1 a0_2))))) else (if t137 < 0 then (some false) else ((bucket_Full.f a0_0 a0_1 a0_2).bind fun t139 => (if t137 > t139 then (some false) else (if (wrap64 (x8_2 * a0_1)) > (wrap64 ((wrap64 (a0_2 * a0_1)) + (wrap64 (x9_2 * a0_0)))) then (some false) else (law18_BucketBound.l0 k2 l1 a2 t137 x8_2 x9_2 (wrap64 (x10_2 + 1)) a0_0 a0_1 a0_2))))))) = some r := by rw [if_pos rfl] at H; exact H
                  clear H
                  have H := H1
                  clear H1
                  replace H := Option.bind_eq_some_iff.mp H
                  obtain ⟨t137, A220, H⟩ := H
                  replace H : (if x10_2 ≥ (wrap64 (a2)) then (if t137 < 0 then (some false) else ((bucket_Full.f a0_0 a0_1 a0_2).bind fun t138 => (if t137 > t138 then (some false) else (if (wrap64 (x8_2 * a0_1)) > (wrap64 ((wrap64 (a0_2 * a0_1)) + (wrap64 ((wrap64 (x9_2 + 1)) * a0_0)))) then (some false) else (law18_BucketBound.l0 k2 l1 a2 t137 x8_2 (wrap64 (x9_2 + 1)) (wrap64 (x10_2 + 1)) a0_0 a0_1 a0_2))))) else (if t137 < 0 then (some false) else ((bucket_Full.f a0_0 a0_1 a0_2).bind fun t139 => (if t137 > t139 then (some false) else (if (wrap64 (x8_2 * a0_1)) > (wrap64 ((wrap64 (a0_2 * a0_1)) + (wrap64 (x9_2 * a0_0)))) then (some false) else (law18_BucketBound.l0 k2 l1 a2 t137 x8_2 x9_2 (wrap64 (x10_2 + 1)) a0_0 a0_1 a0_2)))))) = some r := H
                  have A22 := Aside0.mk A220
                  clear A220
                  by_cases c23 : x10_2 ≥ (wrap64 (a2))
                  · rw [if_pos c23] at H
                    have c23b0 : decide ((wrap64 (a2)) ≤ x10_2) = true := decide_eq_true c23
                    clear c23
                    by_cases c24 : t137 < 0
                    · rw [if_pos c24] at H
                      have c24b0 : decide (t137 < 0) = true := decide_eq_true c24
                      clear c24
                      obtain rfl := Option.some.inj H
                      have p136 : 0 ≤ (x10_2 : Int) := of_decide_eq_true (by first | (with_reducible assumption) | assumption)
                      have q136 : x10_2 < (l1.length : Int) := of_decide_eq_true (by first | (with_reducible assumption) | assumption)
                      obtain ⟨ad136, e136, hx136_0⟩ := Kd.at_bool HR1.out x10_2 p136 q136
                      (try rw [← Nbq20.out] at hx136_0)
                      cases e136
                      replace hx136_0 := (HB.out.cell (World.block_lt_of_cell? w _ hx136_0)).trans hx136_0
                      replace p136 := eq_true p136
                      replace q136 := eq_true q136
                      have hcz25_0 : wr.cell? ⟨gb131, 0, none⟩ = some (.int .i64 a0_0) := (blk_cell BK131.out 0).trans rfl
                      have hcz25_1 : wr.cell? ⟨gb131, 1, none⟩ = some (.int .i64 a0_1) := (blk_cell BK131.out 1).trans rfl
                      have hcz25_2 : wr.cell? ⟨gb131, 2, none⟩ = some (.int .i64 a0_2) := (blk_cell BK131.out 2).trans rfl
                      have hfz25_0 := blk_frozen BK131.out 0
                      have hfz25_1 := blk_frozen BK131.out 1
                      have hfz25_2 := blk_frozen BK131.out 2
                      go_wp2_with (first | ((with_reducible refine gate_callee (f := 12) rfl ?_); refine goesL_ (some 36) rfl rfl Try.func12 (by kernel_rfl) rfl #[.int .i64 x7_2, .agg #[.int .i64 a0_0, .int .i64 a0_1, .int .i64 a0_2]] rfl (by (try simp only [List.map_toArray, List.map_cons, List.map_nil]); first | done | rfl | (simp only [List.length_drop, List.length_take]; rfl)) ?_; (with_reducible refine (bucket_Tick.calls x7_2 a0_0 a0_1 a0_2 t137 _ A22.out).mono ?_); rintro e w26 ⟨rfl, hb⟩; refine ⟨_, rfl, ?_⟩; have n0_ := Aside0.mk (blk_below (g := gb131) (o := .cells #[.int .i64 a0_0, .int .i64 a0_1, .int .i64 a0_2] 23 (0, 0)) (by (with_reducible repeat (first | refine blk_drewN ?_ _ | refine blk_drew ?_ | refine blk_alloc ?_ _)); exact BK131.out) hb); have n1_ := Aside0.mk (below_step (by repeat (first | (with_reducible first | exact HB.out | apply below_alloc | apply pw_below_drewN | apply below_drew1 | refine below_set ?_ GE131.out) | exact HB.out)) hb); clear BK131; clear HB; have BK131 := n0_; have HB := n1_; clear n0_ n1_; (try clear hb); (try clear hb2); (try clear hk); (try clear hi)))
                      go_ret
                      exact ⟨by first | rfl | (simp [errW_none, errW_some] <;> rfl) | (simp [*, errW_none, errW_some] <;> rfl), by repeat (first | (with_reducible first | exact HB.out | apply below_alloc | apply pw_below_drewN | apply below_drew1 | refine below_set ?_ GE131.out) | exact HB.out)⟩
                    · rw [if_neg c24] at H
                      have c24b0 : decide (t137 < 0) = false := decide_eq_false c24
                      clear c24
                      replace H := Option.bind_eq_some_iff.mp H
                      obtain ⟨t138, A270, H⟩ := H
                      replace H : (if t137 > t138 then (some false) else (if (wrap64 (x8_2 * a0_1)) > (wrap64 ((wrap64 (a0_2 * a0_1)) + (wrap64 ((wrap64 (x9_2 + 1)) * a0_0)))) then (some false) else (law18_BucketBound.l0 k2 l1 a2 t137 x8_2 (wrap64 (x9_2 + 1)) (wrap64 (x10_2 + 1)) a0_0 a0_1 a0_2))) = some r := H
                      have A27 := Aside0.mk A270
                      clear A270
                      by_cases c28 : t137 > t138
                      · rw [if_pos c28] at H
                        have c28b0 : decide (t138 < t137) = true := decide_eq_true c28
                        clear c28
                        obtain rfl := Option.some.inj H
                        have p136 : 0 ≤ (x10_2 : Int) := of_decide_eq_true (by first | (with_reducible assumption) | assumption)
                        have q136 : x10_2 < (l1.length : Int) := of_decide_eq_true (by first | (with_reducible assumption) | assumption)
                        obtain ⟨ad136, e136, hx136_0⟩ := Kd.at_bool HR1.out x10_2 p136 q136
                        (try rw [← Nbq20.out] at hx136_0)
                        cases e136
                        replace hx136_0 := (HB.out.cell (World.block_lt_of_cell? w _ hx136_0)).trans hx136_0
                        replace p136 := eq_true p136
                        replace q136 := eq_true q136
                        have hcz29_0 : wr.cell? ⟨gb131, 0, none⟩ = some (.int .i64 a0_0) := (blk_cell BK131.out 0).trans rfl
                        have hcz29_1 : wr.cell? ⟨gb131, 1, none⟩ = some (.int .i64 a0_1) := (blk_cell BK131.out 1).trans rfl
                        have hcz29_2 : wr.cell? ⟨gb131, 2, none⟩ = some (.int .i64 a0_2) := (blk_cell BK131.out 2).trans rfl
                        have hfz29_0 := blk_frozen BK131.out 0
                        have hfz29_1 := blk_frozen BK131.out 1
                        have hfz29_2 := blk_frozen BK131.out 2
                        go_wp2_with (first | ((with_reducible refine gate_callee (f := 12) rfl ?_); refine goesL_ (some 36) rfl rfl Try.func12 (by kernel_rfl) rfl #[.int .i64 x7_2, .agg #[.int .i64 a0_0, .int .i64 a0_1, .int .i64 a0_2]] rfl (by (try simp only [List.map_toArray, List.map_cons, List.map_nil]); first | done | rfl | (simp only [List.length_drop, List.length_take]; rfl)) ?_; (with_reducible refine (bucket_Tick.calls x7_2 a0_0 a0_1 a0_2 t137 _ A22.out).mono ?_); rintro e w30 ⟨rfl, hb⟩; refine ⟨_, rfl, ?_⟩; have n0_ := Aside0.mk (blk_below (g := gb131) (o := .cells #[.int .i64 a0_0, .int .i64 a0_1, .int .i64 a0_2] 23 (0, 0)) (by (with_reducible repeat (first | refine blk_drewN ?_ _ | refine blk_drew ?_ | refine blk_alloc ?_ _)); exact BK131.out) hb); have n1_ := Aside0.mk (below_step (by repeat (first | (with_reducible first | exact HB.out | apply below_alloc | apply pw_below_drewN | apply below_drew1 | refine below_set ?_ GE131.out) | exact HB.out)) hb); clear BK131; clear HB; have BK131 := n0_; have HB := n1_; clear n0_ n1_; (try clear hb); (try clear hb2); (try clear hk); (try clear hi); have hcz31_0 : w30.cell? ⟨gb131, 0, none⟩ = some (.int .i64 a0_0) := (blk_cell BK131.out 0).trans rfl; have hcz31_1 : w30.cell? ⟨gb131, 1, none⟩ = some (.int .i64 a0_1) := (blk_cell BK131.out 1).trans rfl; have hcz31_2 : w30.cell? ⟨gb131, 2, none⟩ = some (.int .i64 a0_2) := (blk_cell BK131.out 2).trans rfl; have hfz31_0 := blk_frozen BK131.out 0; have hfz31_1 := blk_frozen BK131.out 1; have hfz31_2 := blk_frozen BK131.out 2) | (go_at_call 11; (with_reducible refine (bucket_Full.calls a0_0 a0_1 a0_2 t138 _ A27.out).mono ?_); rintro e w32 ⟨rfl, hb⟩; have n0_ := Aside0.mk (blk_below (g := gb131) (o := .cells #[.int .i64 a0_0, .int .i64 a0_1, .int .i64 a0_2] 23 (0, 0)) (by (with_reducible repeat (first | refine blk_drewN ?_ _ | refine blk_drew ?_ | refine blk_alloc ?_ _)); exact BK131.out) hb); have n1_ := Aside0.mk (below_step (by repeat (first | (with_reducible first | exact HB.out | apply below_alloc | apply pw_below_drewN | apply below_drew1 | refine below_set ?_ GE131.out) | exact HB.out)) hb); clear BK131; clear HB; have BK131 := n0_; have HB := n1_; clear n0_ n1_; (try clear hb); (try clear hb2); (try clear hk); (try clear hi)))
                        go_ret
                        exact ⟨by first | rfl | (simp [errW_none, errW_some] <;> rfl) | (simp [*, errW_none, errW_some] <;> rfl), by repeat (first | (with_reducible first | exact HB.out | apply below_alloc | apply pw_below_drewN | apply below_drew1 | refine below_set ?_ GE131.out) | exact HB.out)⟩
                      · rw [if_neg c28] at H
                        have c28b0 : decide (t138 < t137) = false := decide_eq_false c28
                        clear c28
                        by_cases c33 : (wrap64 (x8_2 * a0_1)) > (wrap64 ((wrap64 (a0_2 * a0_1)) + (wrap64 ((wrap64 (x9_2 + 1)) * a0_0))))
                        · rw [if_pos c33] at H
                          have c33b0 : decide ((wrap64 ((wrap64 (a0_2 * a0_1)) + (wrap64 ((wrap64 (x9_2 + 1)) * a0_0)))) < (wrap64 (x8_2 * a0_1))) = true := decide_eq_true c33
                          clear c33
                          obtain rfl := Option.some.inj H
                          have p136 : 0 ≤ (x10_2 : Int) := of_decide_eq_true (by first | (with_reducible assumption) | assumption)
                          have q136 : x10_2 < (l1.length : Int) := of_decide_eq_true (by first | (with_reducible assumption) | assumption)
                          obtain ⟨ad136, e136, hx136_0⟩ := Kd.at_bool HR1.out x10_2 p136 q136
                          (try rw [← Nbq20.out] at hx136_0)
                          cases e136
                          replace hx136_0 := (HB.out.cell (World.block_lt_of_cell? w _ hx136_0)).trans hx136_0
                          replace p136 := eq_true p136
                          replace q136 := eq_true q136
                          have hcz34_0 : wr.cell? ⟨gb131, 0, none⟩ = some (.int .i64 a0_0) := (blk_cell BK131.out 0).trans rfl
                          have hcz34_1 : wr.cell? ⟨gb131, 1, none⟩ = some (.int .i64 a0_1) := (blk_cell BK131.out 1).trans rfl
                          have hcz34_2 : wr.cell? ⟨gb131, 2, none⟩ = some (.int .i64 a0_2) := (blk_cell BK131.out 2).trans rfl
                          have hfz34_0 := blk_frozen BK131.out 0
                          have hfz34_1 := blk_frozen BK131.out 1
                          have hfz34_2 := blk_frozen BK131.out 2
                          go_wp2_with (first | ((with_reducible refine gate_callee (f := 12) rfl ?_); refine goesL_ (some 36) rfl rfl Try.func12 (by kernel_rfl) rfl #[.int .i64 x7_2, .agg #[.int .i64 a0_0, .int .i64 a0_1, .int .i64 a0_2]] rfl (by (try simp only [List.map_toArray, List.map_cons, List.map_nil]); first | done | rfl | (simp only [List.length_drop, List.length_take]; rfl)) ?_; (with_reducible refine (bucket_Tick.calls x7_2 a0_0 a0_1 a0_2 t137 _ A22.out).mono ?_); rintro e w35 ⟨rfl, hb⟩; refine ⟨_, rfl, ?_⟩; have n0_ := Aside0.mk (blk_below (g := gb131) (o := .cells #[.int .i64 a0_0, .int .i64 a0_1, .int .i64 a0_2] 23 (0, 0)) (by (with_reducible repeat (first | refine blk_drewN ?_ _ | refine blk_drew ?_ | refine blk_alloc ?_ _)); exact BK131.out) hb); have n1_ := Aside0.mk (below_step (by repeat (first | (with_reducible first | exact HB.out | apply below_alloc | apply pw_below_drewN | apply below_drew1 | refine below_set ?_ GE131.out) | exact HB.out)) hb); clear BK131; clear HB; have BK131 := n0_; have HB := n1_; clear n0_ n1_; (try clear hb); (try clear hb2); (try clear hk); (try clear hi); have hcz36_0 : w35.cell? ⟨gb131, 0, none⟩ = some (.int .i64 a0_0) := (blk_cell BK131.out 0).trans rfl; have hcz36_1 : w35.cell? ⟨gb131, 1, none⟩ = some (.int .i64 a0_1) := (blk_cell BK131.out 1).trans rfl; have hcz36_2 : w35.cell? ⟨gb131, 2, none⟩ = some (.int .i64 a0_2) := (blk_cell BK131.out 2).trans rfl; have hfz36_0 := blk_frozen BK131.out 0; have hfz36_1 := blk_frozen BK131.out 1; have hfz36_2 := blk_frozen BK131.out 2) | (go_at_call 11; (with_reducible refine (bucket_Full.calls a0_0 a0_1 a0_2 t138 _ A27.out).mono ?_); rintro e w37 ⟨rfl, hb⟩; have n0_ := Aside0.mk (blk_below (g := gb131) (o := .cells #[.int .i64 a0_0, .int .i64 a0_1, .int .i64 a0_2] 23 (0, 0)) (by (with_reducible repeat (first | refine blk_drewN ?_ _ | refine blk_drew ?_ | refine blk_alloc ?_ _)); exact BK131.out) hb); have n1_ := Aside0.mk (below_step (by repeat (first | (with_reducible first | exact HB.out | apply below_alloc | apply pw_below_drewN | apply below_drew1 | refine below_set ?_ GE131.out) | exact HB.out)) hb); clear BK131; clear HB; have BK131 := n0_; have HB := n1_; clear n0_ n1_; (try clear hb); (try clear hb2); (try clear hk); (try clear hi); have hcz38_0 : w37.cell? ⟨gb131, 0, none⟩ = some (.int .i64 a0_0) := (blk_cell BK131.out 0).trans rfl; have hcz38_1 : w37.cell? ⟨gb131, 1, none⟩ = some (.int .i64 a0_1) := (blk_cell BK131.out 1).trans rfl; have hcz38_2 : w37.cell? ⟨gb131, 2, none⟩ = some (.int .i64 a0_2) := (blk_cell BK131.out 2).trans rfl; have hfz38_0 := blk_frozen BK131.out 0; have hfz38_1 := blk_frozen BK131.out 1; have hfz38_2 := blk_frozen BK131.out 2))
                          go_ret
                          exact ⟨by first | rfl | (simp [errW_none, errW_some] <;> rfl) | (simp [*, errW_none, errW_some] <;> rfl), by repeat (first | (with_reducible first | exact HB.out | apply below_alloc | apply pw_below_drewN | apply below_drew1 | refine below_set ?_ GE131.out) | exact HB.out)⟩
                        · rw [if_neg c33] at H
                          have c33b0 : decide ((wrap64 ((wrap64 (a0_2 * a0_1)) + (wrap64 ((wrap64 (x9_2 + 1)) * a0_0)))) < (wrap64 (x8_2 * a0_1))) = false := decide_eq_false c33
                          clear c33
                          have H' := Aside0.mk H
                          clear H
                          have p136 : 0 ≤ (x10_2 : Int) := of_decide_eq_true (by first | (with_reducible assumption) | assumption)
                          have q136 : x10_2 < (l1.length : Int) := of_decide_eq_true (by first | (with_reducible assumption) | assumption)
                          obtain ⟨ad136, e136, hx136_0⟩ := Kd.at_bool HR1.out x10_2 p136 q136
                          (try rw [← Nbq20.out] at hx136_0)
                          cases e136
                          replace hx136_0 := (HB.out.cell (World.block_lt_of_cell? w _ hx136_0)).trans hx136_0
                          replace p136 := eq_true p136
                          replace q136 := eq_true q136
                          have hcz39_0 : wr.cell? ⟨gb131, 0, none⟩ = some (.int .i64 a0_0) := (blk_cell BK131.out 0).trans rfl
                          have hcz39_1 : wr.cell? ⟨gb131, 1, none⟩ = some (.int .i64 a0_1) := (blk_cell BK131.out 1).trans rfl
                          have hcz39_2 : wr.cell? ⟨gb131, 2, none⟩ = some (.int .i64 a0_2) := (blk_cell BK131.out 2).trans rfl
                          have hfz39_0 := blk_frozen BK131.out 0
                          have hfz39_1 := blk_frozen BK131.out 1
                          have hfz39_2 := blk_frozen BK131.out 2
                          go_wp2_with (first | ((with_reducible refine gate_callee (f := 12) rfl ?_); refine goesL_ (some 36) rfl rfl Try.func12 (by kernel_rfl) rfl #[.int .i64 x7_2, .agg #[.int .i64 a0_0, .int .i64 a0_1, .int .i64 a0_2]] rfl (by (try simp only [List.map_toArray, List.map_cons, List.map_nil]); first | done | rfl | (simp only [List.length_drop, List.length_take]; rfl)) ?_; (with_reducible refine (bucket_Tick.calls x7_2 a0_0 a0_1 a0_2 t137 _ A22.out).mono ?_); rintro e w40 ⟨rfl, hb⟩; refine ⟨_, rfl, ?_⟩; have n0_ := Aside0.mk (blk_below (g := gb131) (o := .cells #[.int .i64 a0_0, .int .i64 a0_1, .int .i64 a0_2] 23 (0, 0)) (by (with_reducible repeat (first | refine blk_drewN ?_ _ | refine blk_drew ?_ | refine blk_alloc ?_ _)); exact BK131.out) hb); have n1_ := Aside0.mk (below_step (by repeat (first | (with_reducible first | exact HB.out | apply below_alloc | apply pw_below_drewN | apply below_drew1 | refine below_set ?_ GE131.out) | exact HB.out)) hb); clear BK131; clear HB; have BK131 := n0_; have HB := n1_; clear n0_ n1_; (try clear hb); (try clear hb2); (try clear hk); (try clear hi); have hcz41_0 : w40.cell? ⟨gb131, 0, none⟩ = some (.int .i64 a0_0) := (blk_cell BK131.out 0).trans rfl; have hcz41_1 : w40.cell? ⟨gb131, 1, none⟩ = some (.int .i64 a0_1) := (blk_cell BK131.out 1).trans rfl; have hcz41_2 : w40.cell? ⟨gb131, 2, none⟩ = some (.int .i64 a0_2) := (blk_cell BK131.out 2).trans rfl; have hfz41_0 := blk_frozen BK131.out 0; have hfz41_1 := blk_frozen BK131.out 1; have hfz41_2 := blk_frozen BK131.out 2) | (go_at_call 11; (with_reducible refine (bucket_Full.calls a0_0 a0_1 a0_2 t138 _ A27.out).mono ?_); rintro e w42 ⟨rfl, hb⟩; have n0_ := Aside0.mk (blk_below (g := gb131) (o := .cells #[.int .i64 a0_0, .int .i64 a0_1, .int .i64 a0_2] 23 (0, 0)) (by (with_reducible repeat (first | refine blk_drewN ?_ _ | refine blk_drew ?_ | refine blk_alloc ?_ _)); exact BK131.out) hb); have n1_ := Aside0.mk (below_step (by repeat (first | (with_reducible first | exact HB.out | apply below_alloc | apply pw_below_drewN | apply below_drew1 | refine below_set ?_ GE131.out) | exact HB.out)) hb); clear BK131; clear HB; have BK131 := n0_; have HB := n1_; clear n0_ n1_; (try clear hb); (try clear hb2); (try clear hk); (try clear hi); have hcz43_0 : w42.cell? ⟨gb131, 0, none⟩ = some (.int .i64 a0_0) := (blk_cell BK131.out 0).trans rfl; have hcz43_1 : w42.cell? ⟨gb131, 1, none⟩ = some (.int .i64 a0_1) := (blk_cell BK131.out 1).trans rfl; have hcz43_2 : w42.cell? ⟨gb131, 2, none⟩ = some (.int .i64 a0_2) := (blk_cell BK131.out 2).trans rfl; have hfz43_0 := blk_frozen BK131.out 0; have hfz43_1 := blk_frozen BK131.out 1; have hfz43_2 := blk_frozen BK131.out 2))
                          go_roundg k2
                          case measure => have := HJ3.out; have := HK2.out; omega
                          case rel => exact ⟨(t137), (x8_2), (wrap64 (x9_2 + 1)), (wrap64 (x10_2 + 1)), (by first | rfl | (simp; done) | (simp [*]; done)), (by first | rfl | (simp; done) | (simp [*]; done)), (by first | rfl | (simp; done) | (simp [*]; done)), (by first | rfl | (simp; done) | (simp [*]; done)), H', ⟨by have := HJ3.out; have := HK2.out; omega⟩, ⟨by (with_reducible repeat (first | refine blk_drewN ?_ _ | refine blk_drew ?_ | refine blk_alloc ?_ _)); exact BK131.out⟩, ⟨by repeat (first | (with_reducible first | exact HB.out | apply below_alloc | apply pw_below_drewN | apply below_drew1 | refine below_set ?_ GE131.out) | exact HB.out)⟩⟩
                  · rw [if_neg c23] at H
                    have c23b0 : decide ((wrap64 (a2)) ≤ x10_2) = false := decide_eq_false c23
                    clear c23
                    by_cases c44 : t137 < 0
                    · rw [if_pos c44] at H
                      have c44b0 : decide (t137 < 0) = true := decide_eq_true c44
                      clear c44
                      obtain rfl := Option.some.inj H
                      have p136 : 0 ≤ (x10_2 : Int) := of_decide_eq_true (by first | (with_reducible assumption) | assumption)
                      have q136 : x10_2 < (l1.length : Int) := of_decide_eq_true (by first | (with_reducible assumption) | assumption)
                      obtain ⟨ad136, e136, hx136_0⟩ := Kd.at_bool HR1.out x10_2 p136 q136
                      (try rw [← Nbq20.out] at hx136_0)
                      cases e136
                      replace hx136_0 := (HB.out.cell (World.block_lt_of_cell? w _ hx136_0)).trans hx136_0
                      replace p136 := eq_true p136
                      replace q136 := eq_true q136
                      have hcz45_0 : wr.cell? ⟨gb131, 0, none⟩ = some (.int .i64 a0_0) := (blk_cell BK131.out 0).trans rfl
                      have hcz45_1 : wr.cell? ⟨gb131, 1, none⟩ = some (.int .i64 a0_1) := (blk_cell BK131.out 1).trans rfl
                      have hcz45_2 : wr.cell? ⟨gb131, 2, none⟩ = some (.int .i64 a0_2) := (blk_cell BK131.out 2).trans rfl
                      have hfz45_0 := blk_frozen BK131.out 0
                      have hfz45_1 := blk_frozen BK131.out 1
                      have hfz45_2 := blk_frozen BK131.out 2
                      go_wp2_with (first | ((with_reducible refine gate_callee (f := 12) rfl ?_); refine goesL_ (some 36) rfl rfl Try.func12 (by kernel_rfl) rfl #[.int .i64 x7_2, .agg #[.int .i64 a0_0, .int .i64 a0_1, .int .i64 a0_2]] rfl (by (try simp only [List.map_toArray, List.map_cons, List.map_nil]); first | done | rfl | (simp only [List.length_drop, List.length_take]; rfl)) ?_; (with_reducible refine (bucket_Tick.calls x7_2 a0_0 a0_1 a0_2 t137 _ A22.out).mono ?_); rintro e w46 ⟨rfl, hb⟩; refine ⟨_, rfl, ?_⟩; have n0_ := Aside0.mk (blk_below (g := gb131) (o := .cells #[.int .i64 a0_0, .int .i64 a0_1, .int .i64 a0_2] 23 (0, 0)) (by (with_reducible repeat (first | refine blk_drewN ?_ _ | refine blk_drew ?_ | refine blk_alloc ?_ _)); exact BK131.out) hb); have n1_ := Aside0.mk (below_step (by repeat (first | (with_reducible first | exact HB.out | apply below_alloc | apply pw_below_drewN | apply below_drew1 | refine below_set ?_ GE131.out) | exact HB.out)) hb); clear BK131; clear HB; have BK131 := n0_; have HB := n1_; clear n0_ n1_; (try clear hb); (try clear hb2); (try clear hk); (try clear hi)))
                      go_ret
                      exact ⟨by first | rfl | (simp [errW_none, errW_some] <;> rfl) | (simp [*, errW_none, errW_some] <;> rfl), by repeat (first | (with_reducible first | exact HB.out | apply below_alloc | apply pw_below_drewN | apply below_drew1 | refine below_set ?_ GE131.out) | exact HB.out)⟩
                    · rw [if_neg c44] at H
                      have c44b0 : decide (t137 < 0) = false := decide_eq_false c44
                      clear c44
                      replace H := Option.bind_eq_some_iff.mp H
                      obtain ⟨t139, A470, H⟩ := H
                      replace H : (if t137 > t139 then (some false) else (if (wrap64 (x8_2 * a0_1)) > (wrap64 ((wrap64 (a0_2 * a0_1)) + (wrap64 (x9_2 * a0_0)))) then (some false) else (law18_BucketBound.l0 k2 l1 a2 t137 x8_2 x9_2 (wrap64 (x10_2 + 1)) a0_0 a0_1 a0_2))) = some r := H
                      have A47 := Aside0.mk A470
                      clear A470
                      by_cases c48 : t137 > t139
                      · rw [if_pos c48] at H
                        have c48b0 : decide (t139 < t137) = true := decide_eq_true c48
                        clear c48
                        obtain rfl := Option.some.inj H
                        have p136 : 0 ≤ (x10_2 : Int) := of_decide_eq_true (by first | (with_reducible assumption) | assumption)
                        have q136 : x10_2 < (l1.length : Int) := of_decide_eq_true (by first | (with_reducible assumption) | assumption)
                        obtain ⟨ad136, e136, hx136_0⟩ := Kd.at_bool HR1.out x10_2 p136 q136
                        (try rw [← Nbq20.out] at hx136_0)
                        cases e136
                        replace hx136_0 := (HB.out.cell (World.block_lt_of_cell? w _ hx136_0)).trans hx136_0
                        replace p136 := eq_true p136
                        replace q136 := eq_true q136
                        have hcz49_0 : wr.cell? ⟨gb131, 0, none⟩ = some (.int .i64 a0_0) := (blk_cell BK131.out 0).trans rfl
                        have hcz49_1 : wr.cell? ⟨gb131, 1, none⟩ = some (.int .i64 a0_1) := (blk_cell BK131.out 1).trans rfl
                        have hcz49_2 : wr.cell? ⟨gb131, 2, none⟩ = some (.int .i64 a0_2) := (blk_cell BK131.out 2).trans rfl
                        have hfz49_0 := blk_frozen BK131.out 0
                        have hfz49_1 := blk_frozen BK131.out 1
                        have hfz49_2 := blk_frozen BK131.out 2
                        go_wp2_with (first | ((with_reducible refine gate_callee (f := 12) rfl ?_); refine goesL_ (some 36) rfl rfl Try.func12 (by kernel_rfl) rfl #[.int .i64 x7_2, .agg #[.int .i64 a0_0, .int .i64 a0_1, .int .i64 a0_2]] rfl (by (try simp only [List.map_toArray, List.map_cons, List.map_nil]); first | done | rfl | (simp only [List.length_drop, List.length_take]; rfl)) ?_; (with_reducible refine (bucket_Tick.calls x7_2 a0_0 a0_1 a0_2 t137 _ A22.out).mono ?_); rintro e w50 ⟨rfl, hb⟩; refine ⟨_, rfl, ?_⟩; have n0_ := Aside0.mk (blk_below (g := gb131) (o := .cells #[.int .i64 a0_0, .int .i64 a0_1, .int .i64 a0_2] 23 (0, 0)) (by (with_reducible repeat (first | refine blk_drewN ?_ _ | refine blk_drew ?_ | refine blk_alloc ?_ _)); exact BK131.out) hb); have n1_ := Aside0.mk (below_step (by repeat (first | (with_reducible first | exact HB.out | apply below_alloc | apply pw_below_drewN | apply below_drew1 | refine below_set ?_ GE131.out) | exact HB.out)) hb); clear BK131; clear HB; have BK131 := n0_; have HB := n1_; clear n0_ n1_; (try clear hb); (try clear hb2); (try clear hk); (try clear hi); have hcz51_0 : w50.cell? ⟨gb131, 0, none⟩ = some (.int .i64 a0_0) := (blk_cell BK131.out 0).trans rfl; have hcz51_1 : w50.cell? ⟨gb131, 1, none⟩ = some (.int .i64 a0_1) := (blk_cell BK131.out 1).trans rfl; have hcz51_2 : w50.cell? ⟨gb131, 2, none⟩ = some (.int .i64 a0_2) := (blk_cell BK131.out 2).trans rfl; have hfz51_0 := blk_frozen BK131.out 0; have hfz51_1 := blk_frozen BK131.out 1; have hfz51_2 := blk_frozen BK131.out 2) | (go_at_call 11; (with_reducible refine (bucket_Full.calls a0_0 a0_1 a0_2 t139 _ A47.out).mono ?_); rintro e w52 ⟨rfl, hb⟩; have n0_ := Aside0.mk (blk_below (g := gb131) (o := .cells #[.int .i64 a0_0, .int .i64 a0_1, .int .i64 a0_2] 23 (0, 0)) (by (with_reducible repeat (first | refine blk_drewN ?_ _ | refine blk_drew ?_ | refine blk_alloc ?_ _)); exact BK131.out) hb); have n1_ := Aside0.mk (below_step (by repeat (first | (with_reducible first | exact HB.out | apply below_alloc | apply pw_below_drewN | apply below_drew1 | refine below_set ?_ GE131.out) | exact HB.out)) hb); clear BK131; clear HB; have BK131 := n0_; have HB := n1_; clear n0_ n1_; (try clear hb); (try clear hb2); (try clear hk); (try clear hi)))
                        go_ret
                        exact ⟨by first | rfl | (simp [errW_none, errW_some] <;> rfl) | (simp [*, errW_none, errW_some] <;> rfl), by repeat (first | (with_reducible first | exact HB.out | apply below_alloc | apply pw_below_drewN | apply below_drew1 | refine below_set ?_ GE131.out) | exact HB.out)⟩
                      · rw [if_neg c48] at H
                        have c48b0 : decide (t139 < t137) = false := decide_eq_false c48
                        clear c48
                        by_cases c53 : (wrap64 (x8_2 * a0_1)) > (wrap64 ((wrap64 (a0_2 * a0_1)) + (wrap64 (x9_2 * a0_0))))
                        · rw [if_pos c53] at H
                          have c53b0 : decide ((wrap64 ((wrap64 (a0_2 * a0_1)) + (wrap64 (x9_2 * a0_0)))) < (wrap64 (x8_2 * a0_1))) = true := decide_eq_true c53
                          clear c53
                          obtain rfl := Option.some.inj H
                          have p136 : 0 ≤ (x10_2 : Int) := of_decide_eq_true (by first | (with_reducible assumption) | assumption)
                          have q136 : x10_2 < (l1.length : Int) := of_decide_eq_true (by first | (with_reducible assumption) | assumption)
                          obtain ⟨ad136, e136, hx136_0⟩ := Kd.at_bool HR1.out x10_2 p136 q136
                          (try rw [← Nbq20.out] at hx136_0)
                          cases e136
                          replace hx136_0 := (HB.out.cell (World.block_lt_of_cell? w _ hx136_0)).trans hx136_0
                          replace p136 := eq_true p136
                          replace q136 := eq_true q136
                          have hcz54_0 : wr.cell? ⟨gb131, 0, none⟩ = some (.int .i64 a0_0) := (blk_cell BK131.out 0).trans rfl
                          have hcz54_1 : wr.cell? ⟨gb131, 1, none⟩ = some (.int .i64 a0_1) := (blk_cell BK131.out 1).trans rfl
                          have hcz54_2 : wr.cell? ⟨gb131, 2, none⟩ = some (.int .i64 a0_2) := (blk_cell BK131.out 2).trans rfl
                          have hfz54_0 := blk_frozen BK131.out 0
                          have hfz54_1 := blk_frozen BK131.out 1
                          have hfz54_2 := blk_frozen BK131.out 2
                          go_wp2_with (first | ((with_reducible refine gate_callee (f := 12) rfl ?_); refine goesL_ (some 36) rfl rfl Try.func12 (by kernel_rfl) rfl #[.int .i64 x7_2, .agg #[.int .i64 a0_0, .int .i64 a0_1, .int .i64 a0_2]] rfl (by (try simp only [List.map_toArray, List.map_cons, List.map_nil]); first | done | rfl | (simp only [List.length_drop, List.length_take]; rfl)) ?_; (with_reducible refine (bucket_Tick.calls x7_2 a0_0 a0_1 a0_2 t137 _ A22.out).mono ?_); rintro e w55 ⟨rfl, hb⟩; refine ⟨_, rfl, ?_⟩; have n0_ := Aside0.mk (blk_below (g := gb131) (o := .cells #[.int .i64 a0_0, .int .i64 a0_1, .int .i64 a0_2] 23 (0, 0)) (by (with_reducible repeat (first | refine blk_drewN ?_ _ | refine blk_drew ?_ | refine blk_alloc ?_ _)); exact BK131.out) hb); have n1_ := Aside0.mk (below_step (by repeat (first | (with_reducible first | exact HB.out | apply below_alloc | apply pw_below_drewN | apply below_drew1 | refine below_set ?_ GE131.out) | exact HB.out)) hb); clear BK131; clear HB; have BK131 := n0_; have HB := n1_; clear n0_ n1_; (try clear hb); (try clear hb2); (try clear hk); (try clear hi); have hcz56_0 : w55.cell? ⟨gb131, 0, none⟩ = some (.int .i64 a0_0) := (blk_cell BK131.out 0).trans rfl; have hcz56_1 : w55.cell? ⟨gb131, 1, none⟩ = some (.int .i64 a0_1) := (blk_cell BK131.out 1).trans rfl; have hcz56_2 : w55.cell? ⟨gb131, 2, none⟩ = some (.int .i64 a0_2) := (blk_cell BK131.out 2).trans rfl; have hfz56_0 := blk_frozen BK131.out 0; have hfz56_1 := blk_frozen BK131.out 1; have hfz56_2 := blk_frozen BK131.out 2) | (go_at_call 11; (with_reducible refine (bucket_Full.calls a0_0 a0_1 a0_2 t139 _ A47.out).mono ?_); rintro e w57 ⟨rfl, hb⟩; have n0_ := Aside0.mk (blk_below (g := gb131) (o := .cells #[.int .i64 a0_0, .int .i64 a0_1, .int .i64 a0_2] 23 (0, 0)) (by (with_reducible repeat (first | refine blk_drewN ?_ _ | refine blk_drew ?_ | refine blk_alloc ?_ _)); exact BK131.out) hb); have n1_ := Aside0.mk (below_step (by repeat (first | (with_reducible first | exact HB.out | apply below_alloc | apply pw_below_drewN | apply below_drew1 | refine below_set ?_ GE131.out) | exact HB.out)) hb); clear BK131; clear HB; have BK131 := n0_; have HB := n1_; clear n0_ n1_; (try clear hb); (try clear hb2); (try clear hk); (try clear hi); have hcz58_0 : w57.cell? ⟨gb131, 0, none⟩ = some (.int .i64 a0_0) := (blk_cell BK131.out 0).trans rfl; have hcz58_1 : w57.cell? ⟨gb131, 1, none⟩ = some (.int .i64 a0_1) := (blk_cell BK131.out 1).trans rfl; have hcz58_2 : w57.cell? ⟨gb131, 2, none⟩ = some (.int .i64 a0_2) := (blk_cell BK131.out 2).trans rfl; have hfz58_0 := blk_frozen BK131.out 0; have hfz58_1 := blk_frozen BK131.out 1; have hfz58_2 := blk_frozen BK131.out 2))
                          go_ret
                          exact ⟨by first | rfl | (simp [errW_none, errW_some] <;> rfl) | (simp [*, errW_none, errW_some] <;> rfl), by repeat (first | (with_reducible first | exact HB.out | apply below_alloc | apply pw_below_drewN | apply below_drew1 | refine below_set ?_ GE131.out) | exact HB.out)⟩
                        · rw [if_neg c53] at H
                          have c53b0 : decide ((wrap64 ((wrap64 (a0_2 * a0_1)) + (wrap64 (x9_2 * a0_0)))) < (wrap64 (x8_2 * a0_1))) = false := decide_eq_false c53
                          clear c53
                          have H' := Aside0.mk H
                          clear H
                          have p136 : 0 ≤ (x10_2 : Int) := of_decide_eq_true (by first | (with_reducible assumption) | assumption)
                          have q136 : x10_2 < (l1.length : Int) := of_decide_eq_true (by first | (with_reducible assumption) | assumption)
                          obtain ⟨ad136, e136, hx136_0⟩ := Kd.at_bool HR1.out x10_2 p136 q136
                          (try rw [← Nbq20.out] at hx136_0)
                          cases e136
                          replace hx136_0 := (HB.out.cell (World.block_lt_of_cell? w _ hx136_0)).trans hx136_0
                          replace p136 := eq_true p136
                          replace q136 := eq_true q136
                          have hcz59_0 : wr.cell? ⟨gb131, 0, none⟩ = some (.int .i64 a0_0) := (blk_cell BK131.out 0).trans rfl
                          have hcz59_1 : wr.cell? ⟨gb131, 1, none⟩ = some (.int .i64 a0_1) := (blk_cell BK131.out 1).trans rfl
                          have hcz59_2 : wr.cell? ⟨gb131, 2, none⟩ = some (.int .i64 a0_2) := (blk_cell BK131.out 2).trans rfl
                          have hfz59_0 := blk_frozen BK131.out 0
                          have hfz59_1 := blk_frozen BK131.out 1
                          have hfz59_2 := blk_frozen BK131.out 2
                          go_wp2_with (first | ((with_reducible refine gate_callee (f := 12) rfl ?_); refine goesL_ (some 36) rfl rfl Try.func12 (by kernel_rfl) rfl #[.int .i64 x7_2, .agg #[.int .i64 a0_0, .int .i64 a0_1, .int .i64 a0_2]] rfl (by (try simp only [List.map_toArray, List.map_cons, List.map_nil]); first | done | rfl | (simp only [List.length_drop, List.length_take]; rfl)) ?_; (with_reducible refine (bucket_Tick.calls x7_2 a0_0 a0_1 a0_2 t137 _ A22.out).mono ?_); rintro e w60 ⟨rfl, hb⟩; refine ⟨_, rfl, ?_⟩; have n0_ := Aside0.mk (blk_below (g := gb131) (o := .cells #[.int .i64 a0_0, .int .i64 a0_1, .int .i64 a0_2] 23 (0, 0)) (by (with_reducible repeat (first | refine blk_drewN ?_ _ | refine blk_drew ?_ | refine blk_alloc ?_ _)); exact BK131.out) hb); have n1_ := Aside0.mk (below_step (by repeat (first | (with_reducible first | exact HB.out | apply below_alloc | apply pw_below_drewN | apply below_drew1 | refine below_set ?_ GE131.out) | exact HB.out)) hb); clear BK131; clear HB; have BK131 := n0_; have HB := n1_; clear n0_ n1_; (try clear hb); (try clear hb2); (try clear hk); (try clear hi); have hcz61_0 : w60.cell? ⟨gb131, 0, none⟩ = some (.int .i64 a0_0) := (blk_cell BK131.out 0).trans rfl; have hcz61_1 : w60.cell? ⟨gb131, 1, none⟩ = some (.int .i64 a0_1) := (blk_cell BK131.out 1).trans rfl; have hcz61_2 : w60.cell? ⟨gb131, 2, none⟩ = some (.int .i64 a0_2) := (blk_cell BK131.out 2).trans rfl; have hfz61_0 := blk_frozen BK131.out 0; have hfz61_1 := blk_frozen BK131.out 1; have hfz61_2 := blk_frozen BK131.out 2) | (go_at_call 11; (with_reducible refine (bucket_Full.calls a0_0 a0_1 a0_2 t139 _ A47.out).mono ?_); rintro e w62 ⟨rfl, hb⟩; have n0_ := Aside0.mk (blk_below (g := gb131) (o := .cells #[.int .i64 a0_0, .int .i64 a0_1, .int .i64 a0_2] 23 (0, 0)) (by (with_reducible repeat (first | refine blk_drewN ?_ _ | refine blk_drew ?_ | refine blk_alloc ?_ _)); exact BK131.out) hb); have n1_ := Aside0.mk (below_step (by repeat (first | (with_reducible first | exact HB.out | apply below_alloc | apply pw_below_drewN | apply below_drew1 | refine below_set ?_ GE131.out) | exact HB.out)) hb); clear BK131; clear HB; have BK131 := n0_; have HB := n1_; clear n0_ n1_; (try clear hb); (try clear hb2); (try clear hk); (try clear hi); have hcz63_0 : w62.cell? ⟨gb131, 0, none⟩ = some (.int .i64 a0_0) := (blk_cell BK131.out 0).trans rfl; have hcz63_1 : w62.cell? ⟨gb131, 1, none⟩ = some (.int .i64 a0_1) := (blk_cell BK131.out 1).trans rfl; have hcz63_2 : w62.cell? ⟨gb131, 2, none⟩ = some (.int .i64 a0_2) := (blk_cell BK131.out 2).trans rfl; have hfz63_0 := blk_frozen BK131.out 0; have hfz63_1 := blk_frozen BK131.out 1; have hfz63_2 := blk_frozen BK131.out 2))
                          go_roundg k2
                          case measure => have := HJ3.out; have := HK2.out; omega
                          case rel => exact ⟨(t137), (x8_2), (x9_2), (wrap64 (x10_2 + 1)), (by first | rfl | (simp; done) | (simp [*]; done)), (by first | rfl | (simp; done) | (simp [*]; done)), (by first | rfl | (simp; done) | (simp [*]; done)), (by first | rfl | (simp; done) | (simp [*]; done)), H', ⟨by have := HJ3.out; have := HK2.out; omega⟩, ⟨by (with_reducible repeat (first | refine blk_drewN ?_ _ | refine blk_drew ?_ | refine blk_alloc ?_ _)); exact BK131.out⟩, ⟨by repeat (first | (with_reducible first | exact HB.out | apply below_alloc | apply pw_below_drewN | apply below_drew1 | refine below_set ?_ GE131.out) | exact HB.out)⟩⟩
                · replace c21 := Bool.eq_false_iff.mpr c21
                  subst c21
                  have H1 : ((bucket_Take.f x7_2 a0_0 a0_1 a0_2).bind fun bt140 => (if (bt140.2 != (decide (x7_2 ≥ a0_1))) = true then (some false) else (if bt140.2 = true then (law18_BucketBound.j2 k2 l1 a2 bt140.1 x8_2 x9_2 x10_2 (decide (x10_2 ≥ (wrap64 (a2)))) a0_0 a0_1 a0_2) else (law18_BucketBound.j2 k2 l1 a2 bt140.1 x8_2 x9_2 x10_2 false a0_0 a0_1 a0_2)))) = some r := by rw [if_neg (show ¬ (false = true) by decide)] at H; exact H
                  clear H
                  have H := H1
                  clear H1
                  replace H := Option.bind_eq_some_iff.mp H
                  obtain ⟨⟨t140, t141⟩, A640, H⟩ := H
                  replace H : (if (t141 != (decide (x7_2 ≥ a0_1))) = true then (some false) else (if t141 = true then (law18_BucketBound.j2 k2 l1 a2 t140 x8_2 x9_2 x10_2 (decide (x10_2 ≥ (wrap64 (a2)))) a0_0 a0_1 a0_2) else (law18_BucketBound.j2 k2 l1 a2 t140 x8_2 x9_2 x10_2 false a0_0 a0_1 a0_2))) = some r := H
                  have A64 := Aside0.mk A640
                  clear A640
                  by_cases c65 : (t141 != (decide (x7_2 ≥ a0_1))) = true
                  · rw [if_pos c65] at H
                    have c65b0 : (t141 != (decide (x7_2 ≥ a0_1))) = true := c65
                    (try (have c65b1 : decide (t141 = (decide (x7_2 ≥ a0_1))) = false := by simpa using c65))
                    (try (have c65b2 : (t141 == (decide (x7_2 ≥ a0_1))) = false := by simpa using c65))
                    (try (have c65b3 : ¬ (t141 = (decide (x7_2 ≥ a0_1))) := by simpa using c65))
                    clear c65
                    obtain rfl := Option.some.inj H
                    have p136 : 0 ≤ (x10_2 : Int) := of_decide_eq_true (by first | (with_reducible assumption) | assumption)
                    have q136 : x10_2 < (l1.length : Int) := of_decide_eq_true (by first | (with_reducible assumption) | assumption)
                    obtain ⟨ad136, e136, hx136_0⟩ := Kd.at_bool HR1.out x10_2 p136 q136
                    (try rw [← Nbq20.out] at hx136_0)
                    cases e136
                    replace hx136_0 := (HB.out.cell (World.block_lt_of_cell? w _ hx136_0)).trans hx136_0
                    replace p136 := eq_true p136
                    replace q136 := eq_true q136
                    have hcz66_0 : wr.cell? ⟨gb131, 0, none⟩ = some (.int .i64 a0_0) := (blk_cell BK131.out 0).trans rfl
                    have hcz66_1 : wr.cell? ⟨gb131, 1, none⟩ = some (.int .i64 a0_1) := (blk_cell BK131.out 1).trans rfl
                    have hcz66_2 : wr.cell? ⟨gb131, 2, none⟩ = some (.int .i64 a0_2) := (blk_cell BK131.out 2).trans rfl
                    have hfz66_0 := blk_frozen BK131.out 0
                    have hfz66_1 := blk_frozen BK131.out 1
                    have hfz66_2 := blk_frozen BK131.out 2
                    go_wp2_with (first | ((with_reducible refine gate_callee (f := 9) rfl ?_); refine goesL_ (some 46) rfl rfl Try.func9 (by kernel_rfl) rfl #[.int .i64 x7_2, .agg #[.int .i64 a0_0, .int .i64 a0_1, .int .i64 a0_2]] rfl (by (try simp only [List.map_toArray, List.map_cons, List.map_nil]); first | done | rfl | (simp only [List.length_drop, List.length_take]; rfl)) ?_; (with_reducible refine (bucket_Take.calls x7_2 a0_0 a0_1 a0_2 t140 t141 _ A64.out).mono ?_); rintro e w67 ⟨rfl, hb⟩; refine ⟨_, rfl, ?_⟩; have n0_ := Aside0.mk (blk_below (g := gb131) (o := .cells #[.int .i64 a0_0, .int .i64 a0_1, .int .i64 a0_2] 23 (0, 0)) (by (with_reducible repeat (first | refine blk_drewN ?_ _ | refine blk_drew ?_ | refine blk_alloc ?_ _)); exact BK131.out) hb); have n1_ := Aside0.mk (below_step (by repeat (first | (with_reducible first | exact HB.out | apply below_alloc | apply pw_below_drewN | apply below_drew1 | refine below_set ?_ GE131.out) | exact HB.out)) hb); clear BK131; clear HB; have BK131 := n0_; have HB := n1_; clear n0_ n1_; (try clear hb); (try clear hb2); (try clear hk); (try clear hi); have hcz68_0 : w67.cell? ⟨gb131, 0, none⟩ = some (.int .i64 a0_0) := (blk_cell BK131.out 0).trans rfl; have hcz68_1 : w67.cell? ⟨gb131, 1, none⟩ = some (.int .i64 a0_1) := (blk_cell BK131.out 1).trans rfl; have hcz68_2 : w67.cell? ⟨gb131, 2, none⟩ = some (.int .i64 a0_2) := (blk_cell BK131.out 2).trans rfl; have hfz68_0 := blk_frozen BK131.out 0; have hfz68_1 := blk_frozen BK131.out 1; have hfz68_2 := blk_frozen BK131.out 2))
                    go_ret
                    exact ⟨by first | rfl | (simp [errW_none, errW_some] <;> rfl) | (simp [*, errW_none, errW_some] <;> rfl), by repeat (first | (with_reducible first | exact HB.out | apply below_alloc | apply pw_below_drewN | apply below_drew1 | refine below_set ?_ GE131.out) | exact HB.out)⟩
                  · rw [if_neg c65] at H
                    have c65b0 : (t141 != (decide (x7_2 ≥ a0_1))) = false := by simpa using c65
                    (try (have c65b1 : decide (t141 = (decide (x7_2 ≥ a0_1))) = true := by simpa using c65))
                    (try (have c65b2 : (t141 == (decide (x7_2 ≥ a0_1))) = true := by simpa using c65))
                    clear c65
                    have HC69 := Aside0.mk H
                    clear H
                    have p136 : 0 ≤ (x10_2 : Int) := of_decide_eq_true (by first | (with_reducible assumption) | assumption)
                    have q136 : x10_2 < (l1.length : Int) := of_decide_eq_true (by first | (with_reducible assumption) | assumption)
                    obtain ⟨ad136, e136, hx136_0⟩ := Kd.at_bool HR1.out x10_2 p136 q136
                    (try rw [← Nbq20.out] at hx136_0)
                    cases e136
                    replace hx136_0 := (HB.out.cell (World.block_lt_of_cell? w _ hx136_0)).trans hx136_0
                    replace p136 := eq_true p136
                    replace q136 := eq_true q136
                    have hcz70_0 : wr.cell? ⟨gb131, 0, none⟩ = some (.int .i64 a0_0) := (blk_cell BK131.out 0).trans rfl
                    have hcz70_1 : wr.cell? ⟨gb131, 1, none⟩ = some (.int .i64 a0_1) := (blk_cell BK131.out 1).trans rfl
                    have hcz70_2 : wr.cell? ⟨gb131, 2, none⟩ = some (.int .i64 a0_2) := (blk_cell BK131.out 2).trans rfl
                    have hfz70_0 := blk_frozen BK131.out 0
                    have hfz70_1 := blk_frozen BK131.out 1
                    have hfz70_2 := blk_frozen BK131.out 2
                    go_upto_region 16 with (first | ((with_reducible refine gate_callee (f := 9) rfl ?_); refine goesL_ (some 46) rfl rfl Try.func9 (by kernel_rfl) rfl #[.int .i64 x7_2, .agg #[.int .i64 a0_0, .int .i64 a0_1, .int .i64 a0_2]] rfl (by (try simp only [List.map_toArray, List.map_cons, List.map_nil]); first | done | rfl | (simp only [List.length_drop, List.length_take]; rfl)) ?_; (with_reducible refine (bucket_Take.calls x7_2 a0_0 a0_1 a0_2 t140 t141 _ A64.out).mono ?_); rintro e w71 ⟨rfl, hb⟩; refine ⟨_, rfl, ?_⟩; have n0_ := Aside0.mk (blk_below (g := gb131) (o := .cells #[.int .i64 a0_0, .int .i64 a0_1, .int .i64 a0_2] 23 (0, 0)) (by (with_reducible repeat (first | refine blk_drewN ?_ _ | refine blk_drew ?_ | refine blk_alloc ?_ _)); exact BK131.out) hb); have n1_ := Aside0.mk (below_step (by repeat (first | (with_reducible first | exact HB.out | apply below_alloc | apply pw_below_drewN | apply below_drew1 | refine below_set ?_ GE131.out) | exact HB.out)) hb); clear BK131; clear HB; have BK131 := n0_; have HB := n1_; clear n0_ n1_; (try clear hb); (try clear hb2); (try clear hk); (try clear hi); have hcz72_0 : w71.cell? ⟨gb131, 0, none⟩ = some (.int .i64 a0_0) := (blk_cell BK131.out 0).trans rfl; have hcz72_1 : w71.cell? ⟨gb131, 1, none⟩ = some (.int .i64 a0_1) := (blk_cell BK131.out 1).trans rfl; have hcz72_2 : w71.cell? ⟨gb131, 2, none⟩ = some (.int .i64 a0_2) := (blk_cell BK131.out 2).trans rfl; have hfz72_0 := blk_frozen BK131.out 0; have hfz72_1 := blk_frozen BK131.out 1; have hfz72_2 := blk_frozen BK131.out 2))
                    (try simp only [Act.put, List.setIfInBounds_toArray, List.set_cons_zero, List.set_cons_succ])
                    go_cut [62] (fun v62 wc => ∃ (kq : Nat) (x62_68 : Bool), v62 = .bool x62_68 ∧ Aside0 (law18_BucketBound.j2 kq l1 a2 t140 x8_2 x9_2 x10_2 x62_68 a0_0 a0_1 a0_2 = some r) ∧ Aside0 (kq ≤ k2) ∧ Aside0 (wc.heap[gb131]? = some (.cells #[.int .i64 a0_0, .int .i64 a0_1, .int .i64 a0_2] 23 (0, 0))) ∧ Aside0 (Below w.heap.size w wc))
                    case first =>
                      have H := HC69.out
                      clear HC69
                      by_cases c73 : t141 = true
                      · subst c73
                        have H1 : (law18_BucketBound.j2 k2 l1 a2 t140 x8_2 x9_2 x10_2 (decide (x10_2 ≥ (wrap64 (a2)))) a0_0 a0_1 a0_2) = some r := by rw [if_pos rfl] at H; exact H
                        clear H
                        have H := H1
                        clear H1
                        have H' := Aside0.mk H
                        clear H
                        go_wp2
                        go_meet
                        case rel => exact ⟨_, (decide (x10_2 ≥ (wrap64 (a2)))), (by first | rfl | (simp; done) | (simp [*]; done)), H', ⟨by have := HJ3.out; have := HK2.out; first | omega | exact Nat.le_refl _⟩, ⟨by (with_reducible repeat (first | refine blk_drewN ?_ _ | refine blk_drew ?_ | refine blk_alloc ?_ _)); exact BK131.out⟩, ⟨by repeat (first | (with_reducible first | exact HB.out | apply below_alloc | apply pw_below_drewN | apply below_drew1 | refine below_set ?_ GE131.out) | exact HB.out)⟩⟩
                      · replace c73 := Bool.eq_false_iff.mpr c73
                        subst c73
                        have H1 : (law18_BucketBound.j2 k2 l1 a2 t140 x8_2 x9_2 x10_2 false a0_0 a0_1 a0_2) = some r := by rw [if_neg (show ¬ (false = true) by decide)] at H; exact H
                        clear H
                        have H := H1
                        clear H1
                        have H' := Aside0.mk H
                        clear H
                        go_wp2
                        go_meet
                        case rel => exact ⟨_, (false), (by first | rfl | (simp; done) | (simp [*]; done)), H', ⟨by have := HJ3.out; have := HK2.out; first | omega | exact Nat.le_refl _⟩, ⟨by (with_reducible repeat (first | refine blk_drewN ?_ _ | refine blk_drew ?_ | refine blk_alloc ?_ _)); exact BK131.out⟩, ⟨by repeat (first | (with_reducible first | exact HB.out | apply below_alloc | apply pw_below_drewN | apply below_drew1 | refine below_set ?_ GE131.out) | exact HB.out)⟩⟩
                    case rest =>
                      clear HC69
                      try clear c1
                      try clear p1
                      try clear q1
                      try clear hx1
                      try clear c2
                      try clear p2
                      try clear q2
                      try clear c3
                      try clear c4
                      try clear c5
                      try clear c6
                      try clear p6
                      try clear c7
                      try clear c8
                      try clear c9
                      try clear c11
                      try clear c12
                      try clear p13
                      try clear q13
                      try clear hx13
                      try clear c18
                      try clear c18b0
                      try clear c19
                      try clear c19b0
                      try clear q20
                      try clear c21
                      try clear c23
                      try clear c23b0
                      try clear c24
                      try clear c24b0
                      try clear c28
                      try clear c28b0
                      try clear c33
                      try clear c33b0
                      try clear c44
                      try clear c44b0
                      try clear c48
                      try clear c48b0
                      try clear c53
                      try clear c53b0
                      try clear p64
                      try clear c65
                      try clear c65b0
                      try clear c65b1
                      try clear c65b2
                      try clear c73
                      try clear hcz10_0
                      try clear hcz10_1
                      try clear hcz10_2
                      try clear hcz16_0
                      try clear hcz16_1
                      try clear hcz16_2
                      try clear hcz25_0
                      try clear hcz25_1
                      try clear hcz25_2
                      try clear hcz29_0
                      try clear hcz29_1
                      try clear hcz29_2
                      try clear hcz31_0
                      try clear hcz31_1
                      try clear hcz31_2
                      try clear hcz34_0
                      try clear hcz34_1
                      try clear hcz34_2
                      try clear hcz36_0
                      try clear hcz36_1
                      try clear hcz36_2
                      try clear hcz38_0
                      try clear hcz38_1
                      try clear hcz38_2
                      try clear hcz39_0
                      try clear hcz39_1
                      try clear hcz39_2
                      try clear hcz41_0
                      try clear hcz41_1
                      try clear hcz41_2
                      try clear hcz43_0
                      try clear hcz43_1
                      try clear hcz43_2
                      try clear hcz45_0
                      try clear hcz45_1
                      try clear hcz45_2
                      try clear hcz49_0
                      try clear hcz49_1
                      try clear hcz49_2
                      try clear hcz51_0
                      try clear hcz51_1
                      try clear hcz51_2
                      try clear hcz54_0
                      try clear hcz54_1
                      try clear hcz54_2
                      try clear hcz56_0
                      try clear hcz56_1
                      try clear hcz56_2
                      try clear hcz58_0
                      try clear hcz58_1
                      try clear hcz58_2
                      try clear hcz59_0
                      try clear hcz59_1
                      try clear hcz59_2
                      try clear hcz61_0
                      try clear hcz61_1
                      try clear hcz61_2
                      try clear hcz63_0
                      try clear hcz63_1
                      try clear hcz63_2
                      try clear hcz66_0
                      try clear hcz66_1
                      try clear hcz66_2
                      try clear hcz68_0
                      try clear hcz68_1
                      try clear hcz68_2
                      try clear hcz70_0
                      try clear hcz70_1
                      try clear hcz70_2
                      try clear hcz72_0
                      try clear hcz72_1
                      try clear hcz72_2
                      try clear hcz8_0
                      try clear hcz8_1
                      try clear hcz8_2
                      try clear hfz10_0
                      try clear hfz10_1
                      try clear hfz10_2
                      try clear hfz16_0
                      try clear hfz16_1
                      try clear hfz16_2
                      try clear hfz25_0
                      try clear hfz25_1
                      try clear hfz25_2
                      try clear hfz29_0
                      try clear hfz29_1
                      try clear hfz29_2
                      try clear hfz31_0
                      try clear hfz31_1
                      try clear hfz31_2
                      try clear hfz34_0
                      try clear hfz34_1
                      try clear hfz34_2
                      try clear hfz36_0
                      try clear hfz36_1
                      try clear hfz36_2
                      try clear hfz38_0
                      try clear hfz38_1
                      try clear hfz38_2
                      try clear hfz39_0
                      try clear hfz39_1
                      try clear hfz39_2
                      try clear hfz41_0
                      try clear hfz41_1
                      try clear hfz41_2
                      try clear hfz43_0
                      try clear hfz43_1
                      try clear hfz43_2
                      try clear hfz45_0
                      try clear hfz45_1
                      try clear hfz45_2
                      try clear hfz49_0
                      try clear hfz49_1
                      try clear hfz49_2
                      try clear hfz51_0
                      try clear hfz51_1
                      try clear hfz51_2
                      try clear hfz54_0
                      try clear hfz54_1
                      try clear hfz54_2
                      try clear hfz56_0
                      try clear hfz56_1
                      try clear hfz56_2
                      try clear hfz58_0
                      try clear hfz58_1
                      try clear hfz58_2
                      try clear hfz59_0
                      try clear hfz59_1
                      try clear hfz59_2
                      try clear hfz61_0
                      try clear hfz61_1
                      try clear hfz61_2
                      try clear hfz63_0
                      try clear hfz63_1
                      try clear hfz63_2
                      try clear hfz66_0
                      try clear hfz66_1
                      try clear hfz66_2
                      try clear hfz68_0
                      try clear hfz68_1
                      try clear hfz68_2
                      try clear hfz70_0
                      try clear hfz70_1
                      try clear hfz70_2
                      try clear hfz72_0
                      try clear hfz72_1
                      try clear hfz72_2
                      try clear hfz8_0
                      try clear hfz8_1
                      try clear hfz8_2
                      try clear hx136_0
                      try clear p136
                      try clear p2
                      try clear q136
                      obtain ⟨kq, x62_68, rfl, HA, HJ68, BK131, HB⟩ := hcut
                      cases kq with
                      | zero => exact absurd HA.out (by simp [law18_BucketBound.j2])
                      | succ kj68 =>
                        have H := HA.out
                        clear HA
                        simp only [law18_BucketBound.j2] at H
                        by_cases c74 : x62_68 = true
                        · subst c74
                          have H1 : (if t140 < 0 then (some false) else ((bucket_Full.f a0_0 a0_1 a0_2).bind fun t142 => (if t140 > t142 then (some false) else (if (wrap64 ((wrap64 (x8_2 + 1)) * a0_1)) > (wrap64 ((wrap64 (a0_2 * a0_1)) + (wrap64 (x9_2 * a0_0)))) then (some false) else (law18_BucketBound.l0 kj68 l1 a2 t140 (wrap64 (x8_2 + 1)) x9_2 (wrap64 (x10_2 + 1)) a0_0 a0_1 a0_2))))) = some r := by rw [if_pos rfl] at H; exact H
                          clear H
                          have H := H1
                          clear H1
                          by_cases c75 : t140 < 0
                          · rw [if_pos c75] at H
                            have c75b0 : decide (t140 < 0) = true := decide_eq_true c75
                            clear c75
                            obtain rfl := Option.some.inj H
                            go_wp2
                            go_ret
                            exact ⟨by first | rfl | (simp [errW_none, errW_some] <;> rfl) | (simp [*, errW_none, errW_some] <;> rfl), by repeat (first | (with_reducible first | exact HB.out | apply below_alloc | apply pw_below_drewN | apply below_drew1 | refine below_set ?_ GE131.out) | exact HB.out)⟩
                          · rw [if_neg c75] at H
                            have c75b0 : decide (t140 < 0) = false := decide_eq_false c75
                            clear c75
                            replace H := Option.bind_eq_some_iff.mp H
                            obtain ⟨t142, A760, H⟩ := H
                            replace H : (if t140 > t142 then (some false) else (if (wrap64 ((wrap64 (x8_2 + 1)) * a0_1)) > (wrap64 ((wrap64 (a0_2 * a0_1)) + (wrap64 (x9_2 * a0_0)))) then (some false) else (law18_BucketBound.l0 kj68 l1 a2 t140 (wrap64 (x8_2 + 1)) x9_2 (wrap64 (x10_2 + 1)) a0_0 a0_1 a0_2))) = some r := H
                            have A76 := Aside0.mk A760
                            clear A760
                            by_cases c77 : t140 > t142
                            · rw [if_pos c77] at H
                              have c77b0 : decide (t142 < t140) = true := decide_eq_true c77
                              clear c77
                              obtain rfl := Option.some.inj H
                              have hcz78_0 : wc.cell? ⟨gb131, 0, none⟩ = some (.int .i64 a0_0) := (blk_cell BK131.out 0).trans rfl
                              have hcz78_1 : wc.cell? ⟨gb131, 1, none⟩ = some (.int .i64 a0_1) := (blk_cell BK131.out 1).trans rfl
                              have hcz78_2 : wc.cell? ⟨gb131, 2, none⟩ = some (.int .i64 a0_2) := (blk_cell BK131.out 2).trans rfl
                              have hfz78_0 := blk_frozen BK131.out 0
                              have hfz78_1 := blk_frozen BK131.out 1
                              have hfz78_2 := blk_frozen BK131.out 2
                              go_wp2_with (first | (go_at_call 11; (with_reducible refine (bucket_Full.calls a0_0 a0_1 a0_2 t142 _ A76.out).mono ?_); rintro e w79 ⟨rfl, hb⟩; have n0_ := Aside0.mk (blk_below (g := gb131) (o := .cells #[.int .i64 a0_0, .int .i64 a0_1, .int .i64 a0_2] 23 (0, 0)) (by (with_reducible repeat (first | refine blk_drewN ?_ _ | refine blk_drew ?_ | refine blk_alloc ?_ _)); exact BK131.out) hb); have n1_ := Aside0.mk (below_step (by repeat (first | (with_reducible first | exact HB.out | apply below_alloc | apply pw_below_drewN | apply below_drew1 | refine below_set ?_ GE131.out) | exact HB.out)) hb); clear BK131; clear HB; have BK131 := n0_; have HB := n1_; clear n0_ n1_; (try clear hb); (try clear hb2); (try clear hk); (try clear hi)))
                              go_ret
                              exact ⟨by first | rfl | (simp [errW_none, errW_some] <;> rfl) | (simp [*, errW_none, errW_some] <;> rfl), by repeat (first | (with_reducible first | exact HB.out | apply below_alloc | apply pw_below_drewN | apply below_drew1 | refine below_set ?_ GE131.out) | exact HB.out)⟩
                            · rw [if_neg c77] at H
                              have c77b0 : decide (t142 < t140) = false := decide_eq_false c77
                              clear c77
                              by_cases c80 : (wrap64 ((wrap64 (x8_2 + 1)) * a0_1)) > (wrap64 ((wrap64 (a0_2 * a0_1)) + (wrap64 (x9_2 * a0_0))))
                              · rw [if_pos c80] at H
                                have c80b0 : decide ((wrap64 ((wrap64 (a0_2 * a0_1)) + (wrap64 (x9_2 * a0_0)))) < (wrap64 ((wrap64 (x8_2 + 1)) * a0_1))) = true := decide_eq_true c80
                                clear c80
                                obtain rfl := Option.some.inj H
                                have hcz81_0 : wc.cell? ⟨gb131, 0, none⟩ = some (.int .i64 a0_0) := (blk_cell BK131.out 0).trans rfl
                                have hcz81_1 : wc.cell? ⟨gb131, 1, none⟩ = some (.int .i64 a0_1) := (blk_cell BK131.out 1).trans rfl
                                have hcz81_2 : wc.cell? ⟨gb131, 2, none⟩ = some (.int .i64 a0_2) := (blk_cell BK131.out 2).trans rfl
                                have hfz81_0 := blk_frozen BK131.out 0
                                have hfz81_1 := blk_frozen BK131.out 1
                                have hfz81_2 := blk_frozen BK131.out 2
                                go_wp2_with (first | (go_at_call 11; (with_reducible refine (bucket_Full.calls a0_0 a0_1 a0_2 t142 _ A76.out).mono ?_); rintro e w82 ⟨rfl, hb⟩; have n0_ := Aside0.mk (blk_below (g := gb131) (o := .cells #[.int .i64 a0_0, .int .i64 a0_1, .int .i64 a0_2] 23 (0, 0)) (by (with_reducible repeat (first | refine blk_drewN ?_ _ | refine blk_drew ?_ | refine blk_alloc ?_ _)); exact BK131.out) hb); have n1_ := Aside0.mk (below_step (by repeat (first | (with_reducible first | exact HB.out | apply below_alloc | apply pw_below_drewN | apply below_drew1 | refine below_set ?_ GE131.out) | exact HB.out)) hb); clear BK131; clear HB; have BK131 := n0_; have HB := n1_; clear n0_ n1_; (try clear hb); (try clear hb2); (try clear hk); (try clear hi); have hcz83_0 : w82.cell? ⟨gb131, 0, none⟩ = some (.int .i64 a0_0) := (blk_cell BK131.out 0).trans rfl; have hcz83_1 : w82.cell? ⟨gb131, 1, none⟩ = some (.int .i64 a0_1) := (blk_cell BK131.out 1).trans rfl; have hcz83_2 : w82.cell? ⟨gb131, 2, none⟩ = some (.int .i64 a0_2) := (blk_cell BK131.out 2).trans rfl; have hfz83_0 := blk_frozen BK131.out 0; have hfz83_1 := blk_frozen BK131.out 1; have hfz83_2 := blk_frozen BK131.out 2))
                                go_ret
                                exact ⟨by first | rfl | (simp [errW_none, errW_some] <;> rfl) | (simp [*, errW_none, errW_some] <;> rfl), by repeat (first | (with_reducible first | exact HB.out | apply below_alloc | apply pw_below_drewN | apply below_drew1 | refine below_set ?_ GE131.out) | exact HB.out)⟩
                              · rw [if_neg c80] at H
                                have c80b0 : decide ((wrap64 ((wrap64 (a0_2 * a0_1)) + (wrap64 (x9_2 * a0_0)))) < (wrap64 ((wrap64 (x8_2 + 1)) * a0_1))) = false := decide_eq_false c80
                                clear c80
                                have H' := Aside0.mk H
                                clear H
                                have hcz84_0 : wc.cell? ⟨gb131, 0, none⟩ = some (.int .i64 a0_0) := (blk_cell BK131.out 0).trans rfl
                                have hcz84_1 : wc.cell? ⟨gb131, 1, none⟩ = some (.int .i64 a0_1) := (blk_cell BK131.out 1).trans rfl
                                have hcz84_2 : wc.cell? ⟨gb131, 2, none⟩ = some (.int .i64 a0_2) := (blk_cell BK131.out 2).trans rfl
                                have hfz84_0 := blk_frozen BK131.out 0
                                have hfz84_1 := blk_frozen BK131.out 1
                                have hfz84_2 := blk_frozen BK131.out 2
                                go_wp2_with (first | (go_at_call 11; (with_reducible refine (bucket_Full.calls a0_0 a0_1 a0_2 t142 _ A76.out).mono ?_); rintro e w85 ⟨rfl, hb⟩; have n0_ := Aside0.mk (blk_below (g := gb131) (o := .cells #[.int .i64 a0_0, .int .i64 a0_1, .int .i64 a0_2] 23 (0, 0)) (by (with_reducible repeat (first | refine blk_drewN ?_ _ | refine blk_drew ?_ | refine blk_alloc ?_ _)); exact BK131.out) hb); have n1_ := Aside0.mk (below_step (by repeat (first | (with_reducible first | exact HB.out | apply below_alloc | apply pw_below_drewN | apply below_drew1 | refine below_set ?_ GE131.out) | exact HB.out)) hb); clear BK131; clear HB; have BK131 := n0_; have HB := n1_; clear n0_ n1_; (try clear hb); (try clear hb2); (try clear hk); (try clear hi); have hcz86_0 : w85.cell? ⟨gb131, 0, none⟩ = some (.int .i64 a0_0) := (blk_cell BK131.out 0).trans rfl; have hcz86_1 : w85.cell? ⟨gb131, 1, none⟩ = some (.int .i64 a0_1) := (blk_cell BK131.out 1).trans rfl; have hcz86_2 : w85.cell? ⟨gb131, 2, none⟩ = some (.int .i64 a0_2) := (blk_cell BK131.out 2).trans rfl; have hfz86_0 := blk_frozen BK131.out 0; have hfz86_1 := blk_frozen BK131.out 1; have hfz86_2 := blk_frozen BK131.out 2))
                                go_roundg kj68
                                case measure => have := HJ3.out; have := HK2.out; have := HJ68.out; omega
                                case rel => exact ⟨(t140), (wrap64 (x8_2 + 1)), (x9_2), (wrap64 (x10_2 + 1)), (by first | rfl | (simp; done) | (simp [*]; done)), (by first | rfl | (simp; done) | (simp [*]; done)), (by first | rfl | (simp; done) | (simp [*]; done)), (by first | rfl | (simp; done) | (simp [*]; done)), H', ⟨by have := HJ3.out; have := HK2.out; have := HJ68.out; omega⟩, ⟨by (with_reducible repeat (first | refine blk_drewN ?_ _ | refine blk_drew ?_ | refine blk_alloc ?_ _)); exact BK131.out⟩, ⟨by repeat (first | (with_reducible first | exact HB.out | apply below_alloc | apply pw_below_drewN | apply below_drew1 | refine below_set ?_ GE131.out) | exact HB.out)⟩⟩
                        · replace c74 := Bool.eq_false_iff.mpr c74
                          subst c74
                          have H1 : (if t140 < 0 then (some false) else ((bucket_Full.f a0_0 a0_1 a0_2).bind fun t143 => (if t140 > t143 then (some false) else (if (wrap64 (x8_2 * a0_1)) > (wrap64 ((wrap64 (a0_2 * a0_1)) + (wrap64 (x9_2 * a0_0)))) then (some false) else (law18_BucketBound.l0 kj68 l1 a2 t140 x8_2 x9_2 (wrap64 (x10_2 + 1)) a0_0 a0_1 a0_2))))) = some r := by rw [if_neg (show ¬ (false = true) by decide)] at H; exact H
                          clear H
                          have H := H1
                          clear H1
                          by_cases c87 : t140 < 0
                          · rw [if_pos c87] at H
                            have c87b0 : decide (t140 < 0) = true := decide_eq_true c87
                            clear c87
                            obtain rfl := Option.some.inj H
                            go_wp2
                            go_ret
                            exact ⟨by first | rfl | (simp [errW_none, errW_some] <;> rfl) | (simp [*, errW_none, errW_some] <;> rfl), by repeat (first | (with_reducible first | exact HB.out | apply below_alloc | apply pw_below_drewN | apply below_drew1 | refine below_set ?_ GE131.out) | exact HB.out)⟩
                          · rw [if_neg c87] at H
                            have c87b0 : decide (t140 < 0) = false := decide_eq_false c87
                            clear c87
                            replace H := Option.bind_eq_some_iff.mp H
                            obtain ⟨t143, A880, H⟩ := H
                            replace H : (if t140 > t143 then (some false) else (if (wrap64 (x8_2 * a0_1)) > (wrap64 ((wrap64 (a0_2 * a0_1)) + (wrap64 (x9_2 * a0_0)))) then (some false) else (law18_BucketBound.l0 kj68 l1 a2 t140 x8_2 x9_2 (wrap64 (x10_2 + 1)) a0_0 a0_1 a0_2))) = some r := H
                            have A88 := Aside0.mk A880
                            clear A880
                            by_cases c89 : t140 > t143
                            · rw [if_pos c89] at H
                              have c89b0 : decide (t143 < t140) = true := decide_eq_true c89
                              clear c89
                              obtain rfl := Option.some.inj H
                              have hcz90_0 : wc.cell? ⟨gb131, 0, none⟩ = some (.int .i64 a0_0) := (blk_cell BK131.out 0).trans rfl
                              have hcz90_1 : wc.cell? ⟨gb131, 1, none⟩ = some (.int .i64 a0_1) := (blk_cell BK131.out 1).trans rfl
                              have hcz90_2 : wc.cell? ⟨gb131, 2, none⟩ = some (.int .i64 a0_2) := (blk_cell BK131.out 2).trans rfl
                              have hfz90_0 := blk_frozen BK131.out 0
                              have hfz90_1 := blk_frozen BK131.out 1
                              have hfz90_2 := blk_frozen BK131.out 2
                              go_wp2_with (first | (go_at_call 11; (with_reducible refine (bucket_Full.calls a0_0 a0_1 a0_2 t143 _ A88.out).mono ?_); rintro e w91 ⟨rfl, hb⟩; have n0_ := Aside0.mk (blk_below (g := gb131) (o := .cells #[.int .i64 a0_0, .int .i64 a0_1, .int .i64 a0_2] 23 (0, 0)) (by (with_reducible repeat (first | refine blk_drewN ?_ _ | refine blk_drew ?_ | refine blk_alloc ?_ _)); exact BK131.out) hb); have n1_ := Aside0.mk (below_step (by repeat (first | (with_reducible first | exact HB.out | apply below_alloc | apply pw_below_drewN | apply below_drew1 | refine below_set ?_ GE131.out) | exact HB.out)) hb); clear BK131; clear HB; have BK131 := n0_; have HB := n1_; clear n0_ n1_; (try clear hb); (try clear hb2); (try clear hk); (try clear hi)))
                              go_ret
                              exact ⟨by first | rfl | (simp [errW_none, errW_some] <;> rfl) | (simp [*, errW_none, errW_some] <;> rfl), by repeat (first | (with_reducible first | exact HB.out | apply below_alloc | apply pw_below_drewN | apply below_drew1 | refine below_set ?_ GE131.out) | exact HB.out)⟩
                            · rw [if_neg c89] at H
                              have c89b0 : decide (t143 < t140) = false := decide_eq_false c89
                              clear c89
                              by_cases c92 : (wrap64 (x8_2 * a0_1)) > (wrap64 ((wrap64 (a0_2 * a0_1)) + (wrap64 (x9_2 * a0_0))))
                              · rw [if_pos c92] at H
                                have c92b0 : decide ((wrap64 ((wrap64 (a0_2 * a0_1)) + (wrap64 (x9_2 * a0_0)))) < (wrap64 (x8_2 * a0_1))) = true := decide_eq_true c92
                                clear c92
                                obtain rfl := Option.some.inj H
                                have hcz93_0 : wc.cell? ⟨gb131, 0, none⟩ = some (.int .i64 a0_0) := (blk_cell BK131.out 0).trans rfl
                                have hcz93_1 : wc.cell? ⟨gb131, 1, none⟩ = some (.int .i64 a0_1) := (blk_cell BK131.out 1).trans rfl
                                have hcz93_2 : wc.cell? ⟨gb131, 2, none⟩ = some (.int .i64 a0_2) := (blk_cell BK131.out 2).trans rfl
                                have hfz93_0 := blk_frozen BK131.out 0
                                have hfz93_1 := blk_frozen BK131.out 1
                                have hfz93_2 := blk_frozen BK131.out 2
                                go_wp2_with (first | (go_at_call 11; (with_reducible refine (bucket_Full.calls a0_0 a0_1 a0_2 t143 _ A88.out).mono ?_); rintro e w94 ⟨rfl, hb⟩; have n0_ := Aside0.mk (blk_below (g := gb131) (o := .cells #[.int .i64 a0_0, .int .i64 a0_1, .int .i64 a0_2] 23 (0, 0)) (by (with_reducible repeat (first | refine blk_drewN ?_ _ | refine blk_drew ?_ | refine blk_alloc ?_ _)); exact BK131.out) hb); have n1_ := Aside0.mk (below_step (by repeat (first | (with_reducible first | exact HB.out | apply below_alloc | apply pw_below_drewN | apply below_drew1 | refine below_set ?_ GE131.out) | exact HB.out)) hb); clear BK131; clear HB; have BK131 := n0_; have HB := n1_; clear n0_ n1_; (try clear hb); (try clear hb2); (try clear hk); (try clear hi); have hcz95_0 : w94.cell? ⟨gb131, 0, none⟩ = some (.int .i64 a0_0) := (blk_cell BK131.out 0).trans rfl; have hcz95_1 : w94.cell? ⟨gb131, 1, none⟩ = some (.int .i64 a0_1) := (blk_cell BK131.out 1).trans rfl; have hcz95_2 : w94.cell? ⟨gb131, 2, none⟩ = some (.int .i64 a0_2) := (blk_cell BK131.out 2).trans rfl; have hfz95_0 := blk_frozen BK131.out 0; have hfz95_1 := blk_frozen BK131.out 1; have hfz95_2 := blk_frozen BK131.out 2))
                                go_ret
                                exact ⟨by first | rfl | (simp [errW_none, errW_some] <;> rfl) | (simp [*, errW_none, errW_some] <;> rfl), by repeat (first | (with_reducible first | exact HB.out | apply below_alloc | apply pw_below_drewN | apply below_drew1 | refine below_set ?_ GE131.out) | exact HB.out)⟩
                              · rw [if_neg c92] at H
                                have c92b0 : decide ((wrap64 ((wrap64 (a0_2 * a0_1)) + (wrap64 (x9_2 * a0_0)))) < (wrap64 (x8_2 * a0_1))) = false := decide_eq_false c92
                                clear c92
                                have H' := Aside0.mk H
                                clear H
                                have hcz96_0 : wc.cell? ⟨gb131, 0, none⟩ = some (.int .i64 a0_0) := (blk_cell BK131.out 0).trans rfl
                                have hcz96_1 : wc.cell? ⟨gb131, 1, none⟩ = some (.int .i64 a0_1) := (blk_cell BK131.out 1).trans rfl
                                have hcz96_2 : wc.cell? ⟨gb131, 2, none⟩ = some (.int .i64 a0_2) := (blk_cell BK131.out 2).trans rfl
                                have hfz96_0 := blk_frozen BK131.out 0
                                have hfz96_1 := blk_frozen BK131.out 1
                                have hfz96_2 := blk_frozen BK131.out 2
                                go_wp2_with (first | (go_at_call 11; (with_reducible refine (bucket_Full.calls a0_0 a0_1 a0_2 t143 _ A88.out).mono ?_); rintro e w97 ⟨rfl, hb⟩; have n0_ := Aside0.mk (blk_below (g := gb131) (o := .cells #[.int .i64 a0_0, .int .i64 a0_1, .int .i64 a0_2] 23 (0, 0)) (by (with_reducible repeat (first | refine blk_drewN ?_ _ | refine blk_drew ?_ | refine blk_alloc ?_ _)); exact BK131.out) hb); have n1_ := Aside0.mk (below_step (by repeat (first | (with_reducible first | exact HB.out | apply below_alloc | apply pw_below_drewN | apply below_drew1 | refine below_set ?_ GE131.out) | exact HB.out)) hb); clear BK131; clear HB; have BK131 := n0_; have HB := n1_; clear n0_ n1_; (try clear hb); (try clear hb2); (try clear hk); (try clear hi); have hcz98_0 : w97.cell? ⟨gb131, 0, none⟩ = some (.int .i64 a0_0) := (blk_cell BK131.out 0).trans rfl; have hcz98_1 : w97.cell? ⟨gb131, 1, none⟩ = some (.int .i64 a0_1) := (blk_cell BK131.out 1).trans rfl; have hcz98_2 : w97.cell? ⟨gb131, 2, none⟩ = some (.int .i64 a0_2) := (blk_cell BK131.out 2).trans rfl; have hfz98_0 := blk_frozen BK131.out 0; have hfz98_1 := blk_frozen BK131.out 1; have hfz98_2 := blk_frozen BK131.out 2))
                                go_roundg kj68
                                case measure => have := HJ3.out; have := HK2.out; have := HJ68.out; omega
                                case rel => exact ⟨(t140), (x8_2), (x9_2), (wrap64 (x10_2 + 1)), (by first | rfl | (simp; done) | (simp [*]; done)), (by first | rfl | (simp; done) | (simp [*]; done)), (by first | rfl | (simp; done) | (simp [*]; done)), (by first | rfl | (simp; done) | (simp [*]; done)), H', ⟨by have := HJ3.out; have := HK2.out; have := HJ68.out; omega⟩, ⟨by (with_reducible repeat (first | refine blk_drewN ?_ _ | refine blk_drew ?_ | refine blk_alloc ?_ _)); exact BK131.out⟩, ⟨by repeat (first | (with_reducible first | exact HB.out | apply below_alloc | apply pw_below_drewN | apply below_drew1 | refine below_set ?_ GE131.out) | exact HB.out)⟩⟩
              · rw [if_neg c19] at H
                exact absurd H (by simp)
            · rw [if_neg c18] at H
              have c18b0 : decide (x10_2 < (l1.length : Int)) = false := decide_eq_false c18
              clear c18
              replace H := Option.bind_eq_some_iff.mp H
              obtain ⟨t135, A990, H⟩ := H
              replace H : (some t135) = some r := H
              have A99 := Aside0.mk A990
              clear A990
              obtain rfl := Option.some.inj H
              go_wp2_with (first | ((with_reducible refine gate_callee (f := 8) rfl ?_); refine goesL_ (some 90) rfl rfl Try.func8 (by kernel_rfl) rfl #[] rfl (by (try simp only [List.map_toArray, List.map_cons, List.map_nil]); first | done | rfl | (simp only [List.length_drop, List.length_take]; rfl)) ?_; (with_reducible refine (law18_awake.calls  t135 _ A99.out).mono ?_); rintro e w100 ⟨rfl, hb⟩; refine ⟨_, rfl, ?_⟩; have n0_ := Aside0.mk (blk_below (g := gb131) (o := .cells #[.int .i64 a0_0, .int .i64 a0_1, .int .i64 a0_2] 23 (0, 0)) (by (with_reducible repeat (first | refine blk_drewN ?_ _ | refine blk_drew ?_ | refine blk_alloc ?_ _)); exact BK131.out) hb); have n1_ := Aside0.mk (below_step (by repeat (first | (with_reducible first | exact HB.out | apply below_alloc | apply pw_below_drewN | apply below_drew1 | refine below_set ?_ GE131.out) | exact HB.out)) hb); clear BK131; clear HB; have BK131 := n0_; have HB := n1_; clear n0_ n1_; (try clear hb); (try clear hb2); (try clear hk); (try clear hi)))
              go_ret
              exact ⟨by first | rfl | (simp [errW_none, errW_some] <;> rfl) | (simp [*, errW_none, errW_some] <;> rfl), by repeat (first | (with_reducible first | exact HB.out | apply below_alloc | apply pw_below_drewN | apply below_drew1 | refine below_set ?_ GE131.out) | exact HB.out)⟩

end Go.Proofs.Ytccppdpekelcpaa.P

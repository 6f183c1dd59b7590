-- Written by a program of this session (wip/mkprint.py). Not trusted: Lean checks it.
import Derived.Test.YtnmloapejbnejaaP0
namespace Go.Proofs.Ytnmloapejbnejaa.P
open Go.RowKit Go.Proofs.YtnmloapejbnejaaW.PrintWords Go.Proofs.YtnmloapejbnejaaW.PrintLast Go.Proofs.YtnmloapejbnejaaW.PrintMore
attribute [local go_sem] max2_int min2_int max_two min_two max_three min_three max_four min_four   -- for this text's walks alone
set_option linter.unusedVariables false
set_option linter.unusedSimpArgs false

/-! ### ref20_Right: function 6 -/
mutual
def ref20_Right.l0 : Nat → List (S32) → Int → Option (Bool)
 | 0, _, _ => none
 | k + 1, x0, x3 => if x3 < (x0.length : Int) then (ref20_Right.l1 k x0 x3 0) else (some true)
def ref20_Right.l1 : Nat → List (S32) → Int → Int → Option (Bool)
 | 0, _, _, _ => none
 | k + 1, x0, x3, x4 => if x4 < x3 then (if 0 ≤ x4 then (if x4 < (x0.length : Int) then (if 0 ≤ x3 then (if x3 < (x0.length : Int) then (if ((rd_T32 x0 x4).f0) = ((rd_T32 x0 x3).f0) then (some false) else (ref20_Right.l1 k x0 x3 (wrap64 (x4 + 1)))) else (none)) else (none)) else (none)) else (none)) else (ref20_Right.l0 k x0 (wrap64 (x3 + 1)))
end
def ref20_Right.f (k : Nat) (l0 : List (S32)) : Option (Bool) := ref20_Right.l0 k l0 0
theorem ref20_Right.mono_l : ∀ k, (∀ y0 y1, LeO (ref20_Right.l0 k y0 y1) (ref20_Right.l0 (k + 1) y0 y1)) ∧ (∀ y0 y1 y2, LeO (ref20_Right.l1 k y0 y1 y2) (ref20_Right.l1 (k + 1) y0 y1 y2))
 | 0 => ⟨fun _ _ r h => by simp [ref20_Right.l0] at h, fun _ _ _ r h => by simp [ref20_Right.l1] at h⟩
 | k + 1 => by
  obtain ⟨ih0, ih1⟩ := ref20_Right.mono_l k
  refine ⟨?_, ?_⟩
  ·intro y0 y1
   unfold ref20_Right.l0
   repeat' first
   | (with_reducible exact ih0 _ _)
   | (with_reducible exact ih1 _ _ _)
   | (with_reducible exact LeO.refl _)
   | (with_reducible exact LeO.none _)
   | (with_reducible refine LeO.ite ?_ ?_)
   | (with_reducible refine LeO.bind ?_ (fun _ => ?_))
   | exact ih0 _ _
   | exact ih1 _ _ _
   | exact LeO.none _
   | refine LeO.ite ?_ ?_
   | refine LeO.bind ?_ (fun _ => ?_)
  ·intro y0 y1 y2
   unfold ref20_Right.l1
   repeat' first
   | (with_reducible exact ih0 _ _)
   | (with_reducible exact ih1 _ _ _)
   | (with_reducible exact LeO.refl _)
   | (with_reducible exact LeO.none _)
   | (with_reducible refine LeO.ite ?_ ?_)
   | (with_reducible refine LeO.bind ?_ (fun _ => ?_))
   | exact ih0 _ _
   | exact ih1 _ _ _
   | exact LeO.none _
   | refine LeO.ite ?_ ?_
   | refine LeO.bind ?_ (fun _ => ?_)
theorem ref20_Right.mono : ∀ a0 k, LeO (ref20_Right.f k a0) (ref20_Right.f (k + 1) a0) := by
 intro a0 k
 obtain ⟨ih0, ih1⟩ := ref20_Right.mono_l k
 unfold ref20_Right.f
 repeat' first
  | (with_reducible exact ih0 _ _)
  | (with_reducible exact ih1 _ _ _)
  | (with_reducible exact LeO.refl _)
  | (with_reducible exact LeO.none _)
  | (with_reducible refine LeO.ite ?_ ?_)
  | (with_reducible refine LeO.bind ?_ (fun _ => ?_))
  | exact ih0 _ _
  | exact ih1 _ _ _
  | exact LeO.none _
  | refine LeO.ite ?_ ?_
  | refine LeO.bind ?_ (fun _ => ?_)
set_option maxHeartbeats 8000000 in
set_option maxRecDepth 100000 in
theorem ref20_Right.calls (k : Nat) (A0 : Option Addr) (c0 : Nat) (l0 : List (S32)) (r : Bool) (w : World) (hr0 : Kd.C k32 w A0 l0.length l0) (hc0 : l0.length ≤ c0) (h : ref20_Right.f k l0 = some r) :
 Calls Try.prog 6 #[.slice A0 l0.length c0] w fun e w' => e = .returned (.bool r) ∧ Drawn0 w w' := by
 have HR0 := Aside0.mk hr0
 have HC0 := Aside0.mk hc0
 clear hr0 hc0
 have H : (ref20_Right.l0 k l0 0) = some r := h
 clear h
 have H' := Aside0.mk H
 clear H
 go_enter Try.func6, Try.ntmps6
 go_wp2
 repeat (go_quiet (fail); try go_wp2)
 go_loopg [3] k (fun kq v3 w' => ∃ (x3_1 : Int), v3 = .int .i64 x3_1 ∧ Aside0 (ref20_Right.l0 kq l0 x3_1 = some r) ∧ Aside0 (kq ≤ k) ∧ Drawn0 w w')
 case atStart => exact ⟨(0), (by first | rfl | (simp; done) | (simp [*]; done) | (simp [bne_nil_]; done)), H', ⟨Nat.le_refl _⟩, by repeat (first | exact Drawn0.refl _ | apply Drawn0.step)⟩
 case round =>
  clear H'
  obtain ⟨x3_1, rfl, HA, HK1, ⟨m1, rfl⟩⟩ := hrel
  cases gk with
  | zero => exact absurd HA.out (by simp [ref20_Right.l0])
  | succ k1 =>
   have H := HA.out
   clear HA
   simp only [ref20_Right.l0] at H
   by_cases c2 : x3_1 < (l0.length : Int)
   ·rw [if_pos c2] at H
    have c2b0 : decide (x3_1 < (l0.length : Int)) = true := decide_eq_true c2
    clear c2
    have H' := Aside0.mk H
    clear H
    go_wp2
    repeat (go_quiet (fail); try go_wp2)
    go_loopg [4] k1 (fun kq v4 w' => ∃ (x4_2 : Int), v4 = .int .i64 x4_2 ∧ Aside0 (ref20_Right.l1 kq l0 x3_1 x4_2 = some r) ∧ Aside0 (kq ≤ k1) ∧ Drawn0 w w')
    case atStart => exact ⟨(0), (by first | rfl | (simp; done) | (simp [*]; done) | (simp [bne_nil_]; done)), H', ⟨Nat.le_refl _⟩, by repeat (first | exact Drawn0.refl _ | apply Drawn0.step)⟩
    case round =>
     clear H'
     try clear c2
     try clear c2b0
     try clear p2
     obtain ⟨x4_2, rfl, HA, HK2, ⟨m2, rfl⟩⟩ := hrel
     cases gk with
     | zero => exact absurd HA.out (by simp [ref20_Right.l1])
     | succ k2 =>
      have H := HA.out
      clear HA
      simp only [ref20_Right.l1] at H
      by_cases c3 : x4_2 < x3_1
      ·rw [if_pos c3] at H
       have c3b0 : decide (x4_2 < x3_1) = true := decide_eq_true c3
       clear c3
       by_cases c4 : 0 ≤ x4_2
       rotate_left
       ·rw [if_neg c4] at H
        exact absurd H (by simp)
       rw [if_pos c4] at H
       have c4b0 : decide (0 ≤ x4_2) = true := decide_eq_true c4
       clear c4
       by_cases c5 : x4_2 < (l0.length : Int)
       rotate_left
       ·rw [if_neg c5] at H
        exact absurd H (by simp)
       rw [if_pos c5] at H
       have c5b0 : decide (x4_2 < (l0.length : Int)) = true := decide_eq_true c5
       clear c5
       by_cases c6 : 0 ≤ x3_1
       rotate_left
       ·rw [if_neg c6] at H
        exact absurd H (by simp)
       rw [if_pos c6] at H
       have c6b0 : decide (0 ≤ x3_1) = true := decide_eq_true c6
       clear c6
       by_cases c7 : x3_1 < (l0.length : Int)
       rotate_left
       ·rw [if_neg c7] at H
        exact absurd H (by simp)
       rw [if_pos c7] at H
       have c7b0 : decide (x3_1 < (l0.length : Int)) = true := decide_eq_true c7
       clear c7
       by_cases c8 : ((rd_T32 l0 x4_2).f0) = ((rd_T32 l0 x3_1).f0)
       ·rw [if_pos c8] at H
        have c8b0 : (((rd_T32 l0 x4_2).f0) == ((rd_T32 l0 x3_1).f0)) = true := beq_iff_eq.mpr c8
        have c8b1 : (((rd_T32 l0 x4_2).f0) != ((rd_T32 l0 x3_1).f0)) = false := bne_eq_false_iff_eq.mpr c8
        clear c8
        obtain rfl := Option.some.inj H
        have p101 : 0 ≤ (x4_2 : Int) := of_decide_eq_true (by first | (with_reducible assumption) | assumption)
        have q101 : x4_2 < (l0.length : Int) := of_decide_eq_true (by first | (with_reducible assumption) | assumption)
        obtain ⟨ad101, A101_10, c101_10, e101, hx101_0, hx101_1, hx101_2, hx101_3, hx101_4, hx101_5, hx101_6, hx101_7, hx101_8, hx101_9, hx101_10, hx101_11, hl101_10, hi101_10⟩ := at_T32 HR0.out x4_2 p101 q101
        cases e101
        have HR101_10 := Aside0.mk hi101_10
        have HC101_10 := Aside0.mk hl101_10
        clear hi101_10 hl101_10
        replace p101 := eq_true p101
        replace q101 := eq_true q101
        have p102 : 0 ≤ (x3_1 : Int) := of_decide_eq_true (by first | (with_reducible assumption) | assumption)
        have q102 : x3_1 < (l0.length : Int) := of_decide_eq_true (by first | (with_reducible assumption) | assumption)
        obtain ⟨ad102, A102_10, c102_10, e102, hx102_0, hx102_1, hx102_2, hx102_3, hx102_4, hx102_5, hx102_6, hx102_7, hx102_8, hx102_9, hx102_10, hx102_11, hl102_10, hi102_10⟩ := at_T32 HR0.out x3_1 p102 q102
        obtain rfl : ad101 = ad102 := (by injection e102)
        have HR102_10 := Aside0.mk hi102_10
        have HC102_10 := Aside0.mk hl102_10
        clear hi102_10 hl102_10
        replace p102 := eq_true p102
        replace q102 := eq_true q102
        go_wp2
        repeat (go_quiet (fail); try go_wp2)
        go_ret
        exact ⟨by first | rfl | (simp; done) | (simp [*]; done), by repeat (first | exact Drawn0.refl _ | apply Drawn0.step)⟩
       ·rw [if_neg c8] at H
        have c8b0 : (((rd_T32 l0 x4_2).f0) == ((rd_T32 l0 x3_1).f0)) = false := beq_eq_false_iff_ne.mpr c8
        have c8b1 : (((rd_T32 l0 x4_2).f0) != ((rd_T32 l0 x3_1).f0)) = true := bne_iff_ne.mpr c8
        have H' := Aside0.mk H
        clear H
        have p101 : 0 ≤ (x4_2 : Int) := of_decide_eq_true (by first | (with_reducible assumption) | assumption)
        have q101 : x4_2 < (l0.length : Int) := of_decide_eq_true (by first | (with_reducible assumption) | assumption)
        obtain ⟨ad101, A101_10, c101_10, e101, hx101_0, hx101_1, hx101_2, hx101_3, hx101_4, hx101_5, hx101_6, hx101_7, hx101_8, hx101_9, hx101_10, hx101_11, hl101_10, hi101_10⟩ := at_T32 HR0.out x4_2 p101 q101
        cases e101
        have HR101_10 := Aside0.mk hi101_10
        have HC101_10 := Aside0.mk hl101_10
        clear hi101_10 hl101_10
        replace p101 := eq_true p101
        replace q101 := eq_true q101
        have p102 : 0 ≤ (x3_1 : Int) := of_decide_eq_true (by first | (with_reducible assumption) | assumption)
        have q102 : x3_1 < (l0.length : Int) := of_decide_eq_true (by first | (with_reducible assumption) | assumption)
        obtain ⟨ad102, A102_10, c102_10, e102, hx102_0, hx102_1, hx102_2, hx102_3, hx102_4, hx102_5, hx102_6, hx102_7, hx102_8, hx102_9, hx102_10, hx102_11, hl102_10, hi102_10⟩ := at_T32 HR0.out x3_1 p102 q102
        obtain rfl : ad101 = ad102 := (by injection e102)
        have HR102_10 := Aside0.mk hi102_10
        have HC102_10 := Aside0.mk hl102_10
        clear hi102_10 hl102_10
        replace p102 := eq_true p102
        replace q102 := eq_true q102
        go_wp2
        repeat (go_quiet (fail); try go_wp2)
        go_roundg k2
        case measure => have := HK1.out; have := HK2.out; omega
        case rel => exact ⟨(wrap64 (x4_2 + 1)), (by first | rfl | (simp; done) | (simp [*]; done) | (simp [bne_nil_]; done)), H', ⟨by have := HK1.out; have := HK2.out; omega⟩, by repeat (first | exact Drawn0.refl _ | apply Drawn0.step)⟩
      ·rw [if_neg c3] at H
       have c3b0 : decide (x4_2 < x3_1) = false := decide_eq_false c3
       clear c3
       have H' := Aside0.mk H
       clear H
       go_wp2
       repeat (go_quiet (fail); try go_wp2)
       go_roundg k2
       case measure => have := HK1.out; have := HK2.out; omega
       case rel => exact ⟨(wrap64 (x3_1 + 1)), (by first | rfl | (simp; done) | (simp [*]; done) | (simp [bne_nil_]; done)), H', ⟨by have := HK1.out; have := HK2.out; omega⟩, by repeat (first | exact Drawn0.refl _ | apply Drawn0.step)⟩
   ·rw [if_neg c2] at H
    have c2b0 : decide (x3_1 < (l0.length : Int)) = false := decide_eq_false c2
    clear c2
    obtain rfl := Option.some.inj H
    go_wp2
    repeat (go_quiet (fail); try go_wp2)
    go_ret
    exact ⟨by first | rfl | (simp; done) | (simp [*]; done), by repeat (first | exact Drawn0.refl _ | apply Drawn0.step)⟩

/-! ### pend_Due_1: function 24 -/
def pend_Due_1.f (a0_0 : Int) (a0_1 : Int) (a0_2 : Int) (a0_3 : Int) (a0_4 : Int) (a0_5 : Int) (a0_6 : Int) (a0_7 : Int) (a0_8 : Int) (a0_9 : Int) (l0_10 : List Int) (a0_11 : Int) (l1 : List Int) : Option (Bool) := if 0 < (l1.length : Int) then (some (decide (a0_11 ≤ (rd l1 0)))) else (none)
set_option maxHeartbeats 8000000 in
set_option maxRecDepth 100000 in
theorem pend_Due_1.calls (a0_0 : Int) (a0_1 : Int) (a0_2 : Int) (a0_3 : Int) (a0_4 : Int) (a0_5 : Int) (a0_6 : Int) (a0_7 : Int) (a0_8 : Int) (a0_9 : Int) (A0_10 : Option Addr) (c0_10 : Nat) (l0_10 : List Int) (a0_11 : Int) (A1 : Option Addr) (c1 : Nat) (l1 : List Int) (r : Bool) (w : World) (hr0_10 : Kd.C (Kd.int .i64) w A0_10 l0_10.length l0_10) (hc0_10 : l0_10.length ≤ c0_10) (hr1 : Kd.C (Kd.int .i64) w A1 l1.length l1) (hc1 : l1.length ≤ c1) (h : pend_Due_1.f a0_0 a0_1 a0_2 a0_3 a0_4 a0_5 a0_6 a0_7 a0_8 a0_9 l0_10 a0_11 l1 = some r) :
 Calls Try.prog 24 #[.agg #[.int .i64 a0_0, .int .i64 a0_1, .int .i64 a0_2, .int .i64 a0_3, .int .i64 a0_4, .int .i64 a0_5, .int .i64 a0_6, .int .i64 a0_7, .int .i64 a0_8, .int .i64 a0_9, .slice A0_10 l0_10.length c0_10, .int .i64 a0_11], .pointer A1] w fun e w' => e = .returned (.bool r) ∧ Below w.heap.size w w' := by
 have hu32 := Try.underlying32
 have HR0_10 := Aside0.mk hr0_10
 have HC0_10 := Aside0.mk hc0_10
 clear hr0_10 hc0_10
 have HR1 := Aside0.mk hr1
 have HC1 := Aside0.mk hc1
 clear hr1 hc1
 have HB := Aside0.mk (Below.refl w.heap.size w)
 have H : (if 0 < (l1.length : Int) then (some (decide (a0_11 ≤ (rd l1 0)))) else (none)) = some r := h
 clear h
 by_cases c3 : 0 < (l1.length : Int)
 rotate_left
 ·rw [if_neg c3] at H
  exact absurd H (by simp)

 rw [if_pos c3] at H
 have c3b0 : decide (0 < (l1.length : Int)) = true := decide_eq_true c3
 have c3b1 : decide (0 < l1.length) = true := decide_eq_true (by omega)
 clear c3
 obtain rfl := Option.some.inj H
 go_enter Try.func24, Try.ntmps24
 go_wp2_with (first | ((with_reducible refine gate_dst (N := 2) rfl ?_); refine box_event ?hg (N := 2) ?hd (cs := #[.int .i64 a0_0, .int .i64 a0_1, .int .i64 a0_2, .int .i64 a0_3, .int .i64 a0_4, .int .i64 a0_5, .int .i64 a0_6, .int .i64 a0_7, .int .i64 a0_8, .int .i64 a0_9, .slice A0_10 l0_10.length c0_10, .int .i64 a0_11]) (t := 32) ?hr ?_; (case hd => rfl); (case hg => rfl); (case hr => first | (go_simp; done) | (go_simp; rfl)); intro gb103 hg w4 hbox hb; have n0_ := Aside0.mk (below_step (by repeat (first | (with_reducible first | exact HB.out | apply below_alloc | apply pw_below_drewN | apply below_drew1) | exact HB.out)) hb); have n1_ := Aside0.mk (hbox); have n2_ := Aside0.mk ((by rw [hg]; exact (below_size (by repeat (first | (with_reducible first | exact HB.out | apply below_alloc | apply pw_below_drewN | apply below_drew1) | exact HB.out))) : w.heap.size ≤ gb103)); have n3_ := Aside0.mk ((by rw [hg]; exact (below_size (by repeat (first | (with_reducible first | exact HB.out | apply below_alloc | apply pw_below_drewN | apply below_drew1) | exact HB.out))) : w.heap.size ≤ gb103)); clear HB; have HB := n0_; have BK103 := n1_; have GW103 := n2_; have GE103 := n3_; clear n0_ n1_ n2_ n3_; clear hb hbox hg; have hcz5_0 : w4.cell? ⟨gb103, 0, none⟩ = some (.int .i64 a0_0) := (blk_cell BK103.out 0).trans rfl; have hcz5_1 : w4.cell? ⟨gb103, 1, none⟩ = some (.int .i64 a0_1) := (blk_cell BK103.out 1).trans rfl; have hcz5_2 : w4.cell? ⟨gb103, 2, none⟩ = some (.int .i64 a0_2) := (blk_cell BK103.out 2).trans rfl; have hcz5_3 : w4.cell? ⟨gb103, 3, none⟩ = some (.int .i64 a0_3) := (blk_cell BK103.out 3).trans rfl; have hcz5_4 : w4.cell? ⟨gb103, 4, none⟩ = some (.int .i64 a0_4) := (blk_cell BK103.out 4).trans rfl; have hcz5_5 : w4.cell? ⟨gb103, 5, none⟩ = some (.int .i64 a0_5) := (blk_cell BK103.out 5).trans rfl; have hcz5_6 : w4.cell? ⟨gb103, 6, none⟩ = some (.int .i64 a0_6) := (blk_cell BK103.out 6).trans rfl; have hcz5_7 : w4.cell? ⟨gb103, 7, none⟩ = some (.int .i64 a0_7) := (blk_cell BK103.out 7).trans rfl; have hcz5_8 : w4.cell? ⟨gb103, 8, none⟩ = some (.int .i64 a0_8) := (blk_cell BK103.out 8).trans rfl; have hcz5_9 : w4.cell? ⟨gb103, 9, none⟩ = some (.int .i64 a0_9) := (blk_cell BK103.out 9).trans rfl; have hcz5_10 : w4.cell? ⟨gb103, 10, none⟩ = some (.slice A0_10 l0_10.length c0_10) := (blk_cell BK103.out 10).trans rfl; have hcz5_11 : w4.cell? ⟨gb103, 11, none⟩ = some (.int .i64 a0_11) := (blk_cell BK103.out 11).trans rfl; have hfz5_0 := blk_frozen BK103.out 0; have hfz5_1 := blk_frozen BK103.out 1; have hfz5_2 := blk_frozen BK103.out 2; have hfz5_3 := blk_frozen BK103.out 3; have hfz5_4 := blk_frozen BK103.out 4; have hfz5_5 := blk_frozen BK103.out 5; have hfz5_6 := blk_frozen BK103.out 6; have hfz5_7 := blk_frozen BK103.out 7; have hfz5_8 := blk_frozen BK103.out 8; have hfz5_9 := blk_frozen BK103.out 9; have hfz5_10 := blk_frozen BK103.out 10; have hfz5_11 := blk_frozen BK103.out 11; have p104 : 0 ≤ (0 : Int) := (by omega); have q104 : 0 < (l1.length : Int) := of_decide_eq_true (by first | (with_reducible assumption) | assumption); obtain ⟨ad104, e104, hx104_0⟩ := Kd.at_int HR1.out 0 p104 q104; cases e104; have qi104 : (0 < l1.length) = True := eq_true (by omega); (try rw [show ((0 : Int)).toNat = 0 from rfl] at hx104_0); (try rw [Addr.add_zero'] at hx104_0); replace hx104_0 := (HB.out.cell (World.block_lt_of_cell? w _ hx104_0)).trans hx104_0; replace p104 := eq_true p104; replace q104 := eq_true q104))
 go_ret
 exact ⟨by first | rfl | (simp [errW_none, errW_some] <;> rfl) | (simp [*, errW_none, errW_some] <;> rfl), by repeat (first | (with_reducible first | exact HB.out | apply below_alloc | apply pw_below_drewN | apply below_drew1 | refine below_set ?_ GE103.out) | exact HB.out)⟩
/-! ### pend_part__Due_1: function 23 -/
def pend_part__Due_1.l0 : Nat → List Int → List (S32) → List (S32) → List (S32) → Int → Int → Option ((List (S32)) × (List (S32)))
 | 0, _, _, _, _, _, _ => none
 | k + 1, x1, x4, x5, x8, x9, x10 => if x10 < x9 then (if 0 ≤ x10 then (if x10 < (x8.length : Int) then ((pend_Due_1.f ((rd_T32 x8 x10).f0) ((rd_T32 x8 x10).f1) ((rd_T32 x8 x10).f2) ((rd_T32 x8 x10).f3) ((rd_T32 x8 x10).f4) ((rd_T32 x8 x10).f5.f0) ((rd_T32 x8 x10).f5.f1) ((rd_T32 x8 x10).f5.f2) ((rd_T32 x8 x10).f5.f3) ((rd_T32 x8 x10).f5.f4) ((rd_T32 x8 x10).f5.f5) ((rd_T32 x8 x10).f6) x1).bind fun t107 => (if t107 = true then (if x4.length < 1256584717458 then (pend_part__Due_1.l0 k x1 (x4 ++ [(⟨(rd_T32 x8 x10).f0, (rd_T32 x8 x10).f1, (rd_T32 x8 x10).f2, (rd_T32 x8 x10).f3, (rd_T32 x8 x10).f4, (⟨(rd_T32 x8 x10).f5.f0, (rd_T32 x8 x10).f5.f1, (rd_T32 x8 x10).f5.f2, (rd_T32 x8 x10).f5.f3, (rd_T32 x8 x10).f5.f4, (rd_T32 x8 x10).f5.f5⟩ : S30), (rd_T32 x8 x10).f6⟩ : S32)]) x5 x8 x9 (wrap64 (x10 + 1))) else (none)) else (if x5.length < 1256584717458 then (pend_part__Due_1.l0 k x1 x4 (x5 ++ [(⟨(rd_T32 x8 x10).f0, (rd_T32 x8 x10).f1, (rd_T32 x8 x10).f2, (rd_T32 x8 x10).f3, (rd_T32 x8 x10).f4, (⟨(rd_T32 x8 x10).f5.f0, (rd_T32 x8 x10).f5.f1, (rd_T32 x8 x10).f5.f2, (rd_T32 x8 x10).f5.f3, (rd_T32 x8 x10).f5.f4, (rd_T32 x8 x10).f5.f5⟩ : S30), (rd_T32 x8 x10).f6⟩ : S32)]) x8 x9 (wrap64 (x10 + 1))) else (none)))) else (none)) else (none)) else (some (x4, x5))
def pend_part__Due_1.f (k : Nat) (l0 : List (S32)) (l1 : List Int) : Option ((List (S32)) × (List (S32))) := pend_part__Due_1.l0 k l1 ([] : List (S32)) ([] : List (S32)) l0 (l0.length : Int) 0
theorem pend_part__Due_1.mono_l : ∀ k, (∀ y0 y1 y2 y3 y4 y5, LeO (pend_part__Due_1.l0 k y0 y1 y2 y3 y4 y5) (pend_part__Due_1.l0 (k + 1) y0 y1 y2 y3 y4 y5))
 | 0 => fun _ _ _ _ _ _ r h => by simp [pend_part__Due_1.l0] at h
 | k + 1 => by
  have ih0 := pend_part__Due_1.mono_l k
  ·intro y0 y1 y2 y3 y4 y5
   unfold pend_part__Due_1.l0
   repeat' first
   | (with_reducible exact ih0 _ _ _ _ _ _)
   | (with_reducible exact LeO.refl _)
   | (with_reducible exact LeO.none _)
   | (with_reducible refine LeO.ite ?_ ?_)
   | (with_reducible refine LeO.bind ?_ (fun _ => ?_))
   | exact ih0 _ _ _ _ _ _
   | exact LeO.none _
   | refine LeO.ite ?_ ?_
   | refine LeO.bind ?_ (fun _ => ?_)
theorem pend_part__Due_1.mono : ∀ a0 a1 k, LeO (pend_part__Due_1.f k a0 a1) (pend_part__Due_1.f (k + 1) a0 a1) := by
 intro a0 a1 k
 have ih0 := pend_part__Due_1.mono_l k
 unfold pend_part__Due_1.f
 repeat' first
  | (with_reducible exact ih0 _ _ _ _ _ _)
  | (with_reducible exact LeO.refl _)
  | (with_reducible exact LeO.none _)
  | (with_reducible refine LeO.ite ?_ ?_)
  | (with_reducible refine LeO.bind ?_ (fun _ => ?_))
  | exact ih0 _ _ _ _ _ _
  | exact LeO.none _
  | refine LeO.ite ?_ ?_
  | refine LeO.bind ?_ (fun _ => ?_)
set_option maxHeartbeats 8000000 in
set_option maxRecDepth 100000 in
theorem pend_part__Due_1.calls (k : Nat) (P0_ : Nat → Prop) (A0 : Option Addr) (c0 : Nat) (l0 : List (S32)) (A1 : Option Addr) (c1 : Nat) (l1 : List Int) (r1 : List (S32)) (r2 : List (S32)) (w : World) (hs0 : Kd.V k32 32 w w.heap.size (fun k_ => P0_ k_) (.slice A0 l0.length c0) l0) (hr1 : Kd.C (Kd.int .i64) w A1 l1.length l1) (hc1 : l1.length ≤ c1) (h : pend_part__Due_1.f k l0 l1 = some (r1, r2)) :
 Calls Try.prog 23 #[.slice A0 l0.length c0, .func (.func 24) #[] #[.pointer A1]] w fun e w' => ∃ v0_ v1_ : Value, e = .returned (.tuple #[v0_, v1_]) ∧ Kd.N k32 32 w' w.heap.size (fun k_ => (P0_ k_ ∨ w.heap.size ≤ k_) ∧ some k_ ≠ (v1_ : Value).ownBlock) v0_ r1 ∧ Kd.N k32 32 w' w.heap.size (fun k_ => (P0_ k_ ∨ w.heap.size ≤ k_) ∧ some k_ ≠ (v0_ : Value).ownBlock) v1_ r2 ∧ Below w.heap.size w w' := by
 have hu32 := Try.underlying32
 have HO0 := Aside0.mk (show Kd.V k32 32 w w.heap.size (fun k_ => (P0_ k_ ∨ w.heap.size ≤ k_)) (.slice A0 l0.length c0) l0 from Kd.V_mono hs0 (fun k_ hk => .inl hk))
 have HR1 := Aside0.mk hr1
 have HC1 := Aside0.mk hc1
 clear hr1 hc1
 have HB := Aside0.mk (Below.refl w.heap.size w)
 have H : (pend_part__Due_1.l0 k l1 ([] : List (S32)) ([] : List (S32)) l0 (l0.length : Int) 0) = some (r1, r2) := h
 clear h
 have H' := Aside0.mk H
 clear H
 go_enter Try.func23, Try.ntmps23
 go_wp2
 go_loopg [4, 5, 10] k (fun kq v4 v5 v10 w' => ∃ (x4_1 : List (S32)) (x5_1 : List (S32)) (x10_1 : Int), v10 = .int .i64 x10_1 ∧ Aside0 (pend_part__Due_1.l0 kq l1 x4_1 x5_1 l0 (l0.length : Int) x10_1 = some (r1, r2)) ∧ Aside0 (kq ≤ k) ∧ Aside0 (Kd.N k32 32 w' w.heap.size (fun k_ => (P0_ k_ ∨ w.heap.size ≤ k_) ∧ some k_ ≠ (v5 : Value).ownBlock) v4 x4_1) ∧ Aside0 (Kd.N k32 32 w' w.heap.size (fun k_ => (P0_ k_ ∨ w.heap.size ≤ k_) ∧ some k_ ≠ (v4 : Value).ownBlock) v5 x5_1) ∧ Aside0 (Kd.V k32 32 w' w.heap.size (fun k_ => (P0_ k_ ∨ w.heap.size ≤ k_) ∧ some k_ ≠ (v4 : Value).ownBlock ∧ some k_ ≠ (v5 : Value).ownBlock) (.slice A0 l0.length c0) l0) ∧ Aside0 (Below w.heap.size w w'))
 case atStart => exact ⟨(([] : List (S32))), (([] : List (S32))), (0), (by first | rfl | (simp; done) | (simp [*]; done) | (simp [bne_nil_]; done)), H', ⟨Nat.le_refl _⟩, ⟨by first | exact Kd.S_nil _ _ _ _ _ | exact Kd.N_nil _ _ _ _ _ | exact Kd.V_nil _ _ _ _ _ | exact Kd.Q_nil _ _ _ _ _ | exact Kd.R_nil _ _ _ _ _⟩, ⟨by first | exact Kd.S_nil _ _ _ _ _ | exact Kd.N_nil _ _ _ _ _ | exact Kd.V_nil _ _ _ _ _ | exact Kd.Q_nil _ _ _ _ _ | exact Kd.R_nil _ _ _ _ _⟩, ⟨by (with_reducible repeat (first | apply Kd.V_alloc | apply Kd.V_drewN | apply Kd.V_drew)); exact Kd.V_mono HO0.out (fun _ hk => ⟨hk, ⟨(by simp [Value.ownBlock]), (by simp [Value.ownBlock])⟩⟩)⟩, ⟨by repeat (first | (with_reducible first | exact HB.out | apply below_alloc | apply pw_below_drewN | apply below_drew1) | exact HB.out)⟩⟩
 case round =>
  clear H'
  try clear c1
  try clear p2
  obtain ⟨x4_1, x5_1, x10_1, rfl, HA, HK1, HO_4, HO_5, HO_8, HB⟩ := hrel
  cases gk with
  | zero => exact absurd HA.out (by simp [pend_part__Due_1.l0])
  | succ k1 =>
   have H := HA.out
   clear HA
   simp only [pend_part__Due_1.l0] at H
   by_cases c3 : x10_1 < (l0.length : Int)
   ·rw [if_pos c3] at H
    have c3b0 : decide (x10_1 < (l0.length : Int)) = true := decide_eq_true c3
    clear c3
    by_cases c4 : 0 ≤ x10_1
    rotate_left
    ·rw [if_neg c4] at H
     exact absurd H (by simp)
    rw [if_pos c4] at H
    have c4b0 : decide (0 ≤ x10_1) = true := decide_eq_true c4
    clear c4
    by_cases c5 : x10_1 < (l0.length : Int)
    rotate_left
    ·rw [if_neg c5] at H
     exact absurd H (by simp)
    rw [if_pos c5] at H
    have c5b0 : decide (x10_1 < (l0.length : Int)) = true := decide_eq_true c5
    clear c5
    replace H := Option.bind_eq_some_iff.mp H
    obtain ⟨t107, A60, H⟩ := H
    replace H : (if t107 = true then (if x4_1.length < 1256584717458 then (pend_part__Due_1.l0 k1 l1 (x4_1 ++ [(⟨(rd_T32 l0 x10_1).f0, (rd_T32 l0 x10_1).f1, (rd_T32 l0 x10_1).f2, (rd_T32 l0 x10_1).f3, (rd_T32 l0 x10_1).f4, (⟨(rd_T32 l0 x10_1).f5.f0, (rd_T32 l0 x10_1).f5.f1, (rd_T32 l0 x10_1).f5.f2, (rd_T32 l0 x10_1).f5.f3, (rd_T32 l0 x10_1).f5.f4, (rd_T32 l0 x10_1).f5.f5⟩ : S30), (rd_T32 l0 x10_1).f6⟩ : S32)]) x5_1 l0 (l0.length : Int) (wrap64 (x10_1 + 1))) else (none)) else (if x5_1.length < 1256584717458 then (pend_part__Due_1.l0 k1 l1 x4_1 (x5_1 ++ [(⟨(rd_T32 l0 x10_1).f0, (rd_T32 l0 x10_1).f1, (rd_T32 l0 x10_1).f2, (rd_T32 l0 x10_1).f3, (rd_T32 l0 x10_1).f4, (⟨(rd_T32 l0 x10_1).f5.f0, (rd_T32 l0 x10_1).f5.f1, (rd_T32 l0 x10_1).f5.f2, (rd_T32 l0 x10_1).f5.f3, (rd_T32 l0 x10_1).f5.f4, (rd_T32 l0 x10_1).f5.f5⟩ : S30), (rd_T32 l0 x10_1).f6⟩ : S32)]) l0 (l0.length : Int) (wrap64 (x10_1 + 1))) else (none))) = some (r1, r2) := H
    have A6 := Aside0.mk A60
    clear A60
    by_cases c7 : t107 = true
    ·subst c7
     have H1 : (if x4_1.length < 1256584717458 then (pend_part__Due_1.l0 k1 l1 (x4_1 ++ [(⟨(rd_T32 l0 x10_1).f0, (rd_T32 l0 x10_1).f1, (rd_T32 l0 x10_1).f2, (rd_T32 l0 x10_1).f3, (rd_T32 l0 x10_1).f4, (⟨(rd_T32 l0 x10_1).f5.f0, (rd_T32 l0 x10_1).f5.f1, (rd_T32 l0 x10_1).f5.f2, (rd_T32 l0 x10_1).f5.f3, (rd_T32 l0 x10_1).f5.f4, (rd_T32 l0 x10_1).f5.f5⟩ : S30), (rd_T32 l0 x10_1).f6⟩ : S32)]) x5_1 l0 (l0.length : Int) (wrap64 (x10_1 + 1))) else (none)) = some (r1, r2) := by rw [if_pos rfl] at H; exact H
     clear H
     have H := H1
     clear H1
     by_cases c8 : x4_1.length < 1256584717458
     rotate_left
     ·rw [if_neg c8] at H
      exact absurd H (by simp)
     rw [if_pos c8] at H
     have LMc8 := Aside0.mk c8
     clear c8
     obtain ⟨y108, hy108⟩ : ∃ y_ : List (S32), y_ = (x4_1 ++ [(⟨(rd_T32 l0 x10_1).f0, (rd_T32 l0 x10_1).f1, (rd_T32 l0 x10_1).f2, (rd_T32 l0 x10_1).f3, (rd_T32 l0 x10_1).f4, (⟨(rd_T32 l0 x10_1).f5.f0, (rd_T32 l0 x10_1).f5.f1, (rd_T32 l0 x10_1).f5.f2, (rd_T32 l0 x10_1).f5.f3, (rd_T32 l0 x10_1).f5.f4, (rd_T32 l0 x10_1).f5.f5⟩ : S30), (rd_T32 l0 x10_1).f6⟩ : S32)]) := ⟨_, rfl⟩
     replace H : (pend_part__Due_1.l0 k1 l1 y108 x5_1 l0 (l0.length : Int) (wrap64 (x10_1 + 1))) = some (r1, r2) := by first | (rw [hy108]; with_reducible exact H) | (have H2_ := (Option.bind_some _ _).symm.trans H; rw [hy108]; with_reducible exact H2_) | (have H2_ := (Option.bind_some _ _).symm.trans H; with_reducible exact H2_) | with_reducible exact H | (rw [hy108]; exact H) | exact H
     have Ny108 := Aside0.mk hy108
     clear hy108
     have H' := Aside0.mk H
     clear H
     have p105 : 0 ≤ (x10_1 : Int) := of_decide_eq_true (by first | (with_reducible assumption) | assumption)
     have q105 : x10_1 < (l0.length : Int) := of_decide_eq_true (by first | (with_reducible assumption) | assumption)
     obtain ⟨ad105, A105_10, c105_10, e105, hx105_0, hx105_1, hx105_2, hx105_3, hx105_4, hx105_5, hx105_6, hx105_7, hx105_8, hx105_9, hx105_10, hx105_11, hl105_10, hi105_10⟩ := at_T32 (Kd.V_reads' HO_8.out).2.2 x10_1 p105 q105
     cases e105
     obtain ⟨ce105, hce105, hMe105, hcc105⟩ := Kd.V_get HO_8.out z32 x10_1 p105 (by first | exact q105 | exact of_decide_eq_true (by first | (with_reducible assumption) | assumption) | (have e_ := (Kd.V_reads' HO_8.out).1; omega))
     obtain ⟨ua105_10, uc105_10, rfl, ul105_10, ge105_10⟩ := k32_openF hMe105
     have hv105_10 := hcc105 10 _ rfl
     rw [add_field _ _ 10 (by omega)] at hv105_10
     replace hv105_10 := Option.some.inj (hv105_10.symm.trans hx105_10)
     injection hv105_10 with hva_ hvn_ hvc_
     rw [hva_] at ge105_10
     rw [hvc_] at ul105_10
     have HL105_10 := Aside0.mk (show Kd.V (Kd.int .i64) 3 _ w.heap.size _ _ ((rd_T32 l0 x10_1).f5.f5) from Kd.V_mk ul105_10 ge105_10)
     clear hva_ hvn_ hvc_ ge105_10 ul105_10
     clear hcc105 hce105
     have HR105_10 := Aside0.mk hi105_10
     have HC105_10 := Aside0.mk hl105_10
     clear hi105_10 hl105_10
     replace p105 := eq_true p105
     replace q105 := eq_true q105
     go_wp2_with (first | ((with_reducible refine gate_dst (N := 7) rfl ?_); refine box_event ?hg (N := 7) ?hd (cs := #[.int .i64 0, .int .i64 0, .int .i64 0, .int .i64 0, .int .i64 0, .int .i64 0, .int .i64 0, .int .i64 0, .int .i64 0, .int .i64 0, .slice none 0 0, .int .i64 0]) (t := 32) ?hr ?_; (case hd => rfl); (case hg => rfl); (case hr => first | (go_simp; done) | (go_simp; rfl)); intro gb106 hg w9 hbox hb; have n0_ := Aside0.mk (Kd.N_below (Kd.N_elderB (by (with_reducible repeat (first | apply Kd.N_alloc | apply Kd.N_drewN | apply Kd.N_drew)); exact HO_4.out) gb106 (Nat.le_of_eq hg.symm)) hb); have n1_ := Aside0.mk (Kd.N_below (Kd.N_elderB (by (with_reducible repeat (first | apply Kd.N_alloc | apply Kd.N_drewN | apply Kd.N_drew)); exact HO_5.out) gb106 (Nat.le_of_eq hg.symm)) hb); have n2_ := Aside0.mk (Kd.V_below (Kd.V_elderB (by (with_reducible repeat (first | apply Kd.V_alloc | apply Kd.V_drewN | apply Kd.V_drew)); exact HO_8.out) gb106 (Nat.le_of_eq hg.symm)) hb); have n3_ := Aside0.mk (Kd.V_below (Kd.V_elderB (by (with_reducible repeat (first | apply Kd.V_alloc | apply Kd.V_drewN | apply Kd.V_drew)); exact HL105_10.out) gb106 (Nat.le_of_eq hg.symm)) hb); have n4_ := Aside0.mk (Kd.C_below (by repeat (first | (with_reducible exact HR105_10.out) | (with_reducible refine Kd.C_alloc ?_ _) | (with_reducible refine Kd.C_drewN ?_ _) | (with_reducible refine Kd.C_drew ?_) | exact HR105_10.out)) hb); have n5_ := Aside0.mk (below_step (by repeat (first | (with_reducible first | exact HB.out | apply below_alloc | apply pw_below_drewN | apply below_drew1) | exact HB.out)) hb); have n6_ := Aside0.mk (hbox); have n7_ := Aside0.mk ((by rw [hg]; exact (below_size (by repeat (first | (with_reducible first | exact HB.out | apply below_alloc | apply pw_below_drewN | apply below_drew1) | exact HB.out))) : w.heap.size ≤ gb106)); have n8_ := Aside0.mk ((by rw [hg]; exact (below_size (by repeat (first | (with_reducible first | exact HB.out | apply below_alloc | apply pw_below_drewN | apply below_drew1) | exact HB.out))) : w.heap.size ≤ gb106)); clear HO_4; clear HO_5; clear HO_8; clear HL105_10; clear HR105_10; clear HB; have HO_4 := n0_; have HO_5 := n1_; have HO_8 := n2_; have HL105_10 := n3_; have HR105_10 := n4_; have HB := n5_; have BK106 := n6_; have GW106 := n7_; have GE106 := n8_; clear n0_ n1_ n2_ n3_ n4_ n5_ n6_ n7_ n8_; clear hb hbox hg; have hcz10_0 : w9.cell? ⟨gb106, 0, none⟩ = some (.int .i64 0) := (blk_cell BK106.out 0).trans rfl; have hcz10_1 : w9.cell? ⟨gb106, 1, none⟩ = some (.int .i64 0) := (blk_cell BK106.out 1).trans rfl; have hcz10_2 : w9.cell? ⟨gb106, 2, none⟩ = some (.int .i64 0) := (blk_cell BK106.out 2).trans rfl; have hcz10_3 : w9.cell? ⟨gb106, 3, none⟩ = some (.int .i64 0) := (blk_cell BK106.out 3).trans rfl; have hcz10_4 : w9.cell? ⟨gb106, 4, none⟩ = some (.int .i64 0) := (blk_cell BK106.out 4).trans rfl; have hcz10_5 : w9.cell? ⟨gb106, 5, none⟩ = some (.int .i64 0) := (blk_cell BK106.out 5).trans rfl; have hcz10_6 : w9.cell? ⟨gb106, 6, none⟩ = some (.int .i64 0) := (blk_cell BK106.out 6).trans rfl; have hcz10_7 : w9.cell? ⟨gb106, 7, none⟩ = some (.int .i64 0) := (blk_cell BK106.out 7).trans rfl; have hcz10_8 : w9.cell? ⟨gb106, 8, none⟩ = some (.int .i64 0) := (blk_cell BK106.out 8).trans rfl; have hcz10_9 : w9.cell? ⟨gb106, 9, none⟩ = some (.int .i64 0) := (blk_cell BK106.out 9).trans rfl; have hcz10_10 : w9.cell? ⟨gb106, 10, none⟩ = some (.slice none 0 0) := (blk_cell BK106.out 10).trans rfl; have hcz10_11 : w9.cell? ⟨gb106, 11, none⟩ = some (.int .i64 0) := (blk_cell BK106.out 11).trans rfl; have hfz10_0 := blk_frozen BK106.out 0; have hfz10_1 := blk_frozen BK106.out 1; have hfz10_2 := blk_frozen BK106.out 2; have hfz10_3 := blk_frozen BK106.out 3; have hfz10_4 := blk_frozen BK106.out 4; have hfz10_5 := blk_frozen BK106.out 5; have hfz10_6 := blk_frozen BK106.out 6; have hfz10_7 := blk_frozen BK106.out 7; have hfz10_8 := blk_frozen BK106.out 8; have hfz10_9 := blk_frozen BK106.out 9; have hfz10_10 := blk_frozen BK106.out 10; have hfz10_11 := blk_frozen BK106.out 11) | (go_at_call 24; (with_reducible refine (pend_Due_1.calls ((rd_T32 l0 x10_1).f0) ((rd_T32 l0 x10_1).f1) ((rd_T32 l0 x10_1).f2) ((rd_T32 l0 x10_1).f3) ((rd_T32 l0 x10_1).f4) ((rd_T32 l0 x10_1).f5.f0) ((rd_T32 l0 x10_1).f5.f1) ((rd_T32 l0 x10_1).f5.f2) ((rd_T32 l0 x10_1).f5.f3) ((rd_T32 l0 x10_1).f5.f4) _ _ ((rd_T32 l0 x10_1).f5.f5) ((rd_T32 l0 x10_1).f6) _ c1 l1 true _ ?side1 ?side2 ?side3 ?side4 A6.out).mono ?_); (case side1 => repeat (first | exact ((Kd.V_reads' (by (with_reducible repeat (first | apply Kd.V_alloc | apply Kd.V_drewN | apply Kd.V_drew)); exact (Kd.V_mono (Kd.V_far (p := ⟨gb106, 11, none⟩) (Kd.V_far (p := ⟨gb106, 10, none⟩) (Kd.V_far (p := ⟨gb106, 9, none⟩) (Kd.V_far (p := ⟨gb106, 8, none⟩) (Kd.V_far (p := ⟨gb106, 7, none⟩) (Kd.V_far (p := ⟨gb106, 6, none⟩) (Kd.V_far (p := ⟨gb106, 5, none⟩) (Kd.V_far (p := ⟨gb106, 4, none⟩) (Kd.V_far (p := ⟨gb106, 3, none⟩) (Kd.V_far (p := ⟨gb106, 2, none⟩) (Kd.V_far (p := ⟨gb106, 1, none⟩) (Kd.V_far (p := ⟨gb106, 0, none⟩) (Kd.V_mono HL105_10.out (fun k_ hk => (⟨hk, hk.2⟩ : _ ∧ k_ ≠ gb106))) (fun _ hk => hk.2) (.int .i64 ((rd_T32 l0 x10_1).f0))) (fun _ hk => hk.2) (.int .i64 ((rd_T32 l0 x10_1).f1))) (fun _ hk => hk.2) (.int .i64 ((rd_T32 l0 x10_1).f2))) (fun _ hk => hk.2) (.int .i64 ((rd_T32 l0 x10_1).f3))) (fun _ hk => hk.2) (.int .i64 ((rd_T32 l0 x10_1).f4))) (fun _ hk => hk.2) (.int .i64 ((rd_T32 l0 x10_1).f5.f0))) (fun _ hk => hk.2) (.int .i64 ((rd_T32 l0 x10_1).f5.f1))) (fun _ hk => hk.2) (.int .i64 ((rd_T32 l0 x10_1).f5.f2))) (fun _ hk => hk.2) (.int .i64 ((rd_T32 l0 x10_1).f5.f3))) (fun _ hk => hk.2) (.int .i64 ((rd_T32 l0 x10_1).f5.f4))) (fun _ hk => hk.2) (.slice A105_10 ((rd_T32 l0 x10_1).f5.f5).length c105_10)) (fun _ hk => hk.2) (.int .i64 ((rd_T32 l0 x10_1).f6))) (fun _ h_ => h_.1)))).2.2) | (with_reducible refine Kd.C_alloc ?_ _) | (with_reducible refine Kd.C_drewN ?_ _) | (with_reducible refine Kd.C_drew ?_))); (case side2 => exact HC105_10.out); (case side3 => exact Kd.C_below HR1.out (by repeat (first | (with_reducible first | exact HB.out | apply below_alloc | apply pw_below_drewN | apply below_drew1 | refine below_set ?_ GE106.out) | exact HB.out))); (case side4 => exact HC1.out); rintro e w11 ⟨rfl, hb⟩; have n0_ := Aside0.mk (Kd.N_below (by (with_reducible repeat (first | apply Kd.N_alloc | apply Kd.N_drewN | apply Kd.N_drew)); exact (Kd.N_mono (Kd.N_far (p := ⟨gb106, 11, none⟩) (Kd.N_far (p := ⟨gb106, 10, none⟩) (Kd.N_far (p := ⟨gb106, 9, none⟩) (Kd.N_far (p := ⟨gb106, 8, none⟩) (Kd.N_far (p := ⟨gb106, 7, none⟩) (Kd.N_far (p := ⟨gb106, 6, none⟩) (Kd.N_far (p := ⟨gb106, 5, none⟩) (Kd.N_far (p := ⟨gb106, 4, none⟩) (Kd.N_far (p := ⟨gb106, 3, none⟩) (Kd.N_far (p := ⟨gb106, 2, none⟩) (Kd.N_far (p := ⟨gb106, 1, none⟩) (Kd.N_far (p := ⟨gb106, 0, none⟩) (Kd.N_mono HO_4.out (fun k_ hk => (⟨hk, hk.2⟩ : _ ∧ k_ ≠ gb106))) (fun _ hk => hk.2) (.int .i64 ((rd_T32 l0 x10_1).f0))) (fun _ hk => hk.2) (.int .i64 ((rd_T32 l0 x10_1).f1))) (fun _ hk => hk.2) (.int .i64 ((rd_T32 l0 x10_1).f2))) (fun _ hk => hk.2) (.int .i64 ((rd_T32 l0 x10_1).f3))) (fun _ hk => hk.2) (.int .i64 ((rd_T32 l0 x10_1).f4))) (fun _ hk => hk.2) (.int .i64 ((rd_T32 l0 x10_1).f5.f0))) (fun _ hk => hk.2) (.int .i64 ((rd_T32 l0 x10_1).f5.f1))) (fun _ hk => hk.2) (.int .i64 ((rd_T32 l0 x10_1).f5.f2))) (fun _ hk => hk.2) (.int .i64 ((rd_T32 l0 x10_1).f5.f3))) (fun _ hk => hk.2) (.int .i64 ((rd_T32 l0 x10_1).f5.f4))) (fun _ hk => hk.2) (.slice A105_10 ((rd_T32 l0 x10_1).f5.f5).length c105_10)) (fun _ hk => hk.2) (.int .i64 ((rd_T32 l0 x10_1).f6))) (fun _ h_ => h_.1))) hb); have n1_ := Aside0.mk (Kd.N_below (by (with_reducible repeat (first | apply Kd.N_alloc | apply Kd.N_drewN | apply Kd.N_drew)); exact (Kd.N_mono (Kd.N_far (p := ⟨gb106, 11, none⟩) (Kd.N_far (p := ⟨gb106, 10, none⟩) (Kd.N_far (p := ⟨gb106, 9, none⟩) (Kd.N_far (p := ⟨gb106, 8, none⟩) (Kd.N_far (p := ⟨gb106, 7, none⟩) (Kd.N_far (p := ⟨gb106, 6, none⟩) (Kd.N_far (p := ⟨gb106, 5, none⟩) (Kd.N_far (p := ⟨gb106, 4, none⟩) (Kd.N_far (p := ⟨gb106, 3, none⟩) (Kd.N_far (p := ⟨gb106, 2, none⟩) (Kd.N_far (p := ⟨gb106, 1, none⟩) (Kd.N_far (p := ⟨gb106, 0, none⟩) (Kd.N_mono HO_5.out (fun k_ hk => (⟨hk, hk.2⟩ : _ ∧ k_ ≠ gb106))) (fun _ hk => hk.2) (.int .i64 ((rd_T32 l0 x10_1).f0))) (fun _ hk => hk.2) (.int .i64 ((rd_T32 l0 x10_1).f1))) (fun _ hk => hk.2) (.int .i64 ((rd_T32 l0 x10_1).f2))) (fun _ hk => hk.2) (.int .i64 ((rd_T32 l0 x10_1).f3))) (fun _ hk => hk.2) (.int .i64 ((rd_T32 l0 x10_1).f4))) (fun _ hk => hk.2) (.int .i64 ((rd_T32 l0 x10_1).f5.f0))) (fun _ hk => hk.2) (.int .i64 ((rd_T32 l0 x10_1).f5.f1))) (fun _ hk => hk.2) (.int .i64 ((rd_T32 l0 x10_1).f5.f2))) (fun _ hk => hk.2) (.int .i64 ((rd_T32 l0 x10_1).f5.f3))) (fun _ hk => hk.2) (.int .i64 ((rd_T32 l0 x10_1).f5.f4))) (fun _ hk => hk.2) (.slice A105_10 ((rd_T32 l0 x10_1).f5.f5).length c105_10)) (fun _ hk => hk.2) (.int .i64 ((rd_T32 l0 x10_1).f6))) (fun _ h_ => h_.1))) hb); have n2_ := Aside0.mk (Kd.V_below (by (with_reducible repeat (first | apply Kd.V_alloc | apply Kd.V_drewN | apply Kd.V_drew)); exact (Kd.V_mono (Kd.V_far (p := ⟨gb106, 11, none⟩) (Kd.V_far (p := ⟨gb106, 10, none⟩) (Kd.V_far (p := ⟨gb106, 9, none⟩) (Kd.V_far (p := ⟨gb106, 8, none⟩) (Kd.V_far (p := ⟨gb106, 7, none⟩) (Kd.V_far (p := ⟨gb106, 6, none⟩) (Kd.V_far (p := ⟨gb106, 5, none⟩) (Kd.V_far (p := ⟨gb106, 4, none⟩) (Kd.V_far (p := ⟨gb106, 3, none⟩) (Kd.V_far (p := ⟨gb106, 2, none⟩) (Kd.V_far (p := ⟨gb106, 1, none⟩) (Kd.V_far (p := ⟨gb106, 0, none⟩) (Kd.V_mono HO_8.out (fun k_ hk => (⟨hk, hk.2⟩ : _ ∧ k_ ≠ gb106))) (fun _ hk => hk.2) (.int .i64 ((rd_T32 l0 x10_1).f0))) (fun _ hk => hk.2) (.int .i64 ((rd_T32 l0 x10_1).f1))) (fun _ hk => hk.2) (.int .i64 ((rd_T32 l0 x10_1).f2))) (fun _ hk => hk.2) (.int .i64 ((rd_T32 l0 x10_1).f3))) (fun _ hk => hk.2) (.int .i64 ((rd_T32 l0 x10_1).f4))) (fun _ hk => hk.2) (.int .i64 ((rd_T32 l0 x10_1).f5.f0))) (fun _ hk => hk.2) (.int .i64 ((rd_T32 l0 x10_1).f5.f1))) (fun _ hk => hk.2) (.int .i64 ((rd_T32 l0 x10_1).f5.f2))) (fun _ hk => hk.2) (.int .i64 ((rd_T32 l0 x10_1).f5.f3))) (fun _ hk => hk.2) (.int .i64 ((rd_T32 l0 x10_1).f5.f4))) (fun _ hk => hk.2) (.slice A105_10 ((rd_T32 l0 x10_1).f5.f5).length c105_10)) (fun _ hk => hk.2) (.int .i64 ((rd_T32 l0 x10_1).f6))) (fun _ h_ => h_.1))) hb); have n3_ := Aside0.mk (Kd.V_below (by (with_reducible repeat (first | apply Kd.V_alloc | apply Kd.V_drewN | apply Kd.V_drew)); exact (Kd.V_mono (Kd.V_far (p := ⟨gb106, 11, none⟩) (Kd.V_far (p := ⟨gb106, 10, none⟩) (Kd.V_far (p := ⟨gb106, 9, none⟩) (Kd.V_far (p := ⟨gb106, 8, none⟩) (Kd.V_far (p := ⟨gb106, 7, none⟩) (Kd.V_far (p := ⟨gb106, 6, none⟩) (Kd.V_far (p := ⟨gb106, 5, none⟩) (Kd.V_far (p := ⟨gb106, 4, none⟩) (Kd.V_far (p := ⟨gb106, 3, none⟩) (Kd.V_far (p := ⟨gb106, 2, none⟩) (Kd.V_far (p := ⟨gb106, 1, none⟩) (Kd.V_far (p := ⟨gb106, 0, none⟩) (Kd.V_mono HL105_10.out (fun k_ hk => (⟨hk, hk.2⟩ : _ ∧ k_ ≠ gb106))) (fun _ hk => hk.2) (.int .i64 ((rd_T32 l0 x10_1).f0))) (fun _ hk => hk.2) (.int .i64 ((rd_T32 l0 x10_1).f1))) (fun _ hk => hk.2) (.int .i64 ((rd_T32 l0 x10_1).f2))) (fun _ hk => hk.2) (.int .i64 ((rd_T32 l0 x10_1).f3))) (fun _ hk => hk.2) (.int .i64 ((rd_T32 l0 x10_1).f4))) (fun _ hk => hk.2) (.int .i64 ((rd_T32 l0 x10_1).f5.f0))) (fun _ hk => hk.2) (.int .i64 ((rd_T32 l0 x10_1).f5.f1))) (fun _ hk => hk.2) (.int .i64 ((rd_T32 l0 x10_1).f5.f2))) (fun _ hk => hk.2) (.int .i64 ((rd_T32 l0 x10_1).f5.f3))) (fun _ hk => hk.2) (.int .i64 ((rd_T32 l0 x10_1).f5.f4))) (fun _ hk => hk.2) (.slice A105_10 ((rd_T32 l0 x10_1).f5.f5).length c105_10)) (fun _ hk => hk.2) (.int .i64 ((rd_T32 l0 x10_1).f6))) (fun _ h_ => h_.1))) hb); have n4_ := Aside0.mk (Kd.C_below ((Kd.V_reads' (by (with_reducible repeat (first | apply Kd.V_alloc | apply Kd.V_drewN | apply Kd.V_drew)); exact (Kd.V_mono (Kd.V_far (p := ⟨gb106, 11, none⟩) (Kd.V_far (p := ⟨gb106, 10, none⟩) (Kd.V_far (p := ⟨gb106, 9, none⟩) (Kd.V_far (p := ⟨gb106, 8, none⟩) (Kd.V_far (p := ⟨gb106, 7, none⟩) (Kd.V_far (p := ⟨gb106, 6, none⟩) (Kd.V_far (p := ⟨gb106, 5, none⟩) (Kd.V_far (p := ⟨gb106, 4, none⟩) (Kd.V_far (p := ⟨gb106, 3, none⟩) (Kd.V_far (p := ⟨gb106, 2, none⟩) (Kd.V_far (p := ⟨gb106, 1, none⟩) (Kd.V_far (p := ⟨gb106, 0, none⟩) (Kd.V_mono HL105_10.out (fun k_ hk => (⟨hk, hk.2⟩ : _ ∧ k_ ≠ gb106))) (fun _ hk => hk.2) (.int .i64 ((rd_T32 l0 x10_1).f0))) (fun _ hk => hk.2) (.int .i64 ((rd_T32 l0 x10_1).f1))) (fun _ hk => hk.2) (.int .i64 ((rd_T32 l0 x10_1).f2))) (fun _ hk => hk.2) (.int .i64 ((rd_T32 l0 x10_1).f3))) (fun _ hk => hk.2) (.int .i64 ((rd_T32 l0 x10_1).f4))) (fun _ hk => hk.2) (.int .i64 ((rd_T32 l0 x10_1).f5.f0))) (fun _ hk => hk.2) (.int .i64 ((rd_T32 l0 x10_1).f5.f1))) (fun _ hk => hk.2) (.int .i64 ((rd_T32 l0 x10_1).f5.f2))) (fun _ hk => hk.2) (.int .i64 ((rd_T32 l0 x10_1).f5.f3))) (fun _ hk => hk.2) (.int .i64 ((rd_T32 l0 x10_1).f5.f4))) (fun _ hk => hk.2) (.slice A105_10 ((rd_T32 l0 x10_1).f5.f5).length c105_10)) (fun _ hk => hk.2) (.int .i64 ((rd_T32 l0 x10_1).f6))) (fun _ h_ => h_.1)))).2.2) hb); have n5_ := Aside0.mk (blk_below (g := gb106) (o := .cells #[.int .i64 ((rd_T32 l0 x10_1).f0), .int .i64 ((rd_T32 l0 x10_1).f1), .int .i64 ((rd_T32 l0 x10_1).f2), .int .i64 ((rd_T32 l0 x10_1).f3), .int .i64 ((rd_T32 l0 x10_1).f4), .int .i64 ((rd_T32 l0 x10_1).f5.f0), .int .i64 ((rd_T32 l0 x10_1).f5.f1), .int .i64 ((rd_T32 l0 x10_1).f5.f2), .int .i64 ((rd_T32 l0 x10_1).f5.f3), .int .i64 ((rd_T32 l0 x10_1).f5.f4), .slice A105_10 ((rd_T32 l0 x10_1).f5.f5).length c105_10, .int .i64 ((rd_T32 l0 x10_1).f6)] 32 (0, 0)) (by (with_reducible repeat (first | refine blk_drewN ?_ _ | refine blk_drew ?_ | refine blk_alloc ?_ _)); refine blk_put (cs := #[.int .i64 ((rd_T32 l0 x10_1).f0), .int .i64 ((rd_T32 l0 x10_1).f1), .int .i64 ((rd_T32 l0 x10_1).f2), .int .i64 ((rd_T32 l0 x10_1).f3), .int .i64 ((rd_T32 l0 x10_1).f4), .int .i64 ((rd_T32 l0 x10_1).f5.f0), .int .i64 ((rd_T32 l0 x10_1).f5.f1), .int .i64 ((rd_T32 l0 x10_1).f5.f2), .int .i64 ((rd_T32 l0 x10_1).f5.f3), .int .i64 ((rd_T32 l0 x10_1).f5.f4), .slice A105_10 ((rd_T32 l0 x10_1).f5.f5).length c105_10, .int .i64 0]) ?_ 11 _ rfl; (with_reducible repeat (first | refine blk_drewN ?_ _ | refine blk_drew ?_ | refine blk_alloc ?_ _)); refine blk_put (cs := #[.int .i64 ((rd_T32 l0 x10_1).f0), .int .i64 ((rd_T32 l0 x10_1).f1), .int .i64 ((rd_T32 l0 x10_1).f2), .int .i64 ((rd_T32 l0 x10_1).f3), .int .i64 ((rd_T32 l0 x10_1).f4), .int .i64 ((rd_T32 l0 x10_1).f5.f0), .int .i64 ((rd_T32 l0 x10_1).f5.f1), .int .i64 ((rd_T32 l0 x10_1).f5.f2), .int .i64 ((rd_T32 l0 x10_1).f5.f3), .int .i64 ((rd_T32 l0 x10_1).f5.f4), .slice none 0 0, .int .i64 0]) ?_ 10 _ rfl; (with_reducible repeat (first | refine blk_drewN ?_ _ | refine blk_drew ?_ | refine blk_alloc ?_ _)); refine blk_put (cs := #[.int .i64 ((rd_T32 l0 x10_1).f0), .int .i64 ((rd_T32 l0 x10_1).f1), .int .i64 ((rd_T32 l0 x10_1).f2), .int .i64 ((rd_T32 l0 x10_1).f3), .int .i64 ((rd_T32 l0 x10_1).f4), .int .i64 ((rd_T32 l0 x10_1).f5.f0), .int .i64 ((rd_T32 l0 x10_1).f5.f1), .int .i64 ((rd_T32 l0 x10_1).f5.f2), .int .i64 ((rd_T32 l0 x10_1).f5.f3), .int .i64 0, .slice none 0 0, .int .i64 0]) ?_ 9 _ rfl; (with_reducible repeat (first | refine blk_drewN ?_ _ | refine blk_drew ?_ | refine blk_alloc ?_ _)); refine blk_put (cs := #[.int .i64 ((rd_T32 l0 x10_1).f0), .int .i64 ((rd_T32 l0 x10_1).f1), .int .i64 ((rd_T32 l0 x10_1).f2), .int .i64 ((rd_T32 l0 x10_1).f3), .int .i64 ((rd_T32 l0 x10_1).f4), .int .i64 ((rd_T32 l0 x10_1).f5.f0), .int .i64 ((rd_T32 l0 x10_1).f5.f1), .int .i64 ((rd_T32 l0 x10_1).f5.f2), .int .i64 0, .int .i64 0, .slice none 0 0, .int .i64 0]) ?_ 8 _ rfl; (with_reducible repeat (first | refine blk_drewN ?_ _ | refine blk_drew ?_ | refine blk_alloc ?_ _)); refine blk_put (cs := #[.int .i64 ((rd_T32 l0 x10_1).f0), .int .i64 ((rd_T32 l0 x10_1).f1), .int .i64 ((rd_T32 l0 x10_1).f2), .int .i64 ((rd_T32 l0 x10_1).f3), .int .i64 ((rd_T32 l0 x10_1).f4), .int .i64 ((rd_T32 l0 x10_1).f5.f0), .int .i64 ((rd_T32 l0 x10_1).f5.f1), .int .i64 0, .int .i64 0, .int .i64 0, .slice none 0 0, .int .i64 0]) ?_ 7 _ rfl; (with_reducible repeat (first | refine blk_drewN ?_ _ | refine blk_drew ?_ | refine blk_alloc ?_ _)); refine blk_put (cs := #[.int .i64 ((rd_T32 l0 x10_1).f0), .int .i64 ((rd_T32 l0 x10_1).f1), .int .i64 ((rd_T32 l0 x10_1).f2), .int .i64 ((rd_T32 l0 x10_1).f3), .int .i64 ((rd_T32 l0 x10_1).f4), .int .i64 ((rd_T32 l0 x10_1).f5.f0), .int .i64 0, .int .i64 0, .int .i64 0, .int .i64 0, .slice none 0 0, .int .i64 0]) ?_ 6 _ rfl; (with_reducible repeat (first | refine blk_drewN ?_ _ | refine blk_drew ?_ | refine blk_alloc ?_ _)); refine blk_put (cs := #[.int .i64 ((rd_T32 l0 x10_1).f0), .int .i64 ((rd_T32 l0 x10_1).f1), .int .i64 ((rd_T32 l0 x10_1).f2), .int .i64 ((rd_T32 l0 x10_1).f3), .int .i64 ((rd_T32 l0 x10_1).f4), .int .i64 0, .int .i64 0, .int .i64 0, .int .i64 0, .int .i64 0, .slice none 0 0, .int .i64 0]) ?_ 5 _ rfl; (with_reducible repeat (first | refine blk_drewN ?_ _ | refine blk_drew ?_ | refine blk_alloc ?_ _)); refine blk_put (cs := #[.int .i64 ((rd_T32 l0 x10_1).f0), .int .i64 ((rd_T32 l0 x10_1).f1), .int .i64 ((rd_T32 l0 x10_1).f2), .int .i64 ((rd_T32 l0 x10_1).f3), .int .i64 0, .int .i64 0, .int .i64 0, .int .i64 0, .int .i64 0, .int .i64 0, .slice none 0 0, .int .i64 0]) ?_ 4 _ rfl; (with_reducible repeat (first | refine blk_drewN ?_ _ | refine blk_drew ?_ | refine blk_alloc ?_ _)); refine blk_put (cs := #[.int .i64 ((rd_T32 l0 x10_1).f0), .int .i64 ((rd_T32 l0 x10_1).f1), .int .i64 ((rd_T32 l0 x10_1).f2), .int .i64 0, .int .i64 0, .int .i64 0, .int .i64 0, .int .i64 0, .int .i64 0, .int .i64 0, .slice none 0 0, .int .i64 0]) ?_ 3 _ rfl; (with_reducible repeat (first | refine blk_drewN ?_ _ | refine blk_drew ?_ | refine blk_alloc ?_ _)); refine blk_put (cs := #[.int .i64 ((rd_T32 l0 x10_1).f0), .int .i64 ((rd_T32 l0 x10_1).f1), .int .i64 0, .int .i64 0, .int .i64 0, .int .i64 0, .int .i64 0, .int .i64 0, .int .i64 0, .int .i64 0, .slice none 0 0, .int .i64 0]) ?_ 2 _ rfl; (with_reducible repeat (first | refine blk_drewN ?_ _ | refine blk_drew ?_ | refine blk_alloc ?_ _)); refine blk_put (cs := #[.int .i64 ((rd_T32 l0 x10_1).f0), .int .i64 0, .int .i64 0, .int .i64 0, .int .i64 0, .int .i64 0, .int .i64 0, .int .i64 0, .int .i64 0, .int .i64 0, .slice none 0 0, .int .i64 0]) ?_ 1 _ rfl; (with_reducible repeat (first | refine blk_drewN ?_ _ | refine blk_drew ?_ | refine blk_alloc ?_ _)); refine blk_put (cs := #[.int .i64 0, .int .i64 0, .int .i64 0, .int .i64 0, .int .i64 0, .int .i64 0, .int .i64 0, .int .i64 0, .int .i64 0, .int .i64 0, .slice none 0 0, .int .i64 0]) ?_ 0 _ rfl; (with_reducible repeat (first | refine blk_drewN ?_ _ | refine blk_drew ?_ | refine blk_alloc ?_ _)); exact BK106.out) hb); have n6_ := Aside0.mk (below_step (by repeat (first | (with_reducible first | exact HB.out | apply below_alloc | apply pw_below_drewN | apply below_drew1 | refine below_set ?_ GE106.out) | exact HB.out)) hb); clear HO_4; clear HO_5; clear HO_8; clear HL105_10; clear HR105_10; clear BK106; clear HB; have HO_4 := n0_; have HO_5 := n1_; have HO_8 := n2_; have HL105_10 := n3_; have HR105_10 := n4_; have BK106 := n5_; have HB := n6_; clear n0_ n1_ n2_ n3_ n4_ n5_ n6_; (try clear hb); (try clear hb2); (try clear hk); (try clear hi); have hcz12_0 : w11.cell? ⟨gb106, 0, none⟩ = some (.int .i64 ((rd_T32 l0 x10_1).f0)) := (blk_cell BK106.out 0).trans rfl; have hcz12_1 : w11.cell? ⟨gb106, 1, none⟩ = some (.int .i64 ((rd_T32 l0 x10_1).f1)) := (blk_cell BK106.out 1).trans rfl; have hcz12_2 : w11.cell? ⟨gb106, 2, none⟩ = some (.int .i64 ((rd_T32 l0 x10_1).f2)) := (blk_cell BK106.out 2).trans rfl; have hcz12_3 : w11.cell? ⟨gb106, 3, none⟩ = some (.int .i64 ((rd_T32 l0 x10_1).f3)) := (blk_cell BK106.out 3).trans rfl; have hcz12_4 : w11.cell? ⟨gb106, 4, none⟩ = some (.int .i64 ((rd_T32 l0 x10_1).f4)) := (blk_cell BK106.out 4).trans rfl; have hcz12_5 : w11.cell? ⟨gb106, 5, none⟩ = some (.int .i64 ((rd_T32 l0 x10_1).f5.f0)) := (blk_cell BK106.out 5).trans rfl; have hcz12_6 : w11.cell? ⟨gb106, 6, none⟩ = some (.int .i64 ((rd_T32 l0 x10_1).f5.f1)) := (blk_cell BK106.out 6).trans rfl; have hcz12_7 : w11.cell? ⟨gb106, 7, none⟩ = some (.int .i64 ((rd_T32 l0 x10_1).f5.f2)) := (blk_cell BK106.out 7).trans rfl; have hcz12_8 : w11.cell? ⟨gb106, 8, none⟩ = some (.int .i64 ((rd_T32 l0 x10_1).f5.f3)) := (blk_cell BK106.out 8).trans rfl; have hcz12_9 : w11.cell? ⟨gb106, 9, none⟩ = some (.int .i64 ((rd_T32 l0 x10_1).f5.f4)) := (blk_cell BK106.out 9).trans rfl; have hcz12_10 : w11.cell? ⟨gb106, 10, none⟩ = some (.slice A105_10 ((rd_T32 l0 x10_1).f5.f5).length c105_10) := (blk_cell BK106.out 10).trans rfl; have hcz12_11 : w11.cell? ⟨gb106, 11, none⟩ = some (.int .i64 ((rd_T32 l0 x10_1).f6)) := (blk_cell BK106.out 11).trans rfl; have hfz12_0 := blk_frozen BK106.out 0; have hfz12_1 := blk_frozen BK106.out 1; have hfz12_2 := blk_frozen BK106.out 2; have hfz12_3 := blk_frozen BK106.out 3; have hfz12_4 := blk_frozen BK106.out 4; have hfz12_5 := blk_frozen BK106.out 5; have hfz12_6 := blk_frozen BK106.out 6; have hfz12_7 := blk_frozen BK106.out 7; have hfz12_8 := blk_frozen BK106.out 8; have hfz12_9 := blk_frozen BK106.out 9; have hfz12_10 := blk_frozen BK106.out 10; have hfz12_11 := blk_frozen BK106.out 11) | ((with_reducible refine gate_builtin (b := .append) (xs := #[.tmp 17, .tmp 19]) rfl ?_); at_builtin; refine Kd.N_append k32 (w0 := w) w.heap.size rfl (.tmp 17) (.tmp 19) 22 32 (.agg #[(.int .i64 0), (.int .i64 0), (.int .i64 0), (.int .i64 0), (.int .i64 0), (.int .i64 0), (.int .i64 0), (.int .i64 0), (.int .i64 0), (.int .i64 0), (.slice none 0 0), (.int .i64 0)]) 112 rfl Try.underlying22 info32 rfl (by decide) (by omega) u4 x4_1 (⟨(rd_T32 l0 x10_1).f0, (rd_T32 l0 x10_1).f1, (rd_T32 l0 x10_1).f2, (rd_T32 l0 x10_1).f3, (rd_T32 l0 x10_1).f4, (⟨(rd_T32 l0 x10_1).f5.f0, (rd_T32 l0 x10_1).f5.f1, (rd_T32 l0 x10_1).f5.f2, (rd_T32 l0 x10_1).f5.f3, (rd_T32 l0 x10_1).f5.f4, (rd_T32 l0 x10_1).f5.f5⟩ : S30), (rd_T32 l0 x10_1).f6⟩ : S32) [.int .i64 ((rd_T32 l0 x10_1).f0), .int .i64 ((rd_T32 l0 x10_1).f1), .int .i64 ((rd_T32 l0 x10_1).f2), .int .i64 ((rd_T32 l0 x10_1).f3), .int .i64 ((rd_T32 l0 x10_1).f4), .int .i64 ((rd_T32 l0 x10_1).f5.f0), .int .i64 ((rd_T32 l0 x10_1).f5.f1), .int .i64 ((rd_T32 l0 x10_1).f5.f2), .int .i64 ((rd_T32 l0 x10_1).f5.f3), .int .i64 ((rd_T32 l0 x10_1).f5.f4), .slice A105_10 ((rd_T32 l0 x10_1).f5.f5).length c105_10, .int .i64 ((rd_T32 l0 x10_1).f6)] (fun k_ => (P0_ k_ ∨ w.heap.size ≤ k_) ∧ some k_ ≠ (u5 : Value).ownBlock ∧ k_ ≠ gb106) (fun k_ => ((fun k_ => (P0_ k_ ∨ w.heap.size ≤ k_) ∧ some k_ ≠ (u5 : Value).ownBlock ∧ k_ ≠ gb106)) k_ ∧ some k_ ≠ (u4 : Value).ownBlock) rfl rfl ?aP (fun _ hk => hk) ?aF ?aO ?aB ?aS ?aL ?_; (case aP => exact (k32_mkF _ _ (⟨(rd_T32 l0 x10_1).f0, (rd_T32 l0 x10_1).f1, (rd_T32 l0 x10_1).f2, (rd_T32 l0 x10_1).f3, (rd_T32 l0 x10_1).f4, (⟨(rd_T32 l0 x10_1).f5.f0, (rd_T32 l0 x10_1).f5.f1, (rd_T32 l0 x10_1).f5.f2, (rd_T32 l0 x10_1).f5.f3, (rd_T32 l0 x10_1).f5.f4, (rd_T32 l0 x10_1).f5.f5⟩ : S30), (rd_T32 l0 x10_1).f6⟩ : S32) (Kd.V_reads' (Kd.V_mono (ok' := (fun k_ => ((fun k_ => (P0_ k_ ∨ w.heap.size ≤ k_) ∧ some k_ ≠ (u5 : Value).ownBlock ∧ k_ ≠ gb106)) k_ ∧ some k_ ≠ (u4 : Value).ownBlock)) (HL105_10.out) (fun k_ hk => ⟨⟨hk.1.1, ⟨hk.1.2.2, hk.2⟩⟩, hk.1.2.1⟩))).2.1 (Kd.V_F (Kd.V_mono (ok' := (fun k_ => ((fun k_ => (P0_ k_ ∨ w.heap.size ≤ k_) ∧ some k_ ≠ (u5 : Value).ownBlock ∧ k_ ≠ gb106)) k_ ∧ some k_ ≠ (u4 : Value).ownBlock)) (HL105_10.out) (fun k_ hk => ⟨⟨hk.1.1, ⟨hk.1.2.2, hk.2⟩⟩, hk.1.2.1⟩))))); (case aB => exact (by repeat (first | (with_reducible first | exact HB.out | apply below_alloc | apply pw_below_drewN | apply below_drew1 | refine below_set ?_ GE106.out) | exact HB.out))); (case aF => exact (fun k_ hk => ⟨(.inr (Nat.le_trans (below_size (by repeat (first | (with_reducible first | exact HB.out | apply below_alloc | apply pw_below_drewN | apply below_drew1 | refine below_set ?_ GE106.out) | exact HB.out))) hk)), Kd.fresh' (Kd.N_lt (by (with_reducible repeat (first | apply Kd.N_alloc | apply Kd.N_drewN | apply Kd.N_drew)); exact HO_5.out)) k_ hk, Kd.freshB (g := gb106) (o := .cells #[.int .i64 ((rd_T32 l0 x10_1).f0), .int .i64 ((rd_T32 l0 x10_1).f1), .int .i64 ((rd_T32 l0 x10_1).f2), .int .i64 ((rd_T32 l0 x10_1).f3), .int .i64 ((rd_T32 l0 x10_1).f4), .int .i64 ((rd_T32 l0 x10_1).f5.f0), .int .i64 ((rd_T32 l0 x10_1).f5.f1), .int .i64 ((rd_T32 l0 x10_1).f5.f2), .int .i64 ((rd_T32 l0 x10_1).f5.f3), .int .i64 ((rd_T32 l0 x10_1).f5.f4), .slice A105_10 ((rd_T32 l0 x10_1).f5.f5).length c105_10, .int .i64 ((rd_T32 l0 x10_1).f6)] 32 (0, 0)) (by (with_reducible repeat (first | refine blk_drewN ?_ _ | refine blk_drew ?_ | refine blk_alloc ?_ _)); exact BK106.out) k_ hk⟩)); (case aO => exact (by (with_reducible repeat (first | apply Kd.N_alloc | apply Kd.N_drewN | apply Kd.N_drew)); exact Kd.N_mono HO_4.out (fun _ hk => ⟨hk.1.1, ⟨hk.1.2, hk.2⟩⟩))); (case aS => exact (below_size (by repeat (first | (with_reducible first | exact HB.out | apply below_alloc | apply pw_below_drewN | apply below_drew1 | refine below_set ?_ GE106.out) | exact HB.out)))); (case aL => have := LMc8.out; omega); intro v109 w13 ho hb hg hat; rw [← Ny108.out] at ho; have n0_ := Aside0.mk (Kd.N_afterv (ok := (fun k_ => (P0_ k_ ∨ w.heap.size ≤ k_) ∧ k_ ≠ gb106)) (by (with_reducible repeat (first | apply Kd.N_alloc | apply Kd.N_drewN | apply Kd.N_drew)); exact Kd.N_mono HO_5.out (fun _ hk => ⟨⟨hk.1.1, hk.2⟩, hk.1.2⟩)) hg hat); have n1_ := Aside0.mk (Kd.V_afterv (ok := (fun k_ => (P0_ k_ ∨ w.heap.size ≤ k_) ∧ some k_ ≠ (u5 : Value).ownBlock ∧ k_ ≠ gb106)) (by (with_reducible repeat (first | apply Kd.V_alloc | apply Kd.V_drewN | apply Kd.V_drew)); exact Kd.V_mono HO_8.out (fun _ hk => ⟨⟨hk.1.1, ⟨hk.1.2.2, hk.2⟩⟩, hk.1.2.1⟩)) hg hat); have n2_ := Aside0.mk (Kd.V_afterv (ok := (fun k_ => (P0_ k_ ∨ w.heap.size ≤ k_) ∧ some k_ ≠ (u5 : Value).ownBlock ∧ k_ ≠ gb106)) (by (with_reducible repeat (first | apply Kd.V_alloc | apply Kd.V_drewN | apply Kd.V_drew)); exact Kd.V_mono HL105_10.out (fun _ hk => ⟨⟨hk.1.1, ⟨hk.1.2.2, hk.2⟩⟩, hk.1.2.1⟩)) hg hat); have n3_ := Aside0.mk (blk_grown (g := gb106) (o := .cells #[.int .i64 ((rd_T32 l0 x10_1).f0), .int .i64 ((rd_T32 l0 x10_1).f1), .int .i64 ((rd_T32 l0 x10_1).f2), .int .i64 ((rd_T32 l0 x10_1).f3), .int .i64 ((rd_T32 l0 x10_1).f4), .int .i64 ((rd_T32 l0 x10_1).f5.f0), .int .i64 ((rd_T32 l0 x10_1).f5.f1), .int .i64 ((rd_T32 l0 x10_1).f5.f2), .int .i64 ((rd_T32 l0 x10_1).f5.f3), .int .i64 ((rd_T32 l0 x10_1).f5.f4), .slice A105_10 ((rd_T32 l0 x10_1).f5.f5).length c105_10, .int .i64 ((rd_T32 l0 x10_1).f6)] 32 (0, 0)) (by (with_reducible repeat (first | refine blk_drewN ?_ _ | refine blk_drew ?_ | refine blk_alloc ?_ _)); exact BK106.out) hg (Kd.N_away HO_4.out (fun _ hk => hk.2))); have n4_ := Aside0.mk (hb); have n5_ := Aside0.mk (ho); clear HO_5; clear HO_8; clear HL105_10; clear BK106; clear HB; clear HO_4; have HO_5 := n0_; have HO_8 := n1_; have HL105_10 := n2_; have BK106 := n3_; have HB := n4_; have HO110 := n5_; clear n0_ n1_ n2_ n3_ n4_ n5_; clear ho hb hg hat))
     go_roundg k1
     case measure => have := HK1.out; omega
     case rel => exact ⟨(y108), (x5_1), (wrap64 (x10_1 + 1)), (by first | rfl | (simp; done) | (simp [*]; done) | (simp [bne_nil_]; done)), H', ⟨by have := HK1.out; omega⟩, ⟨by (with_reducible repeat (first | apply Kd.N_alloc | apply Kd.N_drewN | apply Kd.N_drew)); exact Kd.N_mono HO110.out (fun _ hk => ⟨hk.1, hk.2.1⟩)⟩, ⟨by (with_reducible repeat (first | apply Kd.N_alloc | apply Kd.N_drewN | apply Kd.N_drew)); exact Kd.N_mono HO_5.out (fun _ hk => ⟨hk.1.1, hk.2⟩)⟩, ⟨by (with_reducible repeat (first | apply Kd.V_alloc | apply Kd.V_drewN | apply Kd.V_drew)); exact Kd.V_mono HO_8.out (fun _ hk => ⟨hk.1.1, ⟨hk.2, hk.1.2.1⟩⟩)⟩, ⟨by repeat (first | (with_reducible first | exact HB.out | apply below_alloc | apply pw_below_drewN | apply below_drew1 | refine below_set ?_ GE106.out) | exact HB.out)⟩⟩
    ·replace c7 := Bool.eq_false_iff.mpr c7
     subst c7
     have H1 : (if x5_1.length < 1256584717458 then (pend_part__Due_1.l0 k1 l1 x4_1 (x5_1 ++ [(⟨(rd_T32 l0 x10_1).f0, (rd_T32 l0 x10_1).f1, (rd_T32 l0 x10_1).f2, (rd_T32 l0 x10_1).f3, (rd_T32 l0 x10_1).f4, (⟨(rd_T32 l0 x10_1).f5.f0, (rd_T32 l0 x10_1).f5.f1, (rd_T32 l0 x10_1).f5.f2, (rd_T32 l0 x10_1).f5.f3, (rd_T32 l0 x10_1).f5.f4, (rd_T32 l0 x10_1).f5.f5⟩ : S30), (rd_T32 l0 x10_1).f6⟩ : S32)]) l0 (l0.length : Int) (wrap64 (x10_1 + 1))) else (none)) = some (r1, r2) := by rw [if_neg (show ¬ (false = true) by decide)] at H; exact H
     clear H
     have H := H1
     clear H1
     by_cases c14 : x5_1.length < 1256584717458
     rotate_left
     ·rw [if_neg c14] at H
      exact absurd H (by simp)
     rw [if_pos c14] at H
     have LMc14 := Aside0.mk c14
     clear c14
     obtain ⟨y111, hy111⟩ : ∃ y_ : List (S32), y_ = (x5_1 ++ [(⟨(rd_T32 l0 x10_1).f0, (rd_T32 l0 x10_1).f1, (rd_T32 l0 x10_1).f2, (rd_T32 l0 x10_1).f3, (rd_T32 l0 x10_1).f4, (⟨(rd_T32 l0 x10_1).f5.f0, (rd_T32 l0 x10_1).f5.f1, (rd_T32 l0 x10_1).f5.f2, (rd_T32 l0 x10_1).f5.f3, (rd_T32 l0 x10_1).f5.f4, (rd_T32 l0 x10_1).f5.f5⟩ : S30), (rd_T32 l0 x10_1).f6⟩ : S32)]) := ⟨_, rfl⟩
     replace H : (pend_part__Due_1.l0 k1 l1 x4_1 y111 l0 (l0.length : Int) (wrap64 (x10_1 + 1))) = some (r1, r2) := by first | (rw [hy111]; with_reducible exact H) | (have H2_ := (Option.bind_some _ _).symm.trans H; rw [hy111]; with_reducible exact H2_) | (have H2_ := (Option.bind_some _ _).symm.trans H; with_reducible exact H2_) | with_reducible exact H | (rw [hy111]; exact H) | exact H
     have Ny111 := Aside0.mk hy111
     clear hy111
     have H' := Aside0.mk H
     clear H
     have p105 : 0 ≤ (x10_1 : Int) := of_decide_eq_true (by first | (with_reducible assumption) | assumption)
     have q105 : x10_1 < (l0.length : Int) := of_decide_eq_true (by first | (with_reducible assumption) | assumption)
     obtain ⟨ad105, A105_10, c105_10, e105, hx105_0, hx105_1, hx105_2, hx105_3, hx105_4, hx105_5, hx105_6, hx105_7, hx105_8, hx105_9, hx105_10, hx105_11, hl105_10, hi105_10⟩ := at_T32 (Kd.V_reads' HO_8.out).2.2 x10_1 p105 q105
     cases e105
     obtain ⟨ce105, hce105, hMe105, hcc105⟩ := Kd.V_get HO_8.out z32 x10_1 p105 (by first | exact q105 | exact of_decide_eq_true (by first | (with_reducible assumption) | assumption) | (have e_ := (Kd.V_reads' HO_8.out).1; omega))
     obtain ⟨ua105_10, uc105_10, rfl, ul105_10, ge105_10⟩ := k32_openF hMe105
     have hv105_10 := hcc105 10 _ rfl
     rw [add_field _ _ 10 (by omega)] at hv105_10
     replace hv105_10 := Option.some.inj (hv105_10.symm.trans hx105_10)
     injection hv105_10 with hva_ hvn_ hvc_
     rw [hva_] at ge105_10
     rw [hvc_] at ul105_10
     have HL105_10 := Aside0.mk (show Kd.V (Kd.int .i64) 3 _ w.heap.size _ _ ((rd_T32 l0 x10_1).f5.f5) from Kd.V_mk ul105_10 ge105_10)
     clear hva_ hvn_ hvc_ ge105_10 ul105_10
     clear hcc105 hce105
     have HR105_10 := Aside0.mk hi105_10
     have HC105_10 := Aside0.mk hl105_10
     clear hi105_10 hl105_10
     replace p105 := eq_true p105
     replace q105 := eq_true q105
     go_wp2_with (first | ((with_reducible refine gate_dst (N := 7) rfl ?_); refine box_event ?hg (N := 7) ?hd (cs := #[.int .i64 0, .int .i64 0, .int .i64 0, .int .i64 0, .int .i64 0, .int .i64 0, .int .i64 0, .int .i64 0, .int .i64 0, .int .i64 0, .slice none 0 0, .int .i64 0]) (t := 32) ?hr ?_; (case hd => rfl); (case hg => rfl); (case hr => first | (go_simp; done) | (go_simp; rfl)); intro gb106 hg w15 hbox hb; have n0_ := Aside0.mk (Kd.N_below (Kd.N_elderB (by (with_reducible repeat (first | apply Kd.N_alloc | apply Kd.N_drewN | apply Kd.N_drew)); exact HO_4.out) gb106 (Nat.le_of_eq hg.symm)) hb); have n1_ := Aside0.mk (Kd.N_below (Kd.N_elderB (by (with_reducible repeat (first | apply Kd.N_alloc | apply Kd.N_drewN | apply Kd.N_drew)); exact HO_5.out) gb106 (Nat.le_of_eq hg.symm)) hb); have n2_ := Aside0.mk (Kd.V_below (Kd.V_elderB (by (with_reducible repeat (first | apply Kd.V_alloc | apply Kd.V_drewN | apply Kd.V_drew)); exact HO_8.out) gb106 (Nat.le_of_eq hg.symm)) hb); have n3_ := Aside0.mk (Kd.V_below (Kd.V_elderB (by (with_reducible repeat (first | apply Kd.V_alloc | apply Kd.V_drewN | apply Kd.V_drew)); exact HL105_10.out) gb106 (Nat.le_of_eq hg.symm)) hb); have n4_ := Aside0.mk (Kd.C_below (by repeat (first | (with_reducible exact HR105_10.out) | (with_reducible refine Kd.C_alloc ?_ _) | (with_reducible refine Kd.C_drewN ?_ _) | (with_reducible refine Kd.C_drew ?_) | exact HR105_10.out)) hb); have n5_ := Aside0.mk (below_step (by repeat (first | (with_reducible first | exact HB.out | apply below_alloc | apply pw_below_drewN | apply below_drew1) | exact HB.out)) hb); have n6_ := Aside0.mk (hbox); have n7_ := Aside0.mk ((by rw [hg]; exact (below_size (by repeat (first | (with_reducible first | exact HB.out | apply below_alloc | apply pw_below_drewN | apply below_drew1) | exact HB.out))) : w.heap.size ≤ gb106)); have n8_ := Aside0.mk ((by rw [hg]; exact (below_size (by repeat (first | (with_reducible first | exact HB.out | apply below_alloc | apply pw_below_drewN | apply below_drew1) | exact HB.out))) : w.heap.size ≤ gb106)); clear HO_4; clear HO_5; clear HO_8; clear HL105_10; clear HR105_10; clear HB; have HO_4 := n0_; have HO_5 := n1_; have HO_8 := n2_; have HL105_10 := n3_; have HR105_10 := n4_; have HB := n5_; have BK106 := n6_; have GW106 := n7_; have GE106 := n8_; clear n0_ n1_ n2_ n3_ n4_ n5_ n6_ n7_ n8_; clear hb hbox hg; have hcz16_0 : w15.cell? ⟨gb106, 0, none⟩ = some (.int .i64 0) := (blk_cell BK106.out 0).trans rfl; have hcz16_1 : w15.cell? ⟨gb106, 1, none⟩ = some (.int .i64 0) := (blk_cell BK106.out 1).trans rfl; have hcz16_2 : w15.cell? ⟨gb106, 2, none⟩ = some (.int .i64 0) := (blk_cell BK106.out 2).trans rfl; have hcz16_3 : w15.cell? ⟨gb106, 3, none⟩ = some (.int .i64 0) := (blk_cell BK106.out 3).trans rfl; have hcz16_4 : w15.cell? ⟨gb106, 4, none⟩ = some (.int .i64 0) := (blk_cell BK106.out 4).trans rfl; have hcz16_5 : w15.cell? ⟨gb106, 5, none⟩ = some (.int .i64 0) := (blk_cell BK106.out 5).trans rfl; have hcz16_6 : w15.cell? ⟨gb106, 6, none⟩ = some (.int .i64 0) := (blk_cell BK106.out 6).trans rfl; have hcz16_7 : w15.cell? ⟨gb106, 7, none⟩ = some (.int .i64 0) := (blk_cell BK106.out 7).trans rfl; have hcz16_8 : w15.cell? ⟨gb106, 8, none⟩ = some (.int .i64 0) := (blk_cell BK106.out 8).trans rfl; have hcz16_9 : w15.cell? ⟨gb106, 9, none⟩ = some (.int .i64 0) := (blk_cell BK106.out 9).trans rfl; have hcz16_10 : w15.cell? ⟨gb106, 10, none⟩ = some (.slice none 0 0) := (blk_cell BK106.out 10).trans rfl; have hcz16_11 : w15.cell? ⟨gb106, 11, none⟩ = some (.int .i64 0) := (blk_cell BK106.out 11).trans rfl; have hfz16_0 := blk_frozen BK106.out 0; have hfz16_1 := blk_frozen BK106.out 1; have hfz16_2 := blk_frozen BK106.out 2; have hfz16_3 := blk_frozen BK106.out 3; have hfz16_4 := blk_frozen BK106.out 4; have hfz16_5 := blk_frozen BK106.out 5; have hfz16_6 := blk_frozen BK106.out 6; have hfz16_7 := blk_frozen BK106.out 7; have hfz16_8 := blk_frozen BK106.out 8; have hfz16_9 := blk_frozen BK106.out 9; have hfz16_10 := blk_frozen BK106.out 10; have hfz16_11 := blk_frozen BK106.out 11) | (go_at_call 24; (with_reducible refine (pend_Due_1.calls ((rd_T32 l0 x10_1).f0) ((rd_T32 l0 x10_1).f1) ((rd_T32 l0 x10_1).f2) ((rd_T32 l0 x10_1).f3) ((rd_T32 l0 x10_1).f4) ((rd_T32 l0 x10_1).f5.f0) ((rd_T32 l0 x10_1).f5.f1) ((rd_T32 l0 x10_1).f5.f2) ((rd_T32 l0 x10_1).f5.f3) ((rd_T32 l0 x10_1).f5.f4) _ _ ((rd_T32 l0 x10_1).f5.f5) ((rd_T32 l0 x10_1).f6) _ c1 l1 false _ ?side1 ?side2 ?side3 ?side4 A6.out).mono ?_); (case side1 => repeat (first | exact ((Kd.V_reads' (by (with_reducible repeat (first | apply Kd.V_alloc | apply Kd.V_drewN | apply Kd.V_drew)); exact (Kd.V_mono (Kd.V_far (p := ⟨gb106, 11, none⟩) (Kd.V_far (p := ⟨gb106, 10, none⟩) (Kd.V_far (p := ⟨gb106, 9, none⟩) (Kd.V_far (p := ⟨gb106, 8, none⟩) (Kd.V_far (p := ⟨gb106, 7, none⟩) (Kd.V_far (p := ⟨gb106, 6, none⟩) (Kd.V_far (p := ⟨gb106, 5, none⟩) (Kd.V_far (p := ⟨gb106, 4, none⟩) (Kd.V_far (p := ⟨gb106, 3, none⟩) (Kd.V_far (p := ⟨gb106, 2, none⟩) (Kd.V_far (p := ⟨gb106, 1, none⟩) (Kd.V_far (p := ⟨gb106, 0, none⟩) (Kd.V_mono HL105_10.out (fun k_ hk => (⟨hk, hk.2⟩ : _ ∧ k_ ≠ gb106))) (fun _ hk => hk.2) (.int .i64 ((rd_T32 l0 x10_1).f0))) (fun _ hk => hk.2) (.int .i64 ((rd_T32 l0 x10_1).f1))) (fun _ hk => hk.2) (.int .i64 ((rd_T32 l0 x10_1).f2))) (fun _ hk => hk.2) (.int .i64 ((rd_T32 l0 x10_1).f3))) (fun _ hk => hk.2) (.int .i64 ((rd_T32 l0 x10_1).f4))) (fun _ hk => hk.2) (.int .i64 ((rd_T32 l0 x10_1).f5.f0))) (fun _ hk => hk.2) (.int .i64 ((rd_T32 l0 x10_1).f5.f1))) (fun _ hk => hk.2) (.int .i64 ((rd_T32 l0 x10_1).f5.f2))) (fun _ hk => hk.2) (.int .i64 ((rd_T32 l0 x10_1).f5.f3))) (fun _ hk => hk.2) (.int .i64 ((rd_T32 l0 x10_1).f5.f4))) (fun _ hk => hk.2) (.slice A105_10 ((rd_T32 l0 x10_1).f5.f5).length c105_10)) (fun _ hk => hk.2) (.int .i64 ((rd_T32 l0 x10_1).f6))) (fun _ h_ => h_.1)))).2.2) | (with_reducible refine Kd.C_alloc ?_ _) | (with_reducible refine Kd.C_drewN ?_ _) | (with_reducible refine Kd.C_drew ?_))); (case side2 => exact HC105_10.out); (case side3 => exact Kd.C_below HR1.out (by repeat (first | (with_reducible first | exact HB.out | apply below_alloc | apply pw_below_drewN | apply below_drew1 | refine below_set ?_ GE106.out) | exact HB.out))); (case side4 => exact HC1.out); rintro e w17 ⟨rfl, hb⟩; have n0_ := Aside0.mk (Kd.N_below (by (with_reducible repeat (first | apply Kd.N_alloc | apply Kd.N_drewN | apply Kd.N_drew)); exact (Kd.N_mono (Kd.N_far (p := ⟨gb106, 11, none⟩) (Kd.N_far (p := ⟨gb106, 10, none⟩) (Kd.N_far (p := ⟨gb106, 9, none⟩) (Kd.N_far (p := ⟨gb106, 8, none⟩) (Kd.N_far (p := ⟨gb106, 7, none⟩) (Kd.N_far (p := ⟨gb106, 6, none⟩) (Kd.N_far (p := ⟨gb106, 5, none⟩) (Kd.N_far (p := ⟨gb106, 4, none⟩) (Kd.N_far (p := ⟨gb106, 3, none⟩) (Kd.N_far (p := ⟨gb106, 2, none⟩) (Kd.N_far (p := ⟨gb106, 1, none⟩) (Kd.N_far (p := ⟨gb106, 0, none⟩) (Kd.N_mono HO_4.out (fun k_ hk => (⟨hk, hk.2⟩ : _ ∧ k_ ≠ gb106))) (fun _ hk => hk.2) (.int .i64 ((rd_T32 l0 x10_1).f0))) (fun _ hk => hk.2) (.int .i64 ((rd_T32 l0 x10_1).f1))) (fun _ hk => hk.2) (.int .i64 ((rd_T32 l0 x10_1).f2))) (fun _ hk => hk.2) (.int .i64 ((rd_T32 l0 x10_1).f3))) (fun _ hk => hk.2) (.int .i64 ((rd_T32 l0 x10_1).f4))) (fun _ hk => hk.2) (.int .i64 ((rd_T32 l0 x10_1).f5.f0))) (fun _ hk => hk.2) (.int .i64 ((rd_T32 l0 x10_1).f5.f1))) (fun _ hk => hk.2) (.int .i64 ((rd_T32 l0 x10_1).f5.f2))) (fun _ hk => hk.2) (.int .i64 ((rd_T32 l0 x10_1).f5.f3))) (fun _ hk => hk.2) (.int .i64 ((rd_T32 l0 x10_1).f5.f4))) (fun _ hk => hk.2) (.slice A105_10 ((rd_T32 l0 x10_1).f5.f5).length c105_10)) (fun _ hk => hk.2) (.int .i64 ((rd_T32 l0 x10_1).f6))) (fun _ h_ => h_.1))) hb); have n1_ := Aside0.mk (Kd.N_below (by (with_reducible repeat (first | apply Kd.N_alloc | apply Kd.N_drewN | apply Kd.N_drew)); exact (Kd.N_mono (Kd.N_far (p := ⟨gb106, 11, none⟩) (Kd.N_far (p := ⟨gb106, 10, none⟩) (Kd.N_far (p := ⟨gb106, 9, none⟩) (Kd.N_far (p := ⟨gb106, 8, none⟩) (Kd.N_far (p := ⟨gb106, 7, none⟩) (Kd.N_far (p := ⟨gb106, 6, none⟩) (Kd.N_far (p := ⟨gb106, 5, none⟩) (Kd.N_far (p := ⟨gb106, 4, none⟩) (Kd.N_far (p := ⟨gb106, 3, none⟩) (Kd.N_far (p := ⟨gb106, 2, none⟩) (Kd.N_far (p := ⟨gb106, 1, none⟩) (Kd.N_far (p := ⟨gb106, 0, none⟩) (Kd.N_mono HO_5.out (fun k_ hk => (⟨hk, hk.2⟩ : _ ∧ k_ ≠ gb106))) (fun _ hk => hk.2) (.int .i64 ((rd_T32 l0 x10_1).f0))) (fun _ hk => hk.2) (.int .i64 ((rd_T32 l0 x10_1).f1))) (fun _ hk => hk.2) (.int .i64 ((rd_T32 l0 x10_1).f2))) (fun _ hk => hk.2) (.int .i64 ((rd_T32 l0 x10_1).f3))) (fun _ hk => hk.2) (.int .i64 ((rd_T32 l0 x10_1).f4))) (fun _ hk => hk.2) (.int .i64 ((rd_T32 l0 x10_1).f5.f0))) (fun _ hk => hk.2) (.int .i64 ((rd_T32 l0 x10_1).f5.f1))) (fun _ hk => hk.2) (.int .i64 ((rd_T32 l0 x10_1).f5.f2))) (fun _ hk => hk.2) (.int .i64 ((rd_T32 l0 x10_1).f5.f3))) (fun _ hk => hk.2) (.int .i64 ((rd_T32 l0 x10_1).f5.f4))) (fun _ hk => hk.2) (.slice A105_10 ((rd_T32 l0 x10_1).f5.f5).length c105_10)) (fun _ hk => hk.2) (.int .i64 ((rd_T32 l0 x10_1).f6))) (fun _ h_ => h_.1))) hb); have n2_ := Aside0.mk (Kd.V_below (by (with_reducible repeat (first | apply Kd.V_alloc | apply Kd.V_drewN | apply Kd.V_drew)); exact (Kd.V_mono (Kd.V_far (p := ⟨gb106, 11, none⟩) (Kd.V_far (p := ⟨gb106, 10, none⟩) (Kd.V_far (p := ⟨gb106, 9, none⟩) (Kd.V_far (p := ⟨gb106, 8, none⟩) (Kd.V_far (p := ⟨gb106, 7, none⟩) (Kd.V_far (p := ⟨gb106, 6, none⟩) (Kd.V_far (p := ⟨gb106, 5, none⟩) (Kd.V_far (p := ⟨gb106, 4, none⟩) (Kd.V_far (p := ⟨gb106, 3, none⟩) (Kd.V_far (p := ⟨gb106, 2, none⟩) (Kd.V_far (p := ⟨gb106, 1, none⟩) (Kd.V_far (p := ⟨gb106, 0, none⟩) (Kd.V_mono HO_8.out (fun k_ hk => (⟨hk, hk.2⟩ : _ ∧ k_ ≠ gb106))) (fun _ hk => hk.2) (.int .i64 ((rd_T32 l0 x10_1).f0))) (fun _ hk => hk.2) (.int .i64 ((rd_T32 l0 x10_1).f1))) (fun _ hk => hk.2) (.int .i64 ((rd_T32 l0 x10_1).f2))) (fun _ hk => hk.2) (.int .i64 ((rd_T32 l0 x10_1).f3))) (fun _ hk => hk.2) (.int .i64 ((rd_T32 l0 x10_1).f4))) (fun _ hk => hk.2) (.int .i64 ((rd_T32 l0 x10_1).f5.f0))) (fun _ hk => hk.2) (.int .i64 ((rd_T32 l0 x10_1).f5.f1))) (fun _ hk => hk.2) (.int .i64 ((rd_T32 l0 x10_1).f5.f2))) (fun _ hk => hk.2) (.int .i64 ((rd_T32 l0 x10_1).f5.f3))) (fun _ hk => hk.2) (.int .i64 ((rd_T32 l0 x10_1).f5.f4))) (fun _ hk => hk.2) (.slice A105_10 ((rd_T32 l0 x10_1).f5.f5).length c105_10)) (fun _ hk => hk.2) (.int .i64 ((rd_T32 l0 x10_1).f6))) (fun _ h_ => h_.1))) hb); have n3_ := Aside0.mk (Kd.V_below (by (with_reducible repeat (first | apply Kd.V_alloc | apply Kd.V_drewN | apply Kd.V_drew)); exact (Kd.V_mono (Kd.V_far (p := ⟨gb106, 11, none⟩) (Kd.V_far (p := ⟨gb106, 10, none⟩) (Kd.V_far (p := ⟨gb106, 9, none⟩) (Kd.V_far (p := ⟨gb106, 8, none⟩) (Kd.V_far (p := ⟨gb106, 7, none⟩) (Kd.V_far (p := ⟨gb106, 6, none⟩) (Kd.V_far (p := ⟨gb106, 5, none⟩) (Kd.V_far (p := ⟨gb106, 4, none⟩) (Kd.V_far (p := ⟨gb106, 3, none⟩) (Kd.V_far (p := ⟨gb106, 2, none⟩) (Kd.V_far (p := ⟨gb106, 1, none⟩) (Kd.V_far (p := ⟨gb106, 0, none⟩) (Kd.V_mono HL105_10.out (fun k_ hk => (⟨hk, hk.2⟩ : _ ∧ k_ ≠ gb106))) (fun _ hk => hk.2) (.int .i64 ((rd_T32 l0 x10_1).f0))) (fun _ hk => hk.2) (.int .i64 ((rd_T32 l0 x10_1).f1))) (fun _ hk => hk.2) (.int .i64 ((rd_T32 l0 x10_1).f2))) (fun _ hk => hk.2) (.int .i64 ((rd_T32 l0 x10_1).f3))) (fun _ hk => hk.2) (.int .i64 ((rd_T32 l0 x10_1).f4))) (fun _ hk => hk.2) (.int .i64 ((rd_T32 l0 x10_1).f5.f0))) (fun _ hk => hk.2) (.int .i64 ((rd_T32 l0 x10_1).f5.f1))) (fun _ hk => hk.2) (.int .i64 ((rd_T32 l0 x10_1).f5.f2))) (fun _ hk => hk.2) (.int .i64 ((rd_T32 l0 x10_1).f5.f3))) (fun _ hk => hk.2) (.int .i64 ((rd_T32 l0 x10_1).f5.f4))) (fun _ hk => hk.2) (.slice A105_10 ((rd_T32 l0 x10_1).f5.f5).length c105_10)) (fun _ hk => hk.2) (.int .i64 ((rd_T32 l0 x10_1).f6))) (fun _ h_ => h_.1))) hb); have n4_ := Aside0.mk (Kd.C_below ((Kd.V_reads' (by (with_reducible repeat (first | apply Kd.V_alloc | apply Kd.V_drewN | apply Kd.V_drew)); exact (Kd.V_mono (Kd.V_far (p := ⟨gb106, 11, none⟩) (Kd.V_far (p := ⟨gb106, 10, none⟩) (Kd.V_far (p := ⟨gb106, 9, none⟩) (Kd.V_far (p := ⟨gb106, 8, none⟩) (Kd.V_far (p := ⟨gb106, 7, none⟩) (Kd.V_far (p := ⟨gb106, 6, none⟩) (Kd.V_far (p := ⟨gb106, 5, none⟩) (Kd.V_far (p := ⟨gb106, 4, none⟩) (Kd.V_far (p := ⟨gb106, 3, none⟩) (Kd.V_far (p := ⟨gb106, 2, none⟩) (Kd.V_far (p := ⟨gb106, 1, none⟩) (Kd.V_far (p := ⟨gb106, 0, none⟩) (Kd.V_mono HL105_10.out (fun k_ hk => (⟨hk, hk.2⟩ : _ ∧ k_ ≠ gb106))) (fun _ hk => hk.2) (.int .i64 ((rd_T32 l0 x10_1).f0))) (fun _ hk => hk.2) (.int .i64 ((rd_T32 l0 x10_1).f1))) (fun _ hk => hk.2) (.int .i64 ((rd_T32 l0 x10_1).f2))) (fun _ hk => hk.2) (.int .i64 ((rd_T32 l0 x10_1).f3))) (fun _ hk => hk.2) (.int .i64 ((rd_T32 l0 x10_1).f4))) (fun _ hk => hk.2) (.int .i64 ((rd_T32 l0 x10_1).f5.f0))) (fun _ hk => hk.2) (.int .i64 ((rd_T32 l0 x10_1).f5.f1))) (fun _ hk => hk.2) (.int .i64 ((rd_T32 l0 x10_1).f5.f2))) (fun _ hk => hk.2) (.int .i64 ((rd_T32 l0 x10_1).f5.f3))) (fun _ hk => hk.2) (.int .i64 ((rd_T32 l0 x10_1).f5.f4))) (fun _ hk => hk.2) (.slice A105_10 ((rd_T32 l0 x10_1).f5.f5).length c105_10)) (fun _ hk => hk.2) (.int .i64 ((rd_T32 l0 x10_1).f6))) (fun _ h_ => h_.1)))).2.2) hb); have n5_ := Aside0.mk (blk_below (g := gb106) (o := .cells #[.int .i64 ((rd_T32 l0 x10_1).f0), .int .i64 ((rd_T32 l0 x10_1).f1), .int .i64 ((rd_T32 l0 x10_1).f2), .int .i64 ((rd_T32 l0 x10_1).f3), .int .i64 ((rd_T32 l0 x10_1).f4), .int .i64 ((rd_T32 l0 x10_1).f5.f0), .int .i64 ((rd_T32 l0 x10_1).f5.f1), .int .i64 ((rd_T32 l0 x10_1).f5.f2), .int .i64 ((rd_T32 l0 x10_1).f5.f3), .int .i64 ((rd_T32 l0 x10_1).f5.f4), .slice A105_10 ((rd_T32 l0 x10_1).f5.f5).length c105_10, .int .i64 ((rd_T32 l0 x10_1).f6)] 32 (0, 0)) (by (with_reducible repeat (first | refine blk_drewN ?_ _ | refine blk_drew ?_ | refine blk_alloc ?_ _)); refine blk_put (cs := #[.int .i64 ((rd_T32 l0 x10_1).f0), .int .i64 ((rd_T32 l0 x10_1).f1), .int .i64 ((rd_T32 l0 x10_1).f2), .int .i64 ((rd_T32 l0 x10_1).f3), .int .i64 ((rd_T32 l0 x10_1).f4), .int .i64 ((rd_T32 l0 x10_1).f5.f0), .int .i64 ((rd_T32 l0 x10_1).f5.f1), .int .i64 ((rd_T32 l0 x10_1).f5.f2), .int .i64 ((rd_T32 l0 x10_1).f5.f3), .int .i64 ((rd_T32 l0 x10_1).f5.f4), .slice A105_10 ((rd_T32 l0 x10_1).f5.f5).length c105_10, .int .i64 0]) ?_ 11 _ rfl; (with_reducible repeat (first | refine blk_drewN ?_ _ | refine blk_drew ?_ | refine blk_alloc ?_ _)); refine blk_put (cs := #[.int .i64 ((rd_T32 l0 x10_1).f0), .int .i64 ((rd_T32 l0 x10_1).f1), .int .i64 ((rd_T32 l0 x10_1).f2), .int .i64 ((rd_T32 l0 x10_1).f3), .int .i64 ((rd_T32 l0 x10_1).f4), .int .i64 ((rd_T32 l0 x10_1).f5.f0), .int .i64 ((rd_T32 l0 x10_1).f5.f1), .int .i64 ((rd_T32 l0 x10_1).f5.f2), .int .i64 ((rd_T32 l0 x10_1).f5.f3), .int .i64 ((rd_T32 l0 x10_1).f5.f4), .slice none 0 0, .int .i64 0]) ?_ 10 _ rfl; (with_reducible repeat (first | refine blk_drewN ?_ _ | refine blk_drew ?_ | refine blk_alloc ?_ _)); refine blk_put (cs := #[.int .i64 ((rd_T32 l0 x10_1).f0), .int .i64 ((rd_T32 l0 x10_1).f1), .int .i64 ((rd_T32 l0 x10_1).f2), .int .i64 ((rd_T32 l0 x10_1).f3), .int .i64 ((rd_T32 l0 x10_1).f4), .int .i64 ((rd_T32 l0 x10_1).f5.f0), .int .i64 ((rd_T32 l0 x10_1).f5.f1), .int .i64 ((rd_T32 l0 x10_1).f5.f2), .int .i64 ((rd_T32 l0 x10_1).f5.f3), .int .i64 0, .slice none 0 0, .int .i64 0]) ?_ 9 _ rfl; (with_reducible repeat (first | refine blk_drewN ?_ _ | refine blk_drew ?_ | refine blk_alloc ?_ _)); refine blk_put (cs := #[.int .i64 ((rd_T32 l0 x10_1).f0), .int .i64 ((rd_T32 l0 x10_1).f1), .int .i64 ((rd_T32 l0 x10_1).f2), .int .i64 ((rd_T32 l0 x10_1).f3), .int .i64 ((rd_T32 l0 x10_1).f4), .int .i64 ((rd_T32 l0 x10_1).f5.f0), .int .i64 ((rd_T32 l0 x10_1).f5.f1), .int .i64 ((rd_T32 l0 x10_1).f5.f2), .int .i64 0, .int .i64 0, .slice none 0 0, .int .i64 0]) ?_ 8 _ rfl; (with_reducible repeat (first | refine blk_drewN ?_ _ | refine blk_drew ?_ | refine blk_alloc ?_ _)); refine blk_put (cs := #[.int .i64 ((rd_T32 l0 x10_1).f0), .int .i64 ((rd_T32 l0 x10_1).f1), .int .i64 ((rd_T32 l0 x10_1).f2), .int .i64 ((rd_T32 l0 x10_1).f3), .int .i64 ((rd_T32 l0 x10_1).f4), .int .i64 ((rd_T32 l0 x10_1).f5.f0), .int .i64 ((rd_T32 l0 x10_1).f5.f1), .int .i64 0, .int .i64 0, .int .i64 0, .slice none 0 0, .int .i64 0]) ?_ 7 _ rfl; (with_reducible repeat (first | refine blk_drewN ?_ _ | refine blk_drew ?_ | refine blk_alloc ?_ _)); refine blk_put (cs := #[.int .i64 ((rd_T32 l0 x10_1).f0), .int .i64 ((rd_T32 l0 x10_1).f1), .int .i64 ((rd_T32 l0 x10_1).f2), .int .i64 ((rd_T32 l0 x10_1).f3), .int .i64 ((rd_T32 l0 x10_1).f4), .int .i64 ((rd_T32 l0 x10_1).f5.f0), .int .i64 0, .int .i64 0, .int .i64 0, .int .i64 0, .slice none 0 0, .int .i64 0]) ?_ 6 _ rfl; (with_reducible repeat (first | refine blk_drewN ?_ _ | refine blk_drew ?_ | refine blk_alloc ?_ _)); refine blk_put (cs := #[.int .i64 ((rd_T32 l0 x10_1).f0), .int .i64 ((rd_T32 l0 x10_1).f1), .int .i64 ((rd_T32 l0 x10_1).f2), .int .i64 ((rd_T32 l0 x10_1).f3), .int .i64 ((rd_T32 l0 x10_1).f4), .int .i64 0, .int .i64 0, .int .i64 0, .int .i64 0, .int .i64 0, .slice none 0 0, .int .i64 0]) ?_ 5 _ rfl; (with_reducible repeat (first | refine blk_drewN ?_ _ | refine blk_drew ?_ | refine blk_alloc ?_ _)); refine blk_put (cs := #[.int .i64 ((rd_T32 l0 x10_1).f0), .int .i64 ((rd_T32 l0 x10_1).f1), .int .i64 ((rd_T32 l0 x10_1).f2), .int .i64 ((rd_T32 l0 x10_1).f3), .int .i64 0, .int .i64 0, .int .i64 0, .int .i64 0, .int .i64 0, .int .i64 0, .slice none 0 0, .int .i64 0]) ?_ 4 _ rfl; (with_reducible repeat (first | refine blk_drewN ?_ _ | refine blk_drew ?_ | refine blk_alloc ?_ _)); refine blk_put (cs := #[.int .i64 ((rd_T32 l0 x10_1).f0), .int .i64 ((rd_T32 l0 x10_1).f1), .int .i64 ((rd_T32 l0 x10_1).f2), .int .i64 0, .int .i64 0, .int .i64 0, .int .i64 0, .int .i64 0, .int .i64 0, .int .i64 0, .slice none 0 0, .int .i64 0]) ?_ 3 _ rfl; (with_reducible repeat (first | refine blk_drewN ?_ _ | refine blk_drew ?_ | refine blk_alloc ?_ _)); refine blk_put (cs := #[.int .i64 ((rd_T32 l0 x10_1).f0), .int .i64 ((rd_T32 l0 x10_1).f1), .int .i64 0, .int .i64 0, .int .i64 0, .int .i64 0, .int .i64 0, .int .i64 0, .int .i64 0, .int .i64 0, .slice none 0 0, .int .i64 0]) ?_ 2 _ rfl; (with_reducible repeat (first | refine blk_drewN ?_ _ | refine blk_drew ?_ | refine blk_alloc ?_ _)); refine blk_put (cs := #[.int .i64 ((rd_T32 l0 x10_1).f0), .int .i64 0, .int .i64 0, .int .i64 0, .int .i64 0, .int .i64 0, .int .i64 0, .int .i64 0, .int .i64 0, .int .i64 0, .slice none 0 0, .int .i64 0]) ?_ 1 _ rfl; (with_reducible repeat (first | refine blk_drewN ?_ _ | refine blk_drew ?_ | refine blk_alloc ?_ _)); refine blk_put (cs := #[.int .i64 0, .int .i64 0, .int .i64 0, .int .i64 0, .int .i64 0, .int .i64 0, .int .i64 0, .int .i64 0, .int .i64 0, .int .i64 0, .slice none 0 0, .int .i64 0]) ?_ 0 _ rfl; (with_reducible repeat (first | refine blk_drewN ?_ _ | refine blk_drew ?_ | refine blk_alloc ?_ _)); exact BK106.out) hb); have n6_ := Aside0.mk (below_step (by repeat (first | (with_reducible first | exact HB.out | apply below_alloc | apply pw_below_drewN | apply below_drew1 | refine below_set ?_ GE106.out) | exact HB.out)) hb); clear HO_4; clear HO_5; clear HO_8; clear HL105_10; clear HR105_10; clear BK106; clear HB; have HO_4 := n0_; have HO_5 := n1_; have HO_8 := n2_; have HL105_10 := n3_; have HR105_10 := n4_; have BK106 := n5_; have HB := n6_; clear n0_ n1_ n2_ n3_ n4_ n5_ n6_; (try clear hb); (try clear hb2); (try clear hk); (try clear hi); have hcz18_0 : w17.cell? ⟨gb106, 0, none⟩ = some (.int .i64 ((rd_T32 l0 x10_1).f0)) := (blk_cell BK106.out 0).trans rfl; have hcz18_1 : w17.cell? ⟨gb106, 1, none⟩ = some (.int .i64 ((rd_T32 l0 x10_1).f1)) := (blk_cell BK106.out 1).trans rfl; have hcz18_2 : w17.cell? ⟨gb106, 2, none⟩ = some (.int .i64 ((rd_T32 l0 x10_1).f2)) := (blk_cell BK106.out 2).trans rfl; have hcz18_3 : w17.cell? ⟨gb106, 3, none⟩ = some (.int .i64 ((rd_T32 l0 x10_1).f3)) := (blk_cell BK106.out 3).trans rfl; have hcz18_4 : w17.cell? ⟨gb106, 4, none⟩ = some (.int .i64 ((rd_T32 l0 x10_1).f4)) := (blk_cell BK106.out 4).trans rfl; have hcz18_5 : w17.cell? ⟨gb106, 5, none⟩ = some (.int .i64 ((rd_T32 l0 x10_1).f5.f0)) := (blk_cell BK106.out 5).trans rfl; have hcz18_6 : w17.cell? ⟨gb106, 6, none⟩ = some (.int .i64 ((rd_T32 l0 x10_1).f5.f1)) := (blk_cell BK106.out 6).trans rfl; have hcz18_7 : w17.cell? ⟨gb106, 7, none⟩ = some (.int .i64 ((rd_T32 l0 x10_1).f5.f2)) := (blk_cell BK106.out 7).trans rfl; have hcz18_8 : w17.cell? ⟨gb106, 8, none⟩ = some (.int .i64 ((rd_T32 l0 x10_1).f5.f3)) := (blk_cell BK106.out 8).trans rfl; have hcz18_9 : w17.cell? ⟨gb106, 9, none⟩ = some (.int .i64 ((rd_T32 l0 x10_1).f5.f4)) := (blk_cell BK106.out 9).trans rfl; have hcz18_10 : w17.cell? ⟨gb106, 10, none⟩ = some (.slice A105_10 ((rd_T32 l0 x10_1).f5.f5).length c105_10) := (blk_cell BK106.out 10).trans rfl; have hcz18_11 : w17.cell? ⟨gb106, 11, none⟩ = some (.int .i64 ((rd_T32 l0 x10_1).f6)) := (blk_cell BK106.out 11).trans rfl; have hfz18_0 := blk_frozen BK106.out 0; have hfz18_1 := blk_frozen BK106.out 1; have hfz18_2 := blk_frozen BK106.out 2; have hfz18_3 := blk_frozen BK106.out 3; have hfz18_4 := blk_frozen BK106.out 4; have hfz18_5 := blk_frozen BK106.out 5; have hfz18_6 := blk_frozen BK106.out 6; have hfz18_7 := blk_frozen BK106.out 7; have hfz18_8 := blk_frozen BK106.out 8; have hfz18_9 := blk_frozen BK106.out 9; have hfz18_10 := blk_frozen BK106.out 10; have hfz18_11 := blk_frozen BK106.out 11) | ((with_reducible refine gate_builtin (b := .append) (xs := #[.tmp 21, .tmp 23]) rfl ?_); at_builtin; refine Kd.N_append k32 (w0 := w) w.heap.size rfl (.tmp 21) (.tmp 23) 22 32 (.agg #[(.int .i64 0), (.int .i64 0), (.int .i64 0), (.int .i64 0), (.int .i64 0), (.int .i64 0), (.int .i64 0), (.int .i64 0), (.int .i64 0), (.int .i64 0), (.slice none 0 0), (.int .i64 0)]) 112 rfl Try.underlying22 info32 rfl (by decide) (by omega) u5 x5_1 (⟨(rd_T32 l0 x10_1).f0, (rd_T32 l0 x10_1).f1, (rd_T32 l0 x10_1).f2, (rd_T32 l0 x10_1).f3, (rd_T32 l0 x10_1).f4, (⟨(rd_T32 l0 x10_1).f5.f0, (rd_T32 l0 x10_1).f5.f1, (rd_T32 l0 x10_1).f5.f2, (rd_T32 l0 x10_1).f5.f3, (rd_T32 l0 x10_1).f5.f4, (rd_T32 l0 x10_1).f5.f5⟩ : S30), (rd_T32 l0 x10_1).f6⟩ : S32) [.int .i64 ((rd_T32 l0 x10_1).f0), .int .i64 ((rd_T32 l0 x10_1).f1), .int .i64 ((rd_T32 l0 x10_1).f2), .int .i64 ((rd_T32 l0 x10_1).f3), .int .i64 ((rd_T32 l0 x10_1).f4), .int .i64 ((rd_T32 l0 x10_1).f5.f0), .int .i64 ((rd_T32 l0 x10_1).f5.f1), .int .i64 ((rd_T32 l0 x10_1).f5.f2), .int .i64 ((rd_T32 l0 x10_1).f5.f3), .int .i64 ((rd_T32 l0 x10_1).f5.f4), .slice A105_10 ((rd_T32 l0 x10_1).f5.f5).length c105_10, .int .i64 ((rd_T32 l0 x10_1).f6)] (fun k_ => (P0_ k_ ∨ w.heap.size ≤ k_) ∧ some k_ ≠ (u4 : Value).ownBlock ∧ k_ ≠ gb106) (fun k_ => ((fun k_ => (P0_ k_ ∨ w.heap.size ≤ k_) ∧ some k_ ≠ (u4 : Value).ownBlock ∧ k_ ≠ gb106)) k_ ∧ some k_ ≠ (u5 : Value).ownBlock) rfl rfl ?aP (fun _ hk => hk) ?aF ?aO ?aB ?aS ?aL ?_; (case aP => exact (k32_mkF _ _ (⟨(rd_T32 l0 x10_1).f0, (rd_T32 l0 x10_1).f1, (rd_T32 l0 x10_1).f2, (rd_T32 l0 x10_1).f3, (rd_T32 l0 x10_1).f4, (⟨(rd_T32 l0 x10_1).f5.f0, (rd_T32 l0 x10_1).f5.f1, (rd_T32 l0 x10_1).f5.f2, (rd_T32 l0 x10_1).f5.f3, (rd_T32 l0 x10_1).f5.f4, (rd_T32 l0 x10_1).f5.f5⟩ : S30), (rd_T32 l0 x10_1).f6⟩ : S32) (Kd.V_reads' (Kd.V_mono (ok' := (fun k_ => ((fun k_ => (P0_ k_ ∨ w.heap.size ≤ k_) ∧ some k_ ≠ (u4 : Value).ownBlock ∧ k_ ≠ gb106)) k_ ∧ some k_ ≠ (u5 : Value).ownBlock)) (HL105_10.out) (fun k_ hk => ⟨⟨hk.1.1, ⟨hk.1.2.1, hk.2⟩⟩, hk.1.2.2⟩))).2.1 (Kd.V_F (Kd.V_mono (ok' := (fun k_ => ((fun k_ => (P0_ k_ ∨ w.heap.size ≤ k_) ∧ some k_ ≠ (u4 : Value).ownBlock ∧ k_ ≠ gb106)) k_ ∧ some k_ ≠ (u5 : Value).ownBlock)) (HL105_10.out) (fun k_ hk => ⟨⟨hk.1.1, ⟨hk.1.2.1, hk.2⟩⟩, hk.1.2.2⟩))))); (case aB => exact (by repeat (first | (with_reducible first | exact HB.out | apply below_alloc | apply pw_below_drewN | apply below_drew1 | refine below_set ?_ GE106.out) | exact HB.out))); (case aF => exact (fun k_ hk => ⟨(.inr (Nat.le_trans (below_size (by repeat (first | (with_reducible first | exact HB.out | apply below_alloc | apply pw_below_drewN | apply below_drew1 | refine below_set ?_ GE106.out) | exact HB.out))) hk)), Kd.fresh' (Kd.N_lt (by (with_reducible repeat (first | apply Kd.N_alloc | apply Kd.N_drewN | apply Kd.N_drew)); exact HO_4.out)) k_ hk, Kd.freshB (g := gb106) (o := .cells #[.int .i64 ((rd_T32 l0 x10_1).f0), .int .i64 ((rd_T32 l0 x10_1).f1), .int .i64 ((rd_T32 l0 x10_1).f2), .int .i64 ((rd_T32 l0 x10_1).f3), .int .i64 ((rd_T32 l0 x10_1).f4), .int .i64 ((rd_T32 l0 x10_1).f5.f0), .int .i64 ((rd_T32 l0 x10_1).f5.f1), .int .i64 ((rd_T32 l0 x10_1).f5.f2), .int .i64 ((rd_T32 l0 x10_1).f5.f3), .int .i64 ((rd_T32 l0 x10_1).f5.f4), .slice A105_10 ((rd_T32 l0 x10_1).f5.f5).length c105_10, .int .i64 ((rd_T32 l0 x10_1).f6)] 32 (0, 0)) (by (with_reducible repeat (first | refine blk_drewN ?_ _ | refine blk_drew ?_ | refine blk_alloc ?_ _)); exact BK106.out) k_ hk⟩)); (case aO => exact (by (with_reducible repeat (first | apply Kd.N_alloc | apply Kd.N_drewN | apply Kd.N_drew)); exact Kd.N_mono HO_5.out (fun _ hk => ⟨hk.1.1, ⟨hk.1.2, hk.2⟩⟩))); (case aS => exact (below_size (by repeat (first | (with_reducible first | exact HB.out | apply below_alloc | apply pw_below_drewN | apply below_drew1 | refine below_set ?_ GE106.out) | exact HB.out)))); (case aL => have := LMc14.out; omega); intro v112 w19 ho hb hg hat; rw [← Ny111.out] at ho; have n0_ := Aside0.mk (Kd.N_afterv (ok := (fun k_ => (P0_ k_ ∨ w.heap.size ≤ k_) ∧ k_ ≠ gb106)) (by (with_reducible repeat (first | apply Kd.N_alloc | apply Kd.N_drewN | apply Kd.N_drew)); exact Kd.N_mono HO_4.out (fun _ hk => ⟨⟨hk.1.1, hk.2⟩, hk.1.2⟩)) hg hat); have n1_ := Aside0.mk (Kd.V_afterv (ok := (fun k_ => (P0_ k_ ∨ w.heap.size ≤ k_) ∧ some k_ ≠ (u4 : Value).ownBlock ∧ k_ ≠ gb106)) (by (with_reducible repeat (first | apply Kd.V_alloc | apply Kd.V_drewN | apply Kd.V_drew)); exact Kd.V_mono HO_8.out (fun _ hk => ⟨⟨hk.1.1, ⟨hk.1.2.1, hk.2⟩⟩, hk.1.2.2⟩)) hg hat); have n2_ := Aside0.mk (Kd.V_afterv (ok := (fun k_ => (P0_ k_ ∨ w.heap.size ≤ k_) ∧ some k_ ≠ (u4 : Value).ownBlock ∧ k_ ≠ gb106)) (by (with_reducible repeat (first | apply Kd.V_alloc | apply Kd.V_drewN | apply Kd.V_drew)); exact Kd.V_mono HL105_10.out (fun _ hk => ⟨⟨hk.1.1, ⟨hk.1.2.1, hk.2⟩⟩, hk.1.2.2⟩)) hg hat); have n3_ := Aside0.mk (blk_grown (g := gb106) (o := .cells #[.int .i64 ((rd_T32 l0 x10_1).f0), .int .i64 ((rd_T32 l0 x10_1).f1), .int .i64 ((rd_T32 l0 x10_1).f2), .int .i64 ((rd_T32 l0 x10_1).f3), .int .i64 ((rd_T32 l0 x10_1).f4), .int .i64 ((rd_T32 l0 x10_1).f5.f0), .int .i64 ((rd_T32 l0 x10_1).f5.f1), .int .i64 ((rd_T32 l0 x10_1).f5.f2), .int .i64 ((rd_T32 l0 x10_1).f5.f3), .int .i64 ((rd_T32 l0 x10_1).f5.f4), .slice A105_10 ((rd_T32 l0 x10_1).f5.f5).length c105_10, .int .i64 ((rd_T32 l0 x10_1).f6)] 32 (0, 0)) (by (with_reducible repeat (first | refine blk_drewN ?_ _ | refine blk_drew ?_ | refine blk_alloc ?_ _)); exact BK106.out) hg (Kd.N_away HO_5.out (fun _ hk => hk.2))); have n4_ := Aside0.mk (hb); have n5_ := Aside0.mk (ho); clear HO_4; clear HO_8; clear HL105_10; clear BK106; clear HB; clear HO_5; have HO_4 := n0_; have HO_8 := n1_; have HL105_10 := n2_; have BK106 := n3_; have HB := n4_; have HO113 := n5_; clear n0_ n1_ n2_ n3_ n4_ n5_; clear ho hb hg hat))
     go_roundg k1
     case measure => have := HK1.out; omega
     case rel => exact ⟨(x4_1), (y111), (wrap64 (x10_1 + 1)), (by first | rfl | (simp; done) | (simp [*]; done) | (simp [bne_nil_]; done)), H', ⟨by have := HK1.out; omega⟩, ⟨by (with_reducible repeat (first | apply Kd.N_alloc | apply Kd.N_drewN | apply Kd.N_drew)); exact Kd.N_mono HO_4.out (fun _ hk => ⟨hk.1.1, hk.2⟩)⟩, ⟨by (with_reducible repeat (first | apply Kd.N_alloc | apply Kd.N_drewN | apply Kd.N_drew)); exact Kd.N_mono HO113.out (fun _ hk => ⟨hk.1, hk.2.1⟩)⟩, ⟨by (with_reducible repeat (first | apply Kd.V_alloc | apply Kd.V_drewN | apply Kd.V_drew)); exact Kd.V_mono HO_8.out (fun _ hk => ⟨hk.1.1, ⟨hk.1.2.1, hk.2⟩⟩)⟩, ⟨by repeat (first | (with_reducible first | exact HB.out | apply below_alloc | apply pw_below_drewN | apply below_drew1 | refine below_set ?_ GE106.out) | exact HB.out)⟩⟩
   ·rw [if_neg c3] at H
    have c3b0 : decide (x10_1 < (l0.length : Int)) = false := decide_eq_false c3
    clear c3
    simp only [Option.some.injEq, Prod.mk.injEq] at H
    obtain ⟨rfl, rfl⟩ := H
    go_wp2
    go_ret2
    exact ⟨_, _, by first | rfl | (simp [errW_none, errW_some] <;> rfl) | (simp [*, errW_none, errW_some] <;> rfl), by (with_reducible repeat (first | apply Kd.N_alloc | apply Kd.N_drewN | apply Kd.N_drew)); exact HO_4.out, by (with_reducible repeat (first | apply Kd.N_alloc | apply Kd.N_drewN | apply Kd.N_drew)); exact HO_5.out, by repeat (first | (with_reducible first | exact HB.out | apply below_alloc | apply pw_below_drewN | apply below_drew1) | exact HB.out)⟩

/-! ### pend_Due: function 8 -/
def pend_Due.f (k : Nat) (l0 : List (S32)) (a1 : Int) : Option ((List (S32)) × (List (S32))) := (pend_part__Due_1.f k l0 ([a1] : List Int)).bind fun bt115 => (some (bt115.1, bt115.2))
theorem pend_Due.mono : ∀ a0 a1 k, LeO (pend_Due.f k a0 a1) (pend_Due.f (k + 1) a0 a1) := by
 intro a0 a1 k
 unfold pend_Due.f
 repeat' first
  | (with_reducible exact pend_part__Due_1.mono _ _ _)
  | (with_reducible exact LeO.refl _)
  | (with_reducible exact LeO.none _)
  | (with_reducible refine LeO.ite ?_ ?_)
  | (with_reducible refine LeO.bind ?_ (fun _ => ?_))
  | exact pend_part__Due_1.mono _ _ _
  | exact LeO.none _
  | refine LeO.ite ?_ ?_
  | refine LeO.bind ?_ (fun _ => ?_)
set_option maxHeartbeats 8000000 in
set_option maxRecDepth 100000 in
theorem pend_Due.calls (k : Nat) (P0_ : Nat → Prop) (A0 : Option Addr) (c0 : Nat) (l0 : List (S32)) (a1 : Int) (r1 : List (S32)) (r2 : List (S32)) (w : World) (hs0 : Kd.V k32 32 w w.heap.size (fun k_ => P0_ k_) (.slice A0 l0.length c0) l0) (h : pend_Due.f k l0 a1 = some (r1, r2)) :
 Calls Try.prog 8 #[.slice A0 l0.length c0, .int .i64 a1] w fun e w' => ∃ v0_ v1_ : Value, e = .returned (.tuple #[v0_, v1_]) ∧ Kd.N k32 32 w' w.heap.size (fun k_ => (P0_ k_ ∨ w.heap.size ≤ k_) ∧ some k_ ≠ (v1_ : Value).ownBlock) v0_ r1 ∧ Kd.N k32 32 w' w.heap.size (fun k_ => (P0_ k_ ∨ w.heap.size ≤ k_) ∧ some k_ ≠ (v0_ : Value).ownBlock) v1_ r2 ∧ Below w.heap.size w w' := by
 have hu900003 := Try.underlying3
 have hmf : ∀ (fn : Fn) (first cap : Array Value) (w : World), (Instr.makeFunc fn first cap).run Try.prog w = .ok (.func fn first cap) w := fun _ _ _ _ => rfl
 have HO0 := Aside0.mk (show Kd.V k32 32 w w.heap.size (fun k_ => (P0_ k_ ∨ w.heap.size ≤ k_)) (.slice A0 l0.length c0) l0 from Kd.V_mono hs0 (fun k_ hk => .inl hk))
 have HB := Aside0.mk (Below.refl w.heap.size w)
 have H : ((pend_part__Due_1.f k l0 ([a1] : List Int)).bind fun bt115 => (some (bt115.1, bt115.2))) = some (r1, r2) := h
 clear h
 replace H := Option.bind_eq_some_iff.mp H
 obtain ⟨⟨t115, t118⟩, A30, H⟩ := H
 replace H : (some (t115, t118)) = some (r1, r2) := H
 have A3 := Aside0.mk A30
 clear A30
 simp only [Option.some.injEq, Prod.mk.injEq] at H
 obtain ⟨rfl, rfl⟩ := H
 go_enter Try.func8, Try.ntmps8
 go_wp2_with (first | ((with_reducible refine gate_dst (N := 3) rfl ?_); refine box_event ?hg (N := 3) ?hd (cs := #[.int .i64 a1]) (t := 3) ?hr ?_; (case hd => rfl); (case hg => rfl); (case hr => first | (go_simp; done) | (go_simp; rfl)); intro gb114 hg w4 hbox hb; have n0_ := Aside0.mk (Kd.V_below (Kd.V_elderB (by (with_reducible repeat (first | apply Kd.V_alloc | apply Kd.V_drewN | apply Kd.V_drew)); exact HO0.out) gb114 (Nat.le_of_eq hg.symm)) hb); have n1_ := Aside0.mk (below_step (by repeat (first | (with_reducible first | exact HB.out | apply below_alloc | apply pw_below_drewN | apply below_drew1) | exact HB.out)) hb); have n2_ := Aside0.mk (hbox); have n3_ := Aside0.mk ((by rw [hg]; exact (below_size (by repeat (first | (with_reducible first | exact HB.out | apply below_alloc | apply pw_below_drewN | apply below_drew1) | exact HB.out))) : w.heap.size ≤ gb114)); have n4_ := Aside0.mk ((by rw [hg]; exact (below_size (by repeat (first | (with_reducible first | exact HB.out | apply below_alloc | apply pw_below_drewN | apply below_drew1) | exact HB.out))) : w.heap.size ≤ gb114)); clear HO0; clear HB; have HO0 := n0_; have HB := n1_; have BK114 := n2_; have GW114 := n3_; have GE114 := n4_; clear n0_ n1_ n2_ n3_ n4_; clear hb hbox hg) | ((with_reducible refine gate_callee (f := 23) rfl ?_); refine goesL_ (some 8) rfl rfl Try.func23 (by kernel_rfl) rfl #[.slice A0 l0.length c0, .func (.func 24) #[] #[.pointer (some ⟨gb114, 0, none⟩)]] rfl (by (try simp only [List.map_toArray, List.map_cons, List.map_nil]); first | done | rfl | (simp only [List.length_drop, List.length_take]; rfl)) ?_; (with_reducible refine (pend_part__Due_1.calls k (fun k_ => ((P0_ k_ ∨ w.heap.size ≤ k_) ∧ k_ ≠ gb114)) _ _ l0 _ 1 ([a1] : List Int) t115 t118 _ ?side1 ?side2 ?side3 A3.out).mono ?_); (case side1 => exact HO0.out); (case side2 => exact cap_box (by (with_reducible repeat (first | refine blk_drewN ?_ _ | refine blk_drew ?_ | refine blk_alloc ?_ _)); exact BK114.out) (by first | rfl | exact (by decide))); (case side3 => exact Nat.le_refl 1); rintro e w5 ⟨v116, v119, rfl, ho0, ho1, hb⟩; refine ⟨_, rfl, ?_⟩; have n0_ := Aside0.mk (Kd.V_mono (Kd.V_told (Kd.V_told (Kd.V_old (by (with_reducible repeat (first | apply Kd.V_alloc | apply Kd.V_drewN | apply Kd.V_drew)); exact HO0.out) hb) (Kd.N_base ho0)) (Kd.N_base ho1)) (fun _ h_ => h_.1)); have n1_ := Aside0.mk (Kd.N_lower (Kd.N_mono (ok' := fun k_ => (P0_ k_ ∨ w.heap.size ≤ k_) ∧ some k_ ≠ (v119 : Value).ownBlock ∧ k_ ≠ gb114) ho0 (fun k_ hk_ => ⟨Or.elim hk_.1 (fun hs_ => hs_.1) (fun hn_ => (.inr (Nat.le_trans (below_size (by repeat (first | (with_reducible first | exact HB.out | apply below_alloc | apply pw_below_drewN | apply below_drew1 | refine below_set ?_ GE114.out) | exact HB.out))) hn_))), hk_.2, Or.elim hk_.1 (fun hs_ => hs_.2) (fun hn_ => (Kd.freshB (g := gb114) (o := .cells #[.int .i64 a1] 3 (0, 0)) (by (with_reducible repeat (first | refine blk_drewN ?_ _ | refine blk_drew ?_ | refine blk_alloc ?_ _)); exact BK114.out) k_ hn_))⟩)) (below_size (by repeat (first | (with_reducible first | exact HB.out | apply below_alloc | apply pw_below_drewN | apply below_drew1 | refine below_set ?_ GE114.out) | exact HB.out)))); have n2_ := Aside0.mk (Kd.N_lower (Kd.N_mono (ok' := fun k_ => (P0_ k_ ∨ w.heap.size ≤ k_) ∧ some k_ ≠ (v116 : Value).ownBlock ∧ k_ ≠ gb114) ho1 (fun k_ hk_ => ⟨Or.elim hk_.1 (fun hs_ => hs_.1) (fun hn_ => (.inr (Nat.le_trans (below_size (by repeat (first | (with_reducible first | exact HB.out | apply below_alloc | apply pw_below_drewN | apply below_drew1 | refine below_set ?_ GE114.out) | exact HB.out))) hn_))), hk_.2, Or.elim hk_.1 (fun hs_ => hs_.2) (fun hn_ => (Kd.freshB (g := gb114) (o := .cells #[.int .i64 a1] 3 (0, 0)) (by (with_reducible repeat (first | refine blk_drewN ?_ _ | refine blk_drew ?_ | refine blk_alloc ?_ _)); exact BK114.out) k_ hn_))⟩)) (below_size (by repeat (first | (with_reducible first | exact HB.out | apply below_alloc | apply pw_below_drewN | apply below_drew1 | refine below_set ?_ GE114.out) | exact HB.out)))); have n3_ := Aside0.mk (blk_below (g := gb114) (o := .cells #[.int .i64 a1] 3 (0, 0)) (by (with_reducible repeat (first | refine blk_drewN ?_ _ | refine blk_drew ?_ | refine blk_alloc ?_ _)); exact BK114.out) hb); have n4_ := Aside0.mk (below_step (by repeat (first | (with_reducible first | exact HB.out | apply below_alloc | apply pw_below_drewN | apply below_drew1 | refine below_set ?_ GE114.out) | exact HB.out)) hb); clear HO0; clear BK114; clear HB; have HO0 := n0_; have HO117 := n1_; have HO120 := n2_; have BK114 := n3_; have HB := n4_; clear n0_ n1_ n2_ n3_ n4_; (try clear hb); (try clear hb2); (try clear hk); (try clear hi); (try clear ho0); (try clear ho1)))
 go_ret2
 exact ⟨_, _, by first | rfl | (simp [errW_none, errW_some] <;> rfl) | (simp [*, errW_none, errW_some] <;> rfl), by (with_reducible repeat (first | apply Kd.N_alloc | apply Kd.N_drewN | apply Kd.N_drew)); exact Kd.N_mono HO117.out (fun _ hk => ⟨hk.1, hk.2.1⟩), by (with_reducible repeat (first | apply Kd.N_alloc | apply Kd.N_drewN | apply Kd.N_drew)); exact Kd.N_mono HO120.out (fun _ hk => ⟨hk.1, hk.2.1⟩), by repeat (first | (with_reducible first | exact HB.out | apply below_alloc | apply pw_below_drewN | apply below_drew1 | refine below_set ?_ GE114.out) | exact HB.out)⟩

/-! ### pend_Find_1: function 27 -/
def pend_Find_1.f (a0_0 : Int) (a0_1 : Int) (a0_2 : Int) (a0_3 : Int) (a0_4 : Int) (a0_5 : Int) (a0_6 : Int) (a0_7 : Int) (a0_8 : Int) (a0_9 : Int) (l0_10 : List Int) (a0_11 : Int) (l1 : List Int) : Option (Bool) := if 0 < (l1.length : Int) then (some (a0_0 == (rd l1 0))) else (none)
set_option maxHeartbeats 8000000 in
set_option maxRecDepth 100000 in
theorem pend_Find_1.calls (a0_0 : Int) (a0_1 : Int) (a0_2 : Int) (a0_3 : Int) (a0_4 : Int) (a0_5 : Int) (a0_6 : Int) (a0_7 : Int) (a0_8 : Int) (a0_9 : Int) (A0_10 : Option Addr) (c0_10 : Nat) (l0_10 : List Int) (a0_11 : Int) (A1 : Option Addr) (c1 : Nat) (l1 : List Int) (r : Bool) (w : World) (hr0_10 : Kd.C (Kd.int .i64) w A0_10 l0_10.length l0_10) (hc0_10 : l0_10.length ≤ c0_10) (hr1 : Kd.C (Kd.int .i64) w A1 l1.length l1) (hc1 : l1.length ≤ c1) (h : pend_Find_1.f a0_0 a0_1 a0_2 a0_3 a0_4 a0_5 a0_6 a0_7 a0_8 a0_9 l0_10 a0_11 l1 = some r) :
 Calls Try.prog 27 #[.agg #[.int .i64 a0_0, .int .i64 a0_1, .int .i64 a0_2, .int .i64 a0_3, .int .i64 a0_4, .int .i64 a0_5, .int .i64 a0_6, .int .i64 a0_7, .int .i64 a0_8, .int .i64 a0_9, .slice A0_10 l0_10.length c0_10, .int .i64 a0_11], .pointer A1] w fun e w' => e = .returned (.bool r) ∧ Below w.heap.size w w' := by
 have hu32 := Try.underlying32
 have HR0_10 := Aside0.mk hr0_10
 have HC0_10 := Aside0.mk hc0_10
 clear hr0_10 hc0_10
 have HR1 := Aside0.mk hr1
 have HC1 := Aside0.mk hc1
 clear hr1 hc1
 have HB := Aside0.mk (Below.refl w.heap.size w)
 have H : (if 0 < (l1.length : Int) then (some (a0_0 == (rd l1 0))) else (none)) = some r := h
 clear h
 by_cases c3 : 0 < (l1.length : Int)
 rotate_left
 ·rw [if_neg c3] at H
  exact absurd H (by simp)

 rw [if_pos c3] at H
 have c3b0 : decide (0 < (l1.length : Int)) = true := decide_eq_true c3
 have c3b1 : decide (0 < l1.length) = true := decide_eq_true (by omega)
 clear c3
 obtain rfl := Option.some.inj H
 go_enter Try.func27, Try.ntmps27
 go_wp2_with (first | ((with_reducible refine gate_dst (N := 2) rfl ?_); refine box_event ?hg (N := 2) ?hd (cs := #[.int .i64 a0_0, .int .i64 a0_1, .int .i64 a0_2, .int .i64 a0_3, .int .i64 a0_4, .int .i64 a0_5, .int .i64 a0_6, .int .i64 a0_7, .int .i64 a0_8, .int .i64 a0_9, .slice A0_10 l0_10.length c0_10, .int .i64 a0_11]) (t := 32) ?hr ?_; (case hd => rfl); (case hg => rfl); (case hr => first | (go_simp; done) | (go_simp; rfl)); intro gb121 hg w4 hbox hb; have n0_ := Aside0.mk (below_step (by repeat (first | (with_reducible first | exact HB.out | apply below_alloc | apply pw_below_drewN | apply below_drew1) | exact HB.out)) hb); have n1_ := Aside0.mk (hbox); have n2_ := Aside0.mk ((by rw [hg]; exact (below_size (by repeat (first | (with_reducible first | exact HB.out | apply below_alloc | apply pw_below_drewN | apply below_drew1) | exact HB.out))) : w.heap.size ≤ gb121)); have n3_ := Aside0.mk ((by rw [hg]; exact (below_size (by repeat (first | (with_reducible first | exact HB.out | apply below_alloc | apply pw_below_drewN | apply below_drew1) | exact HB.out))) : w.heap.size ≤ gb121)); clear HB; have HB := n0_; have BK121 := n1_; have GW121 := n2_; have GE121 := n3_; clear n0_ n1_ n2_ n3_; clear hb hbox hg; have hcz5_0 : w4.cell? ⟨gb121, 0, none⟩ = some (.int .i64 a0_0) := (blk_cell BK121.out 0).trans rfl; have hcz5_1 : w4.cell? ⟨gb121, 1, none⟩ = some (.int .i64 a0_1) := (blk_cell BK121.out 1).trans rfl; have hcz5_2 : w4.cell? ⟨gb121, 2, none⟩ = some (.int .i64 a0_2) := (blk_cell BK121.out 2).trans rfl; have hcz5_3 : w4.cell? ⟨gb121, 3, none⟩ = some (.int .i64 a0_3) := (blk_cell BK121.out 3).trans rfl; have hcz5_4 : w4.cell? ⟨gb121, 4, none⟩ = some (.int .i64 a0_4) := (blk_cell BK121.out 4).trans rfl; have hcz5_5 : w4.cell? ⟨gb121, 5, none⟩ = some (.int .i64 a0_5) := (blk_cell BK121.out 5).trans rfl; have hcz5_6 : w4.cell? ⟨gb121, 6, none⟩ = some (.int .i64 a0_6) := (blk_cell BK121.out 6).trans rfl; have hcz5_7 : w4.cell? ⟨gb121, 7, none⟩ = some (.int .i64 a0_7) := (blk_cell BK121.out 7).trans rfl; have hcz5_8 : w4.cell? ⟨gb121, 8, none⟩ = some (.int .i64 a0_8) := (blk_cell BK121.out 8).trans rfl; have hcz5_9 : w4.cell? ⟨gb121, 9, none⟩ = some (.int .i64 a0_9) := (blk_cell BK121.out 9).trans rfl; have hcz5_10 : w4.cell? ⟨gb121, 10, none⟩ = some (.slice A0_10 l0_10.length c0_10) := (blk_cell BK121.out 10).trans rfl; have hcz5_11 : w4.cell? ⟨gb121, 11, none⟩ = some (.int .i64 a0_11) := (blk_cell BK121.out 11).trans rfl; have hfz5_0 := blk_frozen BK121.out 0; have hfz5_1 := blk_frozen BK121.out 1; have hfz5_2 := blk_frozen BK121.out 2; have hfz5_3 := blk_frozen BK121.out 3; have hfz5_4 := blk_frozen BK121.out 4; have hfz5_5 := blk_frozen BK121.out 5; have hfz5_6 := blk_frozen BK121.out 6; have hfz5_7 := blk_frozen BK121.out 7; have hfz5_8 := blk_frozen BK121.out 8; have hfz5_9 := blk_frozen BK121.out 9; have hfz5_10 := blk_frozen BK121.out 10; have hfz5_11 := blk_frozen BK121.out 11; have p122 : 0 ≤ (0 : Int) := (by omega); have q122 : 0 < (l1.length : Int) := of_decide_eq_true (by first | (with_reducible assumption) | assumption); obtain ⟨ad122, e122, hx122_0⟩ := Kd.at_int HR1.out 0 p122 q122; cases e122; have qi122 : (0 < l1.length) = True := eq_true (by omega); (try rw [show ((0 : Int)).toNat = 0 from rfl] at hx122_0); (try rw [Addr.add_zero'] at hx122_0); replace hx122_0 := (HB.out.cell (World.block_lt_of_cell? w _ hx122_0)).trans hx122_0; replace p122 := eq_true p122; replace q122 := eq_true q122))
 go_ret
 exact ⟨by first | rfl | (simp [errW_none, errW_some] <;> rfl) | (simp [*, errW_none, errW_some] <;> rfl), by repeat (first | (with_reducible first | exact HB.out | apply below_alloc | apply pw_below_drewN | apply below_drew1 | refine below_set ?_ GE121.out) | exact HB.out)⟩
/-! ### slices_IndexFunc__Find_1: function 26 -/
def slices_IndexFunc__Find_1.l0 : Nat → List (S32) → List Int → Int → Int → Option (Int)
 | 0, _, _, _, _ => none
 | k + 1, x0, x1, x7, x8 => if x8 < x7 then (if 0 ≤ x8 then (if x8 < (x0.length : Int) then ((pend_Find_1.f ((rd_T32 x0 x8).f0) ((rd_T32 x0 x8).f1) ((rd_T32 x0 x8).f2) ((rd_T32 x0 x8).f3) ((rd_T32 x0 x8).f4) ((rd_T32 x0 x8).f5.f0) ((rd_T32 x0 x8).f5.f1) ((rd_T32 x0 x8).f5.f2) ((rd_T32 x0 x8).f5.f3) ((rd_T32 x0 x8).f5.f4) ((rd_T32 x0 x8).f5.f5) ((rd_T32 x0 x8).f6) x1).bind fun t124 => (if t124 = true then (some x8) else (slices_IndexFunc__Find_1.l0 k x0 x1 x7 (wrap64 (x8 + 1))))) else (none)) else (none)) else (some (-1))
def slices_IndexFunc__Find_1.f (k : Nat) (l0 : List (S32)) (l1 : List Int) : Option (Int) := slices_IndexFunc__Find_1.l0 k l0 l1 (l0.length : Int) 0
theorem slices_IndexFunc__Find_1.mono_l : ∀ k, (∀ y0 y1 y2 y3, LeO (slices_IndexFunc__Find_1.l0 k y0 y1 y2 y3) (slices_IndexFunc__Find_1.l0 (k + 1) y0 y1 y2 y3))
 | 0 => fun _ _ _ _ r h => by simp [slices_IndexFunc__Find_1.l0] at h
 | k + 1 => by
  have ih0 := slices_IndexFunc__Find_1.mono_l k
  ·intro y0 y1 y2 y3
   unfold slices_IndexFunc__Find_1.l0
   repeat' first
   | (with_reducible exact ih0 _ _ _ _)
   | (with_reducible exact LeO.refl _)
   | (with_reducible exact LeO.none _)
   | (with_reducible refine LeO.ite ?_ ?_)
   | (with_reducible refine LeO.bind ?_ (fun _ => ?_))
   | exact ih0 _ _ _ _
   | exact LeO.none _
   | refine LeO.ite ?_ ?_
   | refine LeO.bind ?_ (fun _ => ?_)
theorem slices_IndexFunc__Find_1.mono : ∀ a0 a1 k, LeO (slices_IndexFunc__Find_1.f k a0 a1) (slices_IndexFunc__Find_1.f (k + 1) a0 a1) := by
 intro a0 a1 k
 have ih0 := slices_IndexFunc__Find_1.mono_l k
 unfold slices_IndexFunc__Find_1.f
 repeat' first
  | (with_reducible exact ih0 _ _ _ _)
  | (with_reducible exact LeO.refl _)
  | (with_reducible exact LeO.none _)
  | (with_reducible refine LeO.ite ?_ ?_)
  | (with_reducible refine LeO.bind ?_ (fun _ => ?_))
  | exact ih0 _ _ _ _
  | exact LeO.none _
  | refine LeO.ite ?_ ?_
  | refine LeO.bind ?_ (fun _ => ?_)
set_option maxHeartbeats 8000000 in
set_option maxRecDepth 100000 in
theorem slices_IndexFunc__Find_1.calls (k : Nat) (A0 : Option Addr) (c0 : Nat) (l0 : List (S32)) (A1 : Option Addr) (c1 : Nat) (l1 : List Int) (r : Int) (w : World) (hr0 : Kd.C k32 w A0 l0.length l0) (hc0 : l0.length ≤ c0) (hr1 : Kd.C (Kd.int .i64) w A1 l1.length l1) (hc1 : l1.length ≤ c1) (h : slices_IndexFunc__Find_1.f k l0 l1 = some r) :
 Calls Try.prog 26 #[.slice A0 l0.length c0, .func (.func 27) #[] #[.pointer A1]] w fun e w' => e = .returned (.int .i64 r) ∧ Below w.heap.size w w' := by
 have hu32 := Try.underlying32
 have HR0 := Aside0.mk hr0
 have HC0 := Aside0.mk hc0
 clear hr0 hc0
 have HR1 := Aside0.mk hr1
 have HC1 := Aside0.mk hc1
 clear hr1 hc1
 have HB := Aside0.mk (Below.refl w.heap.size w)
 have H : (slices_IndexFunc__Find_1.l0 k l0 l1 (l0.length : Int) 0) = some r := h
 clear h
 have H' := Aside0.mk H
 clear H
 go_enter Try.func26, Try.ntmps26
 go_wp2
 go_loopg [8] k (fun kq v8 w' => ∃ (x8_1 : Int), v8 = .int .i64 x8_1 ∧ Aside0 (slices_IndexFunc__Find_1.l0 kq l0 l1 (l0.length : Int) x8_1 = some r) ∧ Aside0 (kq ≤ k) ∧ Aside0 (Below w.heap.size w w'))
 case atStart => exact ⟨(0), (by first | rfl | (simp; done) | (simp [*]; done) | (simp [bne_nil_]; done)), H', ⟨Nat.le_refl _⟩, ⟨by repeat (first | (with_reducible first | exact HB.out | apply below_alloc | apply pw_below_drewN | apply below_drew1) | exact HB.out)⟩⟩
 case round =>
  clear H'
  try clear c1
  try clear p2
  obtain ⟨x8_1, rfl, HA, HK1, HB⟩ := hrel
  cases gk with
  | zero => exact absurd HA.out (by simp [slices_IndexFunc__Find_1.l0])
  | succ k1 =>
   have H := HA.out
   clear HA
   simp only [slices_IndexFunc__Find_1.l0] at H
   by_cases c3 : x8_1 < (l0.length : Int)
   ·rw [if_pos c3] at H
    have c3b0 : decide (x8_1 < (l0.length : Int)) = true := decide_eq_true c3
    clear c3
    by_cases c4 : 0 ≤ x8_1
    rotate_left
    ·rw [if_neg c4] at H
     exact absurd H (by simp)
    rw [if_pos c4] at H
    have c4b0 : decide (0 ≤ x8_1) = true := decide_eq_true c4
    clear c4
    by_cases c5 : x8_1 < (l0.length : Int)
    rotate_left
    ·rw [if_neg c5] at H
     exact absurd H (by simp)
    rw [if_pos c5] at H
    have c5b0 : decide (x8_1 < (l0.length : Int)) = true := decide_eq_true c5
    clear c5
    replace H := Option.bind_eq_some_iff.mp H
    obtain ⟨t124, A60, H⟩ := H
    replace H : (if t124 = true then (some x8_1) else (slices_IndexFunc__Find_1.l0 k1 l0 l1 (l0.length : Int) (wrap64 (x8_1 + 1)))) = some r := H
    have A6 := Aside0.mk A60
    clear A60
    by_cases c7 : t124 = true
    ·subst c7
     have H1 : (some x8_1) = some r := by rw [if_pos rfl] at H; exact H
     clear H
     have H := H1
     clear H1
     obtain rfl := Option.some.inj H
     have p123 : 0 ≤ (x8_1 : Int) := of_decide_eq_true (by first | (with_reducible assumption) | assumption)
     have q123 : x8_1 < (l0.length : Int) := of_decide_eq_true (by first | (with_reducible assumption) | assumption)
     obtain ⟨ad123, A123_10, c123_10, e123, hx123_0, hx123_1, hx123_2, hx123_3, hx123_4, hx123_5, hx123_6, hx123_7, hx123_8, hx123_9, hx123_10, hx123_11, hl123_10, hi123_10⟩ := at_T32 HR0.out x8_1 p123 q123
     cases e123
     replace hx123_0 := (HB.out.cell (World.block_lt_of_cell? w _ hx123_0)).trans hx123_0
     replace hx123_1 := (HB.out.cell (World.block_lt_of_cell? w _ hx123_1)).trans hx123_1
     replace hx123_2 := (HB.out.cell (World.block_lt_of_cell? w _ hx123_2)).trans hx123_2
     replace hx123_3 := (HB.out.cell (World.block_lt_of_cell? w _ hx123_3)).trans hx123_3
     replace hx123_4 := (HB.out.cell (World.block_lt_of_cell? w _ hx123_4)).trans hx123_4
     replace hx123_5 := (HB.out.cell (World.block_lt_of_cell? w _ hx123_5)).trans hx123_5
     replace hx123_6 := (HB.out.cell (World.block_lt_of_cell? w _ hx123_6)).trans hx123_6
     replace hx123_7 := (HB.out.cell (World.block_lt_of_cell? w _ hx123_7)).trans hx123_7
     replace hx123_8 := (HB.out.cell (World.block_lt_of_cell? w _ hx123_8)).trans hx123_8
     replace hx123_9 := (HB.out.cell (World.block_lt_of_cell? w _ hx123_9)).trans hx123_9
     replace hx123_10 := (HB.out.cell (World.block_lt_of_cell? w _ hx123_10)).trans hx123_10
     replace hx123_11 := (HB.out.cell (World.block_lt_of_cell? w _ hx123_11)).trans hx123_11
     have HR123_10 := Aside0.mk hi123_10
     have HC123_10 := Aside0.mk hl123_10
     clear hi123_10 hl123_10
     replace p123 := eq_true p123
     replace q123 := eq_true q123
     go_wp2_with (first | (go_at_call 27; (with_reducible refine (pend_Find_1.calls ((rd_T32 l0 x8_1).f0) ((rd_T32 l0 x8_1).f1) ((rd_T32 l0 x8_1).f2) ((rd_T32 l0 x8_1).f3) ((rd_T32 l0 x8_1).f4) ((rd_T32 l0 x8_1).f5.f0) ((rd_T32 l0 x8_1).f5.f1) ((rd_T32 l0 x8_1).f5.f2) ((rd_T32 l0 x8_1).f5.f3) ((rd_T32 l0 x8_1).f5.f4) _ _ ((rd_T32 l0 x8_1).f5.f5) ((rd_T32 l0 x8_1).f6) _ c1 l1 true _ ?side1 ?side2 ?side3 ?side4 A6.out).mono ?_); (case side1 => repeat (first | exact (Kd.C_below HR123_10.out HB.out) | (with_reducible refine Kd.C_alloc ?_ _) | (with_reducible refine Kd.C_drewN ?_ _) | (with_reducible refine Kd.C_drew ?_))); (case side2 => exact HC123_10.out); (case side3 => repeat (first | exact (Kd.C_below HR1.out HB.out) | (with_reducible refine Kd.C_alloc ?_ _) | (with_reducible refine Kd.C_drewN ?_ _) | (with_reducible refine Kd.C_drew ?_))); (case side4 => exact HC1.out); rintro e w8 ⟨rfl, hb⟩; have n0_ := Aside0.mk (below_step (by repeat (first | (with_reducible first | exact HB.out | apply below_alloc | apply pw_below_drewN | apply below_drew1) | exact HB.out)) hb); clear HB; have HB := n0_; clear n0_; (try clear hb); (try clear hb2); (try clear hk); (try clear hi)))
     go_ret
     exact ⟨by first | rfl | (simp [errW_none, errW_some] <;> rfl) | (simp [*, errW_none, errW_some] <;> rfl), by repeat (first | (with_reducible first | exact HB.out | apply below_alloc | apply pw_below_drewN | apply below_drew1) | exact HB.out)⟩
    ·replace c7 := Bool.eq_false_iff.mpr c7
     subst c7
     have H1 : (slices_IndexFunc__Find_1.l0 k1 l0 l1 (l0.length : Int) (wrap64 (x8_1 + 1))) = some r := by rw [if_neg (show ¬ (false = true) by decide)] at H; exact H
     clear H
     have H := H1
     clear H1
     have H' := Aside0.mk H
     clear H
     have p123 : 0 ≤ (x8_1 : Int) := of_decide_eq_true (by first | (with_reducible assumption) | assumption)
     have q123 : x8_1 < (l0.length : Int) := of_decide_eq_true (by first | (with_reducible assumption) | assumption)
     obtain ⟨ad123, A123_10, c123_10, e123, hx123_0, hx123_1, hx123_2, hx123_3, hx123_4, hx123_5, hx123_6, hx123_7, hx123_8, hx123_9, hx123_10, hx123_11, hl123_10, hi123_10⟩ := at_T32 HR0.out x8_1 p123 q123
     cases e123
     replace hx123_0 := (HB.out.cell (World.block_lt_of_cell? w _ hx123_0)).trans hx123_0
     replace hx123_1 := (HB.out.cell (World.block_lt_of_cell? w _ hx123_1)).trans hx123_1
     replace hx123_2 := (HB.out.cell (World.block_lt_of_cell? w _ hx123_2)).trans hx123_2
     replace hx123_3 := (HB.out.cell (World.block_lt_of_cell? w _ hx123_3)).trans hx123_3
     replace hx123_4 := (HB.out.cell (World.block_lt_of_cell? w _ hx123_4)).trans hx123_4
     replace hx123_5 := (HB.out.cell (World.block_lt_of_cell? w _ hx123_5)).trans hx123_5
     replace hx123_6 := (HB.out.cell (World.block_lt_of_cell? w _ hx123_6)).trans hx123_6
     replace hx123_7 := (HB.out.cell (World.block_lt_of_cell? w _ hx123_7)).trans hx123_7
     replace hx123_8 := (HB.out.cell (World.block_lt_of_cell? w _ hx123_8)).trans hx123_8
     replace hx123_9 := (HB.out.cell (World.block_lt_of_cell? w _ hx123_9)).trans hx123_9
     replace hx123_10 := (HB.out.cell (World.block_lt_of_cell? w _ hx123_10)).trans hx123_10
     replace hx123_11 := (HB.out.cell (World.block_lt_of_cell? w _ hx123_11)).trans hx123_11
     have HR123_10 := Aside0.mk hi123_10
     have HC123_10 := Aside0.mk hl123_10
     clear hi123_10 hl123_10
     replace p123 := eq_true p123
     replace q123 := eq_true q123
     go_wp2_with (first | (go_at_call 27; (with_reducible refine (pend_Find_1.calls ((rd_T32 l0 x8_1).f0) ((rd_T32 l0 x8_1).f1) ((rd_T32 l0 x8_1).f2) ((rd_T32 l0 x8_1).f3) ((rd_T32 l0 x8_1).f4) ((rd_T32 l0 x8_1).f5.f0) ((rd_T32 l0 x8_1).f5.f1) ((rd_T32 l0 x8_1).f5.f2) ((rd_T32 l0 x8_1).f5.f3) ((rd_T32 l0 x8_1).f5.f4) _ _ ((rd_T32 l0 x8_1).f5.f5) ((rd_T32 l0 x8_1).f6) _ c1 l1 false _ ?side1 ?side2 ?side3 ?side4 A6.out).mono ?_); (case side1 => repeat (first | exact (Kd.C_below HR123_10.out HB.out) | (with_reducible refine Kd.C_alloc ?_ _) | (with_reducible refine Kd.C_drewN ?_ _) | (with_reducible refine Kd.C_drew ?_))); (case side2 => exact HC123_10.out); (case side3 => repeat (first | exact (Kd.C_below HR1.out HB.out) | (with_reducible refine Kd.C_alloc ?_ _) | (with_reducible refine Kd.C_drewN ?_ _) | (with_reducible refine Kd.C_drew ?_))); (case side4 => exact HC1.out); rintro e w9 ⟨rfl, hb⟩; have n0_ := Aside0.mk (below_step (by repeat (first | (with_reducible first | exact HB.out | apply below_alloc | apply pw_below_drewN | apply below_drew1) | exact HB.out)) hb); clear HB; have HB := n0_; clear n0_; (try clear hb); (try clear hb2); (try clear hk); (try clear hi)))
     go_roundg k1
     case measure => have := HK1.out; omega
     case rel => exact ⟨(wrap64 (x8_1 + 1)), (by first | rfl | (simp; done) | (simp [*]; done) | (simp [bne_nil_]; done)), H', ⟨by have := HK1.out; omega⟩, ⟨by repeat (first | (with_reducible first | exact HB.out | apply below_alloc | apply pw_below_drewN | apply below_drew1) | exact HB.out)⟩⟩
   ·rw [if_neg c3] at H
    have c3b0 : decide (x8_1 < (l0.length : Int)) = false := decide_eq_false c3
    clear c3
    obtain rfl := Option.some.inj H
    go_wp2
    go_ret
    exact ⟨by first | rfl | (simp [errW_none, errW_some] <;> rfl) | (simp [*, errW_none, errW_some] <;> rfl), by repeat (first | (with_reducible first | exact HB.out | apply below_alloc | apply pw_below_drewN | apply below_drew1) | exact HB.out)⟩

/-! ### pend_Find: function 10 -/
def pend_Find.f (k : Nat) (l0 : List (S32)) (a1 : Int) : Option (Int) := (slices_IndexFunc__Find_1.f k l0 ([a1] : List Int)).bind fun t126 => (some t126)
theorem pend_Find.mono : ∀ a0 a1 k, LeO (pend_Find.f k a0 a1) (pend_Find.f (k + 1) a0 a1) := by
 intro a0 a1 k
 unfold pend_Find.f
 repeat' first
  | (with_reducible exact slices_IndexFunc__Find_1.mono _ _ _)
  | (with_reducible exact LeO.refl _)
  | (with_reducible exact LeO.none _)
  | (with_reducible refine LeO.ite ?_ ?_)
  | (with_reducible refine LeO.bind ?_ (fun _ => ?_))
  | exact slices_IndexFunc__Find_1.mono _ _ _
  | exact LeO.none _
  | refine LeO.ite ?_ ?_
  | refine LeO.bind ?_ (fun _ => ?_)
set_option maxHeartbeats 8000000 in
set_option maxRecDepth 100000 in
theorem pend_Find.calls (k : Nat) (A0 : Option Addr) (c0 : Nat) (l0 : List (S32)) (a1 : Int) (r : Int) (w : World) (hr0 : Kd.C k32 w A0 l0.length l0) (hc0 : l0.length ≤ c0) (h : pend_Find.f k l0 a1 = some r) :
 Calls Try.prog 10 #[.slice A0 l0.length c0, .int .i64 a1] w fun e w' => e = .returned (.int .i64 r) ∧ Below w.heap.size w w' := by
 have hu900003 := Try.underlying3
 have hmf : ∀ (fn : Fn) (first cap : Array Value) (w : World), (Instr.makeFunc fn first cap).run Try.prog w = .ok (.func fn first cap) w := fun _ _ _ _ => rfl
 have HR0 := Aside0.mk hr0
 have HC0 := Aside0.mk hc0
 clear hr0 hc0
 have HB := Aside0.mk (Below.refl w.heap.size w)
 have H : ((slices_IndexFunc__Find_1.f k l0 ([a1] : List Int)).bind fun t126 => (some t126)) = some r := h
 clear h
 replace H := Option.bind_eq_some_iff.mp H
 obtain ⟨t126, A30, H⟩ := H
 replace H : (some t126) = some r := H
 have A3 := Aside0.mk A30
 clear A30
 obtain rfl := Option.some.inj H
 go_enter Try.func10, Try.ntmps10
 go_wp2_with (first | ((with_reducible refine gate_dst (N := 3) rfl ?_); refine box_event ?hg (N := 3) ?hd (cs := #[.int .i64 a1]) (t := 3) ?hr ?_; (case hd => rfl); (case hg => rfl); (case hr => first | (go_simp; done) | (go_simp; rfl)); intro gb125 hg w4 hbox hb; have n0_ := Aside0.mk (below_step (by repeat (first | (with_reducible first | exact HB.out | apply below_alloc | apply pw_below_drewN | apply below_drew1) | exact HB.out)) hb); have n1_ := Aside0.mk (hbox); have n2_ := Aside0.mk ((by rw [hg]; exact (below_size (by repeat (first | (with_reducible first | exact HB.out | apply below_alloc | apply pw_below_drewN | apply below_drew1) | exact HB.out))) : w.heap.size ≤ gb125)); have n3_ := Aside0.mk ((by rw [hg]; exact (below_size (by repeat (first | (with_reducible first | exact HB.out | apply below_alloc | apply pw_below_drewN | apply below_drew1) | exact HB.out))) : w.heap.size ≤ gb125)); clear HB; have HB := n0_; have BK125 := n1_; have GW125 := n2_; have GE125 := n3_; clear n0_ n1_ n2_ n3_; clear hb hbox hg) | ((with_reducible refine gate_callee (f := 26) rfl ?_); refine goesL_ (some 7) rfl rfl Try.func26 (by kernel_rfl) rfl #[.slice A0 l0.length c0, .func (.func 27) #[] #[.pointer (some ⟨gb125, 0, none⟩)]] rfl (by (try simp only [List.map_toArray, List.map_cons, List.map_nil]); first | done | rfl | (simp only [List.length_drop, List.length_take]; rfl)) ?_; (with_reducible refine (slices_IndexFunc__Find_1.calls k _ _ l0 _ 1 ([a1] : List Int) t126 _ ?side1 ?side2 ?side3 ?side4 A3.out).mono ?_); (case side1 => repeat (first | exact (Kd.C_below HR0.out HB.out) | (with_reducible refine Kd.C_alloc ?_ _) | (with_reducible refine Kd.C_drewN ?_ _) | (with_reducible refine Kd.C_drew ?_))); (case side2 => exact HC0.out); (case side3 => exact cap_box (by (with_reducible repeat (first | refine blk_drewN ?_ _ | refine blk_drew ?_ | refine blk_alloc ?_ _)); exact BK125.out) (by first | rfl | exact (by decide))); (case side4 => exact Nat.le_refl 1); rintro e w5 ⟨rfl, hb⟩; refine ⟨_, rfl, ?_⟩; have n0_ := Aside0.mk (blk_below (g := gb125) (o := .cells #[.int .i64 a1] 3 (0, 0)) (by (with_reducible repeat (first | refine blk_drewN ?_ _ | refine blk_drew ?_ | refine blk_alloc ?_ _)); exact BK125.out) hb); have n1_ := Aside0.mk (below_step (by repeat (first | (with_reducible first | exact HB.out | apply below_alloc | apply pw_below_drewN | apply below_drew1 | refine below_set ?_ GE125.out) | exact HB.out)) hb); clear BK125; clear HB; have BK125 := n0_; have HB := n1_; clear n0_ n1_; (try clear hb); (try clear hb2); (try clear hk); (try clear hi)))
 go_ret
 exact ⟨by first | rfl | (simp [errW_none, errW_some] <;> rfl) | (simp [*, errW_none, errW_some] <;> rfl), by repeat (first | (with_reducible first | exact HB.out | apply below_alloc | apply pw_below_drewN | apply below_drew1 | refine below_set ?_ GE125.out) | exact HB.out)⟩

end Go.Proofs.Ytnmloapejbnejaa.P

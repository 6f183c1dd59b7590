-- Written by a program of this session (wip/mkprint.py). Not trusted: Lean checks it.
import Derived.Test.YtfapfpkijeaapaaP0
namespace Go.Proofs.Ytfapfpkijeaapaa.P
open Go.RowKit Go.Proofs.YtfapfpkijeaapaaW.PrintWords Go.Proofs.YtfapfpkijeaapaaW.PrintLast Go.Proofs.YtfapfpkijeaapaaW.PrintMore
attribute [local go_sem] max2_int min2_int max_two min_two max_three min_three max_four min_four   -- for this text's walks alone
set_option linter.unusedVariables false
set_option linter.unusedSimpArgs false

/-! ### law27_few: function 6 -/
def law27_few.l0 : Nat → List (S40) → Int → Option (Bool)
 | 0, _, _ => none
 | k + 1, x0, x3 => if x3 < (x0.length : Int) then (if 0 ≤ x3 then (if (((rd_T40 x0 x3).f2).size : Int) > 300 then (some false) else (law27_few.l0 k x0 (wrap64 (x3 + 1)))) else (none)) else (some true)
def law27_few.f (k : Nat) (l0 : List (S40)) : Option (Bool) := if (l0.length : Int) > 60 then (some false) else (law27_few.l0 k l0 0)
theorem law27_few.mono_l : ∀ k, (∀ y0 y1, LeO (law27_few.l0 k y0 y1) (law27_few.l0 (k + 1) y0 y1))
 | 0 => fun _ _ r h => by simp [law27_few.l0] at h
 | k + 1 => by
  have ih0 := law27_few.mono_l k
  ·intro y0 y1
   unfold law27_few.l0
   repeat' first
   | (with_reducible exact ih0 _ _)
   | (with_reducible exact LeO.refl _)
   | (with_reducible exact LeO.none _)
   | (with_reducible refine LeO.ite ?_ ?_)
   | (with_reducible refine LeO.bind ?_ (fun _ => ?_))
   | exact ih0 _ _
   | exact LeO.none _
   | refine LeO.ite ?_ ?_
   | refine LeO.bind ?_ (fun _ => ?_)
theorem law27_few.mono : ∀ a0 k, LeO (law27_few.f k a0) (law27_few.f (k + 1) a0) := by
 intro a0 k
 have ih0 := law27_few.mono_l k
 unfold law27_few.f
 repeat' first
  | (with_reducible exact ih0 _ _)
  | (with_reducible exact LeO.refl _)
  | (with_reducible exact LeO.none _)
  | (with_reducible refine LeO.ite ?_ ?_)
  | (with_reducible refine LeO.bind ?_ (fun _ => ?_))
  | exact ih0 _ _
  | exact LeO.none _
  | refine LeO.ite ?_ ?_
  | refine LeO.bind ?_ (fun _ => ?_)
set_option maxHeartbeats 8000000 in
set_option maxRecDepth 100000 in
theorem law27_few.calls (k : Nat) (A0 : Option Addr) (c0 : Nat) (l0 : List (S40)) (r : Bool) (w : World) (hr0 : Kd.C k40 w A0 l0.length l0) (hc0 : l0.length ≤ c0) (h : law27_few.f k l0 = some r) :
 Calls Try.prog 6 #[.slice A0 l0.length c0] w fun e w' => e = .returned (.bool r) ∧ Drawn0 w w' := by
 have HR0 := Aside0.mk hr0
 have HC0 := Aside0.mk hc0
 clear hr0 hc0
 have H : (if (l0.length : Int) > 60 then (some false) else (law27_few.l0 k l0 0)) = some r := h
 clear h
 by_cases c2 : (l0.length : Int) > 60
 ·rw [if_pos c2] at H
  have c2b0 : decide (60 < (l0.length : Int)) = true := zW c2
  have c2b1 : decide (60 < l0.length) = true := zW (by omega)
  clear c2
  obtain rfl := Option.some.inj H
  go_enter Try.func6, Try.ntmps6
  go_wp2
  go_ret
  exact ⟨by first | rfl | (simp; done) | (simp [*]; done), by repeat (first | exact Drawn0.refl _ | apply Drawn0.step)⟩
 ·rw [if_neg c2] at H
  have c2b0 : decide (60 < (l0.length : Int)) = false := decide_eq_false c2
  have c2b1 : decide (60 < l0.length) = false := decide_eq_false (by omega)
  clear c2
  have H' := Aside0.mk H
  clear H
  go_enter Try.func6, Try.ntmps6
  go_wp2
  go_loopg [3] k (fun kq v3 w' => ∃ (x3_1 : Int), v3 = .int .i64 x3_1 ∧ Aside0 (law27_few.l0 kq l0 x3_1 = some r) ∧ Aside0 (kq ≤ k) ∧ Drawn0 w w')
  case atStart => exact ⟨(0), (by first | rfl | (simp; done) | (simp [*]; done) | (simp [bne_nil_]; done)), H', ⟨Nat.le_refl _⟩, by repeat (first | exact Drawn0.refl _ | apply Drawn0.step)⟩
  case round =>
   clear H'
   try clear c2
   try clear c2b0
   try clear c2b1
   try clear p2
   obtain ⟨x3_1, rfl, HA, HK1, ⟨m1, rfl⟩⟩ := hrel
   cases gk with
   | zero => exact absurd HA.out (by simp [law27_few.l0])
   | succ k1 =>
    have H := HA.out
    clear HA
    simp only [law27_few.l0] at H
    by_cases c3 : x3_1 < (l0.length : Int)
    ·rw [if_pos c3] at H
     have c3b0 : decide (x3_1 < (l0.length : Int)) = true := zW c3
     clear c3
     by_cases c4 : 0 ≤ x3_1
     rotate_left
     ·rw [if_neg c4] at H
      exact absurd H (by simp)
     rw [if_pos c4] at H
     have c4b0 : decide (0 ≤ x3_1) = true := zW c4
     clear c4
     by_cases c5 : (((rd_T40 l0 x3_1).f2).size : Int) > 300
     ·rw [if_pos c5] at H
      have c5b0 : decide (300 < (((rd_T40 l0 x3_1).f2).size : Int)) = true := zW c5
      have c5b1 : decide (300 < ((rd_T40 l0 x3_1).f2).size) = true := zW (by omega)
      clear c5
      obtain rfl := Option.some.inj H
      have p101 : 0 ≤ (x3_1 : Int) := zV (by first | (with_reducible assumption) | assumption)
      have q101 : x3_1 < (l0.length : Int) := zV (by first | (with_reducible assumption) | assumption)
      obtain ⟨ad101, e101, hx101_0, hx101_1, hx101_2⟩ := at_T40 HR0.out x3_1 p101 q101
      cases e101
      replace p101 := eq_true p101
      replace q101 := eq_true q101
      go_wp2
      go_ret
      exact ⟨by first | rfl | (simp; done) | (simp [*]; done), by repeat (first | exact Drawn0.refl _ | apply Drawn0.step)⟩
     ·rw [if_neg c5] at H
      have c5b0 : decide (300 < (((rd_T40 l0 x3_1).f2).size : Int)) = false := decide_eq_false c5
      have c5b1 : decide (300 < ((rd_T40 l0 x3_1).f2).size) = false := decide_eq_false (by omega)
      clear c5
      have H' := Aside0.mk H
      clear H
      have p101 : 0 ≤ (x3_1 : Int) := zV (by first | (with_reducible assumption) | assumption)
      have q101 : x3_1 < (l0.length : Int) := zV (by first | (with_reducible assumption) | assumption)
      obtain ⟨ad101, e101, hx101_0, hx101_1, hx101_2⟩ := at_T40 HR0.out x3_1 p101 q101
      cases e101
      replace p101 := eq_true p101
      replace q101 := eq_true q101
      go_wp2
      go_roundg k1
      case measure => have := HK1.out; omega
      case rel => exact ⟨(wrap64 (x3_1 + 1)), (by first | rfl | (simp; done) | (simp [*]; done) | (simp [bne_nil_]; done)), H', ⟨by have := HK1.out; omega⟩, by repeat (first | exact Drawn0.refl _ | apply Drawn0.step)⟩
    ·rw [if_neg c3] at H
     have c3b0 : decide (x3_1 < (l0.length : Int)) = false := decide_eq_false c3
     clear c3
     obtain rfl := Option.some.inj H
     go_wp2
     go_ret
     exact ⟨by first | rfl | (simp; done) | (simp [*]; done), by repeat (first | exact Drawn0.refl _ | apply Drawn0.step)⟩

/-! ### audit_signed: function 45 -/
def audit_signed.f (a0 : Int) : Option (Int) := some (wrap64 (IntKind.i8.wrap (a0)))
set_option maxHeartbeats 8000000 in
set_option maxRecDepth 100000 in
theorem audit_signed.calls (a0 : Int) (r : Int) (w : World) (h : audit_signed.f a0 = some r) :
 Calls Try.prog 45 #[.int .u8 a0] w fun e w' => e = .returned (.int .i64 r) ∧ Drawn0 w w' := by
 have H : (some (wrap64 (IntKind.i8.wrap (a0)))) = some r := h
 clear h
 obtain rfl := Option.some.inj H
 go_enter Try.func45, Try.ntmps45
 go_wp2
 go_ret
 exact ⟨by first | rfl | (simp; done) | (simp [*]; done), by repeat (first | exact Drawn0.refl _ | apply Drawn0.step)⟩

/-! ### audit_Right: function 46 -/
def audit_Right.l0 : Nat → List (S88) → Int → Int → Option (Bool)
 | 0, _, _, _ => none
 | k + 1, x32, x33, x34 => if x34 < x33 then (if 0 ≤ x34 then (if x34 < (x32.length : Int) then (if ((rd_T88 x32 x34).f0) < ((rd_T88 x32 x34).f1) then (some false) else (if ((rd_T88 x32 x34).f0) > ((rd_T88 x32 x34).f2) then (some false) else (audit_Right.l0 k x32 x33 (wrap64 (x34 + 1))))) else (none)) else (none)) else (some true)
def audit_Right.f (k : Nat) (a0_0 : Int) (a0_1 : Int) (a0_2 : Int) (a0_3 : Int) (a0_4 : Int) (a0_5 : Int) (a0_6 : Int) (a0_7 : Int) (a0_8 : Int) : Option (Bool) := (some (([(⟨a0_0, 0, 1099511627776⟩ : S88), (⟨a0_1, 0, 1099511627776⟩ : S88), (⟨a0_2, 1, 4⟩ : S88), (⟨a0_3, (-1), 15⟩ : S88), (⟨a0_4, 0, 255⟩ : S88), (⟨a0_5, 0, 255⟩ : S88), (⟨a0_6, 0, 255⟩ : S88), (⟨a0_7, (-1), 63⟩ : S88), (⟨a0_8, 0, 65535⟩ : S88)] : List (S88)) : List (S88))).bind fun y103 => (audit_Right.l0 k y103 (y103.length : Int) 0)
theorem audit_Right.mono_l : ∀ k, (∀ y0 y1 y2, LeO (audit_Right.l0 k y0 y1 y2) (audit_Right.l0 (k + 1) y0 y1 y2))
 | 0 => fun _ _ _ r h => by simp [audit_Right.l0] at h
 | k + 1 => by
  have ih0 := audit_Right.mono_l k
  ·intro y0 y1 y2
   unfold audit_Right.l0
   repeat' first
   | (with_reducible exact ih0 _ _ _)
   | (with_reducible exact LeO.refl _)
   | (with_reducible exact LeO.none _)
   | (with_reducible refine LeO.ite ?_ ?_)
   | (with_reducible refine LeO.bind ?_ (fun _ => ?_))
   | exact ih0 _ _ _
   | exact LeO.none _
   | refine LeO.ite ?_ ?_
   | refine LeO.bind ?_ (fun _ => ?_)
theorem audit_Right.mono : ∀ a0 a1 a2 a3 a4 a5 a6 a7 a8 k, LeO (audit_Right.f k a0 a1 a2 a3 a4 a5 a6 a7 a8) (audit_Right.f (k + 1) a0 a1 a2 a3 a4 a5 a6 a7 a8) := by
 intro a0 a1 a2 a3 a4 a5 a6 a7 a8 k
 have ih0 := audit_Right.mono_l k
 unfold audit_Right.f
 repeat' first
  | (with_reducible exact ih0 _ _ _)
  | (with_reducible exact LeO.refl _)
  | (with_reducible exact LeO.none _)
  | (with_reducible refine LeO.ite ?_ ?_)
  | (with_reducible refine LeO.bind ?_ (fun _ => ?_))
  | exact ih0 _ _ _
  | exact LeO.none _
  | refine LeO.ite ?_ ?_
  | refine LeO.bind ?_ (fun _ => ?_)
set_option maxHeartbeats 8000000 in
set_option maxRecDepth 100000 in
theorem audit_Right.calls (k : Nat) (a0_0 : Int) (a0_1 : Int) (a0_2 : Int) (a0_3 : Int) (a0_4 : Int) (a0_5 : Int) (a0_6 : Int) (a0_7 : Int) (a0_8 : Int) (r : Bool) (w : World) (h : audit_Right.f k a0_0 a0_1 a0_2 a0_3 a0_4 a0_5 a0_6 a0_7 a0_8 = some r) :
 Calls Try.prog 46 #[.agg #[.int .i64 a0_0, .int .i64 a0_1, .int .i64 a0_2, .int .i64 a0_3, .int .i64 a0_4, .int .i64 a0_5, .int .i64 a0_6, .int .i64 a0_7, .int .i64 a0_8]] w fun e w' => e = .returned (.bool r) ∧ Below w.heap.size w w' := by
 have hu48 := Try.underlying48
 have hu88 := Try.underlying88
 have HB := Aside0.mk (Below.refl w.heap.size w)
 have H : ((some (([(⟨a0_0, 0, 1099511627776⟩ : S88), (⟨a0_1, 0, 1099511627776⟩ : S88), (⟨a0_2, 1, 4⟩ : S88), (⟨a0_3, (-1), 15⟩ : S88), (⟨a0_4, 0, 255⟩ : S88), (⟨a0_5, 0, 255⟩ : S88), (⟨a0_6, 0, 255⟩ : S88), (⟨a0_7, (-1), 63⟩ : S88), (⟨a0_8, 0, 65535⟩ : S88)] : List (S88)) : List (S88))).bind fun y103 => (audit_Right.l0 k y103 (y103.length : Int) 0)) = some r := h
 clear h
 obtain ⟨y103, hy103⟩ : ∃ y_ : List (S88), y_ = (([(⟨a0_0, 0, 1099511627776⟩ : S88), (⟨a0_1, 0, 1099511627776⟩ : S88), (⟨a0_2, 1, 4⟩ : S88), (⟨a0_3, (-1), 15⟩ : S88), (⟨a0_4, 0, 255⟩ : S88), (⟨a0_5, 0, 255⟩ : S88), (⟨a0_6, 0, 255⟩ : S88), (⟨a0_7, (-1), 63⟩ : S88), (⟨a0_8, 0, 65535⟩ : S88)] : List (S88))) := ⟨_, rfl⟩
 replace H : (audit_Right.l0 k y103 (y103.length : Int) 0) = some r := by first | (rw [hy103]; with_reducible exact H) | (have H2_ := (Option.bind_some _ _).symm.trans H; rw [hy103]; with_reducible exact H2_) | (have H2_ := (Option.bind_some _ _).symm.trans H; with_reducible exact H2_) | with_reducible exact H | (rw [hy103]; exact H) | exact H
 have Ny103 := Aside0.mk hy103
 clear hy103
 have H' := Aside0.mk H
 clear H
 go_enter Try.func46, Try.ntmps46
 go_wp2_with (first | ((with_reducible refine gate_dst (N := 1) rfl ?_); refine box_event ?hg (N := 1) ?hd (cs := #[.int .i64 a0_0, .int .i64 a0_1, .int .i64 a0_2, .int .i64 a0_3, .int .i64 a0_4, .int .i64 a0_5, .int .i64 a0_6, .int .i64 a0_7, .int .i64 a0_8]) (t := 48) ?hr ?_; (case hd => rfl); (case hg => rfl); (case hr => first | (go_simp; done) | (go_simp; rfl)); intro gb102 hg w2 hbox hb; have n0_ := Aside0.mk (zU (by repeat (first | (with_reducible first | exact HB.out | apply zF | apply zD | apply zE) | exact HB.out)) hb); have n1_ := Aside0.mk (hbox); have n2_ := Aside0.mk ((by rw [hg]; exact (zT (by repeat (first | (with_reducible first | exact HB.out | apply zF | apply zD | apply zE) | exact HB.out))) : w.heap.size ≤ gb102)); have n3_ := Aside0.mk ((by rw [hg]; exact (zT (by repeat (first | (with_reducible first | exact HB.out | apply zF | apply zD | apply zE) | exact HB.out))) : w.heap.size ≤ gb102)); clear HB; have HB := n0_; have BK102 := n1_; have GW102 := n2_; have GE102 := n3_; clear n0_ n1_ n2_ n3_; clear hb hbox hg; have hcz3_0 : w2.cell? ⟨gb102, 0, none⟩ = some (.int .i64 a0_0) := (zK BK102.out 0).trans rfl; have hcz3_1 : w2.cell? ⟨gb102, 1, none⟩ = some (.int .i64 a0_1) := (zK BK102.out 1).trans rfl; have hcz3_2 : w2.cell? ⟨gb102, 2, none⟩ = some (.int .i64 a0_2) := (zK BK102.out 2).trans rfl; have hcz3_3 : w2.cell? ⟨gb102, 3, none⟩ = some (.int .i64 a0_3) := (zK BK102.out 3).trans rfl; have hcz3_4 : w2.cell? ⟨gb102, 4, none⟩ = some (.int .i64 a0_4) := (zK BK102.out 4).trans rfl; have hcz3_5 : w2.cell? ⟨gb102, 5, none⟩ = some (.int .i64 a0_5) := (zK BK102.out 5).trans rfl; have hcz3_6 : w2.cell? ⟨gb102, 6, none⟩ = some (.int .i64 a0_6) := (zK BK102.out 6).trans rfl; have hcz3_7 : w2.cell? ⟨gb102, 7, none⟩ = some (.int .i64 a0_7) := (zK BK102.out 7).trans rfl; have hcz3_8 : w2.cell? ⟨gb102, 8, none⟩ = some (.int .i64 a0_8) := (zK BK102.out 8).trans rfl; have hfz3_0 := zL BK102.out 0; have hfz3_1 := zL BK102.out 1; have hfz3_2 := zL BK102.out 2; have hfz3_3 := zL BK102.out 3; have hfz3_4 := zL BK102.out 4; have hfz3_5 := zL BK102.out 5; have hfz3_6 := zL BK102.out 6; have hfz3_7 := zL BK102.out 7; have hfz3_8 := zL BK102.out 8) | ((with_reducible refine gate_dst (N := 32) rfl ?_); refine Kd.R_lit k88 _ 88 ?hg (N := 32) ?hd (xs := ([(⟨a0_0, 0, 1099511627776⟩ : S88), (⟨a0_1, 0, 1099511627776⟩ : S88), (⟨a0_2, 1, 4⟩ : S88), (⟨a0_3, (-1), 15⟩ : S88), (⟨a0_4, 0, 255⟩ : S88), (⟨a0_5, 0, 255⟩ : S88), (⟨a0_6, 0, 255⟩ : S88), (⟨a0_7, (-1), 63⟩ : S88), (⟨a0_8, 0, 65535⟩ : S88)] : List (S88))) (inner := [.int .i64 a0_0, .int .i64 0, .int .i64 1099511627776, .int .i64 a0_1, .int .i64 0, .int .i64 1099511627776, .int .i64 a0_2, .int .i64 1, .int .i64 4, .int .i64 a0_3, .int .i64 (-1), .int .i64 15, .int .i64 a0_4, .int .i64 0, .int .i64 255, .int .i64 a0_5, .int .i64 0, .int .i64 255, .int .i64 a0_6, .int .i64 0, .int .i64 255, .int .i64 a0_7, .int .i64 (-1), .int .i64 63, .int .i64 a0_8, .int .i64 0, .int .i64 65535]) (ok := fun _ => True) (okp := fun _ => True) ?hr ?hp (fun _ hk => hk) trivial (Below.refl _ _) (Nat.le_refl _) (by simp) ?_; (case hd => rfl); (case hg => rfl); (case hr => first | (go_simp; done) | (go_simp; rfl)); (case hp => exact (Reps.c3 (show Kd.M k88 _ _ _ (⟨a0_0, 0, 1099511627776⟩ : S88) [.int .i64 a0_0, .int .i64 0, .int .i64 1099511627776] from (k88_mkM _ _ _ (⟨a0_0, 0, 1099511627776⟩ : S88) )) (Reps.c3 (show Kd.M k88 _ _ _ (⟨a0_1, 0, 1099511627776⟩ : S88) [.int .i64 a0_1, .int .i64 0, .int .i64 1099511627776] from (k88_mkM _ _ _ (⟨a0_1, 0, 1099511627776⟩ : S88) )) (Reps.c3 (show Kd.M k88 _ _ _ (⟨a0_2, 1, 4⟩ : S88) [.int .i64 a0_2, .int .i64 1, .int .i64 4] from (k88_mkM _ _ _ (⟨a0_2, 1, 4⟩ : S88) )) (Reps.c3 (show Kd.M k88 _ _ _ (⟨a0_3, (-1), 15⟩ : S88) [.int .i64 a0_3, .int .i64 (-1), .int .i64 15] from (k88_mkM _ _ _ (⟨a0_3, (-1), 15⟩ : S88) )) (Reps.c3 (show Kd.M k88 _ _ _ (⟨a0_4, 0, 255⟩ : S88) [.int .i64 a0_4, .int .i64 0, .int .i64 255] from (k88_mkM _ _ _ (⟨a0_4, 0, 255⟩ : S88) )) (Reps.c3 (show Kd.M k88 _ _ _ (⟨a0_5, 0, 255⟩ : S88) [.int .i64 a0_5, .int .i64 0, .int .i64 255] from (k88_mkM _ _ _ (⟨a0_5, 0, 255⟩ : S88) )) (Reps.c3 (show Kd.M k88 _ _ _ (⟨a0_6, 0, 255⟩ : S88) [.int .i64 a0_6, .int .i64 0, .int .i64 255] from (k88_mkM _ _ _ (⟨a0_6, 0, 255⟩ : S88) )) (Reps.c3 (show Kd.M k88 _ _ _ (⟨a0_7, (-1), 63⟩ : S88) [.int .i64 a0_7, .int .i64 (-1), .int .i64 63] from (k88_mkM _ _ _ (⟨a0_7, (-1), 63⟩ : S88) )) (Reps.c3 (show Kd.M k88 _ _ _ (⟨a0_8, 0, 65535⟩ : S88) [.int .i64 a0_8, .int .i64 0, .int .i64 65535] from (k88_mkM _ _ _ (⟨a0_8, 0, 65535⟩ : S88) )) (Reps.none _ _))))))))))); intro v104 w4 ho5 hb hg_ hnew_; clear hg_ hnew_; (first | rw [← Ny103.out] at ho5 | (simp only [Int.reduceToNat] at ho5; rw [← Ny103.out] at ho5)); have n0_ := Aside0.mk (Kd.R_lower ho5 (zT (by repeat (first | (with_reducible first | exact HB.out | apply zF | apply zD | apply zE | refine zJ ?_ GE102.out) | exact HB.out)))); have n1_ := Aside0.mk (blk_below (g := gb102) (o := .cells #[.int .i64 a0_0, .int .i64 a0_1, .int .i64 a0_2, .int .i64 a0_3, .int .i64 a0_4, .int .i64 a0_5, .int .i64 a0_6, .int .i64 a0_7, .int .i64 a0_8] 48 (0, 0)) (by (with_reducible repeat (first | refine zH ?_ _ | refine zI ?_ | refine zG ?_ _)); exact BK102.out) hb); have n2_ := Aside0.mk (zU (by repeat (first | (with_reducible first | exact HB.out | apply zF | apply zD | apply zE | refine zJ ?_ GE102.out) | exact HB.out)) hb); clear BK102; clear HB; have HO105 := n0_; have BK102 := n1_; have HB := n2_; clear n0_ n1_ n2_; clear hb ho5; obtain ⟨Ao6, co6, eo6⟩ := Kd.R_slice HO105.out; subst eo6))
 go_loopg [34] k (fun kq v34 w' => ∃ (x34_1 : Int), v34 = .int .i64 x34_1 ∧ Aside0 (audit_Right.l0 kq y103 (y103.length : Int) x34_1 = some r) ∧ Aside0 (kq ≤ k) ∧ Aside0 (Kd.R k88 88 w' w.heap.size (fun _ => True) (.slice Ao6 y103.length co6) y103) ∧ Aside0 (w'.heap[gb102]? = some (.cells #[.int .i64 a0_0, .int .i64 a0_1, .int .i64 a0_2, .int .i64 a0_3, .int .i64 a0_4, .int .i64 a0_5, .int .i64 a0_6, .int .i64 a0_7, .int .i64 a0_8] 48 (0, 0))) ∧ Aside0 (Below w.heap.size w w'))
 case atStart => exact ⟨(0), (by first | rfl | (simp; done) | (simp [*]; done) | (simp [bne_nil_]; done)), H', ⟨Nat.le_refl _⟩, ⟨by (with_reducible repeat (first | apply zY | apply zX | apply zZ)); exact HO105.out⟩, ⟨by (with_reducible repeat (first | refine zH ?_ _ | refine zI ?_ | refine zG ?_ _)); exact BK102.out⟩, ⟨by repeat (first | (with_reducible first | exact HB.out | apply zF | apply zD | apply zE | refine zJ ?_ GE102.out) | exact HB.out)⟩⟩
 case round =>
  clear H'
  try clear p2
  try clear c3
  try clear c4
  try clear hcz3_0
  try clear hcz3_1
  try clear hcz3_2
  try clear hcz3_3
  try clear hcz3_4
  try clear hcz3_5
  try clear hcz3_6
  try clear hcz3_7
  try clear hcz3_8
  try clear hfz3_0
  try clear hfz3_1
  try clear hfz3_2
  try clear hfz3_3
  try clear hfz3_4
  try clear hfz3_5
  try clear hfz3_6
  try clear hfz3_7
  try clear hfz3_8
  obtain ⟨x34_1, rfl, HA, HK1, HO_32, BK102, HB⟩ := hrel
  cases gk with
  | zero => exact absurd HA.out (by simp [audit_Right.l0])
  | succ k1 =>
   have H := HA.out
   clear HA
   simp only [audit_Right.l0] at H
   by_cases c7 : x34_1 < (y103.length : Int)
   ·rw [if_pos c7] at H
    have c7b0 : decide (x34_1 < (y103.length : Int)) = true := zW c7
    clear c7
    by_cases c8 : 0 ≤ x34_1
    rotate_left
    ·rw [if_neg c8] at H
     exact absurd H (by simp)
    rw [if_pos c8] at H
    have c8b0 : decide (0 ≤ x34_1) = true := zW c8
    clear c8
    by_cases c9 : x34_1 < (y103.length : Int)
    rotate_left
    ·rw [if_neg c9] at H
     exact absurd H (by simp)
    rw [if_pos c9] at H
    have c9b0 : decide (x34_1 < (y103.length : Int)) = true := zW c9
    clear c9
    by_cases c10 : ((rd_T88 y103 x34_1).f0) < ((rd_T88 y103 x34_1).f1)
    ·rw [if_pos c10] at H
     have c10b0 : decide (((rd_T88 y103 x34_1).f0) < ((rd_T88 y103 x34_1).f1)) = true := zW c10
     clear c10
     obtain rfl := Option.some.inj H
     have p106 : 0 ≤ (x34_1 : Int) := zV (by first | (with_reducible assumption) | assumption)
     have q106 : x34_1 < (y103.length : Int) := zV (by first | (with_reducible assumption) | assumption)
     obtain ⟨ad106, e106, hx106_0, hx106_1, hx106_2⟩ := at_T88 (Kd.R_reads' HO_32.out).2.2 x34_1 p106 q106
     cases e106
     replace p106 := eq_true p106
     replace q106 := eq_true q106
     go_wp2_with (first | ((with_reducible refine gate_dst (N := 4) rfl ?_); refine box_event ?hg (N := 4) ?hd (cs := #[.int .i64 0, .int .i64 0, .int .i64 0]) (t := 88) ?hr ?_; (case hd => rfl); (case hg => rfl); (case hr => first | (go_simp; done) | (go_simp; rfl)); intro gb107 hg w11 hbox hb; have n0_ := Aside0.mk (Kd.R_below (Kd.R_elderB (by (with_reducible repeat (first | apply zY | apply zX | apply zZ)); exact HO_32.out) gb107 (Nat.le_of_eq hg.symm)) hb); have n1_ := Aside0.mk (blk_below (g := gb102) (o := .cells #[.int .i64 a0_0, .int .i64 a0_1, .int .i64 a0_2, .int .i64 a0_3, .int .i64 a0_4, .int .i64 a0_5, .int .i64 a0_6, .int .i64 a0_7, .int .i64 a0_8] 48 (0, 0)) (by (with_reducible repeat (first | refine zH ?_ _ | refine zI ?_ | refine zG ?_ _)); exact BK102.out) hb); have n2_ := Aside0.mk (zU (by repeat (first | (with_reducible first | exact HB.out | apply zF | apply zD | apply zE | refine zJ ?_ GE102.out) | exact HB.out)) hb); have n3_ := Aside0.mk (hbox); have n4_ := Aside0.mk ((by rw [hg]; exact (zT (by repeat (first | (with_reducible first | exact HB.out | apply zF | apply zD | apply zE | refine zJ ?_ GE102.out) | exact HB.out))) : w.heap.size ≤ gb107)); have n5_ := Aside0.mk ((by rw [hg]; exact (zT (by repeat (first | (with_reducible first | exact HB.out | apply zF | apply zD | apply zE | refine zJ ?_ GE102.out) | exact HB.out))) : w.heap.size ≤ gb107)); have n6_ := Aside0.mk ((by rw [hg]; exact Nat.ne_of_lt (blk_lt (g := gb102) (o := .cells #[.int .i64 a0_0, .int .i64 a0_1, .int .i64 a0_2, .int .i64 a0_3, .int .i64 a0_4, .int .i64 a0_5, .int .i64 a0_6, .int .i64 a0_7, .int .i64 a0_8] 48 (0, 0)) (by (with_reducible repeat (first | refine zH ?_ _ | refine zI ?_ | refine zG ?_ _)); exact BK102.out)) : gb102 ≠ gb107)); have n7_ := Aside0.mk ((by rw [hg]; exact Nat.ne_of_gt (blk_lt (g := gb102) (o := .cells #[.int .i64 a0_0, .int .i64 a0_1, .int .i64 a0_2, .int .i64 a0_3, .int .i64 a0_4, .int .i64 a0_5, .int .i64 a0_6, .int .i64 a0_7, .int .i64 a0_8] 48 (0, 0)) (by (with_reducible repeat (first | refine zH ?_ _ | refine zI ?_ | refine zG ?_ _)); exact BK102.out)) : gb107 ≠ gb102)); clear HO_32; clear BK102; clear HB; have HO_32 := n0_; have BK102 := n1_; have HB := n2_; have BK107 := n3_; have GW107 := n4_; have GE107 := n5_; have NB102_107 := n6_; have NB107_102 := n7_; clear n0_ n1_ n2_ n3_ n4_ n5_ n6_ n7_; clear hb hbox hg; have hnb12 := NB107_102.out; have hnc12 := NB102_107.out; have hcz13_0 : w11.cell? ⟨gb107, 0, none⟩ = some (.int .i64 0) := (zK BK107.out 0).trans rfl; have hcz13_1 : w11.cell? ⟨gb107, 1, none⟩ = some (.int .i64 0) := (zK BK107.out 1).trans rfl; have hcz13_2 : w11.cell? ⟨gb107, 2, none⟩ = some (.int .i64 0) := (zK BK107.out 2).trans rfl; have hfz13_0 := zL BK107.out 0; have hfz13_1 := zL BK107.out 1; have hfz13_2 := zL BK107.out 2))
     go_ret
     exact ⟨by first | rfl | (simp [errW_none, errW_some] <;> rfl) | (simp [*, errW_none, errW_some] <;> rfl), by repeat (first | (with_reducible first | exact HB.out | apply zF | apply zD | apply zE | refine zJ ?_ GE102.out | refine zJ ?_ GE107.out) | exact HB.out)⟩
    ·rw [if_neg c10] at H
     have c10b0 : decide (((rd_T88 y103 x34_1).f0) < ((rd_T88 y103 x34_1).f1)) = false := decide_eq_false c10
     clear c10
     by_cases c14 : ((rd_T88 y103 x34_1).f0) > ((rd_T88 y103 x34_1).f2)
     ·rw [if_pos c14] at H
      have c14b0 : decide (((rd_T88 y103 x34_1).f2) < ((rd_T88 y103 x34_1).f0)) = true := zW c14
      clear c14
      obtain rfl := Option.some.inj H
      have p106 : 0 ≤ (x34_1 : Int) := zV (by first | (with_reducible assumption) | assumption)
      have q106 : x34_1 < (y103.length : Int) := zV (by first | (with_reducible assumption) | assumption)
      obtain ⟨ad106, e106, hx106_0, hx106_1, hx106_2⟩ := at_T88 (Kd.R_reads' HO_32.out).2.2 x34_1 p106 q106
      cases e106
      replace p106 := eq_true p106
      replace q106 := eq_true q106
      go_wp2_with (first | ((with_reducible refine gate_dst (N := 4) rfl ?_); refine box_event ?hg (N := 4) ?hd (cs := #[.int .i64 0, .int .i64 0, .int .i64 0]) (t := 88) ?hr ?_; (case hd => rfl); (case hg => rfl); (case hr => first | (go_simp; done) | (go_simp; rfl)); intro gb107 hg w15 hbox hb; have n0_ := Aside0.mk (Kd.R_below (Kd.R_elderB (by (with_reducible repeat (first | apply zY | apply zX | apply zZ)); exact HO_32.out) gb107 (Nat.le_of_eq hg.symm)) hb); have n1_ := Aside0.mk (blk_below (g := gb102) (o := .cells #[.int .i64 a0_0, .int .i64 a0_1, .int .i64 a0_2, .int .i64 a0_3, .int .i64 a0_4, .int .i64 a0_5, .int .i64 a0_6, .int .i64 a0_7, .int .i64 a0_8] 48 (0, 0)) (by (with_reducible repeat (first | refine zH ?_ _ | refine zI ?_ | refine zG ?_ _)); exact BK102.out) hb); have n2_ := Aside0.mk (zU (by repeat (first | (with_reducible first | exact HB.out | apply zF | apply zD | apply zE | refine zJ ?_ GE102.out) | exact HB.out)) hb); have n3_ := Aside0.mk (hbox); have n4_ := Aside0.mk ((by rw [hg]; exact (zT (by repeat (first | (with_reducible first | exact HB.out | apply zF | apply zD | apply zE | refine zJ ?_ GE102.out) | exact HB.out))) : w.heap.size ≤ gb107)); have n5_ := Aside0.mk ((by rw [hg]; exact (zT (by repeat (first | (with_reducible first | exact HB.out | apply zF | apply zD | apply zE | refine zJ ?_ GE102.out) | exact HB.out))) : w.heap.size ≤ gb107)); have n6_ := Aside0.mk ((by rw [hg]; exact Nat.ne_of_lt (blk_lt (g := gb102) (o := .cells #[.int .i64 a0_0, .int .i64 a0_1, .int .i64 a0_2, .int .i64 a0_3, .int .i64 a0_4, .int .i64 a0_5, .int .i64 a0_6, .int .i64 a0_7, .int .i64 a0_8] 48 (0, 0)) (by (with_reducible repeat (first | refine zH ?_ _ | refine zI ?_ | refine zG ?_ _)); exact BK102.out)) : gb102 ≠ gb107)); have n7_ := Aside0.mk ((by rw [hg]; exact Nat.ne_of_gt (blk_lt (g := gb102) (o := .cells #[.int .i64 a0_0, .int .i64 a0_1, .int .i64 a0_2, .int .i64 a0_3, .int .i64 a0_4, .int .i64 a0_5, .int .i64 a0_6, .int .i64 a0_7, .int .i64 a0_8] 48 (0, 0)) (by (with_reducible repeat (first | refine zH ?_ _ | refine zI ?_ | refine zG ?_ _)); exact BK102.out)) : gb107 ≠ gb102)); clear HO_32; clear BK102; clear HB; have HO_32 := n0_; have BK102 := n1_; have HB := n2_; have BK107 := n3_; have GW107 := n4_; have GE107 := n5_; have NB102_107 := n6_; have NB107_102 := n7_; clear n0_ n1_ n2_ n3_ n4_ n5_ n6_ n7_; clear hb hbox hg; have hnb16 := NB107_102.out; have hnc16 := NB102_107.out; have hcz17_0 : w15.cell? ⟨gb107, 0, none⟩ = some (.int .i64 0) := (zK BK107.out 0).trans rfl; have hcz17_1 : w15.cell? ⟨gb107, 1, none⟩ = some (.int .i64 0) := (zK BK107.out 1).trans rfl; have hcz17_2 : w15.cell? ⟨gb107, 2, none⟩ = some (.int .i64 0) := (zK BK107.out 2).trans rfl; have hfz17_0 := zL BK107.out 0; have hfz17_1 := zL BK107.out 1; have hfz17_2 := zL BK107.out 2))
      go_ret
      exact ⟨by first | rfl | (simp [errW_none, errW_some] <;> rfl) | (simp [*, errW_none, errW_some] <;> rfl), by repeat (first | (with_reducible first | exact HB.out | apply zF | apply zD | apply zE | refine zJ ?_ GE102.out | refine zJ ?_ GE107.out) | exact HB.out)⟩
     ·rw [if_neg c14] at H
      have c14b0 : decide (((rd_T88 y103 x34_1).f2) < ((rd_T88 y103 x34_1).f0)) = false := decide_eq_false c14
      clear c14
      have H' := Aside0.mk H
      clear H
      have p106 : 0 ≤ (x34_1 : Int) := zV (by first | (with_reducible assumption) | assumption)
      have q106 : x34_1 < (y103.length : Int) := zV (by first | (with_reducible assumption) | assumption)
      obtain ⟨ad106, e106, hx106_0, hx106_1, hx106_2⟩ := at_T88 (Kd.R_reads' HO_32.out).2.2 x34_1 p106 q106
      cases e106
      replace p106 := eq_true p106
      replace q106 := eq_true q106
      go_wp2_with (first | ((with_reducible refine gate_dst (N := 4) rfl ?_); refine box_event ?hg (N := 4) ?hd (cs := #[.int .i64 0, .int .i64 0, .int .i64 0]) (t := 88) ?hr ?_; (case hd => rfl); (case hg => rfl); (case hr => first | (go_simp; done) | (go_simp; rfl)); intro gb107 hg w18 hbox hb; have n0_ := Aside0.mk (Kd.R_below (Kd.R_elderB (by (with_reducible repeat (first | apply zY | apply zX | apply zZ)); exact HO_32.out) gb107 (Nat.le_of_eq hg.symm)) hb); have n1_ := Aside0.mk (blk_below (g := gb102) (o := .cells #[.int .i64 a0_0, .int .i64 a0_1, .int .i64 a0_2, .int .i64 a0_3, .int .i64 a0_4, .int .i64 a0_5, .int .i64 a0_6, .int .i64 a0_7, .int .i64 a0_8] 48 (0, 0)) (by (with_reducible repeat (first | refine zH ?_ _ | refine zI ?_ | refine zG ?_ _)); exact BK102.out) hb); have n2_ := Aside0.mk (zU (by repeat (first | (with_reducible first | exact HB.out | apply zF | apply zD | apply zE | refine zJ ?_ GE102.out) | exact HB.out)) hb); have n3_ := Aside0.mk (hbox); have n4_ := Aside0.mk ((by rw [hg]; exact (zT (by repeat (first | (with_reducible first | exact HB.out | apply zF | apply zD | apply zE | refine zJ ?_ GE102.out) | exact HB.out))) : w.heap.size ≤ gb107)); have n5_ := Aside0.mk ((by rw [hg]; exact (zT (by repeat (first | (with_reducible first | exact HB.out | apply zF | apply zD | apply zE | refine zJ ?_ GE102.out) | exact HB.out))) : w.heap.size ≤ gb107)); have n6_ := Aside0.mk ((by rw [hg]; exact Nat.ne_of_lt (blk_lt (g := gb102) (o := .cells #[.int .i64 a0_0, .int .i64 a0_1, .int .i64 a0_2, .int .i64 a0_3, .int .i64 a0_4, .int .i64 a0_5, .int .i64 a0_6, .int .i64 a0_7, .int .i64 a0_8] 48 (0, 0)) (by (with_reducible repeat (first | refine zH ?_ _ | refine zI ?_ | refine zG ?_ _)); exact BK102.out)) : gb102 ≠ gb107)); have n7_ := Aside0.mk ((by rw [hg]; exact Nat.ne_of_gt (blk_lt (g := gb102) (o := .cells #[.int .i64 a0_0, .int .i64 a0_1, .int .i64 a0_2, .int .i64 a0_3, .int .i64 a0_4, .int .i64 a0_5, .int .i64 a0_6, .int .i64 a0_7, .int .i64 a0_8] 48 (0, 0)) (by (with_reducible repeat (first | refine zH ?_ _ | refine zI ?_ | refine zG ?_ _)); exact BK102.out)) : gb107 ≠ gb102)); clear HO_32; clear BK102; clear HB; have HO_32 := n0_; have BK102 := n1_; have HB := n2_; have BK107 := n3_; have GW107 := n4_; have GE107 := n5_; have NB102_107 := n6_; have NB107_102 := n7_; clear n0_ n1_ n2_ n3_ n4_ n5_ n6_ n7_; clear hb hbox hg; have hnb19 := NB107_102.out; have hnc19 := NB102_107.out; have hcz20_0 : w18.cell? ⟨gb107, 0, none⟩ = some (.int .i64 0) := (zK BK107.out 0).trans rfl; have hcz20_1 : w18.cell? ⟨gb107, 1, none⟩ = some (.int .i64 0) := (zK BK107.out 1).trans rfl; have hcz20_2 : w18.cell? ⟨gb107, 2, none⟩ = some (.int .i64 0) := (zK BK107.out 2).trans rfl; have hfz20_0 := zL BK107.out 0; have hfz20_1 := zL BK107.out 1; have hfz20_2 := zL BK107.out 2))
      go_roundg k1
      case measure => have := HK1.out; omega
      case rel => exact ⟨(wrap64 (x34_1 + 1)), (by first | rfl | (simp; done) | (simp [*]; done) | (simp [bne_nil_]; done)), H', ⟨by have := HK1.out; omega⟩, ⟨by (with_reducible repeat (first | apply zY | apply zX | apply zZ)); exact Kd.R_mono (Kd.R_far (p := ⟨gb107, 2, none⟩) (Kd.R_far (p := ⟨gb107, 1, none⟩) (Kd.R_far (p := ⟨gb107, 0, none⟩) (Kd.R_mono HO_32.out (fun k_ hk => (⟨hk, hk.2⟩ : _ ∧ k_ ≠ gb107))) (fun _ hk => hk.2) (.int .i64 ((rd_T88 y103 x34_1).f0))) (fun _ hk => hk.2) (.int .i64 ((rd_T88 y103 x34_1).f1))) (fun _ hk => hk.2) (.int .i64 ((rd_T88 y103 x34_1).f2))) (fun _ hk => trivial)⟩, ⟨by (with_reducible repeat (first | refine zH ?_ _ | refine zI ?_ | refine zG ?_ _)); refine blk_far ?_ NB102_107.out _; (with_reducible repeat (first | refine zH ?_ _ | refine zI ?_ | refine zG ?_ _)); refine blk_far ?_ NB102_107.out _; (with_reducible repeat (first | refine zH ?_ _ | refine zI ?_ | refine zG ?_ _)); refine blk_far ?_ NB102_107.out _; (with_reducible repeat (first | refine zH ?_ _ | refine zI ?_ | refine zG ?_ _)); exact BK102.out⟩, ⟨by repeat (first | (with_reducible first | exact HB.out | apply zF | apply zD | apply zE | refine zJ ?_ GE102.out | refine zJ ?_ GE107.out) | exact HB.out)⟩⟩
   ·rw [if_neg c7] at H
    have c7b0 : decide (x34_1 < (y103.length : Int)) = false := decide_eq_false c7
    clear c7
    obtain rfl := Option.some.inj H
    go_wp2
    go_ret
    exact ⟨by first | rfl | (simp [errW_none, errW_some] <;> rfl) | (simp [*, errW_none, errW_some] <;> rfl), by repeat (first | (with_reducible first | exact HB.out | apply zF | apply zD | apply zE | refine zJ ?_ GE102.out) | exact HB.out)⟩

end Go.Proofs.Ytfapfpkijeaapaa.P

-- Written by a program of this session (wip/mkprint.py). Not trusted: Lean checks it.
import Derived.Test.YtnmloapejbnejaaP0
namespace Go.Proofs.Ytnmloapejbnejaa.P
open Go.RowKit Go.Proofs.YtnmloapejbnejaaW.PrintWords Go.Proofs.YtnmloapejbnejaaW.PrintLast Go.Proofs.YtnmloapejbnejaaW.PrintMore
attribute [local go_sem] max2_int min2_int max_two min_two max_three min_three max_four min_four   -- for this text's walks alone
set_option linter.unusedVariables false
set_option linter.unusedSimpArgs false

/-! ### ref20_Leave: function 20 -/
def ref20_Leave.l0 : Nat → List (S32) → Int → List (S32) → Int → Option ((List (S32)))
 | 0, _, _, _, _ => none
 | k + 1, x0, x1, x5, x6 => if x6 < (x0.length : Int) then (if 0 ≤ x6 then (if ((rd_T32 x0 x6).f1) = x1 then (ref20_Leave.l0 k x0 x1 x5 (wrap64 (x6 + 1))) else (if x5.length < 1256584717458 then (ref20_Leave.l0 k x0 x1 (x5 ++ [(⟨(rd_T32 x0 x6).f0, (rd_T32 x0 x6).f1, (rd_T32 x0 x6).f2, (rd_T32 x0 x6).f3, (rd_T32 x0 x6).f4, (⟨(rd_T32 x0 x6).f5.f0, (rd_T32 x0 x6).f5.f1, (rd_T32 x0 x6).f5.f2, (rd_T32 x0 x6).f5.f3, (rd_T32 x0 x6).f5.f4, (rd_T32 x0 x6).f5.f5⟩ : S30), (rd_T32 x0 x6).f6⟩ : S32)]) (wrap64 (x6 + 1))) else (none))) else (none)) else (some x5)
def ref20_Leave.f (k : Nat) (l0 : List (S32)) (a1 : Int) : Option ((List (S32))) := ref20_Leave.l0 k l0 a1 ([] : List (S32)) 0
theorem ref20_Leave.mono_l : ∀ k, (∀ y0 y1 y2 y3, LeO (ref20_Leave.l0 k y0 y1 y2 y3) (ref20_Leave.l0 (k + 1) y0 y1 y2 y3))
 | 0 => fun _ _ _ _ r h => by simp [ref20_Leave.l0] at h
 | k + 1 => by
  have ih0 := ref20_Leave.mono_l k
  ·intro y0 y1 y2 y3
   unfold ref20_Leave.l0
   repeat' first
   | (with_reducible exact ih0 _ _ _ _)
   | (with_reducible exact LeO.refl _)
   | (with_reducible exact LeO.none _)
   | (with_reducible refine LeO.ite ?_ ?_)
   | (with_reducible refine LeO.bind ?_ (fun _ => ?_))
   | exact ih0 _ _ _ _
   | exact LeO.none _
   | refine LeO.ite ?_ ?_
   | refine LeO.bind ?_ (fun _ => ?_)
theorem ref20_Leave.mono : ∀ a0 a1 k, LeO (ref20_Leave.f k a0 a1) (ref20_Leave.f (k + 1) a0 a1) := by
 intro a0 a1 k
 have ih0 := ref20_Leave.mono_l k
 unfold ref20_Leave.f
 repeat' first
  | (with_reducible exact ih0 _ _ _ _)
  | (with_reducible exact LeO.refl _)
  | (with_reducible exact LeO.none _)
  | (with_reducible refine LeO.ite ?_ ?_)
  | (with_reducible refine LeO.bind ?_ (fun _ => ?_))
  | exact ih0 _ _ _ _
  | exact LeO.none _
  | refine LeO.ite ?_ ?_
  | refine LeO.bind ?_ (fun _ => ?_)
set_option maxHeartbeats 8000000 in
set_option maxRecDepth 100000 in
theorem ref20_Leave.calls (k : Nat) (P0_ : Nat → Prop) (A0 : Option Addr) (c0 : Nat) (l0 : List (S32)) (a1 : Int) (r : List (S32)) (w : World) (hs0 : Kd.V k32 32 w w.heap.size (fun k_ => P0_ k_) (.slice A0 l0.length c0) l0) (h : ref20_Leave.f k l0 a1 = some r) :
 Calls Try.prog 20 #[.slice A0 l0.length c0, .int .i64 a1] w fun e w' => ∃ v0_ : Value, e = .returned (v0_) ∧ Kd.N k32 32 w' w.heap.size (fun k_ => (P0_ k_ ∨ w.heap.size ≤ k_)) v0_ r ∧ Below w.heap.size w w' := by
 have hu32 := Try.underlying32
 have HO0 := Aside0.mk (show Kd.V k32 32 w w.heap.size (fun k_ => (P0_ k_ ∨ w.heap.size ≤ k_)) (.slice A0 l0.length c0) l0 from Kd.V_mono hs0 (fun k_ hk => .inl hk))
 have HB := Aside0.mk (Below.refl w.heap.size w)
 have H : (ref20_Leave.l0 k l0 a1 ([] : List (S32)) 0) = some r := h
 clear h
 have H' := Aside0.mk H
 clear H
 go_enter Try.func20, Try.ntmps20
 go_wp2
 go_loopg [5, 6] k (fun kq v5 v6 w' => ∃ (x5_1 : List (S32)) (x6_1 : Int), v6 = .int .i64 x6_1 ∧ Aside0 (ref20_Leave.l0 kq l0 a1 x5_1 x6_1 = some r) ∧ Aside0 (kq ≤ k) ∧ Aside0 (Kd.V k32 32 w' w.heap.size (fun k_ => (P0_ k_ ∨ w.heap.size ≤ k_) ∧ some k_ ≠ (v5 : Value).ownBlock) (.slice A0 l0.length c0) l0) ∧ Aside0 (Kd.N k32 32 w' w.heap.size (fun k_ => (P0_ k_ ∨ w.heap.size ≤ k_)) v5 x5_1) ∧ Aside0 (Below w.heap.size w w'))
 case atStart => exact ⟨(([] : List (S32))), (0), (by first | rfl | (simp; done) | (simp [*]; done) | (simp [bne_nil_]; done)), H', ⟨Nat.le_refl _⟩, ⟨by (with_reducible repeat (first | apply Kd.V_alloc | apply Kd.V_drewN | apply Kd.V_drew)); exact Kd.V_mono HO0.out (fun _ hk => ⟨hk, (by simp [Value.ownBlock])⟩)⟩, ⟨by first | exact Kd.S_nil _ _ _ _ _ | exact Kd.N_nil _ _ _ _ _ | exact Kd.V_nil _ _ _ _ _ | exact Kd.Q_nil _ _ _ _ _ | exact Kd.R_nil _ _ _ _ _⟩, ⟨by repeat (first | (with_reducible first | exact HB.out | apply below_alloc | apply pw_below_drewN | apply below_drew1) | exact HB.out)⟩⟩
 case round =>
  clear H'
  try clear c2
  try clear p2
  obtain ⟨x5_1, x6_1, rfl, HA, HK1, HO_0, HO_5, HB⟩ := hrel
  cases gk with
  | zero => exact absurd HA.out (by simp [ref20_Leave.l0])
  | succ k1 =>
   have H := HA.out
   clear HA
   simp only [ref20_Leave.l0] at H
   by_cases c3 : x6_1 < (l0.length : Int)
   ·rw [if_pos c3] at H
    have c3b0 : decide (x6_1 < (l0.length : Int)) = true := decide_eq_true c3
    clear c3
    by_cases c4 : 0 ≤ x6_1
    rotate_left
    ·rw [if_neg c4] at H
     exact absurd H (by simp)
    rw [if_pos c4] at H
    have c4b0 : decide (0 ≤ x6_1) = true := decide_eq_true c4
    clear c4
    by_cases c5 : ((rd_T32 l0 x6_1).f1) = a1
    ·rw [if_pos c5] at H
     have c5b0 : (((rd_T32 l0 x6_1).f1) == a1) = true := beq_iff_eq.mpr c5
     have c5b1 : (((rd_T32 l0 x6_1).f1) != a1) = false := bne_eq_false_iff_eq.mpr c5
     clear c5
     have H' := Aside0.mk H
     clear H
     have p270 : 0 ≤ (x6_1 : Int) := of_decide_eq_true (by first | (with_reducible assumption) | assumption)
     have q270 : x6_1 < (l0.length : Int) := of_decide_eq_true (by first | (with_reducible assumption) | assumption)
     obtain ⟨ad270, A270_10, c270_10, e270, hx270_0, hx270_1, hx270_2, hx270_3, hx270_4, hx270_5, hx270_6, hx270_7, hx270_8, hx270_9, hx270_10, hx270_11, hl270_10, hi270_10⟩ := at_T32 (Kd.V_reads' HO_0.out).2.2 x6_1 p270 q270
     cases e270
     obtain ⟨ce270, hce270, hMe270, hcc270⟩ := Kd.V_get HO_0.out z32 x6_1 p270 (by first | exact q270 | exact of_decide_eq_true (by first | (with_reducible assumption) | assumption) | (have e_ := (Kd.V_reads' HO_0.out).1; omega))
     obtain ⟨ua270_10, uc270_10, rfl, ul270_10, ge270_10⟩ := k32_openF hMe270
     have hv270_10 := hcc270 10 _ rfl
     rw [add_field _ _ 10 (by omega)] at hv270_10
     replace hv270_10 := Option.some.inj (hv270_10.symm.trans hx270_10)
     injection hv270_10 with hva_ hvn_ hvc_
     rw [hva_] at ge270_10
     rw [hvc_] at ul270_10
     have HL270_10 := Aside0.mk (show Kd.V (Kd.int .i64) 3 _ w.heap.size _ _ ((rd_T32 l0 x6_1).f5.f5) from Kd.V_mk ul270_10 ge270_10)
     clear hva_ hvn_ hvc_ ge270_10 ul270_10
     clear hcc270 hce270
     have HR270_10 := Aside0.mk hi270_10
     have HC270_10 := Aside0.mk hl270_10
     clear hi270_10 hl270_10
     replace p270 := eq_true p270
     replace q270 := eq_true q270
     go_wp2
     go_roundg k1
     case measure => have := HK1.out; omega
     case rel => exact ⟨(x5_1), (wrap64 (x6_1 + 1)), (by first | rfl | (simp; done) | (simp [*]; done) | (simp [bne_nil_]; done)), H', ⟨by have := HK1.out; omega⟩, ⟨by (with_reducible repeat (first | apply Kd.V_alloc | apply Kd.V_drewN | apply Kd.V_drew)); exact HO_0.out⟩, ⟨by (with_reducible repeat (first | apply Kd.N_alloc | apply Kd.N_drewN | apply Kd.N_drew)); exact HO_5.out⟩, ⟨by repeat (first | (with_reducible first | exact HB.out | apply below_alloc | apply pw_below_drewN | apply below_drew1) | exact HB.out)⟩⟩
    ·rw [if_neg c5] at H
     have c5b0 : (((rd_T32 l0 x6_1).f1) == a1) = false := beq_eq_false_iff_ne.mpr c5
     have c5b1 : (((rd_T32 l0 x6_1).f1) != a1) = true := bne_iff_ne.mpr c5
     by_cases c6 : x5_1.length < 1256584717458
     rotate_left
     ·rw [if_neg c6] at H
      exact absurd H (by simp)
     rw [if_pos c6] at H
     have LMc6 := Aside0.mk c6
     clear c6
     obtain ⟨y272, hy272⟩ : ∃ y_ : List (S32), y_ = (x5_1 ++ [(⟨(rd_T32 l0 x6_1).f0, (rd_T32 l0 x6_1).f1, (rd_T32 l0 x6_1).f2, (rd_T32 l0 x6_1).f3, (rd_T32 l0 x6_1).f4, (⟨(rd_T32 l0 x6_1).f5.f0, (rd_T32 l0 x6_1).f5.f1, (rd_T32 l0 x6_1).f5.f2, (rd_T32 l0 x6_1).f5.f3, (rd_T32 l0 x6_1).f5.f4, (rd_T32 l0 x6_1).f5.f5⟩ : S30), (rd_T32 l0 x6_1).f6⟩ : S32)]) := ⟨_, rfl⟩
     replace H : (ref20_Leave.l0 k1 l0 a1 y272 (wrap64 (x6_1 + 1))) = some r := by first | (rw [hy272]; with_reducible exact H) | (have H2_ := (Option.bind_some _ _).symm.trans H; rw [hy272]; with_reducible exact H2_) | (have H2_ := (Option.bind_some _ _).symm.trans H; with_reducible exact H2_) | with_reducible exact H | (rw [hy272]; exact H) | exact H
     have Ny272 := Aside0.mk hy272
     clear hy272
     have H' := Aside0.mk H
     clear H
     have p270 : 0 ≤ (x6_1 : Int) := of_decide_eq_true (by first | (with_reducible assumption) | assumption)
     have q270 : x6_1 < (l0.length : Int) := of_decide_eq_true (by first | (with_reducible assumption) | assumption)
     obtain ⟨ad270, A270_10, c270_10, e270, hx270_0, hx270_1, hx270_2, hx270_3, hx270_4, hx270_5, hx270_6, hx270_7, hx270_8, hx270_9, hx270_10, hx270_11, hl270_10, hi270_10⟩ := at_T32 (Kd.V_reads' HO_0.out).2.2 x6_1 p270 q270
     cases e270
     obtain ⟨ce270, hce270, hMe270, hcc270⟩ := Kd.V_get HO_0.out z32 x6_1 p270 (by first | exact q270 | exact of_decide_eq_true (by first | (with_reducible assumption) | assumption) | (have e_ := (Kd.V_reads' HO_0.out).1; omega))
     obtain ⟨ua270_10, uc270_10, rfl, ul270_10, ge270_10⟩ := k32_openF hMe270
     have hv270_10 := hcc270 10 _ rfl
     rw [add_field _ _ 10 (by omega)] at hv270_10
     replace hv270_10 := Option.some.inj (hv270_10.symm.trans hx270_10)
     injection hv270_10 with hva_ hvn_ hvc_
     rw [hva_] at ge270_10
     rw [hvc_] at ul270_10
     have HL270_10 := Aside0.mk (show Kd.V (Kd.int .i64) 3 _ w.heap.size _ _ ((rd_T32 l0 x6_1).f5.f5) from Kd.V_mk ul270_10 ge270_10)
     clear hva_ hvn_ hvc_ ge270_10 ul270_10
     clear hcc270 hce270
     have HR270_10 := Aside0.mk hi270_10
     have HC270_10 := Aside0.mk hl270_10
     clear hi270_10 hl270_10
     replace p270 := eq_true p270
     replace q270 := eq_true q270
     have p271 : 0 ≤ (x6_1 : Int) := of_decide_eq_true (by first | (with_reducible assumption) | assumption)
     have q271 : x6_1 < (l0.length : Int) := of_decide_eq_true (by first | (with_reducible assumption) | assumption)
     obtain ⟨ad271, A271_10, c271_10, e271, hx271_0, hx271_1, hx271_2, hx271_3, hx271_4, hx271_5, hx271_6, hx271_7, hx271_8, hx271_9, hx271_10, hx271_11, hl271_10, hi271_10⟩ := at_T32 (Kd.V_reads' HO_0.out).2.2 x6_1 p271 q271
     obtain rfl : ad270 = ad271 := (by injection e271)
     obtain ⟨ce271, hce271, hMe271, hcc271⟩ := Kd.V_get HO_0.out z32 x6_1 p271 (by first | exact q271 | exact of_decide_eq_true (by first | (with_reducible assumption) | assumption) | (have e_ := (Kd.V_reads' HO_0.out).1; omega))
     obtain ⟨ua271_10, uc271_10, rfl, ul271_10, ge271_10⟩ := k32_openF hMe271
     have hv271_10 := hcc271 10 _ rfl
     rw [add_field _ _ 10 (by omega)] at hv271_10
     replace hv271_10 := Option.some.inj (hv271_10.symm.trans hx271_10)
     injection hv271_10 with hva_ hvn_ hvc_
     rw [hva_] at ge271_10
     rw [hvc_] at ul271_10
     have HL271_10 := Aside0.mk (show Kd.V (Kd.int .i64) 3 _ w.heap.size _ _ ((rd_T32 l0 x6_1).f5.f5) from Kd.V_mk ul271_10 ge271_10)
     clear hva_ hvn_ hvc_ ge271_10 ul271_10
     clear hcc271 hce271
     have HR271_10 := Aside0.mk hi271_10
     have HC271_10 := Aside0.mk hl271_10
     clear hi271_10 hl271_10
     replace p271 := eq_true p271
     replace q271 := eq_true q271
     have ea_ := Option.some.inj (hx270_10.symm.trans hx271_10)
     injection ea_ with ea_ en_ ec_
     subst ea_
     subst ec_
     clear en_
     go_wp2_with (first | ((with_reducible refine gate_builtin (b := .append) (xs := #[.tmp 20, .tmp 25]) rfl ?_); at_builtin; refine Kd.N_append k32 (w0 := w) w.heap.size rfl (.tmp 20) (.tmp 25) 22 32 (.agg #[(.int .i64 0), (.int .i64 0), (.int .i64 0), (.int .i64 0), (.int .i64 0), (.int .i64 0), (.int .i64 0), (.int .i64 0), (.int .i64 0), (.int .i64 0), (.slice none 0 0), (.int .i64 0)]) 112 rfl Try.underlying22 info32 rfl (by decide) (by omega) u5 x5_1 (⟨(rd_T32 l0 x6_1).f0, (rd_T32 l0 x6_1).f1, (rd_T32 l0 x6_1).f2, (rd_T32 l0 x6_1).f3, (rd_T32 l0 x6_1).f4, (⟨(rd_T32 l0 x6_1).f5.f0, (rd_T32 l0 x6_1).f5.f1, (rd_T32 l0 x6_1).f5.f2, (rd_T32 l0 x6_1).f5.f3, (rd_T32 l0 x6_1).f5.f4, (rd_T32 l0 x6_1).f5.f5⟩ : S30), (rd_T32 l0 x6_1).f6⟩ : S32) [.int .i64 ((rd_T32 l0 x6_1).f0), .int .i64 ((rd_T32 l0 x6_1).f1), .int .i64 ((rd_T32 l0 x6_1).f2), .int .i64 ((rd_T32 l0 x6_1).f3), .int .i64 ((rd_T32 l0 x6_1).f4), .int .i64 ((rd_T32 l0 x6_1).f5.f0), .int .i64 ((rd_T32 l0 x6_1).f5.f1), .int .i64 ((rd_T32 l0 x6_1).f5.f2), .int .i64 ((rd_T32 l0 x6_1).f5.f3), .int .i64 ((rd_T32 l0 x6_1).f5.f4), .slice A270_10 ((rd_T32 l0 x6_1).f5.f5).length c270_10, .int .i64 ((rd_T32 l0 x6_1).f6)] (fun k_ => (P0_ k_ ∨ w.heap.size ≤ k_)) (fun k_ => ((fun k_ => (P0_ k_ ∨ w.heap.size ≤ k_))) k_ ∧ some k_ ≠ (u5 : Value).ownBlock) rfl rfl ?aP (fun _ hk => hk) ?aF ?aO ?aB ?aS ?aL ?_; (case aP => exact (k32_mkF _ _ (⟨(rd_T32 l0 x6_1).f0, (rd_T32 l0 x6_1).f1, (rd_T32 l0 x6_1).f2, (rd_T32 l0 x6_1).f3, (rd_T32 l0 x6_1).f4, (⟨(rd_T32 l0 x6_1).f5.f0, (rd_T32 l0 x6_1).f5.f1, (rd_T32 l0 x6_1).f5.f2, (rd_T32 l0 x6_1).f5.f3, (rd_T32 l0 x6_1).f5.f4, (rd_T32 l0 x6_1).f5.f5⟩ : S30), (rd_T32 l0 x6_1).f6⟩ : S32) (Kd.V_reads' (Kd.V_mono (ok' := (fun k_ => ((fun k_ => (P0_ k_ ∨ w.heap.size ≤ k_))) k_ ∧ some k_ ≠ (u5 : Value).ownBlock)) (HL271_10.out) (fun k_ hk => ⟨hk.1, hk.2⟩))).2.1 (Kd.V_F (Kd.V_mono (ok' := (fun k_ => ((fun k_ => (P0_ k_ ∨ w.heap.size ≤ k_))) k_ ∧ some k_ ≠ (u5 : Value).ownBlock)) (HL271_10.out) (fun k_ hk => ⟨hk.1, hk.2⟩))))); (case aB => exact (by repeat (first | (with_reducible first | exact HB.out | apply below_alloc | apply pw_below_drewN | apply below_drew1) | exact HB.out))); (case aF => exact (fun k_ hk => (.inr (Nat.le_trans (below_size (by repeat (first | (with_reducible first | exact HB.out | apply below_alloc | apply pw_below_drewN | apply below_drew1) | exact HB.out))) hk)))); (case aO => exact (by (with_reducible repeat (first | apply Kd.N_alloc | apply Kd.N_drewN | apply Kd.N_drew)); exact HO_5.out)); (case aS => exact (below_size (by repeat (first | (with_reducible first | exact HB.out | apply below_alloc | apply pw_below_drewN | apply below_drew1) | exact HB.out)))); (case aL => have := LMc6.out; omega); intro v273 w7 ho hb hg hat; rw [← Ny272.out] at ho; have n0_ := Aside0.mk (Kd.V_afterv (ok := (fun k_ => (P0_ k_ ∨ w.heap.size ≤ k_))) (by (with_reducible repeat (first | apply Kd.V_alloc | apply Kd.V_drewN | apply Kd.V_drew)); exact HO_0.out) hg hat); have n1_ := Aside0.mk (Kd.V_afterv (ok := (fun k_ => (P0_ k_ ∨ w.heap.size ≤ k_))) (by (with_reducible repeat (first | apply Kd.V_alloc | apply Kd.V_drewN | apply Kd.V_drew)); exact HL270_10.out) hg hat); have n2_ := Aside0.mk (Kd.V_afterv (ok := (fun k_ => (P0_ k_ ∨ w.heap.size ≤ k_))) (by (with_reducible repeat (first | apply Kd.V_alloc | apply Kd.V_drewN | apply Kd.V_drew)); exact HL271_10.out) hg hat); have n3_ := Aside0.mk (hb); have n4_ := Aside0.mk (ho); clear HO_0; clear HL270_10; clear HL271_10; clear HB; clear HO_5; have HO_0 := n0_; have HL270_10 := n1_; have HL271_10 := n2_; have HB := n3_; have HO274 := n4_; clear n0_ n1_ n2_ n3_ n4_; clear ho hb hg hat))
     go_roundg k1
     case measure => have := HK1.out; omega
     case rel => exact ⟨(y272), (wrap64 (x6_1 + 1)), (by first | rfl | (simp; done) | (simp [*]; done) | (simp [bne_nil_]; done)), H', ⟨by have := HK1.out; omega⟩, ⟨by (with_reducible repeat (first | apply Kd.V_alloc | apply Kd.V_drewN | apply Kd.V_drew)); exact HO_0.out⟩, ⟨by (with_reducible repeat (first | apply Kd.N_alloc | apply Kd.N_drewN | apply Kd.N_drew)); exact HO274.out⟩, ⟨by repeat (first | (with_reducible first | exact HB.out | apply below_alloc | apply pw_below_drewN | apply below_drew1) | exact HB.out)⟩⟩
   ·rw [if_neg c3] at H
    have c3b0 : decide (x6_1 < (l0.length : Int)) = false := decide_eq_false c3
    clear c3
    obtain rfl := Option.some.inj H
    go_wp2
    go_ret
    exact ⟨_, by first | rfl | (simp [errW_none, errW_some] <;> rfl) | (simp [*, errW_none, errW_some] <;> rfl), by (with_reducible repeat (first | apply Kd.N_alloc | apply Kd.N_drewN | apply Kd.N_drew)); exact HO_5.out, by repeat (first | (with_reducible first | exact HB.out | apply below_alloc | apply pw_below_drewN | apply below_drew1) | exact HB.out)⟩

/-! ### ref20_Outers: function 22 -/
def ref20_Outers.l0 : Nat → List (S32) → List Int → Int → Option (List Int)
 | 0, _, _, _ => none
 | k + 1, x0, x3, x4 => if x4 < (x0.length : Int) then (if 0 ≤ x4 then (if x3.length < 17592186044416 then (ref20_Outers.l0 k x0 (x3 ++ [(rd_T32 x0 x4).f0]) (wrap64 (x4 + 1))) else (none)) else (none)) else (some x3)
def ref20_Outers.f (k : Nat) (l0 : List (S32)) : Option (List Int) := ref20_Outers.l0 k l0 ([] : List Int) 0
theorem ref20_Outers.mono_l : ∀ k, (∀ y0 y1 y2, LeO (ref20_Outers.l0 k y0 y1 y2) (ref20_Outers.l0 (k + 1) y0 y1 y2))
 | 0 => fun _ _ _ r h => by simp [ref20_Outers.l0] at h
 | k + 1 => by
  have ih0 := ref20_Outers.mono_l k
  ·intro y0 y1 y2
   unfold ref20_Outers.l0
   repeat' first
   | (with_reducible exact ih0 _ _ _)
   | (with_reducible exact LeO.refl _)
   | (with_reducible exact LeO.none _)
   | (with_reducible refine LeO.ite ?_ ?_)
   | (with_reducible refine LeO.bind ?_ (fun _ => ?_))
   | exact ih0 _ _ _
   | exact LeO.none _
   | refine LeO.ite ?_ ?_
   | refine LeO.bind ?_ (fun _ => ?_)
theorem ref20_Outers.mono : ∀ a0 k, LeO (ref20_Outers.f k a0) (ref20_Outers.f (k + 1) a0) := by
 intro a0 k
 have ih0 := ref20_Outers.mono_l k
 unfold ref20_Outers.f
 repeat' first
  | (with_reducible exact ih0 _ _ _)
  | (with_reducible exact LeO.refl _)
  | (with_reducible exact LeO.none _)
  | (with_reducible refine LeO.ite ?_ ?_)
  | (with_reducible refine LeO.bind ?_ (fun _ => ?_))
  | exact ih0 _ _ _
  | exact LeO.none _
  | refine LeO.ite ?_ ?_
  | refine LeO.bind ?_ (fun _ => ?_)
set_option maxHeartbeats 8000000 in
set_option maxRecDepth 100000 in
theorem ref20_Outers.calls (k : Nat) (A0 : Option Addr) (c0 : Nat) (l0 : List (S32)) (r : List Int) (w : World) (hr0 : Kd.C k32 w A0 l0.length l0) (hc0 : l0.length ≤ c0) (h : ref20_Outers.f k l0 = some r) :
 Calls Try.prog 22 #[.slice A0 l0.length c0] w fun e w' => ∃ v0_ : Value, e = .returned (v0_) ∧ Kd.R (Kd.int .i64) 3 w' w.heap.size (fun _ => True) v0_ r ∧ Below w.heap.size w w' := by
 have HR0 := Aside0.mk hr0
 have HC0 := Aside0.mk hc0
 clear hr0 hc0
 have HB := Aside0.mk (Below.refl w.heap.size w)
 have H : (ref20_Outers.l0 k l0 ([] : List Int) 0) = some r := h
 clear h
 have H' := Aside0.mk H
 clear H
 go_enter Try.func22, Try.ntmps22
 go_wp2
 go_loopg [3, 4] k (fun kq v3 v4 w' => ∃ (x3_1 : List Int) (x4_1 : Int), v4 = .int .i64 x4_1 ∧ Aside0 (ref20_Outers.l0 kq l0 x3_1 x4_1 = some r) ∧ Aside0 (kq ≤ k) ∧ Aside0 (Kd.R (Kd.int .i64) 3 w' w.heap.size (fun _ => True) v3 x3_1) ∧ Aside0 (Below w.heap.size w w'))
 case atStart => exact ⟨(([] : List Int)), (0), (by first | rfl | (simp; done) | (simp [*]; done) | (simp [bne_nil_]; done)), H', ⟨Nat.le_refl _⟩, ⟨by first | exact Kd.R_nil _ _ _ _ _ | exact Kd.N_nil _ _ _ _ _ | exact Kd.V_nil _ _ _ _ _ | exact Kd.Q_nil _ _ _ _ _ | exact Kd.S_nil _ _ _ _ _⟩, ⟨by repeat (first | (with_reducible first | exact HB.out | apply below_alloc | apply pw_below_drewN | apply below_drew1) | exact HB.out)⟩⟩
 case round =>
  clear H'
  obtain ⟨x3_1, x4_1, rfl, HA, HK1, HO_3, HB⟩ := hrel
  cases gk with
  | zero => exact absurd HA.out (by simp [ref20_Outers.l0])
  | succ k1 =>
   have H := HA.out
   clear HA
   simp only [ref20_Outers.l0] at H
   by_cases c2 : x4_1 < (l0.length : Int)
   ·rw [if_pos c2] at H
    have c2b0 : decide (x4_1 < (l0.length : Int)) = true := decide_eq_true c2
    clear c2
    by_cases c3 : 0 ≤ x4_1
    rotate_left
    ·rw [if_neg c3] at H
     exact absurd H (by simp)
    rw [if_pos c3] at H
    have c3b0 : decide (0 ≤ x4_1) = true := decide_eq_true c3
    clear c3
    by_cases c4 : x3_1.length < 17592186044416
    rotate_left
    ·rw [if_neg c4] at H
     exact absurd H (by simp)
    rw [if_pos c4] at H
    have LMc4 := Aside0.mk c4
    clear c4
    obtain ⟨y276, hy276⟩ : ∃ y_ : List Int, y_ = (x3_1 ++ [(rd_T32 l0 x4_1).f0]) := ⟨_, rfl⟩
    replace H : (ref20_Outers.l0 k1 l0 y276 (wrap64 (x4_1 + 1))) = some r := by first | (rw [hy276]; with_reducible exact H) | (have H2_ := (Option.bind_some _ _).symm.trans H; rw [hy276]; with_reducible exact H2_) | (have H2_ := (Option.bind_some _ _).symm.trans H; with_reducible exact H2_) | with_reducible exact H | (rw [hy276]; exact H) | exact H
    have Ny276 := Aside0.mk hy276
    clear hy276
    have H' := Aside0.mk H
    clear H
    have p275 : 0 ≤ (x4_1 : Int) := of_decide_eq_true (by first | (with_reducible assumption) | assumption)
    have q275 : x4_1 < (l0.length : Int) := of_decide_eq_true (by first | (with_reducible assumption) | assumption)
    obtain ⟨ad275, A275_10, c275_10, e275, hx275_0, hx275_1, hx275_2, hx275_3, hx275_4, hx275_5, hx275_6, hx275_7, hx275_8, hx275_9, hx275_10, hx275_11, hl275_10, hi275_10⟩ := at_T32 HR0.out x4_1 p275 q275
    cases e275
    replace hx275_0 := (HB.out.cell (World.block_lt_of_cell? w _ hx275_0)).trans hx275_0
    replace hx275_1 := (HB.out.cell (World.block_lt_of_cell? w _ hx275_1)).trans hx275_1
    replace hx275_2 := (HB.out.cell (World.block_lt_of_cell? w _ hx275_2)).trans hx275_2
    replace hx275_3 := (HB.out.cell (World.block_lt_of_cell? w _ hx275_3)).trans hx275_3
    replace hx275_4 := (HB.out.cell (World.block_lt_of_cell? w _ hx275_4)).trans hx275_4
    replace hx275_5 := (HB.out.cell (World.block_lt_of_cell? w _ hx275_5)).trans hx275_5
    replace hx275_6 := (HB.out.cell (World.block_lt_of_cell? w _ hx275_6)).trans hx275_6
    replace hx275_7 := (HB.out.cell (World.block_lt_of_cell? w _ hx275_7)).trans hx275_7
    replace hx275_8 := (HB.out.cell (World.block_lt_of_cell? w _ hx275_8)).trans hx275_8
    replace hx275_9 := (HB.out.cell (World.block_lt_of_cell? w _ hx275_9)).trans hx275_9
    replace hx275_10 := (HB.out.cell (World.block_lt_of_cell? w _ hx275_10)).trans hx275_10
    replace hx275_11 := (HB.out.cell (World.block_lt_of_cell? w _ hx275_11)).trans hx275_11
    have HR275_10 := Aside0.mk hi275_10
    have HC275_10 := Aside0.mk hl275_10
    clear hi275_10 hl275_10
    replace p275 := eq_true p275
    replace q275 := eq_true q275
    go_wp2_with (first | ((with_reducible refine gate_builtin (b := .append) (xs := #[.tmp 11, .tmp 17]) rfl ?_); at_builtin; refine Kd.R_append (Kd.int .i64) (w0 := w) w.heap.size rfl (.tmp 11) (.tmp 17) 28 3 (.int .i64 0) 8 rfl Try.underlying28 info3 rfl (by decide) (by omega) u3 x3_1 ((rd_T32 l0 x4_1).f0) [.int .i64 ((rd_T32 l0 x4_1).f0)] (fun _ => True) (fun _ => False) rfl rfl ?aP (fun _ hk => hk.elim) ?aF ?aO ?aB ?aS ?aL ?_; (case aP => exact rfl); (case aB => exact (by repeat (first | (with_reducible first | exact HB.out | apply below_alloc | apply pw_below_drewN | apply below_drew1) | exact HB.out))); (case aF => exact (fun _ _ => trivial)); (case aO => exact (by (with_reducible repeat (first | apply Kd.R_alloc | apply Kd.R_drewN | apply Kd.R_drew)); exact HO_3.out)); (case aS => exact (below_size (by repeat (first | (with_reducible first | exact HB.out | apply below_alloc | apply pw_below_drewN | apply below_drew1) | exact HB.out)))); (case aL => have := LMc4.out; omega); intro v277 w5 ho hb hg hat; rw [← Ny276.out] at ho; have n0_ := Aside0.mk (hb); have n1_ := Aside0.mk (ho); clear HB; clear HO_3; have HB := n0_; have HO278 := n1_; clear n0_ n1_; clear ho hb hg hat))
    go_roundg k1
    case measure => have := HK1.out; omega
    case rel => exact ⟨(y276), (wrap64 (x4_1 + 1)), (by first | rfl | (simp; done) | (simp [*]; done) | (simp [bne_nil_]; done)), H', ⟨by have := HK1.out; omega⟩, ⟨by (with_reducible repeat (first | apply Kd.R_alloc | apply Kd.R_drewN | apply Kd.R_drew)); exact HO278.out⟩, ⟨by repeat (first | (with_reducible first | exact HB.out | apply below_alloc | apply pw_below_drewN | apply below_drew1) | exact HB.out)⟩⟩
   ·rw [if_neg c2] at H
    have c2b0 : decide (x4_1 < (l0.length : Int)) = false := decide_eq_false c2
    clear c2
    obtain rfl := Option.some.inj H
    go_wp2
    go_ret
    exact ⟨_, by first | rfl | (simp [errW_none, errW_some] <;> rfl) | (simp [*, errW_none, errW_some] <;> rfl), by (with_reducible repeat (first | apply Kd.R_alloc | apply Kd.R_drewN | apply Kd.R_drew)); exact HO_3.out, by repeat (first | (with_reducible first | exact HB.out | apply below_alloc | apply pw_below_drewN | apply below_drew1) | exact HB.out)⟩

end Go.Proofs.Ytnmloapejbnejaa.P

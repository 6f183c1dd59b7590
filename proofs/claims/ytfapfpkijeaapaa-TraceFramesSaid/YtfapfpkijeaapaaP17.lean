-- Written by a program of this session (wip/mkprint.py). Not trusted: Lean checks it.
import Derived.Test.YtfapfpkijeaapaaP0
import Derived.Test.YtfapfpkijeaapaaP9
import Derived.Test.YtfapfpkijeaapaaP11
import Derived.Test.YtfapfpkijeaapaaP16
namespace Go.Proofs.Ytfapfpkijeaapaa.P
open Go.RowKit Go.Proofs.YtfapfpkijeaapaaW.PrintWords Go.Proofs.YtfapfpkijeaapaaW.PrintLast Go.Proofs.YtfapfpkijeaapaaW.PrintMore
attribute [local go_sem] max2_int min2_int max_two min_two max_three min_three max_four min_four   -- for this text's walks alone
set_option linter.unusedVariables false
set_option linter.unusedSimpArgs false

/-! ### law27_TraceFrames: function 4 -/
mutual
def law27_TraceFrames.l0 : Nat → List (S38) → Int → Int → ByteArray → Int → Option (Bool)
 | 0, _, _, _, _, _ => none
 | k + 1, x0, x1, x2, x7, x8 => if x8 < (x0.length : Int) then (if 0 ≤ x8 then ((ref08_Put.f ((rd_T38 x0 x8).f0) ((rd_T38 x0 x8).f1) ((rd_T38 x0 x8).f2)).bind fun bt365 => (if bt365.2 = true then (if x7.size + bt365.1.size ≤ 9223372036854775807 then (law27_TraceFrames.l0 k x0 x1 x2 (x7 ++ bt365.1) (wrap64 (x8 + 1))) else (none)) else ((law27_awake.f k).bind fun t367 => (some t367)))) else (none)) else (law27_TraceFrames.l1 k x0 x2 x7 ([] : List (S40)) (wrap64 (1 + (wrap64 (x1)))))
def law27_TraceFrames.l1 : Nat → List (S38) → Int → ByteArray → List (S40) → Int → Option (Bool)
 | 0, _, _, _, _, _ => none
 | k + 1, x0, x2, x7, x11, x12 => if (x7.size : Int) > 0 then (if 0 ≤ (mn x12 (x7.size : Int)) then (if (mn x12 (x7.size : Int)) ≤ (x7.size : Int) then ((some (([(⟨2, x2, x7.extract 0 ((mn x12 (x7.size : Int)) : Int).toNat⟩ : S40), (⟨5, x2, (⟨#[120]⟩ : ByteArray)⟩ : S40)] : List (S40)) : List (S40))).bind fun y368 => (if x11.length + y368.length < 4398046511104 then (law27_TraceFrames.l1 k x0 x2 (x7.extract ((mn x12 (x7.size : Int)) : Int).toNat x7.size) (x11 ++ y368) x12) else (none))) else (none)) else (none)) else ((trace_Frames.f k x11 2 x2).bind fun bt374 => ((law27_awake.f k).bind fun t378 => (if t378 = true then (if bt374.2 = true then ((ref08_Frames.f k bt374.1 x0).bind fun t379 => (some t379)) else (none)) else (none))))
end
def law27_TraceFrames.f (k : Nat) (l0 : List (S38)) (a1 : Int) (a2 : Int) : Option (Bool) := if (l0.length : Int) > 10 then ((law27_awake.f k).bind fun t363 => (some t363)) else (law27_TraceFrames.l0 k l0 a1 a2 (⟨#[]⟩ : ByteArray) 0)
theorem law27_TraceFrames.mono_l : ∀ k, (∀ y0 y1 y2 y3 y4, LeO (law27_TraceFrames.l0 k y0 y1 y2 y3 y4) (law27_TraceFrames.l0 (k + 1) y0 y1 y2 y3 y4)) ∧ (∀ y0 y1 y2 y3 y4, LeO (law27_TraceFrames.l1 k y0 y1 y2 y3 y4) (law27_TraceFrames.l1 (k + 1) y0 y1 y2 y3 y4))
 | 0 => ⟨fun _ _ _ _ _ r h => by simp [law27_TraceFrames.l0] at h, fun _ _ _ _ _ r h => by simp [law27_TraceFrames.l1] at h⟩
 | k + 1 => by
  obtain ⟨ih0, ih1⟩ := law27_TraceFrames.mono_l k
  refine ⟨?_, ?_⟩
  ·intro y0 y1 y2 y3 y4
   unfold law27_TraceFrames.l0
   repeat' first
   | (with_reducible exact ih0 _ _ _ _ _)
   | (with_reducible exact ih1 _ _ _ _ _)
   | (with_reducible exact law27_awake.mono _)
   | (with_reducible exact ref08_Frames.mono _ _ _)
   | (with_reducible exact trace_Frames.mono _ _ _ _)
   | (with_reducible exact LeO.refl _)
   | (with_reducible exact LeO.none _)
   | (with_reducible refine LeO.ite ?_ ?_)
   | (with_reducible refine LeO.bind ?_ (fun _ => ?_))
   | exact ih0 _ _ _ _ _
   | exact ih1 _ _ _ _ _
   | exact law27_awake.mono _
   | exact ref08_Frames.mono _ _ _
   | exact trace_Frames.mono _ _ _ _
   | exact LeO.none _
   | refine LeO.ite ?_ ?_
   | refine LeO.bind ?_ (fun _ => ?_)
  ·intro y0 y1 y2 y3 y4
   unfold law27_TraceFrames.l1
   repeat' first
   | (with_reducible exact ih0 _ _ _ _ _)
   | (with_reducible exact ih1 _ _ _ _ _)
   | (with_reducible exact law27_awake.mono _)
   | (with_reducible exact ref08_Frames.mono _ _ _)
   | (with_reducible exact trace_Frames.mono _ _ _ _)
   | (with_reducible exact LeO.refl _)
   | (with_reducible exact LeO.none _)
   | (with_reducible refine LeO.ite ?_ ?_)
   | (with_reducible refine LeO.bind ?_ (fun _ => ?_))
   | exact ih0 _ _ _ _ _
   | exact ih1 _ _ _ _ _
   | exact law27_awake.mono _
   | exact ref08_Frames.mono _ _ _
   | exact trace_Frames.mono _ _ _ _
   | exact LeO.none _
   | refine LeO.ite ?_ ?_
   | refine LeO.bind ?_ (fun _ => ?_)
theorem law27_TraceFrames.mono : ∀ a0 a1 a2 k, LeO (law27_TraceFrames.f k a0 a1 a2) (law27_TraceFrames.f (k + 1) a0 a1 a2) := by
 intro a0 a1 a2 k
 obtain ⟨ih0, ih1⟩ := law27_TraceFrames.mono_l k
 unfold law27_TraceFrames.f
 repeat' first
  | (with_reducible exact ih0 _ _ _ _ _)
  | (with_reducible exact ih1 _ _ _ _ _)
  | (with_reducible exact law27_awake.mono _)
  | (with_reducible exact ref08_Frames.mono _ _ _)
  | (with_reducible exact trace_Frames.mono _ _ _ _)
  | (with_reducible exact LeO.refl _)
  | (with_reducible exact LeO.none _)
  | (with_reducible refine LeO.ite ?_ ?_)
  | (with_reducible refine LeO.bind ?_ (fun _ => ?_))
  | exact ih0 _ _ _ _ _
  | exact ih1 _ _ _ _ _
  | exact law27_awake.mono _
  | exact ref08_Frames.mono _ _ _
  | exact trace_Frames.mono _ _ _ _
  | exact LeO.none _
  | refine LeO.ite ?_ ?_
  | refine LeO.bind ?_ (fun _ => ?_)
set_option maxHeartbeats 8000000 in
set_option maxRecDepth 100000 in
theorem law27_TraceFrames.calls (k : Nat) (A0 : Option Addr) (c0 : Nat) (l0 : List (S38)) (a1 : Int) (a2 : Int) (r : Bool) (w : World) (hr0 : Kd.C k38 w A0 l0.length l0) (hc0 : l0.length ≤ c0) (h : law27_TraceFrames.f k l0 a1 a2 = some r) :
 Calls Try.prog 4 #[.slice A0 l0.length c0, .int .u8 a1, .int .i64 a2] w fun e w' => e = .returned (.bool r) ∧ Below w.heap.size w w' := by
 have hu38 := Try.underlying38
 have hu40 := Try.underlying40
 have HR0 := Aside0.mk hr0
 have HC0 := Aside0.mk hc0
 clear hr0 hc0
 have HB := Aside0.mk (Below.refl w.heap.size w)
 have H : (if (l0.length : Int) > 10 then ((law27_awake.f k).bind fun t363 => (some t363)) else (law27_TraceFrames.l0 k l0 a1 a2 (⟨#[]⟩ : ByteArray) 0)) = some r := h
 clear h
 by_cases c4 : (l0.length : Int) > 10
 ·rw [if_pos c4] at H
  have c4b0 : decide (10 < (l0.length : Int)) = true := zW c4
  have c4b1 : decide (10 < l0.length) = true := zW (by omega)
  clear c4
  replace H := Option.bind_eq_some_iff.mp H
  obtain ⟨t363, A50, H⟩ := H
  replace H : (some t363) = some r := H
  have A5 := Aside0.mk A50
  clear A50
  obtain rfl := Option.some.inj H
  go_enter Try.func4, Try.ntmps4
  go_wp2_with (first | ((with_reducible refine gate_callee (f := 7) rfl ?_); refine goesL_ (some 19) rfl rfl Try.func7 (by kernel_rfl) rfl #[] rfl (by (try simp only [zO, zP, zQ]); first | done | rfl | (simp only [zS, zR]; rfl)) ?_; (with_reducible refine (law27_awake.calls k  t363 _ A5.out).mono ?_); rintro e w6 ⟨rfl, hb⟩; refine ⟨_, rfl, ?_⟩; have n0_ := Aside0.mk (zU (by repeat (first | (with_reducible first | exact HB.out | apply zF | apply zD | apply zE) | exact HB.out)) hb); clear HB; have HB := n0_; clear n0_; (try clear hb); (try clear hb2); (try clear hk); (try clear hi)))
  go_ret
  exact ⟨by first | rfl | (simp [errW_none, errW_some] <;> rfl) | (simp [*, errW_none, errW_some] <;> rfl), by repeat (first | (with_reducible first | exact HB.out | apply zF | apply zD | apply zE) | exact HB.out)⟩
 ·rw [if_neg c4] at H
  have c4b0 : decide (10 < (l0.length : Int)) = false := decide_eq_false c4
  have c4b1 : decide (10 < l0.length) = false := decide_eq_false (by omega)
  clear c4
  have H' := Aside0.mk H
  clear H
  go_enter Try.func4, Try.ntmps4
  go_wp2
  go_loopg [7, 8] k (fun kq v7 v8 w' => ∃ (x7_1 : ByteArray) (x8_1 : Int), v7 = .string x7_1 ∧ v8 = .int .i64 x8_1 ∧ Aside0 (law27_TraceFrames.l0 kq l0 a1 a2 x7_1 x8_1 = some r) ∧ Aside0 (kq ≤ k) ∧ Aside0 (Below w.heap.size w w'))
  case atStart => exact ⟨((⟨#[]⟩ : ByteArray)), (0), (by first | rfl | (simp; done) | (simp [*]; done) | (simp [bne_nil_]; done)), (by first | rfl | (simp; done) | (simp [*]; done) | (simp [bne_nil_]; done)), H', ⟨Nat.le_refl _⟩, ⟨by repeat (first | (with_reducible first | exact HB.out | apply zF | apply zD | apply zE) | exact HB.out)⟩⟩
  case round =>
   clear H'
   try clear p2
   try clear c4
   try clear c4b0
   try clear c4b1
   obtain ⟨x7_1, x8_1, rfl, rfl, HA, HK1, HB⟩ := hrel
   cases gk with
   | zero => exact absurd HA.out (by simp [law27_TraceFrames.l0])
   | succ k1 =>
    have H := HA.out
    clear HA
    simp only [law27_TraceFrames.l0] at H
    by_cases c7 : x8_1 < (l0.length : Int)
    ·rw [if_pos c7] at H
     have c7b0 : decide (x8_1 < (l0.length : Int)) = true := zW c7
     clear c7
     by_cases c8 : 0 ≤ x8_1
     rotate_left
     ·rw [if_neg c8] at H
      exact absurd H (by simp)
     rw [if_pos c8] at H
     have c8b0 : decide (0 ≤ x8_1) = true := zW c8
     clear c8
     replace H := Option.bind_eq_some_iff.mp H
     obtain ⟨⟨t365, t366⟩, A90, H⟩ := H
     replace H : (if t366 = true then (if x7_1.size + t365.size ≤ 9223372036854775807 then (law27_TraceFrames.l0 k1 l0 a1 a2 (x7_1 ++ t365) (wrap64 (x8_1 + 1))) else (none)) else ((law27_awake.f k1).bind fun t367 => (some t367))) = some r := H
     have A9 := Aside0.mk A90
     clear A90
     by_cases c10 : t366 = true
     ·subst c10
      have H1 : (if x7_1.size + t365.size ≤ 9223372036854775807 then (law27_TraceFrames.l0 k1 l0 a1 a2 (x7_1 ++ t365) (wrap64 (x8_1 + 1))) else (none)) = some r := by rw [if_pos rfl] at H; exact H
      clear H
      have H := H1
      clear H1
      by_cases c11 : x7_1.size + t365.size ≤ 9223372036854775807
      rotate_left
      ·rw [if_neg c11] at H
       exact absurd H (by simp)
      rw [if_pos c11] at H
      have c11b0 := eq_true c11
      have c11b1 : decide (x7_1.size + t365.size ≤ 9223372036854775807) = true := zW c11
      try have c11b2 : (9223372036854775807 < x7_1.size + t365.size) = False := eq_false (Nat.not_lt.2 c11)
      have H' := Aside0.mk H
      clear H
      have p364 : 0 ≤ (x8_1 : Int) := zV (by first | (with_reducible assumption) | assumption)
      have q364 : x8_1 < (l0.length : Int) := zV (by first | (with_reducible assumption) | assumption)
      obtain ⟨ad364, e364, hx364_0, hx364_1, hx364_2⟩ := at_T38 HR0.out x8_1 p364 q364
      cases e364
      replace hx364_0 := (HB.out.cell (World.block_lt_of_cell? w _ hx364_0)).trans hx364_0
      replace hx364_1 := (HB.out.cell (World.block_lt_of_cell? w _ hx364_1)).trans hx364_1
      replace hx364_2 := (HB.out.cell (World.block_lt_of_cell? w _ hx364_2)).trans hx364_2
      replace p364 := eq_true p364
      replace q364 := eq_true q364
      go_wp2_with (first | ((with_reducible refine gate_callee (f := 12) rfl ?_); refine goesL_ (some 31) rfl rfl Try.func12 (by kernel_rfl) rfl #[.agg #[.int .i64 ((rd_T38 l0 x8_1).f0), .int .i64 ((rd_T38 l0 x8_1).f1), .string ((rd_T38 l0 x8_1).f2)]] rfl (by (try simp only [zO, zP, zQ]); first | done | rfl | (simp only [zS, zR]; rfl)) ?_; (with_reducible refine (ref08_Put.calls ((rd_T38 l0 x8_1).f0) ((rd_T38 l0 x8_1).f1) ((rd_T38 l0 x8_1).f2) t365 true _ A9.out).mono ?_); rintro e w12 ⟨rfl, hb⟩; refine ⟨_, rfl, ?_⟩; have n0_ := Aside0.mk (zU (by repeat (first | (with_reducible first | exact HB.out | apply zF | apply zD | apply zE) | exact HB.out)) hb); clear HB; have HB := n0_; clear n0_; (try clear hb); (try clear hb2); (try clear hk); (try clear hi)))
      go_roundg k1
      case measure => have := HK1.out; omega
      case rel => exact ⟨(x7_1 ++ t365), (wrap64 (x8_1 + 1)), (by first | rfl | (simp; done) | (simp [*]; done) | (simp [bne_nil_]; done)), (by first | rfl | (simp; done) | (simp [*]; done) | (simp [bne_nil_]; done)), H', ⟨by have := HK1.out; omega⟩, ⟨by repeat (first | (with_reducible first | exact HB.out | apply zF | apply zD | apply zE) | exact HB.out)⟩⟩
     ·replace c10 := Bool.eq_false_iff.mpr c10
      subst c10
      have H1 : ((law27_awake.f k1).bind fun t367 => (some t367)) = some r := by rw [if_neg (show ¬ (false = true) by decide)] at H; exact H
      clear H
      have H := H1
      clear H1
      replace H := Option.bind_eq_some_iff.mp H
      obtain ⟨t367, A130, H⟩ := H
      replace H : (some t367) = some r := H
      have A13 := Aside0.mk A130
      clear A130
      obtain rfl := Option.some.inj H
      have p364 : 0 ≤ (x8_1 : Int) := zV (by first | (with_reducible assumption) | assumption)
      have q364 : x8_1 < (l0.length : Int) := zV (by first | (with_reducible assumption) | assumption)
      obtain ⟨ad364, e364, hx364_0, hx364_1, hx364_2⟩ := at_T38 HR0.out x8_1 p364 q364
      cases e364
      replace hx364_0 := (HB.out.cell (World.block_lt_of_cell? w _ hx364_0)).trans hx364_0
      replace hx364_1 := (HB.out.cell (World.block_lt_of_cell? w _ hx364_1)).trans hx364_1
      replace hx364_2 := (HB.out.cell (World.block_lt_of_cell? w _ hx364_2)).trans hx364_2
      replace p364 := eq_true p364
      replace q364 := eq_true q364
      go_wp2_with (first | ((with_reducible refine gate_callee (f := 12) rfl ?_); refine goesL_ (some 31) rfl rfl Try.func12 (by kernel_rfl) rfl #[.agg #[.int .i64 ((rd_T38 l0 x8_1).f0), .int .i64 ((rd_T38 l0 x8_1).f1), .string ((rd_T38 l0 x8_1).f2)]] rfl (by (try simp only [zO, zP, zQ]); first | done | rfl | (simp only [zS, zR]; rfl)) ?_; (with_reducible refine (ref08_Put.calls ((rd_T38 l0 x8_1).f0) ((rd_T38 l0 x8_1).f1) ((rd_T38 l0 x8_1).f2) t365 false _ A9.out).mono ?_); rintro e w14 ⟨rfl, hb⟩; refine ⟨_, rfl, ?_⟩; have n0_ := Aside0.mk (zU (by repeat (first | (with_reducible first | exact HB.out | apply zF | apply zD | apply zE) | exact HB.out)) hb); clear HB; have HB := n0_; clear n0_; (try clear hb); (try clear hb2); (try clear hk); (try clear hi)) | ((with_reducible refine gate_callee (f := 7) rfl ?_); refine goesL_ (some 36) rfl rfl Try.func7 (by kernel_rfl) rfl #[] rfl (by (try simp only [zO, zP, zQ]); first | done | rfl | (simp only [zS, zR]; rfl)) ?_; (with_reducible refine (law27_awake.calls k1  t367 _ A13.out).mono ?_); rintro e w15 ⟨rfl, hb⟩; refine ⟨_, rfl, ?_⟩; have n0_ := Aside0.mk (zU (by repeat (first | (with_reducible first | exact HB.out | apply zF | apply zD | apply zE) | exact HB.out)) hb); clear HB; have HB := n0_; clear n0_; (try clear hb); (try clear hb2); (try clear hk); (try clear hi)))
      go_ret
      exact ⟨by first | rfl | (simp [errW_none, errW_some] <;> rfl) | (simp [*, errW_none, errW_some] <;> rfl), by repeat (first | (with_reducible first | exact HB.out | apply zF | apply zD | apply zE) | exact HB.out)⟩
    ·rw [if_neg c7] at H
     have c7b0 : decide (x8_1 < (l0.length : Int)) = false := decide_eq_false c7
     clear c7
     have H' := Aside0.mk H
     clear H
     go_wp2
     go_loopg [7, 11] k1 (fun kq v7 v11 w' => ∃ (x7_2 : ByteArray) (x11_2 : List (S40)), v7 = .string x7_2 ∧ Aside0 (law27_TraceFrames.l1 kq l0 a2 x7_2 x11_2 (wrap64 (1 + (wrap64 (a1)))) = some r) ∧ Aside0 (kq ≤ k1) ∧ Aside0 (Kd.R k40 40 w' w.heap.size (fun _ => True) v11 x11_2) ∧ Aside0 (Below w.heap.size w w'))
     case atStart => exact ⟨(x7_1), (([] : List (S40))), (by first | rfl | (simp; done) | (simp [*]; done) | (simp [bne_nil_]; done)), H', ⟨Nat.le_refl _⟩, ⟨by first | exact Kd.R_nil _ _ _ _ _ | exact Kd.N_nil _ _ _ _ _ | exact Kd.V_nil _ _ _ _ _ | exact Kd.Q_nil _ _ _ _ _ | exact Kd.S_nil _ _ _ _ _⟩, ⟨by repeat (first | (with_reducible first | exact HB.out | apply zF | apply zD | apply zE) | exact HB.out)⟩⟩
     case round =>
      clear H'
      try clear c1
      try clear p2
      try clear p3
      try clear q3
      try clear hx3
      try clear c4
      try clear c4b0
      try clear c4b1
      try clear p6
      try clear c7
      try clear c7b0
      try clear c8
      try clear c8b0
      try clear c10
      try clear c11
      try clear c11b0
      try clear c11b1
      try clear c11b2
      try clear c12
      try clear hx364_0
      try clear hx364_1
      try clear hx364_2
      try clear p2
      try clear p364
      try clear q364
      obtain ⟨x7_2, x11_2, rfl, HA, HK2, HO_11, HB⟩ := hrel
      cases gk with
      | zero => exact absurd HA.out (by simp [law27_TraceFrames.l1])
      | succ k2 =>
       have H := HA.out
       clear HA
       simp only [law27_TraceFrames.l1] at H
       by_cases c16 : (x7_2.size : Int) > 0
       ·rw [if_pos c16] at H
        have c16b0 : decide (0 < (x7_2.size : Int)) = true := zW c16
        have c16b1 : decide (0 < x7_2.size) = true := zW (by omega)
        clear c16
        obtain ⟨ji17, hji17⟩ : ∃ j_ : Int, (mn (wrap64 (1 + (wrap64 (a1)))) (x7_2.size : Int)) = j_ := ⟨_, rfl⟩
        replace H : (if 0 ≤ (ji17) then (if (ji17) ≤ (x7_2.size : Int) then ((some (([(⟨2, a2, x7_2.extract 0 ((ji17) : Int).toNat⟩ : S40), (⟨5, a2, (⟨#[120]⟩ : ByteArray)⟩ : S40)] : List (S40)) : List (S40))).bind fun y368 => (if x11_2.length + y368.length < 4398046511104 then (law27_TraceFrames.l1 k2 l0 a2 (x7_2.extract ((ji17) : Int).toNat x7_2.size) (x11_2 ++ y368) (wrap64 (1 + (wrap64 (a1))))) else (none))) else (none)) else (none)) = some r := by first | (rw [hji17] at H; exact H) | (simp only [hji17] at H ⊢; exact H)
        have hji17_ : (if (x7_2.size : Int) < (wrap64 (1 + (wrap64 (a1)))) then (x7_2.size : Int) else (wrap64 (1 + (wrap64 (a1))))) = ji17 := hji17
        by_cases c18 : 0 ≤ (ji17)
        rotate_left
        ·rw [if_neg c18] at H
         exact absurd H (by simp)
        rw [if_pos c18] at H
        have c18b0 := eq_true c18
        have c18b1 : decide (0 ≤ (ji17)) = true := zW c18
        clear c18
        by_cases c19 : (ji17) ≤ (x7_2.size : Int)
        rotate_left
        ·rw [if_neg c19] at H
         exact absurd H (by simp)
        rw [if_pos c19] at H
        have c19b0 := eq_true c19
        have c19b1 : decide ((ji17) ≤ (x7_2.size : Int)) = true := zW c19
        clear c19
        obtain ⟨y368, hy368⟩ : ∃ y_ : List (S40), y_ = (([(⟨2, a2, x7_2.extract 0 ((ji17) : Int).toNat⟩ : S40), (⟨5, a2, (⟨#[120]⟩ : ByteArray)⟩ : S40)] : List (S40))) := ⟨_, rfl⟩
        replace H : (if x11_2.length + y368.length < 4398046511104 then (law27_TraceFrames.l1 k2 l0 a2 (x7_2.extract ((ji17) : Int).toNat x7_2.size) (x11_2 ++ y368) (wrap64 (1 + (wrap64 (a1))))) else (none)) = some r := by first | (rw [hy368]; with_reducible exact H) | (have H2_ := (Option.bind_some _ _).symm.trans H; rw [hy368]; with_reducible exact H2_) | (have H2_ := (Option.bind_some _ _).symm.trans H; with_reducible exact H2_) | with_reducible exact H | (rw [hy368]; exact H) | exact H
        have Ny368 := Aside0.mk hy368
        clear hy368
        by_cases c20 : x11_2.length + y368.length < 4398046511104
        rotate_left
        ·rw [if_neg c20] at H
         exact absurd H (by simp)
        rw [if_pos c20] at H
        have LMc20 := Aside0.mk c20
        clear c20
        obtain ⟨y371, hy371⟩ : ∃ y_ : List (S40), y_ = (x11_2 ++ y368) := ⟨_, rfl⟩
        replace H : (law27_TraceFrames.l1 k2 l0 a2 (x7_2.extract ((ji17) : Int).toNat x7_2.size) y371 (wrap64 (1 + (wrap64 (a1))))) = some r := by first | (rw [hy371]; with_reducible exact H) | (have H2_ := (Option.bind_some _ _).symm.trans H; rw [hy371]; with_reducible exact H2_) | (have H2_ := (Option.bind_some _ _).symm.trans H; with_reducible exact H2_) | with_reducible exact H | (rw [hy371]; exact H) | exact H
        have Ny371 := Aside0.mk hy371
        clear hy371
        have c21b0 := eq_true (zV (by first | (with_reducible assumption) | assumption) : 0 ≤ (ji17))
        have c22b0 := eq_true (zV (by first | (with_reducible assumption) | assumption) : (ji17) ≤ (x7_2.size : Int))
        have H' := Aside0.mk H
        clear H
        go_wp2_with (first | ((with_reducible refine gate_dst (N := 58) rfl ?_); refine Kd.R_lit k40 _ 40 ?hg (N := 58) ?hd (xs := ([(⟨2, a2, x7_2.extract 0 ((ji17) : Int).toNat⟩ : S40), (⟨5, a2, (⟨#[120]⟩ : ByteArray)⟩ : S40)] : List (S40))) (inner := [.int .i64 2, .int .i64 a2, .string (x7_2.extract 0 ((ji17) : Int).toNat), .int .i64 5, .int .i64 a2, .string (⟨#[120]⟩ : ByteArray)]) (ok := fun _ => True) (okp := fun _ => True) ?hr ?hp (fun _ hk => hk) trivial (Below.refl _ _) (Nat.le_refl _) (by simp) ?_; (case hd => rfl); (case hg => rfl); (case hr => first | (go_simp; done) | (go_simp; rfl)); (case hp => exact (Reps.c3 (show Kd.M k40 _ _ _ (⟨2, a2, x7_2.extract 0 ((ji17) : Int).toNat⟩ : S40) [.int .i64 2, .int .i64 a2, .string (x7_2.extract 0 ((ji17) : Int).toNat)] from (k40_mkM _ _ _ (⟨2, a2, x7_2.extract 0 ((ji17) : Int).toNat⟩ : S40) )) (Reps.c3 (show Kd.M k40 _ _ _ (⟨5, a2, (⟨#[120]⟩ : ByteArray)⟩ : S40) [.int .i64 5, .int .i64 a2, .string (⟨#[120]⟩ : ByteArray)] from (k40_mkM _ _ _ (⟨5, a2, (⟨#[120]⟩ : ByteArray)⟩ : S40) )) (Reps.none _ _)))); intro v369 w23 ho24 hb hg_ hnew_; clear hg_ hnew_; (first | rw [← Ny368.out] at ho24 | (simp only [Int.reduceToNat] at ho24; rw [← Ny368.out] at ho24)); have n0_ := Aside0.mk (Kd.R_elder' (by (with_reducible repeat (first | apply zY | apply zX | apply zZ)); exact HO_11.out) (Kd.R_base ho24) hb); have n1_ := Aside0.mk (Kd.R_lower (Kd.R_new' ho24 (Kd.R_lt (by (with_reducible repeat (first | apply zY | apply zX | apply zZ)); exact HO_11.out))) (zT (by repeat (first | (with_reducible first | exact HB.out | apply zF | apply zD | apply zE) | exact HB.out)))); have n2_ := Aside0.mk (zU (by repeat (first | (with_reducible first | exact HB.out | apply zF | apply zD | apply zE) | exact HB.out)) hb); clear HO_11; clear HB; have HO_11 := n0_; have HO370 := n1_; have HB := n2_; clear n0_ n1_ n2_; clear hb ho24; obtain ⟨Ao26, co26, eo26⟩ := Kd.R_slice HO370.out; subst eo26) | ((with_reducible refine gate_builtin (b := .append) (xs := #[.tmp 50, .tmp 58]) rfl ?_); at_builtin; refine Kd.R_append_rows k40 (w0 := w) w.heap.size rfl (.tmp 50) (.tmp 58) 22 40 (.agg #[(.int .i64 0), (.int .i64 0), (.string ⟨#[]⟩)]) 32 rfl Try.underlying22 info40 rfl (by decide) (by omega) u11 x11_2 y368 _ _ _ (fun k_ => some k_ ≠ (.slice Ao26 y368.length co26 : Value).ownBlock) (fun _ => False) rfl rfl ?aO ?aR (fun _ _ h => h) (fun _ h => h.elim) ?aF ?aB ?aS ?aL ?_; (case aR => repeat (first | exact (Kd.R_reads' HO370.out).2.2 | (with_reducible refine Kd.C_alloc ?_ _) | (with_reducible refine Kd.C_drewN ?_ _) | (with_reducible refine Kd.C_drew ?_))); (case aB => exact (by repeat (first | (with_reducible first | exact HB.out | apply zF | apply zD | apply zE) | exact HB.out))); (case aF => exact (fun k_ hk => Kd.fresh' (Kd.R_lt (by (with_reducible repeat (first | apply zY | apply zX | apply zZ)); exact HO370.out)) k_ hk)); (case aO => exact (by (with_reducible repeat (first | apply zY | apply zX | apply zZ)); exact Kd.R_mono HO_11.out (fun _ hk => hk.2))); (case aS => exact (zT (by repeat (first | (with_reducible first | exact HB.out | apply zF | apply zD | apply zE) | exact HB.out)))); (case aL => have := LMc20.out; omega); intro v372 w25 ho hb hg hat; rw [← Ny371.out] at ho; have n0_ := Aside0.mk (Kd.R_after (ok := (fun _ => True)) (by (with_reducible repeat (first | apply zY | apply zX | apply zZ)); exact HO370.out) hg hat); have n1_ := Aside0.mk (hb); have n2_ := Aside0.mk (ho); clear HO370; clear HB; clear HO_11; have HO370 := n0_; have HB := n1_; have HO373 := n2_; clear n0_ n1_ n2_; clear ho hb hg hat))
        go_roundg k2
        case measure => have := HK1.out; have := HK2.out; omega
        case rel => exact ⟨(x7_2.extract ((ji17) : Int).toNat x7_2.size), (y371), (by first | rfl | (simp; done) | (simp only [← hji17] <;> (first | rfl | simp)) | (simp [*]; done)), H', ⟨by have := HK1.out; have := HK2.out; omega⟩, ⟨by (with_reducible repeat (first | apply zY | apply zX | apply zZ)); exact Kd.R_mono HO373.out (fun _ hk => trivial)⟩, ⟨by repeat (first | (with_reducible first | exact HB.out | apply zF | apply zD | apply zE) | exact HB.out)⟩⟩
       ·rw [if_neg c16] at H
        have c16b0 : decide (0 < (x7_2.size : Int)) = false := decide_eq_false c16
        have c16b1 : decide (0 < x7_2.size) = false := decide_eq_false (by omega)
        clear c16
        replace H := Option.bind_eq_some_iff.mp H
        obtain ⟨⟨t374, t375⟩, A270, H⟩ := H
        replace H : ((law27_awake.f k2).bind fun t378 => (if t378 = true then (if t375 = true then ((ref08_Frames.f k2 t374 l0).bind fun t379 => (some t379)) else (none)) else (none))) = some r := H
        have A27 := Aside0.mk A270
        clear A270
        replace H := Option.bind_eq_some_iff.mp H
        obtain ⟨t378, A280, H⟩ := H
        replace H : (if t378 = true then (if t375 = true then ((ref08_Frames.f k2 t374 l0).bind fun t379 => (some t379)) else (none)) else (none)) = some r := H
        have A28 := Aside0.mk A280
        clear A280
        by_cases c29 : t378 = true
        ·subst c29
         have H1 : (if t375 = true then ((ref08_Frames.f k2 t374 l0).bind fun t379 => (some t379)) else (none)) = some r := by rw [if_pos rfl] at H; exact H
         clear H
         have H := H1
         clear H1
         by_cases c30 : t375 = true
         ·subst c30
          have H1 : ((ref08_Frames.f k2 t374 l0).bind fun t379 => (some t379)) = some r := by rw [if_pos rfl] at H; exact H
          clear H
          have H := H1
          clear H1
          replace H := Option.bind_eq_some_iff.mp H
          obtain ⟨t379, A310, H⟩ := H
          replace H : (some t379) = some r := H
          have A31 := Aside0.mk A310
          clear A310
          obtain rfl := Option.some.inj H
          obtain ⟨Ao32, co32, eo32⟩ := Kd.R_slice HO_11.out
          subst eo32
          go_wp2_with (first | ((with_reducible refine gate_callee (f := 13) rfl ?_); refine goesL_ (some 66) rfl rfl Try.func13 (by kernel_rfl) rfl #[.slice Ao32 x11_2.length co32, .int .i64 2, .int .i64 a2] rfl (by (try simp only [zO, zP, zQ]); first | done | rfl | (simp only [zS, zR]; rfl)) ?_; (with_reducible refine (trace_Frames.calls k2 _ _ x11_2 2 a2 t374 true _ ?side1 ?side2 A27.out).mono ?_); (case side1 => repeat (first | exact (Kd.R_reads' HO_11.out).2.2 | (with_reducible refine Kd.C_alloc ?_ _) | (with_reducible refine Kd.C_drewN ?_ _) | (with_reducible refine Kd.C_drew ?_))); (case side2 => exact (Kd.R_reads' HO_11.out).2.1); rintro e w33 ⟨v376, rfl, ho0, hb⟩; refine ⟨_, rfl, ?_⟩; have n0_ := Aside0.mk (Kd.R_below (by (with_reducible repeat (first | apply zY | apply zX | apply zZ)); exact HO_11.out) hb); have n1_ := Aside0.mk (Kd.R_lower ho0 (zT (by repeat (first | (with_reducible first | exact HB.out | apply zF | apply zD | apply zE) | exact HB.out)))); have n2_ := Aside0.mk (zU (by repeat (first | (with_reducible first | exact HB.out | apply zF | apply zD | apply zE) | exact HB.out)) hb); clear HO_11; clear HB; have HO_11 := n0_; have HO377 := n1_; have HB := n2_; clear n0_ n1_ n2_; (try clear hb); (try clear hb2); (try clear hk); (try clear hi); (try clear ho0)) | ((with_reducible refine gate_callee (f := 7) rfl ?_); refine goesL_ (some 69) rfl rfl Try.func7 (by kernel_rfl) rfl #[] rfl (by (try simp only [zO, zP, zQ]); first | done | rfl | (simp only [zS, zR]; rfl)) ?_; (with_reducible refine (law27_awake.calls k2  true _ A28.out).mono ?_); rintro e w34 ⟨rfl, hb⟩; refine ⟨_, rfl, ?_⟩; have n0_ := Aside0.mk (Kd.R_below (by (with_reducible repeat (first | apply zY | apply zX | apply zZ)); exact HO_11.out) hb); have n1_ := Aside0.mk (Kd.R_below (by (with_reducible repeat (first | apply zY | apply zX | apply zZ)); exact HO377.out) hb); have n2_ := Aside0.mk (zU (by repeat (first | (with_reducible first | exact HB.out | apply zF | apply zD | apply zE) | exact HB.out)) hb); clear HO_11; clear HO377; clear HB; have HO_11 := n0_; have HO377 := n1_; have HB := n2_; clear n0_ n1_ n2_; (try clear hb); (try clear hb2); (try clear hk); (try clear hi); obtain ⟨Ao35, co35, eo35⟩ := Kd.R_slice HO377.out; subst eo35) | (go_at_call 14; (with_reducible refine (ref08_Frames.calls k2 _ _ t374 _ _ l0 t379 _ ?side1 ?side2 ?side3 ?side4 A31.out).mono ?_); (case side1 => repeat (first | exact (Kd.R_reads' HO377.out).2.2 | (with_reducible refine Kd.C_alloc ?_ _) | (with_reducible refine Kd.C_drewN ?_ _) | (with_reducible refine Kd.C_drew ?_))); (case side2 => exact (Kd.R_reads' HO377.out).2.1); (case side3 => repeat (first | exact (Kd.C_below HR0.out HB.out) | (with_reducible refine Kd.C_alloc ?_ _) | (with_reducible refine Kd.C_drewN ?_ _) | (with_reducible refine Kd.C_drew ?_))); (case side4 => exact HC0.out); rintro e w' ⟨rfl, ⟨nd, rfl⟩⟩))
          go_ret
          exact ⟨by first | rfl | (simp [errW_none, errW_some] <;> rfl) | (simp [*, errW_none, errW_some] <;> rfl), by repeat (first | (with_reducible first | exact HB.out | apply zF | apply zD | apply zE) | exact HB.out)⟩
         ·replace c30 := Bool.eq_false_iff.mpr c30
          subst c30
          have H1 : (none) = some r := by rw [if_neg (show ¬ (false = true) by decide)] at H; exact H
          clear H
          have H := H1
          clear H1
          exact absurd H (by simp)
        ·replace c29 := Bool.eq_false_iff.mpr c29
         subst c29
         have H1 : (none) = some r := by rw [if_neg (show ¬ (false = true) by decide)] at H; exact H
         clear H
         have H := H1
         clear H1
         exact absurd H (by simp)

end Go.Proofs.Ytfapfpkijeaapaa.P
